import Derived.Deep.AppendSrc
import Derived.Laws.BytesArg
import Derived.Laws.IdiomStrings
import Derived.Laws.StructEq
import Derived.Laws.Tables
import Derived.Still
import Derived.WalkLawsBesides
import Derived.Test.YtlponhgbbfgkgaaPk0
set_option linter.unusedVariables false
set_option linter.unusedSimpArgs false
namespace Go.Proofs.Ytlponhgbbfgkgaa
open Go.RowKit
inductive Sh where
 | other
 | bool
 | int (k : IntKind)
 | str
 | struct (fs : List (Nat × Nat × Bool))
 | slice (e : Nat)
 | array (n e : Nat)
structure TD where
 size : Nat
 bytes : Nat
 zero : List PV
 sh : Sh
def TD.agg (d : TD) : Bool := match d.sh with
 | .struct _ => true
 | .array _ _ => true
 | _ => false
def zCell : PV → Value → Bool
 | .val (.int k n), .int k' n' => decide (k = k') && decide (n = n')
 | .val (.bool b), .bool b' => b == b'
 | .val (.string s), .string s' => decide (s.data.toList = s'.data.toList)
 | .val (.pointer none), .pointer none => true
 | .val (.map none), .map none => true
 | .val .nilFunc, .nilFunc => true
 | .val .nilIface, .nilIface => true
 | .seq 0 [] .clip, .slice none 0 0 => true
 | _, _ => false
def zCells : List PV → List Value → Bool
 | [], [] => true
 | x :: xs, v :: vs => zCell x v && zCells xs vs
 | _, _ => false
theorem zCell_rep (c : Cx) {x : PV} {v : Value} (h : zCell x v = true) : Rep c x v := by
 unfold zCell at h
 split at h
 ·simp at h; obtain ⟨rfl, rfl⟩ := h; exact rep_val c _
 ·simp at h; subst h; exact rep_val c _
 ·rename_i s s'
  have e : s.data.toList = s'.data.toList := of_decide_eq_true h
  have e' : s = s' := by
   obtain ⟨⟨l⟩⟩ := s
   obtain ⟨⟨l'⟩⟩ := s'
   simp at e
   rw [e]
  subst e'; exact rep_val c _
 ·exact rep_val c _
 ·exact rep_val c _
 ·exact rep_val c _
 ·exact rep_val c _
 ·exact rep_nil c
 ·cases h
theorem zCells_rep (c : Cx) : ∀ {xs : List PV} {vs : List Value}, zCells xs vs = true → RepL c xs vs
 | [], [], _ => repL_nil.2 rfl
 | x :: xs, v :: vs, h => by simp only [zCells, Bool.and_eq_true] at h; exact repL_cons.2 ⟨zCell_rep c h.1, zCells_rep c h.2⟩
 | [], v :: vs, h => by cases h
 | x :: xs, [], h => by cases h
def aggB (P : Program) (t : TypeId) : Option Bool := match P.underlying t with
 | some (.struct _) => some true
 | some (.array _ _) => some true
 | some _ => some false
 | none => none
def fieldOk (P : Program) : Field × (Nat × Nat × Bool) → Bool
 | (f, (o, s, g)) => decide (f.offset = o) && decide (s ≠ 0) && (match P.info? f.type with | some i => decide (i.size = s) | none => false) && (match aggB P f.type with | some b => b == g | none => false)
def shOk (P : Program) : TypeDesc → Sh → Bool
 | .struct F, .struct fs => decide (F.size = fs.length) && (F.toList.zip fs).all (fieldOk P)
 | .slice e, .slice e' => decide (e = e')
 | .array n e, .array n' e' => decide (n = n') && decide (e = e')
 | .int k, .int k' => decide (k = k')
 | .string, .str => true
 | .bool, .bool => true
 | .struct _, _ => false
 | .array _ _, _ => false
 | _, .other => true
 | _, _ => false
def tyOk (P : Program) (t : TypeId) (d : TD) : Bool :=
 (match P.info? t with
  | some i => decide (i.size = d.size) && decide (i.bytes = d.bytes ∧ d.zero.length = d.size) && (match i.zero with | some z => zCells d.zero z.cells.toList | none => false)
  | none => false) &&
 (match P.underlying t with
  | some u => shOk P u d.sh
  | none => false)
structure TyFacts (P : Program) (t : TypeId) (d : TD) : Prop where
 info : ∃ i z, P.info? t = some i ∧ i.size = d.size ∧ i.bytes = d.bytes ∧ i.zero = some z ∧ ∀ c, RepL c d.zero z.cells.toList
 zlen : d.zero.length = d.size
 under : ∃ u, P.underlying t = some u ∧ shOk P u d.sh = true
theorem tyOk_spec {P : Program} {t : TypeId} {d : TD} (h : tyOk P t d = true) : TyFacts P t d := by
 unfold tyOk at h
 simp only [Bool.and_eq_true] at h
 obtain ⟨h1, h2⟩ := h
 cases hi : P.info? t with
 | none => rw [hi] at h1; cases h1
 | some i =>
 rw [hi] at h1
 simp only [Bool.and_eq_true, decide_eq_true_eq] at h1
 obtain ⟨⟨h3, h4, h4'⟩, h5⟩ := h1
 refine ⟨?_, h4', ?_⟩
 ·cases hz : i.zero with
  | none => rw [hz] at h5; cases h5
  | some z => rw [hz] at h5; exact ⟨i, z, hi, h3, h4, hz, fun c => zCells_rep c h5⟩
 ·cases hu : P.underlying t with
  | none => rw [hu] at h2; cases h2
  | some u => rw [hu] at h2; exact ⟨u, rfl, h2⟩
section
variable {P : Program} {t : TypeId} {d : TD}
theorem TyFacts.sizeOf (f : TyFacts P t d) (w : World) : (sizeOf t).run P w = .ok d.size w := by
 obtain ⟨i, z, h1, h2, _⟩ := f.info
 simp [Go.sizeOf, typeInfo, h1, h2]
theorem TyFacts.isAgg (f : TyFacts P t d) (w : World) : (isAgg t).run P w = .ok d.agg w := by
 obtain ⟨u, h1, h2⟩ := f.under
 unfold Go.isAgg
 simp only [Sem.run_bind, run_underlying h1, Result.andThen_ok]
 unfold TD.agg
 cases u <;> cases hs : d.sh <;> rw [hs] at h2 <;> first | (cases h2; done) | rfl
theorem TyFacts.struct (f : TyFacts P t d) {fs : List (Nat × Nat × Bool)} (h : d.sh = .struct fs) : ∃ F : Array Field, P.underlying t = some (.struct F) ∧ ∀ (i o s : Nat) (g : Bool), fs[i]? = some (o, s, g) → ∃ x : Field, F[i]? = some x ∧ x.offset = o ∧ s ≠ 0 ∧ (∀ w, (Go.sizeOf x.type).run P w = .ok s w) ∧ ∀ w, (Go.isAgg x.type).run P w = .ok g w := by
 obtain ⟨u, h1, h2⟩ := f.under
 rw [h] at h2
 cases u with
 | struct F =>
  refine ⟨F, h1, fun i o s g hi => ?_⟩
  simp only [shOk, Bool.and_eq_true, decide_eq_true_eq] at h2
  obtain ⟨h3, h4⟩ := h2
  have hlt : i < F.size := by rw [h3]; exact lt_of_get hi
  refine ⟨F[i], by rw [Array.getElem?_eq_getElem hlt], ?_⟩
  rw [List.all_eq_true] at h4
  have h5 := h4 (F[i], (o, s, g)) (by
   rw [List.mem_iff_getElem?]
   refine ⟨i, ?_⟩
   rw [List.getElem?_zip_eq_some]
   exact ⟨by simp [hlt], hi⟩)
  simp only [fieldOk, Bool.and_eq_true, decide_eq_true_eq] at h5
  obtain ⟨⟨⟨h6, h7⟩, h8⟩, h9⟩ := h5
  refine ⟨h6, h7, fun w => ?_, fun w => ?_⟩
  ·cases hi : P.info? F[i].type with
   | none => rw [hi] at h8; cases h8
   | some x => rw [hi] at h8; simp at h8; simp [Go.sizeOf, typeInfo, hi, h8]
  ·unfold aggB at h9
   unfold Go.isAgg
   cases hu : P.underlying F[i].type with
   | none => rw [hu] at h9; cases h9
   | some u =>
    rw [hu] at h9
    simp only [Sem.run_bind, run_underlying hu, Result.andThen_ok]
    cases u <;> simp at h9 <;> subst h9 <;> rfl
 | _ => cases h2
theorem TyFacts.slice (f : TyFacts P t d) {e : Nat} (h : d.sh = .slice e) : P.underlying t = some (.slice e) := by
 obtain ⟨u, h1, h2⟩ := f.under
 rw [h] at h2
 cases u <;> first | (cases h2; done) | (simp [shOk] at h2; subst h2; exact h1)
theorem TyFacts.array (f : TyFacts P t d) {n e : Nat} (h : d.sh = .array n e) : P.underlying t = some (.array n e) := by
 obtain ⟨u, h1, h2⟩ := f.under
 rw [h] at h2
 cases u <;> first | (cases h2; done) | (simp [shOk] at h2; obtain ⟨rfl, rfl⟩ := h2; exact h1)
theorem TyFacts.int (f : TyFacts P t d) {k : IntKind} (h : d.sh = .int k) : P.underlying t = some (.int k) := by
 obtain ⟨u, h1, h2⟩ := f.under
 rw [h] at h2
 cases u <;> first | (cases h2; done) | (simp [shOk] at h2; subst h2; exact h1)
theorem TyFacts.bool (f : TyFacts P t d) (h : d.sh = .bool) : P.underlying t = some .bool := by
 obtain ⟨u, h1, h2⟩ := f.under
 rw [h] at h2
 cases u <;> first | (cases h2; done) | exact h1
theorem TyFacts.str (f : TyFacts P t d) (h : d.sh = .str) : P.underlying t = some .string := by
 obtain ⟨u, h1, h2⟩ := f.under
 rw [h] at h2
 cases u <;> first | (cases h2; done) | exact h1
end
def pureOf {α : Type} : Sem α → Option α
 | .pure a => some a
 | _ => none
theorem pureOf_run {α : Type} {s : Sem α} {x : α} (h : pureOf s = some x) (P : Program) (w : World) : s.run P w = .ok x w := by
 cases s <;> simp [pureOf] at h
 subst h; rfl
def binA (op : BinOp) (t : TypeId) (x y : Operand) (u v : Value) : Option Value := match pureOf (eqGuard op t x y u v) with
 | some _ => pureOf (binOp op t u v)
 | none => none
def loadPV (d : TD) (xs : List PV) (off : Nat) : Option PV := match d.agg with
 | true => match Nat.ble (off + d.size) xs.length with
  | true => some (.agg ((xs.drop off).take d.size))
  | false => none
 | false => xs[off]?
def cellsPV : PV → Option (List PV)
 | .agg cs => some cs
 | .any => none
 | .tup _ => none
 | .val (.agg _) => none
 | .val (.tuple _) => none
 | x => some [x]
def okC : PV → Bool
 | .val v => v.oneCell'
 | .any => false
 | .agg _ => false
 | .tup _ => false
 | _ => true
theorem cellsPV_rep {c : Cx} {x : PV} {xs : List PV} {v : Value} (h : cellsPV x = some xs) (k : Rep c x v) : RepL c xs v.cells.toList := by
 have one : ∀ {x : PV}, Rep c x v → v.cells = #[v] → RepL c [x] v.cells.toList := fun hx e => by rw [e]; exact repL_cons.2 ⟨hx, repL_nil.2 rfl⟩
 cases x with
 | agg cs => injection h with h; subst h; unfold Rep at k; obtain ⟨vs, rfl, k⟩ := k; simpa [Value.cells] using k
 | any => cases h
 | tup cs => cases h
 | val u =>
  have k' := k
  unfold Rep at k
  subst k
  cases v <;> first | (cases h; done) | (injection h with h; subst h; exact one k' rfl)
 | ptr i off => injection h with h; subst h; have k' := k; unfold Rep at k; obtain ⟨_, b, _, rfl⟩ := k; exact one k' rfl
 | seq n ys s => injection h with h; subst h; have k' := k; unfold Rep at k; obtain ⟨a, cap, vs, rfl, _⟩ := k; exact one k' rfl
 | row ys => injection h with h; subst h; have k' := k; unfold Rep at k; obtain ⟨b, vs, rfl, _⟩ := k; exact one k' rfl
 | arr i off n cap => injection h with h; subst h; have k' := k; unfold Rep at k; obtain ⟨_, b, _, rfl⟩ := k; exact one k' rfl
 | fn f a b => injection h with h; subst h; have k' := k; unfold Rep at k; obtain ⟨_, _, rfl, _⟩ := k; exact one k' rfl
 | mapv i => injection h with h; subst h; have k' := k; unfold Rep at k; obtain ⟨_, b, _, rfl⟩ := k; exact one k' rfl
 | arw i off n => injection h with h; subst h; have k' := k; unfold Rep at k; obtain ⟨_, b, cap, _, _, rfl⟩ := k; exact one k' rfl
 | smap ks ms => injection h with h; subst h; have k' := k; unfold Rep at k; obtain ⟨b, es, clk, rfl, _⟩ := k; exact one k' rfl
 | ifc t y => injection h with h; subst h; have k' := k; unfold Rep at k; obtain ⟨u, rfl, _⟩ := k; exact one k' rfl
theorem okC_rep {c : Cx} {x : PV} {v : Value} (h : okC x = true) (k : Rep c x v) : v.oneCell' = true := by
 cases x with
 | val u => unfold Rep at k; subst k; exact h
 | any => cases h
 | agg cs => cases h
 | tup cs => cases h
 | ptr i off => unfold Rep at k; obtain ⟨_, b, _, rfl⟩ := k; rfl
 | seq n ys s => unfold Rep at k; obtain ⟨a, cap, vs, rfl, _⟩ := k; rfl
 | row ys => unfold Rep at k; obtain ⟨b, vs, rfl, _⟩ := k; rfl
 | arr i off n cap => unfold Rep at k; obtain ⟨_, b, _, rfl⟩ := k; rfl
 | fn f a b => unfold Rep at k; obtain ⟨_, _, rfl, _⟩ := k; rfl
 | mapv i => unfold Rep at k; obtain ⟨_, b, _, rfl⟩ := k; rfl
 | arw i off n => unfold Rep at k; obtain ⟨_, b, cap, _, _, rfl⟩ := k; rfl
 | smap ks ms => unfold Rep at k; obtain ⟨b, es, clk, rfl, _⟩ := k; rfl
 | ifc t y => unfold Rep at k; obtain ⟨u, rfl, _⟩ := k; rfl
theorem okC_repL {c : Cx} : ∀ {xs : List PV} {vs : List Value}, xs.all okC = true → RepL c xs vs → ∀ v ∈ vs, v.oneCell' = true
 | [], vs, _, h, v, hv => by rw [repL_nil] at h; subst h; cases hv
 | x :: xs, [], _, h, v, hv => by cases hv
 | x :: xs, u :: us, ho, h, v, hv => by
  rw [repL_cons] at h
  simp only [List.all_cons, Bool.and_eq_true] at ho
  cases hv with
  | head => exact okC_rep ho.1 h.1
  | tail _ hv => exact okC_repL ho.2 h.2 v hv
theorem cell_of_heap {w : World} {b : Nat} {vs : List Value} {e : TypeId} {fr : Nat × Nat} (h : w.heap[b]? = some (Obj.cells vs.toArray e fr)) (j : Nat) : w.cell? ⟨b, j, none⟩ = vs[j]? := by
 simp [World.cell?, h]
section
variable {P : Program} {B : Nat → Nat → Prop} {o : Oper} {T : Nat → PV} {H : List Ob}
theorem does_pure {x : PV} (h : ∀ (σ : Nat → Option Nat) (w : World) (a : Act), Sim B H σ w → (∀ y ∈ o.op.operands.toList, Rep (cx B H σ w) (opv T y) (a.eval y)) → ∃ v, (execOp a.eval o).run P w = .ok (.value v) w ∧ Rep (cx B H σ w) x v) : Does P B o T H x H := by
 intro σ w a s ho
 obtain ⟨v, h1, h2⟩ := h σ w a s ho
 exact ⟨v, w, σ, .inl h1, h2, s, Step.refl _ _ _ _⟩
theorem run_loadVar_row {w : World} {b off : Nat} {t : TypeId} {d : TD} (f : TyFacts P t d) {c : Cx} {xs : List PV} {vs : List Value} (hr : RepL c xs vs) (hc : ∀ (j : Nat) u, vs[j]? = some u → w.cell? ⟨b, off + j, none⟩ = some u) {k : Nat} {x : PV} (hx : loadPV d xs k = some x) :
  ∃ v, (loadVar t ⟨b, off + k, none⟩).run P w = .ok v w ∧ Rep c x v := by
 unfold loadPV at hx
 unfold loadVar
 simp only [Sem.run_bind, f.isAgg, Result.andThen_ok]
 cases ha : d.agg with
 | true =>
  rw [ha] at hx
  simp only at hx
  split at hx
  ·rename_i hle
   rw [Nat.ble_eq] at hle
   injection hx with hx; subst hx
   have hlen : ((vs.drop k).take d.size).length = d.size := by rw [List.length_take, List.length_drop, RepL.length hr]; omega
   have hl := run_loadCells_list (P := P) w ⟨b, off + k, none⟩ ((vs.drop k).take d.size) (fun j v hj => by
    rw [List.getElem?_take] at hj
    split at hj
    ·rw [List.getElem?_drop] at hj
     rw [Addr.add_lit, Nat.add_assoc]; exact hc _ _ hj
    ·cases hj)
   rw [hlen] at hl
   refine ⟨.agg ((vs.drop k).take d.size).toArray, ?_, ?_⟩
   ·simp [f.sizeOf, hl]
   ·unfold Rep; exact ⟨_, rfl, (hr.drop k).take d.size⟩
  ·cases hx
 | false =>
  rw [ha] at hx
  obtain ⟨u, hu, hru⟩ := hr.get hx
  refine ⟨u, ?_, hru⟩
  have := hc k u hu
  simp [this]
theorem does_move {x : Operand} (ho : o.op = .move x) : Does P B o T H (opv T x) H :=
 does_pure fun σ w a s h => ⟨a.eval x, by simp [execOp, ho], h x (by simp [ho, Op.operands])⟩
theorem does_assign {x : Operand} (ho : o.op = .assign x) : Does P B o T H (opv T x) H :=
 does_pure fun σ w a s h => ⟨a.eval x, by simp [execOp, ho], h x (by simp [ho, Op.operands])⟩
theorem does_pick {c x y : Operand} {b : Bool} (ho : o.op = .pick c x y) (hc : opv T c = .val (.bool b)) : Does P B o T H (if b then opv T x else opv T y) H :=
 does_pure fun σ w a s h => by
  have h1 := h c (by simp [ho, Op.operands])
  have h2 := h x (by simp [ho, Op.operands])
  have h3 := h y (by simp [ho, Op.operands])
  rw [hc] at h1
  unfold Rep at h1
  cases b with
  | true => exact ⟨a.eval x, by simp [execOp, ho, h1, asBool], h2⟩
  | false => exact ⟨a.eval y, by simp [execOp, ho, h1, asBool], h3⟩
theorem does_bin {op : BinOp} {t yt : TypeId} {x y : Operand} {u v r : Value} (ho : o.op = .binOp op t x y yt) (hx : opv T x = .val u) (hy : opv T y = .val v) (hr : binA op t x y u v = some r) : Does P B o T H (.val r) H :=
 does_pure fun σ w a s h => by
  have h1 := h x (by simp [ho, Op.operands])
  have h2 := h y (by simp [ho, Op.operands])
  rw [hx] at h1
  rw [hy] at h2
  unfold Rep at h1 h2
  unfold binA at hr
  split at hr
  ·rename_i z hz
   refine ⟨r, ?_, rep_val _ _⟩
   have e1 := pureOf_run hz P w
   have e2 := pureOf_run hr P w
   simp [execOp, ho, h1, h2, e1, e2]
  ·cases hr
theorem does_un {op : UnOp} {t : TypeId} {x : Operand} {u r : Value} (ho : o.op = .unOp op t x) (hx : opv T x = .val u) (hr : pureOf (Op.unary op u) = some r) : Does P B o T H (.val r) H :=
 does_pure fun σ w a s h => by
  have h1 := h x (by simp [ho, Op.operands])
  rw [hx] at h1
  unfold Rep at h1
  exact ⟨r, by simp [execOp, ho, h1, pureOf_run hr P w], rep_val _ _⟩
theorem does_extract {x : Operand} {i : Nat} {cs : List PV} {r : PV} (ho : o.op = .extract x i) (hx : opv T x = .tup cs) (hr : cs[i]? = some r) : Does P B o T H r H :=
 does_pure fun σ w a s h => by
  have h1 := h x (by simp [ho, Op.operands])
  rw [hx] at h1
  unfold Rep at h1
  obtain ⟨vs, h1, h2⟩ := h1
  obtain ⟨u, hu, hru⟩ := h2.get hr
  exact ⟨u, by simp [execOp, ho, h1, Instr.extract, hu], hru⟩
theorem does_nilCheck_ptr {x : Operand} {i off : Nat} (ho : o.op = .nilCheck x) (hx : opv T x = .ptr i off) : Does P B o T H (.ptr i off) H :=
 does_pure fun σ w a s h => by
  have h1 := h x (by simp [ho, Op.operands])
  rw [hx] at h1
  have h1' := h1
  unfold Rep at h1
  obtain ⟨_, b, _, h1⟩ := h1
  exact ⟨a.eval x, by simp [execOp, ho, h1], h1'⟩
theorem does_nilCheck_row {x : Operand} {xs : List PV} (ho : o.op = .nilCheck x) (hx : opv T x = .row xs) : Does P B o T H (.row xs) H :=
 does_pure fun σ w a s h => by
  have h1 := h x (by simp [ho, Op.operands])
  rw [hx] at h1
  have h1' := h1
  unfold Rep at h1
  obtain ⟨b, vs, h1, _⟩ := h1
  exact ⟨a.eval x, by simp [execOp, ho, h1], h1'⟩
theorem get_left {α : Type} {p q : List α} {j : Nat} {u : α} (h : p[j]? = some u) : (p ++ q)[j]? = some u := by
 have : j < p.length := by rcases Nat.lt_or_ge j p.length with h1 | h1; exact h1; rw [List.getElem?_eq_none h1] at h; cases h
 rw [List.getElem?_append_left this]; exact h
theorem does_load_ptr {t : TypeId} {d : TD} {x : Operand} {i off : Nat} {xs : List PV} {e : TypeId} {r : PV} (f : TyFacts P t d) (ho : o.op = .load t x) (hx : opv T x = .ptr i off) (hi : H[i]? = some (.cells xs e)) (hr : loadPV d xs off = some r) : Does P B o T H r H :=
 does_pure fun σ w a s h => by
  have h1 := h x (by simp [ho, Op.operands])
  rw [hx] at h1
  unfold Rep at h1
  obtain ⟨_, b, hb, h1⟩ := h1
  obtain ⟨b', vs, fr, hb', hv, _, p, q, rfl, hrl⟩ := s.holds i _ hi
  simp only [cx] at hb hb' hv
  rw [hb] at hb'
  cases hb'
  obtain ⟨v, h2, h3⟩ := run_loadVar_row (P := P) (w := w) (b := b) (off := 0) f hrl (fun j u hj => by rw [Nat.zero_add, cell_of_heap hv]; exact get_left hj) hr
  rw [Nat.zero_add] at h2
  exact ⟨v, by simp [execOp, ho, h1, Instr.loadAt, Instr.sureAddr, h2], h3⟩
theorem does_load_row {t : TypeId} {d : TD} {x : Operand} {xs : List PV} {r : PV} (f : TyFacts P t d) (ho : o.op = .load t x) (hx : opv T x = .row xs) (hr : loadPV d xs 0 = some r) : Does P B o T H r H :=
 does_pure fun σ w a s h => by
  have h1 := h x (by simp [ho, Op.operands])
  rw [hx] at h1
  unfold Rep at h1
  obtain ⟨b, vs, h1, hrl, hs, hl⟩ := h1
  obtain ⟨v, h2, h3⟩ := run_loadVar_row (P := P) (w := w) (b := b.block) (off := b.off) f hrl (fun j u hj => (hl j u hj).1) hr
  have hb : b = ⟨b.block, b.off + 0, none⟩ := by cases b; simp only at hs; subst hs; rfl
  rw [← hb] at h2
  exact ⟨v, by simp [execOp, ho, h1, Instr.loadAt, Instr.sureAddr, h2], h3⟩
theorem run_fieldPlace {s : TypeId} {d : TD} (f : TyFacts P s d) {fs : List (Nat × Nat × Bool)} (hs : d.sh = .struct fs) {k off z : Nat} {g : Bool} (hk : fs[k]? = some (off, z, g)) (b i : Nat) (w : World) :
  (Instr.fieldAt s (.pointer (some ⟨b, i, none⟩)) k).run P w = .ok (.pointer (some ⟨b, i + off, none⟩)) w := by
 obtain ⟨F, h1, h2⟩ := f.struct hs
 obtain ⟨x, h3, h4, h5, h6, _⟩ := h2 k off z g hk
 unfold Instr.fieldAt
 simp [run_underlying h1, h3, Instr.sureAddr, fieldPlace, h6, h5, h4, Addr.add_lit]
theorem does_fieldAddr_ptr {s : TypeId} {d : TD} {x : Operand} {k i off fo z : Nat} {g : Bool} {fs : List (Nat × Nat × Bool)} (f : TyFacts P s d) (ho : o.op = .fieldAddr s x k) (hs : d.sh = .struct fs) (hk : fs[k]? = some (fo, z, g)) (hx : opv T x = .ptr i off) : Does P B o T H (.ptr i (off + fo)) H :=
 does_pure fun σ w a s' h => by
  have h1 := h x (by simp [ho, Op.operands])
  rw [hx] at h1
  unfold Rep at h1
  obtain ⟨hi, b, hb, h1⟩ := h1
  refine ⟨.pointer (some ⟨b, off + fo, none⟩), ?_, ?_⟩
  ·simp [execOp, ho, h1, run_fieldPlace f hs hk]
  ·unfold Rep; exact ⟨hi, b, hb, rfl⟩
theorem does_fieldAddr_row {s : TypeId} {d : TD} {x : Operand} {k fo z : Nat} {g : Bool} {xs : List PV} {fs : List (Nat × Nat × Bool)} (f : TyFacts P s d) (ho : o.op = .fieldAddr s x k) (hs : d.sh = .struct fs) (hk : fs[k]? = some (fo, z, g)) (hx : opv T x = .row xs) : Does P B o T H (.row (xs.drop fo)) H :=
 does_pure fun σ w a s' h => by
  have h1 := h x (by simp [ho, Op.operands])
  rw [hx] at h1
  unfold Rep at h1
  obtain ⟨b, vs, h1, hrl, hl⟩ := h1
  have hb : b = ⟨b.block, b.off, none⟩ := by cases b; simp only [Lies] at hl; cases hl.1; rfl
  refine ⟨.pointer (some ⟨b.block, b.off + fo, none⟩), ?_, ?_⟩
  ·rw [hb] at h1
   simp [execOp, ho, h1, run_fieldPlace f hs hk]
  ·unfold Rep; exact ⟨_, vs.drop fo, rfl, hrl.drop fo, hl.drop fo⟩
def fieldPV (cs : List PV) (fo z : Nat) : Bool → Option PV
 | true => match Nat.ble (fo + z) cs.length with
  | true => some (.agg ((cs.drop fo).take z))
  | false => none
 | false => cs[fo]?
theorem does_field {s : TypeId} {d : TD} {x : Operand} {k fo z : Nat} {g : Bool} {cs : List PV} {r : PV} {fs : List (Nat × Nat × Bool)} (f : TyFacts P s d) (ho : o.op = .field s x k) (hs : d.sh = .struct fs) (hk : fs[k]? = some (fo, z, g)) (hx : opv T x = .agg cs) (hr : fieldPV cs fo z g = some r) : Does P B o T H r H :=
 does_pure fun σ w a s' h => by
  have h1 := h x (by simp [ho, Op.operands])
  rw [hx] at h1
  unfold Rep at h1
  obtain ⟨vs, h1, hrl⟩ := h1
  obtain ⟨F, h3, h4⟩ := f.struct hs
  obtain ⟨y, h5, h6, h7, h8, h9⟩ := h4 k fo z g hk
  cases g with
  | true =>
   simp only [fieldPV] at hr
   split at hr
   ·rename_i hle
    injection hr with hr; subst hr
    refine ⟨.agg ((vs.drop fo).take z).toArray, ?_, by unfold Rep; exact ⟨_, rfl, (hrl.drop fo).take z⟩⟩
    simp [execOp, ho, h1, Instr.field, run_underlying h3, h5, asAgg, part, h9, h8, h6]
   ·cases hr
  | false =>
   simp only [fieldPV] at hr
   obtain ⟨u, hu, hru⟩ := hrl.get hr
   refine ⟨u, ?_, hru⟩
   simp [execOp, ho, h1, Instr.field, run_underlying h3, h5, asAgg, part, h9, h6, hu]
def splice (xs : List PV) (off : Nat) (ys : List PV) : List PV := xs.take off ++ ys ++ xs.drop (off + ys.length)
theorem storeCells_fr (P : Program) (g o : Nat) (t : TypeId) (fz : Nat × Nat) : ∀ (vs : List Value) (i : Nat) (cur : Array Value) (w : World), w.heap[g]? = some (.cells cur t fz) → frOk fz cur.size → o + i + vs.length ≤ cur.size → (∀ v ∈ vs, v.oneCell' = true) →
  (storeCells ⟨g, o, none⟩ vs i).run P w = .ok () (w.setRow g (cur.toList.take (o + i) ++ vs ++ cur.toList.drop (o + i + vs.length)).toArray)
 | [], i, cur, w, hg, _, _, _ => by
  simp only [storeCells, List.append_nil, List.length_nil, Nat.add_zero, List.take_append_drop, Array.toArray_toList]
  rw [setRow_self w g cur t fz hg]
  rfl
 | v :: rest, i, cur, w, hg, hz, hl, h1 => by
  have hi : o + i < cur.size := by simp at hl; omega
  have hadd : (⟨g, o, none⟩ : Addr).add i = ⟨g, o + i, none⟩ := by unfold Addr.add; split <;> simp_all
  have hcell : w.cell? ⟨g, o + i, none⟩ = some cur[o + i] := by simp [World.cell?, hg, hi]
  have hfro : w.frozen? ⟨g, o + i, none⟩ = false := by
   rcases hz with rfl | hz
   ·simp [World.frozen?, hg]
   ·obtain ⟨lo, hi'⟩ := fz
    simp only [World.frozen?, hg, Bool.and_eq_false_iff, decide_eq_false_iff_not]
    simp only at hz
    exact .inl (by omega)
  have hst : (store ((⟨g, o, none⟩ : Addr).add i) v).run P w = .ok () (w.setRow g (cur.setIfInBounds (o + i) v)) := by
   rw [hadd, run_store P w _ v _ (h1 v (by simp)), hcell]
   simp [hfro, setCell_eq_setRow w g (o + i) cur t fz v hg]
  have ih := storeCells_fr P g o t fz rest (i + 1) (cur.setIfInBounds (o + i) v) (w.setRow g (cur.setIfInBounds (o + i) v)) (setRow_heap w g cur _ t _ hg) (by simpa using hz) (by simp at hl ⊢; omega) (fun x hx => h1 x (by simp [hx]))
  simp only [storeCells, Sem.run_bind, hst, Result.andThen_ok, ih, setRow_setRow]
  congr 3
  have e := list_seg_step cur.toList (o + i) v rest (by simp at hl ⊢; omega)
  simpa [Array.toList_setIfInBounds, Nat.add_assoc] using e
theorem does_store {t : TypeId} {d : TD} {x y : Operand} {i off : Nat} {xs ys : List PV} {e : TypeId} (f : TyFacts P t d) (ho : o.op = .store t x y) (hx : opv T x = .ptr i off) (hi : H[i]? = some (.cells xs e)) (hy : cellsPV (opv T y) = some ys) (hl : Nat.beq ys.length d.size = true) (hok : ys.all okC = true)
  (hle : Nat.ble (off + ys.length) xs.length = true) : Does P B o T H (.val undef) (H.set i (.cells (splice xs off ys) e)) := by
 intro σ w a s h
 have h1 := h x (by simp [ho, Op.operands])
 have h2 := h y (by simp [ho, Op.operands])
 rw [hx] at h1
 unfold Rep at h1
 obtain ⟨_, b, hb, h1⟩ := h1
 obtain ⟨b', vs, fr, hb', hv, hfr, hrp⟩ := s.holds i _ hi
 simp only [cx] at hb hb' hv
 rw [hb] at hb'
 cases hb'
 have h3 := cellsPV_rep hy h2
 have h4 := okC_repL hok h3
 rw [Nat.beq_eq] at hl
 rw [Nat.ble_eq] at hle
 have hlen : (a.eval y).cells.toList.length = d.size := by rw [RepL.length h3]; exact hl
 have hvl := hrp.le
 have hst := storeCells_fr P b off e fr (a.eval y).cells.toList 0 vs.toArray w hv (by simpa using hfr) (by rw [Nat.add_zero, hlen, List.size_toArray]; omega) h4
 simp only [Nat.add_zero] at hst
 obtain ⟨s', st⟩ := set_cells s (ys := splice xs off ys) hi hb hv hfr (us := vs.take off ++ (a.eval y).cells.toList ++ vs.drop (off + (a.eval y).cells.toList.length)) (by
  simp only [List.length_append, List.length_take, List.length_drop]; rw [hlen]; omega) (by
  unfold splice
  have e1 : (a.eval y).cells.toList.length = ys.length := RepL.length h3
  rw [e1]
  obtain ⟨p, q, hpq, hd⟩ := hrp.drop (off + ys.length)
  exact ⟨vs.take off ++ (a.eval y).cells.toList ++ p, q, by rw [hpq]; simp, ((hrp.take (by omega)).append h3).append hd⟩)
 refine ⟨undef, _, σ, .inr ⟨?_, rfl⟩, rep_val _ _, s', st⟩
 have hsz : (a.eval y).cells.size = d.size := by rw [← hlen, Array.length_toList]
 simp [execOp, ho, h1, Instr.storeAt, Instr.sureAddr, storeVar, f.sizeOf, hsz, hst]
theorem does_box {t : TypeId} {x : Operand} {xs : List PV} (ho : o.op = .box t x) (hx : cellsPV (opv T x) = some xs) : Does P B o T H (.ptr H.length 0) (H ++ [.cells xs t]) := by
 intro σ w a s h
 have h1 := cellsPV_rep hx (h x (by simp [ho, Op.operands]))
 obtain ⟨s', st⟩ := name_cells s xs _ t h1
 refine ⟨.pointer (some ⟨w.heap.size, 0, none⟩), _, _, .inl ?_, ?_, s', st⟩
 ·simp [execOp, ho, Instr.box, newVar, newRow]
 ·unfold Rep; exact ⟨by simp [cx], w.heap.size, by simp [cx, ext_new], rfl⟩
theorem does_alloc {t : TypeId} {d : TD} (f : TyFacts P t d) (ho : o.op = .alloc t) : Does P B o T H (.ptr H.length 0) (H ++ [.cells d.zero t]) := by
 intro σ w a s h
 obtain ⟨i, z, h1, h2, h3, h4, h5⟩ := f.info
 obtain ⟨s', st⟩ := name_cells s d.zero _ t (h5 _)
 refine ⟨.pointer (some ⟨w.heap.size, 0, none⟩), _, _, .inl ?_, ?_, s', st⟩
 ·simp [execOp, ho, Instr.alloc, newVar, newRow, zeroValue, typeInfo, h1, h4]
 ·unfold Rep; exact ⟨by simp [cx], w.heap.size, by simp [cx, ext_new], rfl⟩
theorem does_makeFunc {fn : Fn} {first cap : Array Operand} (ho : o.op = .makeFunc fn first cap) : Does P B o T H (.fn fn (first.toList.map (opv T)) (cap.toList.map (opv T))) H :=
 does_pure fun σ w a s h => by
  have key : ∀ l : List Operand, (∀ y ∈ l, y ∈ o.op.operands.toList) → RepL (cx B H σ w) (l.map (opv T)) (l.map a.eval) := by
   intro l
   induction l with
   | nil => intro _; exact repL_nil.2 rfl
   | cons y l ih => intro hl; exact repL_cons.2 ⟨h y (hl y (by simp)), ih (fun z hz => hl z (by simp [hz]))⟩
  refine ⟨.func fn (first.map a.eval) (cap.map a.eval), by simp [execOp, ho, Instr.makeFunc], ?_⟩
  unfold Rep
  refine ⟨first.toList.map a.eval, cap.toList.map a.eval, (by rw [← Array.toList_map, ← Array.toList_map]), key _ (fun y hy => ?_), key _ (fun y hy => ?_)⟩
  ·rw [ho]; simp [Op.operands]; exact .inl (by simpa using hy)
  ·rw [ho]; simp [Op.operands]; exact .inr (by simpa using hy)
end
end Go.Proofs.Ytlponhgbbfgkgaa
namespace Go.Proofs.Ytlponhgbbfgkgaa
open Go.RowKit
theorem cell_alloc_new (w : World) (cs : Array Value) (e : TypeId) (fr : Nat × Nat) (b j : Nat) (hb : b = w.heap.size) : (w.alloc (.cells cs e fr)).cell? ⟨b, j, none⟩ = cs[j]? := by
 subst hb
 have h : (w.alloc (.cells cs e fr)).heap[w.heap.size]? = some (Obj.cells cs e fr) := by show (w.heap.push _)[w.heap.size]? = _; simp
 unfold World.cell?
 simp only [h]
 rfl
section
variable {P : Program} {B : Nat → Nat → Prop} {o : Oper} {T : Nat → PV} {H : List Ob}
theorem rep_seq {c : Cx} {n : Nat} {xs : List PV} {s : SK} {v : Value} (h : Rep c (.seq n xs s) v) : ∃ (a : Option Addr) (cap : Nat) (vs : List Value), v = .slice a n cap ∧ n ≤ cap ∧ (a = none → n = 0 ∧ cap = 0 ∧ vs = []) ∧ RepL c xs vs ∧ (∀ b, a = some b → Lies c b vs ∨ (cap = 0 ∧ vs = [])) ∧ KindOk c s a n cap xs.length := by
 unfold Rep at h; exact h
theorem lies_addr {c : Cx} {b : Addr} {vs : List Value} (h : Lies c b vs) : b = ⟨b.block, b.off, none⟩ := by cases b; simp only [Lies] at h; cases h.1; rfl
theorem does_indexAddr_seq {t e : TypeId} {d de : TD} {x ix : Operand} {n : Nat} {xs : List PV} {s : SK} {k : IntKind} {i : Int} (f : TyFacts P t d) (hd : d.sh = .slice e) (fe : TyFacts P e de) (ho : o.op = .indexAddr t x ix) (hx : opv T x = .seq n xs s) (hi : opv T ix = .val (.int k i)) (h0 : 0 ≤ i ∧ i < n) :
  Does P B o T H (.row (xs.drop (i.toNat * de.size))) H :=
 does_pure fun σ w a s' h => by
  have h1 := h x (by simp [ho, Op.operands])
  have h2 := h ix (by simp [ho, Op.operands])
  rw [hx] at h1
  rw [hi] at h2
  unfold Rep at h2
  obtain ⟨ad, cap, vs, hv, hle, hnil, hrl, hlies, _⟩ := rep_seq h1
  match ad, hnil, hlies, hv with
  | none, hnil, _, _ => obtain ⟨rfl, _⟩ := hnil rfl; omega
  | some b, _, hlies, hv =>
   have hl := (hlies b rfl).resolve_right (by rintro ⟨h3, _⟩; omega)
   have hb := lies_addr hl
   refine ⟨.pointer (some ⟨b.block, b.off + i.toNat * de.size, none⟩), ?_, ?_⟩
   ·rw [hb] at hv
    simp [execOp, ho, hv, h2, Instr.indexAt, run_underlying (f.slice hd), asIntOf, h0, fe.sizeOf, Addr.add_lit]
   ·unfold Rep; exact ⟨_, vs.drop (i.toNat * de.size), rfl, hrl.drop _, hl.drop _⟩
theorem does_indexAddr_arr {t e : TypeId} {d de : TD} {x ix : Operand} {id off n cap : Nat} {k : IntKind} {i : Int} (f : TyFacts P t d) (hd : d.sh = .slice e) (fe : TyFacts P e de) (ho : o.op = .indexAddr t x ix) (hx : opv T x = .arr id off n cap) (hi : opv T ix = .val (.int k i)) (h0 : 0 ≤ i ∧ i < n) :
  Does P B o T H (.ptr id (off + i.toNat * de.size)) H :=
 does_pure fun σ w a s' h => by
  have h1 := h x (by simp [ho, Op.operands])
  have h2 := h ix (by simp [ho, Op.operands])
  rw [hx] at h1
  rw [hi] at h2
  unfold Rep at h1 h2
  obtain ⟨hN, b, hb, hv⟩ := h1
  refine ⟨.pointer (some ⟨b, off + i.toNat * de.size, none⟩), ?_, ?_⟩
  ·simp [execOp, ho, hv, h2, Instr.indexAt, run_underlying (f.slice hd), asIntOf, h0, fe.sizeOf, Addr.add_lit]
  ·unfold Rep; exact ⟨hN, b, hb, rfl⟩
theorem does_indexAddr_arw {t e : TypeId} {d de : TD} {x ix : Operand} {id off n : Nat} {k : IntKind} {i : Int} (f : TyFacts P t d) (hd : d.sh = .slice e) (fe : TyFacts P e de) (ho : o.op = .indexAddr t x ix) (hx : opv T x = .arw id off n) (hi : opv T ix = .val (.int k i)) (h0 : 0 ≤ i ∧ i < n) :
  Does P B o T H (.ptr id (off + i.toNat * de.size)) H :=
 does_pure fun σ w a s' h => by
  have h1 := h x (by simp [ho, Op.operands])
  have h2 := h ix (by simp [ho, Op.operands])
  rw [hx] at h1
  rw [hi] at h2
  unfold Rep at h1 h2
  obtain ⟨hN, b, cap, hb, _, hv⟩ := h1
  refine ⟨.pointer (some ⟨b, off + i.toNat * de.size, none⟩), ?_, ?_⟩
  ·simp [execOp, ho, hv, h2, Instr.indexAt, run_underlying (f.slice hd), asIntOf, h0, fe.sizeOf, Addr.add_lit]
  ·unfold Rep; exact ⟨hN, b, hb, rfl⟩
theorem does_indexAddr_ptr {t e : TypeId} {d de : TD} {x ix : Operand} {id off n : Nat} {k : IntKind} {i : Int} (f : TyFacts P t d) (hd : d.sh = .array n e) (fe : TyFacts P e de) (ho : o.op = .indexAddr t x ix) (hx : opv T x = .ptr id off) (hi : opv T ix = .val (.int k i)) (h0 : 0 ≤ i ∧ i < n) :
  Does P B o T H (.ptr id (off + i.toNat * de.size)) H :=
 does_pure fun σ w a s' h => by
  have h1 := h x (by simp [ho, Op.operands])
  have h2 := h ix (by simp [ho, Op.operands])
  rw [hx] at h1
  rw [hi] at h2
  unfold Rep at h1 h2
  obtain ⟨hN, b, hb, hv⟩ := h1
  refine ⟨.pointer (some ⟨b, off + i.toNat * de.size, none⟩), ?_, ?_⟩
  ·simp [execOp, ho, hv, h2, Instr.indexAt, run_underlying (f.array hd), asIntOf, h0, fe.sizeOf, Addr.add_lit, Instr.sureAddr]
  ·unfold Rep; exact ⟨hN, b, hb, rfl⟩
theorem does_indexAddr_row {t e : TypeId} {d de : TD} {x ix : Operand} {xs : List PV} {n : Nat} {k : IntKind} {i : Int} (f : TyFacts P t d) (hd : d.sh = .array n e) (fe : TyFacts P e de) (ho : o.op = .indexAddr t x ix) (hx : opv T x = .row xs) (hi : opv T ix = .val (.int k i)) (h0 : 0 ≤ i ∧ i < n) :
  Does P B o T H (.row (xs.drop (i.toNat * de.size))) H :=
 does_pure fun σ w a s' h => by
  have h1 := h x (by simp [ho, Op.operands])
  have h2 := h ix (by simp [ho, Op.operands])
  rw [hx] at h1
  rw [hi] at h2
  unfold Rep at h1 h2
  obtain ⟨b, vs, hv, hrl, hl⟩ := h1
  have hb := lies_addr hl
  refine ⟨.pointer (some ⟨b.block, b.off + i.toNat * de.size, none⟩), ?_, ?_⟩
  ·rw [hb] at hv
   simp [execOp, ho, hv, h2, Instr.indexAt, run_underlying (f.array hd), asIntOf, h0, fe.sizeOf, Addr.add_lit, Instr.sureAddr]
  ·unfold Rep; exact ⟨_, vs.drop (i.toNat * de.size), rfl, hrl.drop _, hl.drop _⟩
def sEq : List UInt8 → List UInt8 → Bool
 | [], [] => true
 | x :: xs, y :: ys => match Nat.beq x.toNat y.toNat with
  | true => sEq xs ys
  | false => false
 | _, _ => false
theorem sEq_iff : ∀ xs ys : List UInt8, sEq xs ys = true ↔ xs = ys
 | [], [] => by simp [sEq]
 | [], _ :: _ => by simp [sEq]
 | _ :: _, [] => by simp [sEq]
 | x :: xs, y :: ys => by
  simp only [sEq]
  split
  ·rename_i h
   rw [Nat.beq_eq] at h
   have h' : x = y := UInt8.toNat_inj.1 h
   subst h'
   simp [sEq_iff xs ys]
  ·rename_i h
   have h' : x ≠ y := fun e => by subst e; rw [Nat.beq_refl] at h; cases h
   simp [h']
def strEq (a b : ByteArray) : Bool := sEq a.data.toList b.data.toList
theorem strEq_iff (a b : ByteArray) : strEq a b = true ↔ a = b := by
 unfold strEq
 rw [sEq_iff]
 obtain ⟨⟨l⟩⟩ := a
 obtain ⟨⟨m⟩⟩ := b
 simp
theorem strEq_eq (a b : ByteArray) : strEq a b = decide (a = b) := by
 by_cases h : a = b
 ·rw [(strEq_iff a b).2 h]; simp [h]
 ·have : strEq a b = false := Bool.eq_false_iff.2 (fun k => h ((strEq_iff a b).1 k))
  simp [h, this]
theorem strEq_list (a b : ByteArray) : (a.toList == b.toList) = strEq a b := by
 rw [ByteArray.toList_eq, ByteArray.toList_eq, Bool.eq_iff_iff, beq_iff_eq]
 unfold strEq
 rw [sEq_iff]
theorem does_str_eql {t yt : TypeId} {x y : Operand} {a b : ByteArray} (ho : o.op = .binOp .eql t x y yt) (hx : opv T x = .val (.string a)) (hy : opv T y = .val (.string b)) : Does P B o T H (.val (.bool (strEq a b))) H :=
 does_pure fun σ w ac s h => by
  have h1 := h x (by simp [ho, Op.operands])
  have h2 := h y (by simp [ho, Op.operands])
  rw [hx] at h1
  rw [hy] at h2
  unfold Rep at h1 h2
  refine ⟨_, ?_, rep_val _ _⟩
  rw [← strEq_list]
  simp [execOp, ho, h1, h2, eqGuard_at_string, binOp, Op.stringOp]
theorem does_str_neq {t yt : TypeId} {x y : Operand} {a b : ByteArray} (ho : o.op = .binOp .neq t x y yt) (hx : opv T x = .val (.string a)) (hy : opv T y = .val (.string b)) : Does P B o T H (.val (.bool (!strEq a b))) H :=
 does_pure fun σ w ac s h => by
  have h1 := h x (by simp [ho, Op.operands])
  have h2 := h y (by simp [ho, Op.operands])
  rw [hx] at h1
  rw [hy] at h2
  unfold Rep at h1 h2
  refine ⟨_, ?_, rep_val _ _⟩
  rw [← strEq_list]
  simp [execOp, ho, h1, h2, eqGuard_at_string, binOp, Op.stringOp]
theorem does_bool_eql {t yt : TypeId} {d : TD} {x y : Operand} {a b : Bool} (f : TyFacts P t d) (hd : d.sh = .bool) (ho : o.op = .binOp .eql t x y yt) (hx : opv T x = .val (.bool a)) (hy : opv T y = .val (.bool b)) : Does P B o T H (.val (.bool (a == b))) H :=
 does_pure fun σ w ac s h => by
  have h1 := h x (by simp [ho, Op.operands])
  have h2 := h y (by simp [ho, Op.operands])
  rw [hx] at h1
  rw [hy] at h2
  unfold Rep at h1 h2
  refine ⟨_, ?_, rep_val _ _⟩
  have := run_equalIn_bool' (P := P) (w := w) (Op.maxDepth - 1) t a b (f.bool hd)
  simp [execOp, ho, h1, h2, eqGuard_at_bool, binOp, Op.equal]
  rw [show Op.maxDepth = Op.maxDepth - 1 + 1 from rfl, this]
  rfl
theorem does_bool_neq {t yt : TypeId} {d : TD} {x y : Operand} {a b : Bool} (f : TyFacts P t d) (hd : d.sh = .bool) (ho : o.op = .binOp .neq t x y yt) (hx : opv T x = .val (.bool a)) (hy : opv T y = .val (.bool b)) : Does P B o T H (.val (.bool (!(a == b)))) H :=
 does_pure fun σ w ac s h => by
  have h1 := h x (by simp [ho, Op.operands])
  have h2 := h y (by simp [ho, Op.operands])
  rw [hx] at h1
  rw [hy] at h2
  unfold Rep at h1 h2
  refine ⟨_, ?_, rep_val _ _⟩
  have := run_equalIn_bool' (P := P) (w := w) (Op.maxDepth - 1) t a b (f.bool hd)
  simp [execOp, ho, h1, h2, eqGuard_at_bool, binOp, Op.equal]
  rw [show Op.maxDepth = Op.maxDepth - 1 + 1 from rfl, this]
  rfl
theorem does_str_add {t yt : TypeId} {x y : Operand} {a b : ByteArray} (ho : o.op = .binOp .add t x y yt) (hx : opv T x = .val (.string a)) (hy : opv T y = .val (.string b)) (hb : a.size + b.size ≤ 9223372036854775807) : Does P B o T H (.val (.string (a ++ b))) H :=
 does_pure fun σ w ac s h => by
  have h1 := h x (by simp [ho, Op.operands])
  have h2 := h y (by simp [ho, Op.operands])
  rw [hx] at h1
  rw [hy] at h2
  unfold Rep at h1 h2
  refine ⟨_, ?_, rep_val _ _⟩
  have hb' : ¬ (9223372036854775807 < (a.size : Int) + (b.size : Int)) := by omega
  simp [execOp, ho, h1, h2, eqGuard_at_string, binOp, Op.stringOp, hb']
def byteAt (s : ByteArray) (j : Nat) : Int := ((s.data.toList.getD j 0).toNat : Int)
theorem does_index_str {t : TypeId} {d : TD} {x ix : Operand} {s : ByteArray} {k : IntKind} {i : Int} (f : TyFacts P t d) (hd : d.sh = .str) (ho : o.op = .index t x ix) (hx : opv T x = .val (.string s)) (hi : opv T ix = .val (.int k i)) (h0 : 0 ≤ i ∧ i < s.size) :
  Does P B o T H (.val (.int .u8 (byteAt s i.toNat))) H :=
 does_pure fun σ w a s' h => by
  have h1 := h x (by simp [ho, Op.operands])
  have h2 := h ix (by simp [ho, Op.operands])
  rw [hx] at h1
  rw [hi] at h2
  unfold Rep at h1 h2
  have hlt : i.toNat < s.size := by omega
  have hg : s[i.toNat]? = some s[i.toNat] := by rw [getElem?_pos s i.toNat hlt]
  refine ⟨_, ?_, rep_val _ _⟩
  simp only [execOp, ho, h1, h2, Instr.index, run_underlying (f.str hd), asIntOf, h0, Sem.run_bind, Sem.run_pure, Result.andThen_ok, if_true, hg]
  have e : byteAt s i.toNat = ((s[i.toNat]).toNat : Int) := by
   unfold byteAt
   have : s.data.toList.getD i.toNat 0 = s[i.toNat] := by
    have hl : i.toNat < s.data.toList.length := by rw [Array.length_toList]; exact hlt
    rw [List.getD_eq_getElem?_getD, List.getElem?_eq_getElem hl]; rfl
   rw [this]
  rw [e]
theorem does_index_agg {t e : TypeId} {d de : TD} {x ix : Operand} {cs : List PV} {n : Nat} {k : IntKind} {i : Int} {r : PV} (f : TyFacts P t d) (hd : d.sh = .array n e) (fe : TyFacts P e de) (ha : de.agg = false) (ho : o.op = .index t x ix) (hx : opv T x = .agg cs) (hi : opv T ix = .val (.int k i)) (h0 : 0 ≤ i ∧ i < n) (hr : cs[i.toNat * de.size]? = some r) :
  Does P B o T H r H :=
 does_pure fun σ w a s' h => by
  have h1 := h x (by simp [ho, Op.operands])
  have h2 := h ix (by simp [ho, Op.operands])
  rw [hx] at h1
  rw [hi] at h2
  unfold Rep at h1 h2
  obtain ⟨vs, hv, hrl⟩ := h1
  obtain ⟨u, hu, hru⟩ := hrl.get hr
  refine ⟨u, ?_, hru⟩
  simp [execOp, ho, hv, h2, Instr.index, run_underlying (f.array hd), asIntOf, h0, fe.sizeOf, part, fe.isAgg, ha, hu]
def BndOk (T : Nat → PV) (y : Option Operand) (dflt v : Nat) : Prop := match y with
 | none => v = dflt
 | some z => ∃ k i, opv T z = .val (.int k i) ∧ 0 ≤ i ∧ v = i.toNat
theorem bnd_run {c : Cx} {a : Act} {z : Operand} {dflt v y : Nat} {code : BoundsCode} (h : BndOk T (some z) dflt v) (hr : Rep c (opv T z) (a.eval z)) (hy : v ≤ y) (P : Program) (w : World) : (Instr.sliceBound (a.eval z) y code).run P w = .ok v w := by
 obtain ⟨k, i, h1, h2, rfl⟩ := h
 rw [h1] at hr
 unfold Rep at hr
 rw [hr]
 have : 0 ≤ i ∧ i ≤ y := by omega
 simp [Instr.sliceBound, asIntOf, this]
theorem bounds_run {c : Cx} {a : Act} {lo hi mx : Option Operand} {n cap l hh : Nat} {m : Nat} {b : Bool} (hr : ∀ z, (lo = some z ∨ hi = some z ∨ mx = some z) → Rep c (opv T z) (a.eval z)) (h1 : BndOk T lo 0 l) (h2 : BndOk T hi n hh) (h3 : BndOk T mx cap m) (hmx : mx.isSome = true → hi.isSome = true) (e1 : l ≤ hh) (e2 : hh ≤ m) (e3 : m ≤ cap) (hn : n ≤ cap) (P : Program) (w : World) :
  (Instr.sliceBounds b n cap (lo.map a.eval) (hi.map a.eval) (mx.map a.eval)).run P w = .ok (l, hh, m) w := by
 unfold Instr.sliceBounds
 cases mx with
 | none =>
  have h3' : m = cap := h3
  subst h3'
  cases hi with
  | none =>
   have h2' : hh = n := h2
   subst h2'
   cases lo with
   | none => have h1' : l = 0 := h1; subst h1'; simp
   | some z => simp [bnd_run (code := .sliceB) h1 (hr z (by simp)) e1]
  | some y =>
   have k2 := fun code => bnd_run (code := code) h2 (hr y (by simp)) e2 P w
   cases lo with
   | none => have h1' : l = 0 := h1; subst h1'; simp [k2]
   | some z => simp [k2, bnd_run (code := .sliceB) h1 (hr z (by simp)) e1]
 | some x =>
  have k3 := fun code => bnd_run (code := code) h3 (hr x (by simp)) e3 P w
  cases hi with
  | none => simp at hmx
  | some y =>
   have k2 := fun code => bnd_run (code := code) h2 (hr y (by simp)) e2 P w
   cases lo with
   | none => have h1' : l = 0 := h1; subst h1'; simp [k3, k2]
   | some z => simp [k3, k2, bnd_run (code := .slice3C) h1 (hr z (by simp)) e1]
theorem does_slice_seq {t e : TypeId} {d de : TD} {x : Operand} {lo hi mx : Option Operand} {n l hh : Nat} {xs : List PV} {s : SK} (f : TyFacts P t d) (hd : d.sh = .slice e) (fe : TyFacts P e de) (ho : o.op = .slice t x lo hi mx) (hx : opv T x = .seq n xs s)
  (h1 : BndOk T lo 0 l) (h2 : BndOk T hi n hh) (hm : mx = none) (e1 : l ≤ hh) (e2 : hh ≤ n) :
  Does P B o T H (.seq (hh - l) ((xs.drop (l * de.size)).take ((hh - l) * de.size)) .any) H :=
 does_pure fun σ w a s' h => by
  have k1 := h x (by simp [ho, Op.operands])
  rw [hx] at k1
  obtain ⟨ad, cap, vs, hv, hle, hnil, hrl, hlies, _⟩ := rep_seq k1
  subst hm
  have kb := bounds_run (P := P) (w := w) (a := a) (cap := cap) (b := true) (m := cap) (mx := none) (c := cx B H σ w) (fun z hz => h z (by
   rcases hz with rfl | rfl | hz
   ·simp [ho, Op.operands]
   ·simp [ho, Op.operands]
   ·cases hz)) h1 h2 rfl (by simp) e1 (by omega) (Nat.le_refl _) hle
  refine ⟨.slice (if cap = l then ad else ad.map (·.add (l * de.size))) (hh - l) (cap - l), ?_, ?_⟩
  ·simp only [Option.map_none] at kb
   simp [execOp, ho, hv, Instr.sliceAt, run_underlying (f.slice hd), Instr.slice, kb, fe.sizeOf]
  ·unfold Rep
   refine ⟨_, _, (vs.drop (l * de.size)).take ((hh - l) * de.size), rfl, by omega, ?_, (hrl.drop _).take _, ?_, trivial⟩
   ·intro hn
    split at hn
    ·rename_i hcl
     have := hnil hn
     rw [this.2.2]; simp; omega
    ·cases ad with
     | none => have := hnil rfl; rw [this.2.2]; simp; omega
     | some b => cases hn
   ·intro b hb
    split at hb
    ·rename_i hcl
     have h0 : hh - l = 0 := by omega
     rw [h0]
     simp only [Nat.zero_mul, List.take_zero]
     exact .inr (by simp <;> omega)
    ·cases ad with
     | none => cases hb
     | some b' =>
      have hl := (hlies b' rfl).resolve_right (by rintro ⟨h3, _⟩; omega)
      have hb' := lies_addr hl
      simp only [Option.map_some, Option.some.injEq] at hb
      subst hb
      rw [hb', Addr.add_lit]
      exact .inl ((hl.drop (l * de.size)).take _)
theorem does_slice_clip {t e : TypeId} {d de : TD} {x y z : Operand} {lo : Option Operand} {n l hh : Nat} {xs : List PV} {s : SK} (f : TyFacts P t d) (hd : d.sh = .slice e) (fe : TyFacts P e de) (ho : o.op = .slice t x lo (some y) (some z)) (hx : opv T x = .seq n xs s)
  (h1 : BndOk T lo 0 l) (h2 : BndOk T (some y) n hh) (h3 : BndOk T (some z) n hh) (e1 : l ≤ hh) (e2 : hh ≤ n) :
  Does P B o T H (.seq (hh - l) ((xs.drop (l * de.size)).take ((hh - l) * de.size)) .clip) H :=
 does_pure fun σ w a s' h => by
  have k1 := h x (by simp [ho, Op.operands])
  rw [hx] at k1
  obtain ⟨ad, cap, vs, hv, hle, hnil, hrl, hlies, _⟩ := rep_seq k1
  have h3' : BndOk T (some z) cap hh := h3
  have kb := bounds_run (P := P) (w := w) (a := a) (n := n) (cap := cap) (b := true) (m := hh) (mx := some z) (hi := some y) (lo := lo) (c := cx B H σ w) (fun q hq => h q (by
   rcases hq with rfl | hq | hq
   ·simp [ho, Op.operands]
   ·cases hq; simp [ho, Op.operands]
   ·cases hq; simp [ho, Op.operands])) h1 h2 h3' (by simp) e1 (Nat.le_refl _) (by omega) hle
  refine ⟨.slice (if hh = l then ad else ad.map (·.add (l * de.size))) (hh - l) (hh - l), ?_, ?_⟩
  ·simp only [Option.map_some] at kb
   simp [execOp, ho, hv, Instr.sliceAt, run_underlying (f.slice hd), Instr.slice, kb, fe.sizeOf]
  ·unfold Rep
   refine ⟨_, _, (vs.drop (l * de.size)).take ((hh - l) * de.size), rfl, by omega, ?_, (hrl.drop _).take _, ?_, rfl⟩
   ·intro hn
    split at hn
    ·rename_i hcl
     have := hnil hn
     rw [this.2.2]; simp; omega
    ·cases ad with
     | none => have := hnil rfl; rw [this.2.2]; simp; omega
     | some b => cases hn
   ·intro b hb
    split at hb
    ·rename_i hcl
     have h0 : hh - l = 0 := by omega
     rw [h0]
     simp only [Nat.zero_mul, List.take_zero]
     exact .inr (by simp <;> omega)
    ·cases ad with
     | none => cases hb
     | some b' =>
      have hl := (hlies b' rfl).resolve_right (by rintro ⟨h3, _⟩; omega)
      have hb' := lies_addr hl
      simp only [Option.map_some, Option.some.injEq] at hb
      subst hb
      rw [hb', Addr.add_lit]
      exact .inl ((hl.drop (l * de.size)).take _)
theorem does_slice_str {t : TypeId} {d : TD} {x : Operand} {lo hi : Option Operand} {l hh : Nat} {s : ByteArray} (f : TyFacts P t d) (hd : d.sh = .str) (ho : o.op = .slice t x lo hi none) (hx : opv T x = .val (.string s))
  (h1 : BndOk T lo 0 l) (h2 : BndOk T hi s.size hh) (e1 : l ≤ hh) (e2 : hh ≤ s.size) :
  Does P B o T H (.val (.string (s.extract l hh))) H :=
 does_pure fun σ w a s' h => by
  have k1 := h x (by simp [ho, Op.operands])
  rw [hx] at k1
  unfold Rep at k1
  have kb := bounds_run (P := P) (w := w) (a := a) (n := s.size) (cap := s.size) (b := false) (m := s.size) (mx := none) (c := cx B H σ w) (fun z hz => h z (by
   rcases hz with rfl | rfl | hz
   ·simp [ho, Op.operands]
   ·simp [ho, Op.operands]
   ·cases hz)) h1 h2 rfl (by simp) e1 e2 (Nat.le_refl _) (Nat.le_refl _)
  refine ⟨_, ?_, rep_val _ _⟩
  simp only [Option.map_none] at kb
  simp [execOp, ho, k1, Instr.sliceAt, run_underlying (f.str hd), Instr.slice, kb]
theorem does_slice_ptr {t e : TypeId} {d de : TD} {x : Operand} {id off n : Nat} (f : TyFacts P t d) (hd : d.sh = .array n e) (fe : TyFacts P e de) (ho : o.op = .slice t x none none none) (hx : opv T x = .ptr id off) :
  Does P B o T H (.arr id off n n) H :=
 does_pure fun σ w a s' h => by
  have k1 := h x (by simp [ho, Op.operands])
  rw [hx] at k1
  unfold Rep at k1
  obtain ⟨hN, b, hb, hv⟩ := k1
  refine ⟨.slice (some ⟨b, off, none⟩) n n, ?_, by unfold Rep; exact ⟨hN, b, hb, rfl⟩⟩
  simp [execOp, ho, hv, Instr.sliceAt, run_underlying (f.array hd), Instr.sliceBounds, Instr.sureAddr, fe.sizeOf, Addr.add_lit]
theorem does_slice_arr {t e : TypeId} {d de : TD} {x : Operand} {lo hi : Option Operand} {id off n cap l hh : Nat} (f : TyFacts P t d) (hd : d.sh = .slice e) (fe : TyFacts P e de) (ho : o.op = .slice t x lo hi none) (hx : opv T x = .arr id off n cap)
  (h1 : BndOk T lo 0 l) (h2 : BndOk T hi n hh) (e1 : l ≤ hh) (e2 : hh ≤ n) (e3 : n ≤ cap) :
  Does P B o T H (.arr id (if cap = l then off else off + l * de.size) (hh - l) (cap - l)) H :=
 does_pure fun σ w a s' h => by
  have k1 := h x (by simp [ho, Op.operands])
  rw [hx] at k1
  unfold Rep at k1
  obtain ⟨hN, b, hb, hv⟩ := k1
  have kb := bounds_run (P := P) (w := w) (a := a) (n := n) (cap := cap) (b := true) (m := cap) (mx := none) (c := cx B H σ w) (fun z hz => h z (by
   rcases hz with rfl | rfl | hz
   ·simp [ho, Op.operands]
   ·simp [ho, Op.operands]
   ·cases hz)) h1 h2 rfl (by simp) e1 (by omega) (Nat.le_refl _) e3
  simp only [Option.map_none] at kb
  refine ⟨.slice (some ⟨b, if cap = l then off else off + l * de.size, none⟩) (hh - l) (cap - l), ?_, by unfold Rep; exact ⟨hN, b, hb, rfl⟩⟩
  simp [execOp, ho, hv, Instr.sliceAt, run_underlying (f.slice hd), Instr.slice, kb, fe.sizeOf, Addr.add_lit]
  split <;> rfl
theorem does_convert_int {src dst : TypeId} {ds dd : TD} {x : Operand} {k k' : IntKind} {i : Int} (f : TyFacts P src ds) (g : TyFacts P dst dd) (hd : dd.sh = .int k) (ho : o.op = .convert src dst x) (hx : opv T x = .val (.int k' i)) : Does P B o T H (.val (.int k (k.wrap i))) H :=
 does_pure fun σ w a s' h => by
  have k1 := h x (by simp [ho, Op.operands])
  rw [hx] at k1
  unfold Rep at k1
  obtain ⟨u, hu, _⟩ := f.under
  refine ⟨_, ?_, rep_val _ _⟩
  simp [execOp, ho, k1, convert, run_underlying hu, run_underlying (g.int hd), Conv.intToInt]
theorem does_convert_str {src dst : TypeId} {ds dd : TD} {x : Operand} {s : ByteArray} (f : TyFacts P src ds) (g : TyFacts P dst dd) (hd : dd.sh = .str) (ho : o.op = .convert src dst x) (hx : opv T x = .val (.string s)) : Does P B o T H (.val (.string s)) H :=
 does_pure fun σ w a s' h => by
  have k1 := h x (by simp [ho, Op.operands])
  rw [hx] at k1
  unfold Rep at k1
  obtain ⟨u, hu, _⟩ := f.under
  refine ⟨_, ?_, rep_val _ _⟩
  simp [execOp, ho, k1, convert, run_underlying hu, run_underlying (g.str hd)]
def byteP (z : Int) : PV := .val (.int .u8 z)
theorem repL_bytes {c : Cx} : ∀ {zs : List Int} {vs : List Value}, RepL c (zs.map byteP) vs → vs = zs.map (Value.int .u8)
 | [], vs, h => by rw [List.map_nil, repL_nil] at h; exact h
 | z :: zs, [], h => by rw [List.map_cons] at h; unfold RepL at h; obtain ⟨u, us, h1, _⟩ := h; cases h1
 | z :: zs, v :: vs, h => by
  rw [List.map_cons, repL_cons] at h
  have h1 := h.1
  unfold byteP Rep at h1
  rw [h1, repL_bytes h.2]; rfl
theorem run_convert_bytes_none {w : World} (src e : TypeId) (hs : P.underlying src = some (.slice e)) (he : P.underlying e = some (.int .u8)) (b : Addr) (c : Nat) (dst : TypeId) (hd : P.underlying dst = some .string) :
  (convert src dst (.slice (some b) 0 c)).run P w = .ok (.string (strOfNums [])) w := by
 have hl : (loadCells b 0).run P w = .ok (([] : List Int).map (Value.int .u8)).toArray w := by
  simpa using run_loadCells_list (P := P) w b [] (fun j v hj => by simp at hj)
 rw [run_convert_bytes_string w src dst e _ 0 c hs he hd, run_bytesToString w _ 0 c [] hl]
 rfl
theorem run_bytes_str {src dst e : TypeId} (hs : P.underlying src = some (.slice e)) (he : P.underlying e = some (.int .u8)) (hd : P.underlying dst = some .string) (a : Option Addr) (zs : List Int) (cap : Nat) (w : World) (hc : ∀ b, a = some b → (b.spot = none ∧ ∀ j, j < zs.length → w.cell? ⟨b.block, b.off + j, none⟩ = some (.int .u8 (zs.getD j 0))) ∨ zs = []) (hn : a = none → zs = [] ∧ cap = 0) :
  (convert src dst (.slice a zs.length cap)).run P w = .ok (.string (strOfNums zs)) w := by
 cases a with
 | none =>
  obtain ⟨rfl, rfl⟩ := hn rfl
  exact run_convert_bytes_nil (w := w) src e hs he 0 0 dst hd
 | some b =>
  rcases hc b rfl with ⟨h1, h2⟩ | rfl
  case inr => exact run_convert_bytes_none (w := w) src e hs he b cap dst hd
  have hb : b = ⟨b.block, b.off, none⟩ := by cases b; simp only at h1; subst h1; rfl
  rw [hb]
  exact run_convert_bytes_arg w src e hs he b.block b.off zs.length cap zs rfl h2 dst hd
theorem does_convert_bytes {src dst e : TypeId} {ds dd de : TD} {x : Operand} {n : Nat} {zs : List Int} {s : SK} (f : TyFacts P src ds) (hs : ds.sh = .slice e) (fe : TyFacts P e de) (he : de.sh = .int .u8) (g : TyFacts P dst dd) (hd : dd.sh = .str) (ho : o.op = .convert src dst x) (hx : opv T x = .seq n (zs.map byteP) s) (hn : zs.length = n) :
  Does P B o T H (.val (.string (strOfNums zs))) H :=
 does_pure fun σ w a s' h => by
  have k1 := h x (by simp [ho, Op.operands])
  rw [hx] at k1
  obtain ⟨ad, cap, vs, hv, hle, hnil, hrl, hlies, _⟩ := rep_seq k1
  have hvs := repL_bytes hrl
  subst hn
  refine ⟨_, ?_, rep_val _ _⟩
  have := run_bytes_str (P := P) (f.slice hs) (fe.int he) (g.str hd) ad zs cap w (fun b hb => (hlies b hb).imp (fun hl => ⟨hl.1, fun j hj => (hl.2 j _ (by rw [hvs, List.getElem?_map, List.getElem?_eq_getElem hj]; simp [List.getD, hj])).1⟩) (fun ⟨_, h3⟩ => by rw [hvs] at h3; simpa using h3)) (fun h0 => by
   obtain ⟨h1, h2, h3⟩ := hnil h0
   exact ⟨List.eq_nil_of_length_eq_zero h1, h2⟩)
  simp [execOp, ho, hv, this]
theorem does_convert_arw {src dst e : TypeId} {ds dd de : TD} {x : Operand} {id off n : Nat} {xs : List PV} {et : TypeId} {zs : List Int} (f : TyFacts P src ds) (hs : ds.sh = .slice e) (fe : TyFacts P e de) (he : de.sh = .int .u8) (g : TyFacts P dst dd) (hd : dd.sh = .str) (ho : o.op = .convert src dst x) (hx : opv T x = .arw id off n) (hi : H[id]? = some (.cells xs et)) (hz : (xs.drop off).take n = zs.map byteP) (hn : zs.length = n) :
  Does P B o T H (.val (.string (strOfNums zs))) H :=
 does_pure fun σ w a s' h => by
  have k1 := h x (by simp [ho, Op.operands])
  rw [hx] at k1
  unfold Rep at k1
  obtain ⟨hN, b, cap, hb, _, hv⟩ := k1
  obtain ⟨b', vs0, fr, hb', hv', _, vs, q, rfl, hrl⟩ := s'.holds id _ hi
  simp only [cx] at hb hb' hv'
  rw [hb] at hb'
  cases hb'
  have hrl' := (hrl.drop off).take n
  rw [hz] at hrl'
  have hvs := repL_bytes hrl'
  subst hn
  refine ⟨_, ?_, rep_val _ _⟩
  have := run_bytes_str (P := P) (f.slice hs) (fe.int he) (g.str hd) (some ⟨b, off, none⟩) zs cap w (fun b1 hb1 => by
   cases hb1
   refine .inl ⟨rfl, fun j hj => ?_⟩
   rw [cell_of_heap hv']
   refine get_left ?_
   have : ((vs.drop off).take zs.length)[j]? = some (.int .u8 (zs.getD j 0)) := by rw [hvs, List.getElem?_map, List.getElem?_eq_getElem hj]; simp [List.getD, hj]
   rw [List.getElem?_take, if_pos hj, List.getElem?_drop] at this
   exact this) (fun h0 => by cases h0)
  simp [execOp, ho, hv, this]
theorem does_convert_toBytes {src dst e : TypeId} {ds dd de : TD} {x : Operand} {s : ByteArray} (f : TyFacts P src ds) (hs : ds.sh = .str) (g : TyFacts P dst dd) (hd : dd.sh = .slice e) (fe : TyFacts P e de) (he : de.sh = .int .u8) (ho : o.op = .convert src dst x) (hx : opv T x = .val (.string s)) :
  Does P B o T H (.seq s.size (s.data.toList.map fun b => byteP b.toNat) .any) H := by
 intro σ w a s' h
 have k1 := h x (by simp [ho, Op.operands])
 rw [hx] at k1
 unfold Rep at k1
 have hr := run_bytes_of_string w src dst e s (f.str hs) (g.slice hd) (fe.int he)
 have gr : Grows w (w.drew.alloc (.cells (bytesRow s (grownCap w s.size 0 e)) e ((bytesRow s (grownCap w s.size 0 e)).size, (bytesRow s (grownCap w s.size 0 e)).size + 1))) := (Grows.drew w).trans (Grows.alloc _ _)
 obtain ⟨s2, st⟩ := grow_sim s' gr
 refine ⟨_, _, σ, .inl (by simp [execOp, ho, k1, hr]; rfl), ?_, s2, st⟩
 unfold Rep
 have hlen : (s.data.toList.map fun b => Value.int .u8 b.toNat).length = s.size := by rw [List.length_map, Array.length_toList]; rfl
 refine ⟨_, _, s.data.toList.map (fun b => Value.int .u8 b.toNat), rfl, grownCap_ge _ _ _ _, (fun h => by cases h), ?_, ?_, trivial⟩
 ·generalize s.data.toList = l
  induction l with
  | nil => exact repL_nil.2 rfl
  | cons x l ih => exact repL_cons.2 ⟨rep_val _ _, ih⟩
 ·intro b hb
  cases hb
  refine .inl ⟨rfl, fun j u hj => ⟨?_, ?_⟩⟩
  ·have hjl : j < s.size := by rw [← hlen]; exact lt_of_get hj
   show (World.alloc w.drew _).cell? ⟨w.heap.size, 0 + j, none⟩ = _
   rw [cell_alloc_new _ _ _ _ _ _ (by simp), Nat.zero_add]
   simp only [bytesRow]
   rw [Array.getElem?_append_left (by simpa using hjl)]
   simpa using hj
  ·rintro (h | ⟨i, oi, h1, h2, h3⟩)
   ·exact absurd (s'.base _ _ h) (by simp)
   ·have hl : oi.live = true := by cases oi <;> first | rfl | cases h3
    have := (s'.holds i oi h1).lt hl h2
    simp [cx] at this
theorem does_convert_toOwn {src dst e : TypeId} {ds dd de : TD} {x : Operand} {s : ByteArray} (f : TyFacts P src ds) (hs : ds.sh = .str) (g : TyFacts P dst dd) (hd : dd.sh = .slice e) (fe : TyFacts P e de) (he : de.sh = .int .u8) (ho : o.op = .convert src dst x) (hx : opv T x = .val (.string s)) :
  Does P B o T H (.arw H.length 0 s.size) (H ++ [.cells (s.data.toList.map fun b => byteP b.toNat) e]) := by
 intro σ w a s' h
 have k1 := h x (by simp [ho, Op.operands])
 rw [hx] at k1
 unfold Rep at k1
 have hr := run_bytes_of_string w src dst e s (f.str hs) (g.slice hd) (fe.int he)
 have gr : Grows w (w.drew.alloc (.cells (bytesRow s (grownCap w s.size 0 e)) e ((bytesRow s (grownCap w s.size 0 e)).size, (bytesRow s (grownCap w s.size 0 e)).size + 1))) := (Grows.drew w).trans (Grows.alloc _ _)
 have hcl : ∀ c, RepL c (s.data.toList.map fun b => byteP b.toNat) (s.data.toList.map fun b => Value.int .u8 b.toNat) := by
  intro c
  generalize s.data.toList = l
  induction l with
  | nil => exact repL_nil.2 rfl
  | cons x l ih => exact repL_cons.2 ⟨rep_val _ _, ih⟩
 obtain ⟨s2, st⟩ := grow_name s' gr (.cells (s.data.toList.map fun b => byteP b.toNat) e) (some w.heap.size) (fun b hb => by cases hb; exact Nat.le_refl _) (by
  refine ⟨w.heap.size, (bytesRow s (grownCap w s.size 0 e)).toList, ((bytesRow s (grownCap w s.size 0 e)).size, (bytesRow s (grownCap w s.size 0 e)).size + 1), by simp only [cx]; rw [ext_new], ?_, ?_, ?_⟩
  ·show (w.heap.push _)[w.heap.size]? = _
   rw [Array.toArray_toList]; simp
  ·exact .inr (by simp)
  ·refine ⟨_, (bytesRow s (grownCap w s.size 0 e)).toList.drop s.size, ?_, hcl _⟩
   have e1 : (bytesRow s (grownCap w s.size 0 e)).toList.take s.size = s.data.toList.map fun b => Value.int .u8 b.toNat := by
    have hsz : s.size = s.data.toList.length := by rw [Array.length_toList]; rfl
    simp only [bytesRow, Array.toList_append, Array.toList_map]
    rw [List.take_append_of_le_length (by rw [List.length_map]; exact Nat.le_of_eq hsz), List.take_of_length_le (by rw [List.length_map]; exact Nat.le_of_eq hsz.symm)]
   rw [← e1, List.take_append_drop])
 refine ⟨_, _, _, .inl (by simp [execOp, ho, k1, hr]; rfl), ?_, s2, st⟩
 unfold Rep
 exact ⟨by simp [cx], w.heap.size, _, by simp only [cx]; rw [ext_new], grownCap_ge _ _ _ _, rfl⟩
end
end Go.Proofs.Ytlponhgbbfgkgaa
namespace Go.Proofs.Ytlponhgbbfgkgaa
open Go.RowKit
section
variable {P : Program} {B : Nat → Nat → Prop} {o : Oper} {T : Nat → PV} {H : List Ob}
def SrcPV (k : Nat) : PV → Nat → List PV → Prop
 | .seq m ys _, n, zs => n = m ∧ zs = ys ∧ ys.length = m * k ∧ ∀ y ∈ ys, okC y = true
 | .val (.string s), n, zs => n = s.size ∧ k = 1 ∧ zs = s.data.toList.map fun b => byteP b.toNat
 | _, _, _ => False
theorem okC_repL' {c : Cx} : ∀ {xs : List PV} {vs : List Value}, (∀ x ∈ xs, okC x = true) → RepL c xs vs → ∀ v ∈ vs, v.oneCell' = true
 | [], vs, _, h, v, hv => by rw [repL_nil] at h; subst h; cases hv
 | x :: xs, [], _, h, v, hv => by cases hv
 | x :: xs, u :: us, ho, h, v, hv => by
  rw [repL_cons] at h
  cases hv with
  | head => exact okC_rep (ho x (by simp)) h.1
  | tail _ hv => exact okC_repL' (fun y hy => ho y (by simp [hy])) h.2 v hv
theorem repL_string {c : Cx} (l : List UInt8) : RepL c (l.map fun b => byteP b.toNat) (l.map fun b => Value.int .u8 b.toNat) := by
 induction l with
 | nil => exact repL_nil.2 rfl
 | cons x l ih => exact repL_cons.2 ⟨rep_val _ _, ih⟩
theorem src_of {c : Cx} {k m : Nat} {x : PV} {v : Value} {ys : List PV} {tx : TypeId} (h : SrcPV k x m ys) (hr : Rep c x v) (hk : (∃ e', P.underlying tx = some (.slice e')) ∨ P.underlying tx = some .string) (hs : ∀ s, x = .val (.string s) → P.underlying tx = some .string) (hq : ∀ n zs s, x = .seq n zs s → ∃ e', P.underlying tx = some (.slice e')) :
  ∃ news : List Value, RepL c ys news ∧ Src P k tx v m news c.w := by
 cases x with
 | seq m' ys' s =>
  obtain ⟨rfl, rfl, hl, hok⟩ := h
  obtain ⟨a, cap, vs, rfl, hle, hnil, hrl, hlies, _⟩ := rep_seq hr
  obtain ⟨e', he⟩ := hq _ _ _ rfl
  cases a with
  | none =>
   obtain ⟨rfl, rfl, rfl⟩ := hnil rfl
   exact ⟨[], hrl, Src.ofNil c.w he 0⟩
  | some b =>
   refine ⟨vs, hrl, Src.ofSlice c.w he b m cap vs (by rw [RepL.length hrl]; exact hl) (fun j u hj => ?_) (okC_repL' hok hrl)⟩
   have hl2 := (hlies b rfl).resolve_right (by rintro ⟨_, h3⟩; rw [h3] at hj; simp at hj)
   rw [lies_addr hl2, Addr.add_lit]; exact (hl2.2 j u hj).1
 | val u =>
  cases u <;> first | exact h.elim | skip
  obtain ⟨rfl, rfl, rfl⟩ := h
  unfold Rep at hr
  subst hr
  exact ⟨_, repL_string _, Src.ofString c.w (hs _ rfl) _⟩
 | _ => exact h.elim
theorem append_nop {w : World} (t tx ty e : TypeId) (i : TypeInfo) (ht : P.underlying t = some (.slice e)) (hi : P.info? e = some i) (a : Option Addr) (sLen sCap : Nat) (x : Value) (hs : Src P i.size tx x 0 [] w) (hroom : sLen ≤ sCap) :
  (Builtin.append_ #[t, tx] ty #[.slice a sLen sCap, x]).run P w = .ok (.slice a sLen sCap) w := by
 rcases hs.kind with ⟨e', hk⟩ | hk <;> cases a <;> simp [Builtin.append_, run_underlying ht, run_underlying hk, sizeOf, typeInfo, hi, hs.len, hroom, hs.cells, storeCells]
theorem append_new {w : World} (t tx ty e : TypeId) (i : TypeInfo) (z : Value) (ht : P.underlying t = some (.slice e)) (hi : P.info? e = some i) (hz : i.zero = some z) (a : Option Addr) (sLen sCap : Nat) (olds : List Value) (hlo : olds.length = sLen * i.size) (hnil : a = none → sLen = 0)
  (hold : ∀ b, a = some b → ∀ j v, olds[j]? = some v → w.cell? (b.add j) = some v) (x : Value) (m : Nat) (news : List Value) (hs : Src P i.size tx x m news w) (hg : sCap < sLen + m) (hb : (sLen + m) * i.bytes ≤ 140737488355328) (h63 : sLen + m ≤ 9223372036854775807) :
  (Builtin.append_ #[t, tx] ty #[.slice a sLen sCap, x]).run P w = .ok (.slice (some ⟨w.heap.size, 0, none⟩) (sLen + m) (grownCap w (sLen + m) sCap e))
   (w.drew.alloc (.cells ((olds ++ news).toArray ++ Builtin.zeroCells z.cells (grownCap w (sLen + m) sCap e - (sLen + m))) e)) := by
 refine run_append_grow_src w t tx ty e i z ht hi hz a sLen sCap olds ?_ x m news hs hg (by omega) (growslice_fits (by omega) hb)
 cases a with
 | none =>
  have := hnil rfl
  subst this
  have : olds = [] := List.eq_nil_of_length_eq_zero (by simpa using hlo)
  subst this
  exact run_firstCells_none w.drew i.size 0 0 sCap
 | some b => exact run_firstCells_some w.drew i.size sLen b sLen sCap olds hlo (by simpa using hold b rfl)
theorem free_row {σ : Nat → Option Nat} {w : World} (s : Sim B H σ w) {t b m m' : Nat} (ht : H[t]? = some (.free m)) (hb : σ t = some b) {cur : Array Value} {e : TypeId} (hg : w.heap[b]? = some (Obj.cells cur e (0, 0))) {us : List Value} (hl : us.length = cur.size) (hkeep : ∀ j, j < m → us[j]? = cur[j]?) (hm : m ≤ m') (hm' : m' ≤ cur.size) :
  Sim B (H.set t .dead ++ [.free m']) (ext σ H.length (some b)) (w.setRow b us.toArray) ∧ Step B H σ w (H.set t .dead ++ [.free m']) (ext σ H.length (some b)) (w.setRow b us.toArray) := by
 have hlen := lt_of_get ht
 have get : ∀ j o, (H.set t .dead ++ [.free m'])[j]? = some o → (j = H.length ∧ o = .free m') ∨ (j = t ∧ o = .dead) ∨ (j < H.length ∧ j ≠ t ∧ H[j]? = some o) := by
  intro j o h
  rcases get_snoc h with ⟨h1, h2⟩ | ⟨rfl, rfl⟩
  ·rw [List.length_set] at h1
   by_cases hj : j = t
   ·subst hj; rw [List.getElem?_set_self hlen] at h2; cases h2; exact .inr (.inl ⟨rfl, rfl⟩)
   ·rw [List.getElem?_set_ne (Ne.symm hj)] at h2; exact .inr (.inr ⟨h1, hj, h2⟩)
  ·rw [List.length_set]; exact .inl ⟨rfl, rfl⟩
 have own : ∀ x off, OwnWr (ext σ H.length (some b)) (H.set t .dead ++ [.free m']) x off → OwnWr σ H x off := by
  rintro x off ⟨j, oj, h1, h2, h3⟩
  rcases get j oj h1 with ⟨rfl, rfl⟩ | ⟨rfl, rfl⟩ | ⟨h4, h5, h6⟩
  ·rw [ext_new] at h2; cases h2
   exact ⟨t, _, ht, hb, Nat.le_trans hm h3⟩
  ·cases h3
  ·rw [ext_old h4] at h2; exact ⟨j, oj, h6, h2, h3⟩
 have le : (cx B H σ w).Le (cx B (H.set t .dead ++ [.free m']) (ext σ H.length (some b)) (w.setRow b us.toArray)) := by
  refine ⟨by simp [cx], fun i hi => ext_old hi, fun x off u h1 h2 => ⟨?_, fun h => h1 (h.imp id (own x off))⟩, fun x es clk h1 h2 => ⟨?_, fun h => h1 (h.imp id (own x 0))⟩, fun x cs t' fr h1 => ?_⟩
  ·by_cases hx : x = b
   ·subst hx
    have hoff : off < m := by
     rcases Nat.lt_or_ge off m with h3 | h3
     ·exact h3
     ·exact absurd (.inr ⟨t, _, ht, hb, h3⟩) h1
    have h3 : w.cell? ⟨x, off, none⟩ = cur[off]? := by simp [World.cell?, hg]
    have h4 : (w.setRow x us.toArray).cell? ⟨x, off, none⟩ = us[off]? := by simp [World.cell?, heap_setRow_same hg]
    show (w.setRow x us.toArray).cell? ⟨x, off, none⟩ = some u
    rw [h4, hkeep off hoff, ← h3]; exact h2
   ·exact (cell_setRow_other w b _ x off hx).trans h2
  ·have hx : x ≠ b := by rintro rfl; simp only [cx] at h2; rw [hg] at h2; cases h2
   exact (heap_setRow w b _ x hx).trans h2
  ·by_cases hx : x = b
   ·subst hx
    simp only [cx] at h1
    rw [hg] at h1; cases h1
    exact ⟨_, heap_setRow_same hg, by simpa using hl⟩
   ·exact ⟨cs, (heap_setRow w b _ x hx).trans h1, rfl⟩
 refine ⟨⟨?_, ?_, fun x off h => by rw [size_setRow]; exact s.base x off h, ?_⟩, ⟨le, rfl, rfl, rfl, by rw [size_setRow]; exact Nat.le_refl _, ?_, ?_⟩⟩
 ·intro j k x oj ok h1 h2 l1 l2 e1 e2
  rcases get j oj h1 with ⟨rfl, rfl⟩ | ⟨rfl, rfl⟩ | ⟨a4, a5, a6⟩ <;> rcases get k ok h2 with ⟨rfl, rfl⟩ | ⟨rfl, rfl⟩ | ⟨b4, b5, b6⟩ <;> first | rfl | (cases l1; done) | (cases l2; done) | skip
  ·rw [ext_new] at e1; cases e1
   rw [ext_old b4] at e2
   exact absurd (s.inj k t b ok _ b6 ht l2 rfl e2 hb) b5
  ·rw [ext_new] at e2; cases e2
   rw [ext_old a4] at e1
   exact absurd (s.inj j t b oj _ a6 ht l1 rfl e1 hb) a5
  ·rw [ext_old a4] at e1
   rw [ext_old b4] at e2
   exact s.inj j k x oj ok a6 b6 l1 l2 e1 e2
 ·intro j x oj h1 l1 e1 off
  rcases get j oj h1 with ⟨rfl, rfl⟩ | ⟨rfl, rfl⟩ | ⟨a4, a5, a6⟩
  ·rw [ext_new] at e1; cases e1; exact s.sep t b _ ht rfl hb off
  ·cases l1
  ·rw [ext_old a4] at e1; exact s.sep j x oj a6 l1 e1 off
 ·intro j oj h1
  rcases get j oj h1 with ⟨rfl, rfl⟩ | ⟨rfl, rfl⟩ | ⟨a4, a5, a6⟩
  ·intro x hx
   simp only [cx] at hx
   rw [ext_new] at hx; cases hx
   exact ⟨_, e, heap_setRow_same hg, by simpa [hl] using hm'⟩
  ·trivial
  ·have k := s.holds j oj a6
   cases oj with
   | cells zs t' =>
    obtain ⟨x, ws, fr, h5, h6, hf, h7⟩ := k
    have hx : x ≠ b := fun hx => a5 (s.inj j t b _ _ a6 ht rfl rfl (hx ▸ h5) hb)
    exact ⟨x, ws, fr, (ext_old a4).trans h5, (heap_setRow w b _ x hx).trans h6, hf, h7.mono le⟩
   | free m2 =>
    intro x hx
    obtain ⟨cs, t', h5, h6⟩ := k x ((ext_old a4).symm.trans hx)
    have hne : x ≠ b := fun h => a5 (s.inj j t b _ _ a6 ht rfl rfl (h ▸ ((ext_old a4).symm.trans hx)) hb)
    exact ⟨cs, t', (heap_setRow w b _ x hne).trans h5, h6⟩
   | dead => trivial
   | glob g u => obtain ⟨q1, q2⟩ := k; exact le.cell g 0 u q2 q1
   | iter s2 pos =>
    obtain ⟨x, h5, h6⟩ := k
    have hx : x ≠ b := fun hx => a5 (s.inj j t b _ _ a6 ht rfl rfl (hx ▸ h5) hb)
    exact ⟨x, (ext_old a4).trans h5, (heap_setRow w b _ x hx).trans h6⟩
   | smap ks ms =>
    obtain ⟨x, es, clk, h5, h6, h7, h8⟩ := k
    have hx : x ≠ b := fun hx => a5 (s.inj j t b _ _ a6 ht rfl rfl (hx ▸ h5) hb)
    exact ⟨x, es, clk, (ext_old a4).trans h5, (heap_setRow w b _ x hx).trans h6, h7, RepL.mono le h8⟩
 ·intro j oj x h1 h2 h3
  rcases get j oj h1 with ⟨rfl, rfl⟩ | ⟨rfl, rfl⟩ | ⟨a4, a5, a6⟩
  ·rw [ext_new] at h3; cases h3; exact .inr ⟨t, _, ht, rfl, hb⟩
  ·cases h2
  ·rw [ext_old a4] at h3; exact .inr ⟨j, oj, a6, h2, h3⟩
 ·intro x hx hn
  exact heap_setRow w b _ x (fun h => hn t _ ht rfl (h ▸ hb))
theorem drop_name {σ : Nat → Option Nat} {w : World} (s : Sim B H σ w) {t : Nat} {ob : Ob} (ht : H[t]? = some ob) : Sim B (H.set t .dead) σ w ∧ Step B H σ w (H.set t .dead) σ w := by
 have hlen := lt_of_get ht
 have get : ∀ j o, (H.set t .dead)[j]? = some o → (j = t ∧ o = .dead) ∨ (j ≠ t ∧ H[j]? = some o) := by
  intro j o h
  by_cases hj : j = t
  ·subst hj; rw [List.getElem?_set_self hlen] at h; cases h; exact .inl ⟨rfl, rfl⟩
  ·rw [List.getElem?_set_ne (Ne.symm hj)] at h; exact .inr ⟨hj, h⟩
 have own : ∀ x off, OwnWr σ (H.set t .dead) x off → OwnWr σ H x off := by
  rintro x off ⟨j, o, h1, h2, h3⟩
  rcases get j o h1 with ⟨rfl, rfl⟩ | ⟨_, h4⟩
  ·cases h3
  ·exact ⟨j, o, h4, h2, h3⟩
 have le : (cx B H σ w).Le (cx B (H.set t .dead) σ w) := ⟨by simp [cx], fun _ _ => rfl, fun x off u h1 h2 => ⟨h2, fun h => h1 (h.imp id (own x off))⟩, fun x es clk h1 h2 => ⟨h2, fun h => h1 (h.imp id (own x 0))⟩, fun x cs e fr h1 => ⟨cs, h1, rfl⟩⟩
 refine ⟨⟨?_, ?_, s.base, ?_⟩, ⟨le, rfl, rfl, rfl, Nat.le_refl _, ?_, fun _ _ _ => rfl⟩⟩
 ·intro j k x oj ok h1 h2 l1 l2 e1 e2
  rcases get j oj h1 with ⟨rfl, rfl⟩ | ⟨_, h3⟩
  ·cases l1
  ·rcases get k ok h2 with ⟨rfl, rfl⟩ | ⟨_, h4⟩
   ·cases l2
   ·exact s.inj j k x oj ok h3 h4 l1 l2 e1 e2
 ·intro j x oj h1 l1 e1
  rcases get j oj h1 with ⟨rfl, rfl⟩ | ⟨_, h3⟩
  ·cases l1
  ·exact s.sep j x oj h3 l1 e1
 ·intro j oj h1
  rcases get j oj h1 with ⟨rfl, rfl⟩ | ⟨_, h3⟩
  ·trivial
  ·have k := s.holds j oj h3
   cases oj with
   | cells zs t' => obtain ⟨x, ws, fr, h5, h6, hf, h7⟩ := k; exact ⟨x, ws, fr, h5, h6, hf, h7.mono le⟩
   | free m2 => exact k
   | dead => trivial
   | glob g u => obtain ⟨q1, q2⟩ := k; exact le.cell g 0 u q2 q1
   | iter s2 pos => exact k
   | smap ks ms => obtain ⟨x, es, clk, h5, h6, h7, h8⟩ := k; exact ⟨x, es, clk, h5, h6, h7, RepL.mono le h8⟩
 ·intro j oj x h1 h2 h3
  rcases get j oj h1 with ⟨rfl, rfl⟩ | ⟨_, h4⟩
  ·cases h2
  ·exact .inr ⟨j, oj, h4, h2, h3⟩
theorem rep_own_new {w w' : World} {H' : List Ob} {σ' : Nat → Option Nat} {n k cap : Nat} {xs : List PV} {vs : List Value} {cs : Array Value} {e : TypeId} {t : Nat} (hr : RepL (cx B H' σ' w') xs vs) (ht : t < H'.length) (hσ : σ' t = some w.heap.size) (hg : w'.heap[w.heap.size]? = some (Obj.cells cs e (0, 0))) (hl : xs.length = n * k) (hn : n ≤ cap) (hc : cap * k ≤ cs.size)
  (hcs : ∀ j, j < vs.length → cs[j]? = vs[j]?) (hw : ∀ off, off < vs.length → ¬ (cx B H' σ' w').Wr w.heap.size off) : Rep (cx B H' σ' w') (.seq n xs (.own t k)) (.slice (some ⟨w.heap.size, 0, none⟩) n cap) := by
 unfold Rep
 refine ⟨_, cap, vs, rfl, hn, (fun h => by cases h), hr, fun b hb => ?_, ht, hl, .inr ⟨_, cs, e, hσ, rfl, hg, hc⟩⟩
 cases hb
 refine .inl ⟨rfl, fun j u hj => ?_⟩
 have hjl := lt_of_get hj
 refine ⟨?_, by rw [Nat.zero_add]; exact hw j hjl⟩
 show w'.cell? ⟨w.heap.size, 0 + j, none⟩ = some u
 rw [Nat.zero_add]
 simp only [World.cell?, hg, Option.isSome_none, Bool.false_eq_true, if_false]
 rw [hcs j hjl]; exact hj
theorem append_core {σ : Nat → Option Nat} {w : World} (s : Sim B H σ w) {t tx ty e : TypeId} {d de : TD} (f : TyFacts P t d) (hd : d.sh = .slice e) (fe : TyFacts P e de) {n m cap : Nat} {xs ys : List PV} {ad : Option Addr} {vs news : List Value} {x : Value}
  (hle : n ≤ cap) (hnil : ad = none → n = 0 ∧ cap = 0 ∧ vs = []) (hrl : RepL (cx B H σ w) xs vs) (hlies : ∀ b, ad = some b → Lies (cx B H σ w) b vs ∨ (cap = 0 ∧ vs = [])) (hl : xs.length = n * de.size) (hnr : RepL (cx B H σ w) ys news) (hsrc : Src P de.size tx x m news w)
  (hb : (n + m) * de.bytes ≤ 140737488355328) (h63 : n + m ≤ 9223372036854775807) (hc : (m = 0 ∧ cap = n) ∨ cap < n + m) :
  ∃ v' w' σ', (Builtin.append_ #[t, tx] ty #[.slice ad n cap, x]).run P w = .ok v' w' ∧ Rep (cx B (H ++ [.free ((n + m) * de.size)]) σ' w') (.seq (n + m) (xs ++ ys) (.own H.length de.size)) v' ∧ Sim B (H ++ [.free ((n + m) * de.size)]) σ' w' ∧ Step B H σ w (H ++ [.free ((n + m) * de.size)]) σ' w' ∧ Grows w w' := by
 obtain ⟨i, z, hi, hsz, hby, hz, hzr⟩ := fe.info
 rw [← hsz] at hsrc
 have hnl : news.length = m * i.size := hsrc.newsLen
 rcases hc with ⟨rfl, rfl⟩ | hc
 ·have hn0 : news = [] := List.eq_nil_of_length_eq_zero (by simpa using hnl)
  subst hn0
  have hr := append_nop (P := P) (w := w) t tx ty e i (f.slice hd) hi ad cap cap _ hsrc (Nat.le_refl _)
  obtain ⟨s', st⟩ := grow_name s (Grows.refl w) (.free ((cap + 0) * de.size)) none (fun b hb => by cases hb) (fun b hb => by simp only [cx] at hb; rw [ext_new] at hb; cases hb)
  have hy0 : ys = [] := List.eq_nil_of_length_eq_zero (by have := RepL.length hnr; simpa using this.symm)
  subst hy0
  refine ⟨_, w, _, hr, ?_, s', st, Grows.refl w⟩
  unfold Rep
  exact ⟨ad, cap, vs, rfl, by omega, (fun h0 => by have := hnil h0; exact ⟨by omega, this.2⟩), by rw [List.append_nil]; exact RepL.mono st.le hrl, fun b hb => (hlies b hb).imp (·.mono st.le) id, by simp [cx], by simpa using hl, .inl (by omega)⟩
 ·have hvl : vs.length = n * i.size := by rw [RepL.length hrl, hsz]; exact hl
  have hr := append_new (P := P) (w := w) t tx ty e i z (f.slice hd) hi hz ad n cap vs hvl (fun h0 => (hnil h0).1) (fun b hb j v hj => by
   have hl2 := (hlies b hb).resolve_right (by rintro ⟨_, h3⟩; rw [h3] at hj; simp at hj)
   rw [lies_addr hl2, Addr.add_lit]; exact (hl2.2 j v hj).1) _ m news hsrc hc (by rw [hby]; exact hb) h63
  have hzl : z.cells.size = de.size := by have := RepL.length (hzr (cx B H σ w)); rw [Array.length_toList] at this; rw [this]; exact fe.zlen
  have hge := grownCap_ge w (n + m) cap e
  have hsize : ((vs ++ news).toArray ++ Builtin.zeroCells z.cells (grownCap w (n + m) cap e - (n + m))).size = grownCap w (n + m) cap e * de.size := by
   rw [Array.size_append, size_zeroCells, hzl, List.size_toArray, List.length_append, hvl, hnl, hsz, ← Nat.add_mul, ← Nat.add_mul]
   congr 1; omega
  have gr : Grows w (w.drew.alloc (.cells ((vs ++ news).toArray ++ Builtin.zeroCells z.cells (grownCap w (n + m) cap e - (n + m))) e)) := (Grows.drew w).trans (Grows.alloc _ _)
  have hheap : (w.drew.alloc (.cells ((vs ++ news).toArray ++ Builtin.zeroCells z.cells (grownCap w (n + m) cap e - (n + m))) e)).heap[w.heap.size]? = some (Obj.cells ((vs ++ news).toArray ++ Builtin.zeroCells z.cells (grownCap w (n + m) cap e - (n + m))) e (0, 0)) := by
   show (w.heap.push _)[w.heap.size]? = _; simp
  obtain ⟨s', st⟩ := grow_name s gr (.free ((n + m) * de.size)) (some w.heap.size) (fun b hb => by cases hb; exact Nat.le_refl _) (fun b hb => by
   simp only [cx] at hb; rw [ext_new] at hb; cases hb
   exact ⟨_, e, hheap, by rw [hsize]; exact Nat.mul_le_mul_right _ hge⟩)
  refine ⟨_, _, _, hr, ?_, s', st, gr⟩
  refine rep_own_new (vs := vs ++ news) ((RepL.mono st.le hrl).append (RepL.mono st.le hnr)) (by simp) (ext_new _ _ _) hheap ?_ hge (by rw [hsize]; exact Nat.le_refl _) (fun j hj => ?_) (fun off hoff => ?_)
  ·rw [List.length_append, hl, ← RepL.length hnr, hnl, hsz, ← Nat.add_mul]
  ·rw [Array.getElem?_append_left (by simpa using hj)]; simp
  ·have hoff' : off < (n + m) * de.size := by rw [List.length_append, hvl, hnl, hsz, ← Nat.add_mul] at hoff; exact hoff
   rintro (h | ⟨j, oj, h1, h2, h3⟩)
   ·exact absurd (s.base _ _ h) (by simp)
   ·rcases get_snoc h1 with ⟨h4, h5⟩ | ⟨rfl, rfl⟩
    ·rw [ext_old h4] at h2
     have hlv : oj.live = true := by cases oj <;> first | rfl | cases h3
     have := (s.holds j oj h5).lt hlv h2
     simp [cx] at this
    ·simp only [Ob.wr] at h3; omega
theorem append_op {w : World} {a : Act} {x y : Operand} {t tx : TypeId} {v v' : Value} {w' : World} (ho : o.op = .call { callee := .builtin .append, args := #[x, y], argTypes := #[t, tx] }) (hv : a.eval x = v) (hr : (Builtin.append_ #[t, tx] o.type #[v, a.eval y]).run P w = .ok v' w') : (execOp a.eval o).run P w = .ok (.value v') w' := by
 unfold execOp
 simp only [ho, resolve, invoke, builtin, Sem.run_bind, Sem.run_pure, Result.andThen_ok, List.map_toArray, List.map_cons, List.map_nil, hv, hr]
def SrcTy (dx : TD) : PV → Prop
 | .seq _ _ _ => ∃ e', dx.sh = .slice e'
 | .val (.string _) => dx.sh = .str
 | _ => False
theorem src_ty {tx : TypeId} {dx : TD} {c : Cx} {k m : Nat} {x : PV} {v : Value} {ys : List PV} (fx : TyFacts P tx dx) (ht : SrcTy dx x) (h : SrcPV k x m ys) (hr : Rep c x v) : ∃ news : List Value, RepL c ys news ∧ Src P k tx v m news c.w := by
 refine src_of h hr ?_ (fun s hs => ?_) (fun n zs s hs => ?_)
 ·cases x with
  | seq n zs s => obtain ⟨e', h1⟩ := ht; exact .inl ⟨e', fx.slice h1⟩
  | val u => cases u <;> first | exact ht.elim | exact .inr (fx.str ht)
  | _ => exact ht.elim
 ·subst hs; exact fx.str ht
 ·subst hs; obtain ⟨e', h1⟩ := ht; exact ⟨e', fx.slice h1⟩
theorem does_append_clip {t tx e : TypeId} {d de dx : TD} {x y : Operand} {n m : Nat} {xs ys : List PV} (f : TyFacts P t d) (hd : d.sh = .slice e) (fe : TyFacts P e de) (fx : TyFacts P tx dx)
  (ho : o.op = .call { callee := .builtin .append, args := #[x, y], argTypes := #[t, tx] }) (hx : opv T x = .seq n xs .clip) (ht : SrcTy dx (opv T y)) (hy : SrcPV de.size (opv T y) m ys) (hl : xs.length = n * de.size)
  (hb : (n + m) * de.bytes ≤ 140737488355328) (h63 : n + m ≤ 9223372036854775807) :
  Does P B o T H (.seq (n + m) (xs ++ ys) (.own H.length de.size)) (H ++ [.free ((n + m) * de.size)]) := by
 intro σ w a s h
 have k1 := h x (by simp [ho, Op.operands, Call.operands])
 have k2 := h y (by simp [ho, Op.operands, Call.operands])
 rw [hx] at k1
 obtain ⟨ad, cap, vs, hv, hle, hnil, hrl, hlies, hk⟩ := rep_seq k1
 have hcap : cap = n := hk
 subst hcap
 obtain ⟨news, hnr, hsrc⟩ := src_ty fx ht hy k2
 obtain ⟨v', w', σ', h1, h2, h3, h4, _⟩ := append_core (ty := o.type) s f hd fe hle hnil hrl hlies hl hnr hsrc hb h63 (by omega)
 exact ⟨v', w', σ', .inl (append_op ho hv h1), h2, h3, h4⟩
theorem does_append_own {t tx e : TypeId} {d de dx : TD} {x y : Operand} {n m k q mt : Nat} {xs ys : List PV} (f : TyFacts P t d) (hd : d.sh = .slice e) (fe : TyFacts P e de) (fx : TyFacts P tx dx)
  (ho : o.op = .call { callee := .builtin .append, args := #[x, y], argTypes := #[t, tx] }) (hx : opv T x = .seq n xs (.own q k)) (hq : H[q]? = some (.free mt)) (hk : k = de.size) (hmt : mt ≤ n * k) (ht : SrcTy dx (opv T y)) (hy : SrcPV de.size (opv T y) m ys)
  (hb : (n + m) * de.bytes ≤ 140737488355328) (h63 : n + m ≤ 9223372036854775807) :
  Does P B o T H (.seq (n + m) (xs ++ ys) (.own H.length de.size)) (H.set q .dead ++ [.free ((n + m) * de.size)]) := by
 intro σ w a s h
 subst hk
 have k1 := h x (by simp [ho, Op.operands, Call.operands])
 have k2 := h y (by simp [ho, Op.operands, Call.operands])
 rw [hx] at k1
 obtain ⟨ad, cap, vs, hv, hle, hnil, hrl, hlies, hqN, hl, hown⟩ := rep_seq k1
 obtain ⟨news, hnr, hsrc0⟩ := src_ty fx ht hy k2
 have hsrc : Src P de.size tx (a.eval y) m news w := hsrc0
 clear hsrc0
 have viaNew : ((m = 0 ∧ cap = n) ∨ cap < n + m) → ∃ v' w' σ', ((execOp a.eval o).run P w = .ok (.value v') w' ∨ (execOp a.eval o).run P w = .ok .skip w' ∧ v' = undef) ∧ Rep (cx B (H.set q .dead ++ [.free ((n + m) * de.size)]) σ' w') (.seq (n + m) (xs ++ ys) (.own H.length de.size)) v' ∧ Sim B (H.set q .dead ++ [.free ((n + m) * de.size)]) σ' w' ∧ Step B H σ w (H.set q .dead ++ [.free ((n + m) * de.size)]) σ' w' := by
  intro hc
  obtain ⟨s1, st1⟩ := drop_name s hq
  obtain ⟨v', w', σ', h1, h2, h3, h4, _⟩ := append_core (ty := o.type) s1 f hd fe hle hnil (RepL.mono st1.le hrl) (fun b hb => (hlies b hb).imp (·.mono st1.le) id) hl (RepL.mono st1.le hnr) hsrc hb h63 hc
  rw [List.length_set] at h2
  exact ⟨v', w', σ', .inl (append_op ho hv h1), h2, h3, st1.trans h4⟩
 rcases hown with hcap | ⟨b, cs, e', hσ, rfl, hg, hcs⟩
 ·exact viaNew (by omega)
 ·simp only [cx] at hσ hg
  by_cases hroom : n + m ≤ cap
  ·obtain ⟨i, z, hi, hsz, hby, hz, hzr⟩ := fe.info
   rw [← hsz] at hsrc
   have hnl : news.length = m * de.size := by rw [hsrc.newsLen, hsz]
   have hvl : vs.length = n * de.size := by rw [RepL.length hrl]; exact hl
   have hfit : (n + m) * de.size ≤ cs.size := Nat.le_trans (Nat.mul_le_mul_right _ hroom) hcs
   have hfit' : n * de.size + news.length ≤ cs.size := by rw [hnl, ← Nat.add_mul]; exact hfit
   have hst := run_storeCells_at P b (n * de.size) e' news 0 cs w hg (by simpa using hfit') hsrc.one
   simp only [Nat.add_zero] at hst
   have hr : (Builtin.append_ #[t, tx] o.type #[.slice (some ⟨b, 0, none⟩) n cap, a.eval y]).run P w = .ok (.slice (some ⟨b, 0, none⟩) (n + m) cap) (w.setRow b (cs.toList.take (n * de.size) ++ news ++ cs.toList.drop (n * de.size + news.length)).toArray) := by
    have hcl := hsrc.cells
    rw [hsz] at hcl
    rw [List.append_assoc] at hst ⊢
    rcases hsrc.kind with ⟨e2, hk⟩ | hk <;> simp [Builtin.append_, run_underlying (f.slice hd), run_underlying hk, sizeOf, typeInfo, hi, hsrc.len, hroom, hcl, Addr.add_lit, hsz, hst]
   have hul : (cs.toList.take (n * de.size) ++ news ++ cs.toList.drop (n * de.size + news.length)).length = cs.size := by
    simp only [List.length_append, List.length_take, List.length_drop, Array.length_toList]; omega
   obtain ⟨s', st⟩ := free_row s (m' := (n + m) * de.size) hq hσ hg hul (fun j hj => by
    rw [List.append_assoc, List.getElem?_append_left (by simp only [List.length_take, Array.length_toList]; omega), List.getElem?_take, if_pos (by omega)]; simp) (Nat.le_trans hmt (Nat.mul_le_mul_right _ (by omega))) hfit
   refine ⟨_, _, _, .inl (append_op ho hv hr), ?_, s', st⟩
   have hl2 : ∀ j u, vs[j]? = some u → (cx B H σ w).w.cell? ⟨b, 0 + j, none⟩ = some u ∧ ¬ (cx B H σ w).Wr b (0 + j) := fun j u hj => ((hlies _ rfl).resolve_right (by rintro ⟨_, h3⟩; rw [h3] at hj; simp at hj)).2 j u hj
   have hheap := heap_setRow_same (cs' := (cs.toList.take (n * de.size) ++ news ++ cs.toList.drop (n * de.size + news.length)).toArray) hg
   have hvs : ∀ j, j < vs.length → cs[j]? = vs[j]? := fun j hj => by
    have h1 := (hl2 j vs[j] (List.getElem?_eq_getElem hj)).1
    simp only [cx, World.cell?, Nat.zero_add, hg, Option.isSome_none, Bool.false_eq_true, if_false] at h1
    rw [h1, List.getElem?_eq_getElem hj]
   unfold Rep
   refine ⟨_, cap, vs ++ news, rfl, hroom, (fun h => by cases h), (RepL.mono st.le hrl).append (RepL.mono st.le hnr), fun b1 hb1 => ?_, by simp [cx], ?_, .inr ⟨b, _, e', by simp only [cx]; exact ext_new _ _ _, rfl, hheap, by rw [List.size_toArray, hul]; exact hcs⟩⟩
   ·cases hb1
    refine .inl ⟨rfl, fun j u hj => ?_⟩
    have hjl := lt_of_get hj
    rw [List.length_append, hvl, hnl, ← Nat.add_mul] at hjl
    refine ⟨?_, ?_⟩
    ·show (w.setRow b _).cell? ⟨b, 0 + j, none⟩ = some u
     rw [Nat.zero_add]
     simp only [World.cell?, hheap, Option.isSome_none, Bool.false_eq_true, if_false]
     rw [List.getElem?_toArray, List.append_assoc]
     by_cases hjn : j < n * de.size
     ·rw [List.getElem?_append_left (by simp only [List.length_take, Array.length_toList]; omega), List.getElem?_take, if_pos hjn]
      rw [List.getElem?_append_left (by omega)] at hj
      rw [Array.getElem?_toList, hvs j (by omega)]; exact hj
     ·rw [List.getElem?_append_right (by omega)] at hj
      rw [List.getElem?_append_right (by simp only [List.length_take, Array.length_toList]; omega)]
      have e1 : j - (cs.toList.take (n * de.size)).length = j - vs.length := by simp only [List.length_take, Array.length_toList]; omega
      have hjl' : j < n * de.size + m * de.size := by rw [← Nat.add_mul]; exact hjl
      rw [e1, List.getElem?_append_left (by rw [hnl, hvl]; omega)]
      exact hj
    ·rintro (h' | ⟨j', oj, h1, h2, h3⟩)
     ·exact s.sep q b _ hq rfl hσ _ h'
     ·rcases get_snoc h1 with ⟨h4, h5⟩ | ⟨rfl, rfl⟩
      ·rw [List.length_set] at h4
       by_cases hj' : j' = q
       ·subst hj'
        rw [List.getElem?_set_self h4] at h5; cases h5; cases h3
       ·rw [List.getElem?_set_ne (Ne.symm hj')] at h5
        rw [ext_old h4] at h2
        have hlv : oj.live = true := by cases oj <;> first | rfl | cases h3
        exact hj' (s.inj j' q b oj _ h5 hq hlv rfl h2 hσ)
      ·simp only [Ob.wr, Nat.zero_add] at h3; omega
   ·rw [List.length_append, hl, ← RepL.length hnr, hnl, ← Nat.add_mul]
  ·exact viaNew (by omega)
end
end Go.Proofs.Ytlponhgbbfgkgaa
namespace Go.Proofs.Ytlponhgbbfgkgaa
open Go.RowKit
theorem repL_of_get {c : Cx} : ∀ {xs : List PV} {vs : List Value} (_ : vs.length = xs.length) (_ : ∀ (j : Nat) (x : PV), xs[j]? = some x → ∃ u, vs[j]? = some u ∧ Rep c x u), RepL c xs vs
 | [], [], _, _ => repL_nil.2 rfl
 | x :: xs, v :: vs, hl, h => by
  refine repL_cons.2 ⟨?_, repL_of_get (by simpa using hl) (fun j y hj => by have := h (j + 1) y (by simpa using hj); simpa using this)⟩
  obtain ⟨u, h1, h2⟩ := h 0 x rfl
  cases h1; exact h2
 | [], v :: vs, hl, _ => by simp at hl
 | x :: xs, [], hl, _ => by simp at hl
def zerosPV (n : Nat) (d : TD) : List PV := (List.replicate n d.zero).flatten
theorem flatten_rep {α : Type} (z : List α) : ∀ (n j : Nat), (List.replicate n z).flatten[j]? = if j < n * z.length then z[j % z.length]? else none
 | 0, j => by simp
 | n + 1, j => by
  rw [List.replicate_succ, List.flatten_cons]
  by_cases h : j < z.length
  ·rw [List.getElem?_append_left h, if_pos (by rw [Nat.add_mul]; omega), Nat.mod_eq_of_lt h]
  ·rw [List.getElem?_append_right (by omega), flatten_rep z n (j - z.length)]
   have e : (n + 1) * z.length = n * z.length + z.length := by rw [Nat.add_mul, Nat.one_mul]
   by_cases h2 : j < (n + 1) * z.length
   ·rw [if_pos h2, if_pos (by omega)]
    congr 1
    rw [Nat.mod_eq_sub_mod (a := j) (by omega)]
   ·rw [if_neg h2, if_neg (by omega)]
theorem zerosPV_len (n : Nat) (d : TD) (h : d.zero.length = d.size) : (zerosPV n d).length = n * d.size := by
 unfold zerosPV; rw [List.length_flatten]; simp [h]
theorem zeros_rep {P : Program} {e : TypeId} {de : TD} (fe : TyFacts P e de) (n : Nat) (z : Value) (hz : ∀ c, RepL c de.zero z.cells.toList) (c : Cx) : RepL c (zerosPV n de) (madeCells z.cells (n * de.size)).toList := by
 have hzl : z.cells.size = de.size := by have := RepL.length (hz c); rw [Array.length_toList] at this; rw [this]; exact fe.zlen
 refine repL_of_get (by rw [Array.length_toList, size_madeCells, zerosPV_len _ _ fe.zlen]) (fun j x hj => ?_)
 unfold zerosPV at hj
 rw [flatten_rep] at hj
 rw [fe.zlen] at hj
 split at hj
 ·rename_i hlt
  obtain ⟨u, hu, hr⟩ := (hz c).get hj
  refine ⟨u, ?_, hr⟩
  unfold madeCells
  rw [hzl]
  rw [Array.getElem?_toList] at hu
  obtain ⟨h1, h2⟩ := Array.getElem?_eq_some_iff.1 hu
  simp [hlt]
  rw [getElem!_pos z.cells (j % de.size) h1, h2]
 ·cases hj
section
variable {P : Program} {B : Nat → Nat → Prop} {o : Oper} {T : Nat → PV} {H : List Ob}
theorem builtin_op {b : Builtin} {w : World} {a : Act} {args : Array Operand} {ats : Array TypeId} {r : Result Next} (ho : o.op = .call { callee := .builtin b, args := args, argTypes := ats }) (hr : (builtin b ats o.type (args.map fun | .const _ => true | _ => false) (args.map a.eval)).run P w = r) : (execOp a.eval o).run P w = r := by
 unfold execOp
 simp only [ho, resolve, invoke, Sem.run_bind, Sem.run_pure, Result.andThen_ok]
 exact hr
theorem does_len_seq {t : TypeId} {d : TD} {e : Nat} {x : Operand} {n : Nat} {xs : List PV} {s : SK} (f : TyFacts P t d) (hd : d.sh = .slice e) (ho : o.op = .call { callee := .builtin .len, args := #[x], argTypes := #[t] }) (hx : opv T x = .seq n xs s) : Does P B o T H (.val (.int .i64 n)) H :=
 does_pure fun σ w a s' h => by
  have k1 := h x (by simp [ho, Op.operands, Call.operands])
  rw [hx] at k1
  obtain ⟨ad, cap, vs, hv, _⟩ := rep_seq k1
  refine ⟨.int .i64 n, builtin_op ho ?_, rep_val _ _⟩
  simp [builtin, Builtin.len_, run_underlying (f.slice hd), hv, goInt]
theorem does_len_arr {t : TypeId} {d : TD} {e : Nat} {x : Operand} {id off n cap : Nat} (f : TyFacts P t d) (hd : d.sh = .slice e) (ho : o.op = .call { callee := .builtin .len, args := #[x], argTypes := #[t] }) (hx : opv T x = .arr id off n cap) : Does P B o T H (.val (.int .i64 n)) H :=
 does_pure fun σ w a s' h => by
  have k1 := h x (by simp [ho, Op.operands, Call.operands])
  rw [hx] at k1
  unfold Rep at k1
  obtain ⟨_, b, _, hv⟩ := k1
  refine ⟨.int .i64 n, builtin_op ho ?_, rep_val _ _⟩
  simp [builtin, Builtin.len_, run_underlying (f.slice hd), hv, goInt]
theorem does_len_arw {t : TypeId} {d : TD} {e : Nat} {x : Operand} {id off n : Nat} (f : TyFacts P t d) (hd : d.sh = .slice e) (ho : o.op = .call { callee := .builtin .len, args := #[x], argTypes := #[t] }) (hx : opv T x = .arw id off n) : Does P B o T H (.val (.int .i64 n)) H :=
 does_pure fun σ w a s' h => by
  have k1 := h x (by simp [ho, Op.operands, Call.operands])
  rw [hx] at k1
  unfold Rep at k1
  obtain ⟨_, b, cap, _, _, hv⟩ := k1
  refine ⟨.int .i64 n, builtin_op ho ?_, rep_val _ _⟩
  simp [builtin, Builtin.len_, run_underlying (f.slice hd), hv, goInt]
theorem does_len_str {t : TypeId} {d : TD} {x : Operand} {s : ByteArray} (f : TyFacts P t d) (hd : d.sh = .str) (ho : o.op = .call { callee := .builtin .len, args := #[x], argTypes := #[t] }) (hx : opv T x = .val (.string s)) : Does P B o T H (.val (.int .i64 s.size)) H :=
 does_pure fun σ w a s' h => by
  have k1 := h x (by simp [ho, Op.operands, Call.operands])
  rw [hx] at k1
  unfold Rep at k1
  refine ⟨.int .i64 s.size, builtin_op ho ?_, rep_val _ _⟩
  simp [builtin, Builtin.len_, run_underlying (f.str hd), k1, goInt]
theorem does_min {ats : Array TypeId} {x y : Operand} {u v r : Value} (ho : o.op = .call { callee := .builtin .min, args := #[x, y], argTypes := ats }) (hx : opv T x = .val u) (hy : opv T y = .val v) (hr : pureOf (Builtin.min_ ats o.type #[u, v]) = some r) : Does P B o T H (.val r) H :=
 does_pure fun σ w a s' h => by
  have k1 := h x (by simp [ho, Op.operands, Call.operands])
  have k2 := h y (by simp [ho, Op.operands, Call.operands])
  rw [hx] at k1
  rw [hy] at k2
  unfold Rep at k1 k2
  refine ⟨r, builtin_op ho ?_, rep_val _ _⟩
  simp [builtin, k1, k2, pureOf_run hr P w]
theorem does_max {ats : Array TypeId} {x y : Operand} {u v r : Value} (ho : o.op = .call { callee := .builtin .max, args := #[x, y], argTypes := ats }) (hx : opv T x = .val u) (hy : opv T y = .val v) (hr : pureOf (Builtin.max_ ats o.type #[u, v]) = some r) : Does P B o T H (.val r) H :=
 does_pure fun σ w a s' h => by
  have k1 := h x (by simp [ho, Op.operands, Call.operands])
  have k2 := h y (by simp [ho, Op.operands, Call.operands])
  rw [hx] at k1
  rw [hy] at k2
  unfold Rep at k1 k2
  refine ⟨r, builtin_op ho ?_, rep_val _ _⟩
  simp [builtin, k1, k2, pureOf_run hr P w]
theorem foldl_set (off : Nat) : ∀ (l : List Value) (k : Nat) (cs : Array Value), off + k + l.length ≤ cs.size → ((l.zipIdx k).foldl (fun cs (p : Value × Nat) => cs.setIfInBounds (off + p.2) p.1) cs).toList = cs.toList.take (off + k) ++ l ++ cs.toList.drop (off + k + l.length)
 | [], k, cs, _ => by simp
 | v :: l, k, cs, h => by
  simp only [List.zipIdx_cons, List.foldl_cons]
  rw [foldl_set off l (k + 1) (cs.setIfInBounds (off + k) v) (by simp at h ⊢; omega)]
  simp only [Array.toList_setIfInBounds]
  have hk : off + k < cs.toList.length := by simp at h ⊢; omega
  have e1 : (cs.toList.set (off + k) v).take (off + (k + 1)) = cs.toList.take (off + k) ++ [v] := by
   rw [← Nat.add_assoc, List.take_succ_eq_append_getElem (by simpa using hk), List.take_set_of_le (Nat.le_refl _)]
   simp
  have e2 : (cs.toList.set (off + k) v).drop (off + (k + 1) + l.length) = cs.toList.drop (off + k + (v :: l).length) := by
   rw [List.drop_set_of_lt (by omega)]
   congr 1
   simp only [List.length_cons]; omega
  rw [e1, e2]; simp
def fillPV (pl : Nat → Option (Nat × Nat)) (T : Nat → PV) : List (Nat × Operand) → List PV → Option (List PV)
 | [], cells => some cells
 | (i, x) :: rest, cells => match pl i with
  | some (of, z) => match cellsPV (opv T x) with
   | some ys => match Nat.beq ys.length z with
    | true => match Nat.ble (of + z) cells.length with
     | true => fillPV pl T rest (splice cells of ys)
     | false => none
    | false => none
   | none => none
  | none => none
theorem fill_rep {c : Cx} {ρ : Operand → Value} (pl : Nat → Option (Nat × Nat)) : ∀ (parts : List (Nat × Operand)) (cells out : List PV) (cs : Array Value), RepL c cells cs.toList → fillPV pl T parts cells = some out → (∀ p ∈ parts, Rep c (opv T p.2) (ρ p.2)) →
  ∃ cs', Instr.fill pl cs (parts.map fun p => (p.1, ρ p.2)) = some cs' ∧ RepL c out cs'.toList
 | [], cells, out, cs, h, hf, _ => by injection hf with hf; subst hf; exact ⟨cs, rfl, h⟩
 | (i, x) :: rest, cells, out, cs, h, hf, hp => by
  simp only [fillPV] at hf
  split at hf
  ·rename_i of z hpl
   split at hf
   ·rename_i ys hys
    split at hf
    ·rename_i hz
     split at hf
     ·rename_i hle
      rw [Nat.beq_eq] at hz
      rw [Nat.ble_eq] at hle
      have hx := cellsPV_rep hys (hp (i, x) (by simp))
      have hl : (ρ x).cells.size = ys.length := by have := RepL.length hx; rwa [Array.length_toList] at this
      have hcl := RepL.length h
      rw [Array.length_toList] at hcl
      have hfit : of + 0 + (ρ x).cells.toList.length ≤ cs.size := by rw [Array.length_toList]; omega
      have hs := foldl_set of (ρ x).cells.toList 0 cs hfit
      simp only [Nat.add_zero, Array.length_toList] at hs
      have hr : RepL c (splice cells of ys) ((ρ x).cells.zipIdx.foldl (fun cs (p : Value × Nat) => cs.setIfInBounds (of + p.2) p.1) cs).toList := by
       rw [← Array.foldl_toList, Array.toList_zipIdx, hs]
       unfold splice
       rw [hl]
       exact ((h.take of).append hx).append (h.drop _)
      obtain ⟨cs', h1, h2⟩ := fill_rep pl rest _ out _ hr hf (fun p hp' => hp p (by simp [hp']))
      refine ⟨cs', ?_, h2⟩
      simp only [List.map_cons, Instr.fill, hpl]
      rw [if_neg (by simp; omega)]
      exact h1
     ·cases hf
    ·cases hf
   ·cases hf
  ·cases hf
theorem places_of {F : List Field} : ∀ {fs : List (Nat × Nat × Bool)}, F.length = fs.length → (F.zip fs).all (fieldOk P) = true → F.mapM (fun f => (P.info? f.type).map fun i => (f.offset, i.size)) = some (fs.map fun q => (q.1, q.2.1)) := by
 induction F with
 | nil => intro fs hl _; cases fs with | nil => rfl | cons _ _ => simp at hl
 | cons f F ih =>
  intro fs hl h
  cases fs with
  | nil => simp at hl
  | cons q fs =>
   obtain ⟨of, z, g⟩ := q
   simp only [List.zip_cons_cons, List.all_cons, Bool.and_eq_true] at h
   obtain ⟨h1, h2⟩ := h
   have h3 := ih (by simpa using hl) h2
   simp only [fieldOk, Bool.and_eq_true, decide_eq_true_eq] at h1
   obtain ⟨⟨⟨h6, h7⟩, h8⟩, h9⟩ := h1
   cases hi : P.info? f.type with
   | none => rw [hi] at h8; cases h8
   | some i => rw [hi] at h8; simp at h8; simp [List.mapM_cons, hi, h3, h6, h8]
theorem does_build_struct {t : TypeId} {d : TD} {fs : List (Nat × Nat × Bool)} {parts : Array (Nat × Operand)} {out : List PV} (f : TyFacts P t d) (hd : d.sh = .struct fs) (ho : o.op = .build t parts) (hf : fillPV (fun i => match fs[i]? with | some (of, z, _) => some (of, z) | none => none) T parts.toList d.zero = some out) : Does P B o T H (.agg out) H :=
 does_pure fun σ w a s h => by
  obtain ⟨i, z, hi, hsz, hby, hz, hzr⟩ := f.info
  obtain ⟨u, hu, hsh⟩ := f.under
  rw [hd] at hsh
  cases u with
  | struct F =>
   simp only [shOk, Bool.and_eq_true, decide_eq_true_eq] at hsh
   have hpl := places_of (P := P) (F := F.toList) (fs := fs) (by simpa using hsh.1) hsh.2
   obtain ⟨cs', h1, h2⟩ := fill_rep (c := cx B H σ w) (ρ := a.eval) _ parts.toList d.zero out z.cells (hzr _) hf (fun p hp => h p.2 (by
    simp only [ho, Op.operands]
    exact List.mem_map.2 ⟨p, hp, rfl⟩))
   refine ⟨.agg cs', ?_, by unfold Rep; exact ⟨cs'.toList, by simp, h2⟩⟩
   have hb : P.built t (parts.map fun p => (p.1, a.eval p.2)).toList = some cs' := by
    unfold Program.built
    rw [hi, hu]
    simp only [hz, hpl]
    rw [Array.toList_map]
    rw [← h1]
    congr 1
    funext j
    simp only [List.getElem?_toArray, List.getElem?_map]
    cases fs[j]? with
    | none => rfl
    | some q => rfl
   have := run_build (P := P) w t (parts.map fun p => (p.1, a.eval p.2)) cs' hb
   simp [execOp, ho, this]
  | _ => cases hsh
theorem does_build_array {t e : TypeId} {d de : TD} {n : Nat} {parts : Array (Nat × Operand)} {out : List PV} (f : TyFacts P t d) (hd : d.sh = .array n e) (fe : TyFacts P e de) (ho : o.op = .build t parts) (hf : fillPV (fun i => some (i * de.size, de.size)) T parts.toList d.zero = some out) : Does P B o T H (.agg out) H :=
 does_pure fun σ w a s h => by
  obtain ⟨i, z, hi, hsz, hby, hz, hzr⟩ := f.info
  obtain ⟨ie, ze, hie, hsze, _⟩ := fe.info
  obtain ⟨cs', h1, h2⟩ := fill_rep (c := cx B H σ w) (ρ := a.eval) _ parts.toList d.zero out z.cells (hzr _) hf (fun p hp => h p.2 (by
   simp only [ho, Op.operands]
   exact List.mem_map.2 ⟨p, hp, rfl⟩))
  refine ⟨.agg cs', ?_, by unfold Rep; exact ⟨cs'.toList, by simp, h2⟩⟩
  have hb : P.built t (parts.map fun p => (p.1, a.eval p.2)).toList = some cs' := by
   unfold Program.built
   rw [hi, f.array hd]
   simp only [hz, hie]
   rw [Array.toList_map, ← h1, hsze]
  have := run_build (P := P) w t (parts.map fun p => (p.1, a.eval p.2)) cs' hb
  simp [execOp, ho, this]
theorem does_buildSlice {t e : TypeId} {d de : TD} {n : Nat} {parts : Array (Nat × Operand)} {out : List PV} (f : TyFacts P t d) (hd : d.sh = .slice e) (fe : TyFacts P e de) (ho : o.op = .buildSlice t n parts) (hn : Nat.ble (n * de.size) 16777216 = true) (hf : fillPV (fun i => some (i * de.size, de.size)) T parts.toList (zerosPV n de) = some out) : Does P B o T H (.seq n out .clip) H := by
 intro σ w a s h
 obtain ⟨i, z, hi, hsz, hby, hz, hzr⟩ := fe.info
 rw [Nat.ble_eq] at hn
 obtain ⟨cs', h1, h2⟩ := fill_rep (c := cx B H σ w) (ρ := a.eval) _ parts.toList _ out (madeCells z.cells (n * de.size)) (zeros_rep fe n z hzr _) hf (fun p hp => h p.2 (by
  simp only [ho, Op.operands]
  exact List.mem_map.2 ⟨p, hp, rfl⟩))
 obtain ⟨s', st⟩ := grow_sim s (Grows.alloc w (.cells cs' e))
 refine ⟨.slice (some ⟨w.heap.size, 0, none⟩) n n, w.alloc (.cells cs' e), σ, .inl ?_, ?_, s', st⟩
 ·have hg : ¬ (16777216 < n * de.size) := by omega
  have hmk : madeCells z.cells (n * de.size) = Array.map (fun x => z.cells[x % z.cells.size]!) (Array.range (n * de.size)) := rfl
  by_cases h0 : n * de.size = 0
  ·have hm0 : madeCells z.cells (n * de.size) = #[] := by rw [h0]; simp [madeCells]
   rw [hm0] at h1
   simp [execOp, ho, Instr.buildSlice, run_underlying (f.slice hd), fe.sizeOf, h0, newRow]
   rw [Array.range_zero', Array.map_empty, h1]
   simp
  ·rw [hmk] at h1
   simp [execOp, ho, Instr.buildSlice, run_underlying (f.slice hd), fe.sizeOf, hg, h0, zeroValue, typeInfo, hi, hz, newRow]
   rw [h1]
   simp
 ·unfold Rep
  refine ⟨_, n, cs'.toList, rfl, Nat.le_refl _, (fun h => by cases h), RepL.mono st.le h2, fun b hb => ?_, rfl⟩
  cases hb
  refine .inl ⟨rfl, fun j u hj => ⟨?_, ?_⟩⟩
  ·show (w.alloc (.cells cs' e)).cell? ⟨w.heap.size, 0 + j, none⟩ = _
   rw [cell_alloc_new _ _ _ _ _ _ rfl, Nat.zero_add]
   rw [← Array.getElem?_toList]; exact hj
  ·rintro (h' | ⟨i', oi, h3, h4, h5⟩)
   ·exact absurd (s.base _ _ h') (by simp)
   ·have hl : oi.live = true := by cases oi <;> first | rfl | cases h5
    have := (s.holds i' oi h3).lt hl h4
    simp [cx] at this
theorem does_makeSlice {t e : TypeId} {d de : TD} {x y : Operand} {k k' : IntKind} {n : Int} (f : TyFacts P t d) (hd : d.sh = .slice e) (fe : TyFacts P e de) (ho : o.op = .makeSlice t x y) (hx : opv T x = .val (.int k n)) (hy : opv T y = .val (.int k' n)) (h0 : 0 ≤ n) (hb : (de.bytes : Int) * n ≤ 281474976710656) (h63 : n ≤ 9223372036854775807) :
  Does P B o T H (.arr H.length 0 n.toNat n.toNat) (H ++ [.cells (zerosPV n.toNat de) e]) := by
 intro σ w a s h
 have k1 := h x (by simp [ho, Op.operands])
 have k2 := h y (by simp [ho, Op.operands])
 rw [hx] at k1
 rw [hy] at k2
 unfold Rep at k1 k2
 obtain ⟨i, z, hi, hsz, hby, hz, hzr⟩ := fe.info
 have hr := run_make (P := P) w t e i z (f.slice hd) hi hz k k' n n h0 (Int.le_refl _) (by rw [hby]; exact hb) h63
 obtain ⟨s', st⟩ := name_cells s (zerosPV n.toNat de) (madeCells z.cells (n.toNat * de.size)).toList e (zeros_rep fe n.toNat z hzr _)
 rw [Array.toArray_toList] at s' st
 rw [hsz] at hr
 refine ⟨_, _, _, .inl (by simp [execOp, ho, k1, k2, hr]; rfl), ?_, s', st⟩
 unfold Rep
 exact ⟨by simp [cx], w.heap.size, by simp only [cx]; exact ext_new _ _ _, rfl⟩
end
end Go.Proofs.Ytlponhgbbfgkgaa
namespace Go.Proofs.Ytlponhgbbfgkgaa
open Go.RowKit
def HC (P : Program) (f : FuncId) (args : List PV) (H : List Ob) (res : PV) (H' : List Ob) : Prop :=
 ∀ (B : Nat → Nat → Prop) (σ : Nat → Option Nat) (w : World) (vs : List Value), Sim B H σ w → RepL (cx B H σ w) args vs →
  Calls P f vs.toArray w fun e w' => ∃ v σ', e = .returned v ∧ Rep (cx B H' σ' w') res v ∧ Sim B H' σ' w' ∧ Step B H σ w H' σ' w'
def PureC (P : Program) (f : FuncId) (args : List PV) (res : PV) : Prop := ∀ H, HC P f args H res H
section
variable {P : Program} {B : Nat → Nat → Prop} {o : Oper} {T : Nat → PV} {H : List Ob}
theorem repL_ops {c : Cx} {ρ : Operand → Value} : ∀ (l : List Operand), (∀ y ∈ l, Rep c (opv T y) (ρ y)) → RepL c (l.map (opv T)) (l.map ρ)
 | [], _ => repL_nil.2 rfl
 | y :: l, h => repL_cons.2 ⟨h y (by simp), repL_ops l (fun z hz => h z (by simp [hz]))⟩
theorem run_callFunc_go {f : FuncId} {fn : Func} (hf : P.funcs[f]? = some fn) (hb : fn.body.isNone = false) (hn : (fn.name == "runtime.NumGoroutine") = false) (args : Array Value) (w : World) : (callFunc f args).run P w = .ok (.enter f args) w := by
 unfold callFunc
 simp only [Sem.run_bind, run_program, Result.andThen_ok, hf, hn, hb]
 rfl
theorem doesC_func {f : FuncId} {fn : Func} {args : Array Operand} {ats : Array TypeId} {res : PV} {H' : List Ob} (ho : o.op = .call { callee := .value (.func f), args := args, argTypes := ats }) (hf : P.funcs[f]? = some fn) (hb : fn.body.isNone = false) (hn : (fn.name == "runtime.NumGoroutine") = false)
  (h : HC P f (args.toList.map (opv T)) H res H') : DoesC P B o T H res H' := by
 intro σ w a s ha
 refine ⟨f, (args.toList.map a.eval).toArray, ?_, h B σ w _ s (repL_ops _ (fun y hy => ha y ?_))⟩
 ·unfold execOp
  simp only [ho, resolve, Act.eval, Deferred.ofValue, invoke, Sem.run_bind, Sem.run_pure, Result.andThen_ok]
  rw [run_callFunc_go hf hb hn]
  simp
  rw [← Array.toList_map]
 ·rw [ho]; simp [Op.operands, Call.operands]; exact .inr (by simpa using hy)
theorem doesC_value {f : FuncId} {fn : Func} {x : Operand} {first cap : List PV} {args : Array Operand} {ats : Array TypeId} {res : PV} {H' : List Ob} (ho : o.op = .call { callee := .value x, args := args, argTypes := ats }) (hx : opv T x = .fn (.func f) first cap) (hf : P.funcs[f]? = some fn) (hb : fn.body.isNone = false) (hn : (fn.name == "runtime.NumGoroutine") = false)
  (h : HC P f (first ++ args.toList.map (opv T) ++ cap) H res H') : DoesC P B o T H res H' := by
 intro σ w a s ha
 have k1 := ha x (by rw [ho]; simp [Op.operands, Call.operands])
 rw [hx] at k1
 unfold Rep at k1
 obtain ⟨fs, cs, hv, h1, h2⟩ := k1
 refine ⟨f, (fs ++ args.toList.map a.eval ++ cs).toArray, ?_, h B σ w _ s ((h1.append (repL_ops _ (fun y hy => ha y ?_))).append h2)⟩
 ·unfold execOp
  simp only [ho, resolve, hv, Deferred.ofValue, invoke, Sem.run_bind, Sem.run_pure, Result.andThen_ok]
  rw [run_callFunc_go hf hb hn]
  simp
 ·rw [ho]; simp [Op.operands, Call.operands]; exact .inr (by simpa using hy)
def Imp (x y : PV) : Prop := ∀ c v, Rep c x v → Rep c y v
theorem imp_of {x y : PV} (h : x = y) : Imp x y := fun _ _ k => h ▸ k
theorem Imp.refl (x : PV) : Imp x x := fun _ _ h => h
theorem imp_seq (n : Nat) (xs : List PV) (s : SK) : Imp (.seq n xs s) (.seq n xs .any) := fun c v h => by
 unfold Rep at h ⊢
 obtain ⟨a, cap, vs, h1, h2, h3, h4, h5, _⟩ := h
 exact ⟨a, cap, vs, h1, h2, h3, h4, h5, trivial⟩
def ImpL : List PV → List PV → Prop
 | [], [] => True
 | x :: xs, y :: ys => Imp x y ∧ ImpL xs ys
 | _, _ => False
theorem impL_rep {c : Cx} : ∀ {xs ys : List PV} {vs : List Value}, ImpL xs ys → RepL c xs vs → RepL c ys vs
 | [], [], vs, _, h => h
 | x :: xs, y :: ys, [], _, h => by unfold RepL at h; obtain ⟨u, us, h1, _⟩ := h; cases h1
 | x :: xs, y :: ys, v :: vs, hi, h => by rw [repL_cons] at h ⊢; exact ⟨hi.1 c v h.1, impL_rep hi.2 h.2⟩
 | [], y :: ys, _, hi, _ => hi.elim
 | x :: xs, [], _, hi, _ => hi.elim
theorem imp_tup {xs ys : List PV} (h : ImpL xs ys) : Imp (.tup xs) (.tup ys) := fun c v k => by
 unfold Rep at k ⊢; obtain ⟨vs, h1, h2⟩ := k; exact ⟨vs, h1, impL_rep h h2⟩
theorem imp_agg {xs ys : List PV} (h : ImpL xs ys) : Imp (.agg xs) (.agg ys) := fun c v k => by
 unfold Rep at k ⊢; obtain ⟨vs, h1, h2⟩ := k; exact ⟨vs, h1, impL_rep h h2⟩
theorem impL_refl : ∀ xs : List PV, ImpL xs xs
 | [] => trivial
 | x :: xs => ⟨Imp.refl x, impL_refl xs⟩
def argT (args : List PV) : Nat → PV := fun i => (args[i]?).getD (.val undef)
theorem repT_args {c : Cx} : ∀ {args : List PV} {vs : List Value} (_ : RepL c args vs) (n : Nat) (i : Nat), Rep c (argT args i) ((vs.toArray ++ Array.replicate (n - vs.toArray.size) undef).getD i undef) := by
 intro args vs h n i
 unfold argT
 have hl := RepL.length h
 cases ha : args[i]? with
 | none =>
  have hge : args.length ≤ i := by rcases Nat.lt_or_ge i args.length with h1 | h1; rw [List.getElem?_eq_getElem h1] at ha; cases ha; exact h1
  have : (vs.toArray ++ Array.replicate (n - vs.toArray.size) undef).getD i undef = undef := by
   rw [Array.getD_eq_getD_getElem?, Array.getElem?_append_right (by simp; omega), Array.getElem?_replicate]
   split <;> rfl
  rw [this]; exact rep_val _ _
 | some x =>
  obtain ⟨u, hu, hr⟩ := h.get ha
  have : (vs.toArray ++ Array.replicate (n - vs.toArray.size) undef).getD i undef = u := by
   rw [Array.getD_eq_getD_getElem?, Array.getElem?_append_left (by simpa using lt_of_get hu)]
   simp [hu]
  rw [this]; exact hr
mutual
def Flat : PV → Prop
 | .val _ => True
 | .any => True
 | .agg cs => FlatL cs
 | .tup cs => FlatL cs
 | .seq _ xs s => FlatL xs ∧ (s = .any ∨ s = .clip)
 | .row xs => FlatL xs
 | .fn _ a b => FlatL a ∧ FlatL b
 | .ptr _ _ => False
 | .arr _ _ _ _ => False
 | .mapv _ => False
 | .arw _ _ _ => False
 | .smap _ xs => FlatL xs
 | .ifc _ x => Flat x
def FlatL : List PV → Prop
 | [] => True
 | x :: xs => Flat x ∧ FlatL xs
end
mutual
theorem rep_flat {c c' : Cx} (hw : c'.w = c.w) (hr : ∀ b off, c'.Wr b off → c.Wr b off) : ∀ {x : PV} {v : Value}, Flat x → Rep c x v → Rep c' x v
 | .val u, v, _, k => by unfold Rep at k ⊢; exact k
 | .any, _, _, _ => by unfold Rep; trivial
 | .agg cs, v, f, k => by unfold Rep at k ⊢; unfold Flat at f; obtain ⟨vs, h1, h2⟩ := k; exact ⟨vs, h1, repL_flat hw hr f h2⟩
 | .tup cs, v, f, k => by unfold Rep at k ⊢; unfold Flat at f; obtain ⟨vs, h1, h2⟩ := k; exact ⟨vs, h1, repL_flat hw hr f h2⟩
 | .seq n xs s, v, f, k => by
  unfold Rep at k ⊢; unfold Flat at f
  obtain ⟨a, cap, vs, h1, h2, h3, h4, h5, h6⟩ := k
  refine ⟨a, cap, vs, h1, h2, h3, repL_flat hw hr f.1 h4, fun b hb => (h5 b hb).imp (fun hl => ⟨hl.1, fun j u hj => ⟨by rw [hw]; exact (hl.2 j u hj).1, fun h => (hl.2 j u hj).2 (hr _ _ h)⟩⟩) id, ?_⟩
  rcases f.2 with rfl | rfl
  ·trivial
  ·exact h6
 | .row xs, v, f, k => by
  unfold Rep at k ⊢; unfold Flat at f
  obtain ⟨b, vs, h1, h2, h3⟩ := k
  exact ⟨b, vs, h1, repL_flat hw hr f h2, h3.1, fun j u hj => ⟨by rw [hw]; exact (h3.2 j u hj).1, fun h => (h3.2 j u hj).2 (hr _ _ h)⟩⟩
 | .fn g a b, v, f, k => by unfold Rep at k ⊢; unfold Flat at f; obtain ⟨fs, cs, h1, h2, h3⟩ := k; exact ⟨fs, cs, h1, repL_flat hw hr f.1 h2, repL_flat hw hr f.2 h3⟩
 | .ptr _ _, _, f, _ => by unfold Flat at f; exact f.elim
 | .arr _ _ _ _, _, f, _ => by unfold Flat at f; exact f.elim
 | .mapv _, _, f, _ => by unfold Flat at f; exact f.elim
 | .arw _ _ _, _, f, _ => by unfold Flat at f; exact f.elim
 | .smap ks xs, v, f, k => by
  unfold Rep at k ⊢; unfold Flat at f
  obtain ⟨b, es, clk, h1, h2, h3, h4, h5⟩ := k
  exact ⟨b, es, clk, h1, by rw [hw]; exact h2, fun h => h3 (hr _ _ h), h4, repL_flat hw hr f h5⟩
 | .ifc t x, v, f, k => by unfold Rep at k ⊢; unfold Flat at f; obtain ⟨u, h1, h2⟩ := k; exact ⟨u, h1, rep_flat hw hr f h2⟩
theorem repL_flat {c c' : Cx} (hw : c'.w = c.w) (hr : ∀ b off, c'.Wr b off → c.Wr b off) : ∀ {xs : List PV} {vs : List Value}, FlatL xs → RepL c xs vs → RepL c' xs vs
 | [], vs, _, k => by unfold RepL at k ⊢; exact k
 | x :: xs, vs, f, k => by unfold RepL at k ⊢; unfold FlatL at f; obtain ⟨u, us, h1, h2, h3⟩ := k; exact ⟨u, us, h1, rep_flat hw hr f.1 h2, repL_flat hw hr f.2 h3⟩
end
def BoW (B : Nat → Nat → Prop) (σ : Nat → Option Nat) (H : List Ob) : Nat → Nat → Prop := fun b off => B b off ∨ OwnWr σ H b off
theorem sim_globs {σ : Nat → Option Nat} {w : World} {R : List Ob} (hRg : ∀ o ∈ R, ∃ g u, o = .glob g u) (hRH : ∀ o ∈ R, ∃ k : Nat, H[k]? = some o) (s : Sim B H σ w) : Sim (BoW B σ H) R σ w := by
 have dull : ∀ {j : Nat} {oj : Ob}, R[j]? = some oj → oj.live = true → False := fun h1 h2 => by
  obtain ⟨g, u, rfl⟩ := hRg _ (List.mem_of_getElem? h1); cases h2
 refine ⟨fun i j b oi oj h _ l => (dull h l).elim, fun i b oi h l => (dull h l).elim, fun b off h => ?_, fun i oi h => ?_⟩
 ·rcases h with h | ⟨i, oi, h1, h2, h3⟩
  ·exact s.base b off h
  ·have hl : oi.live = true := by cases oi <;> first | rfl | cases h3
   exact (s.holds i oi h1).lt hl h2
 ·have hm := List.mem_of_getElem? h
  obtain ⟨g, u, rfl⟩ := hRg _ hm
  obtain ⟨k, hk⟩ := hRH _ hm
  obtain ⟨q1, q2⟩ := s.holds k _ hk
  refine ⟨q1, fun q => ?_⟩
  rcases q with q | ⟨i, oi, h1, _, h3⟩
  ·exact q2 q
  ·obtain ⟨g, u, rfl⟩ := hRg _ (List.mem_of_getElem? h1); cases h3
theorem pureG_of_hc {R : List Ob} (hRg : ∀ o ∈ R, ∃ g u, o = .glob g u) {f : FuncId} {args : List PV} {res : PV} (ha : FlatL args) (hres : Flat res) (h : ∀ B σ w vs, Sim B R σ w → RepL (cx B R σ w) args vs → Calls P f vs.toArray w fun e w' => ∃ v H' σ', e = .returned v ∧ Rep (cx B H' σ' w') res v ∧ Step B R σ w H' σ' w')
  (H : List Ob) (hRH : ∀ o ∈ R, ∃ k : Nat, H[k]? = some o) : HC P f args H res H := by
 intro B σ w vs s hr
 have s0 := sim_globs hRg hRH s
 have hr0 : RepL (cx (BoW B σ H) R σ w) args vs := repL_flat (c := cx B H σ w) (c' := cx (BoW B σ H) R σ w) rfl (fun b off h => by
  rcases h with h | ⟨i, oi, h1, _, h3⟩
  ·exact h
  ·obtain ⟨g, u, rfl⟩ := hRg _ (List.mem_of_getElem? h1); cases h3) ha hr
 refine Calls.mono (h (BoW B σ H) σ w vs s0 hr0) ?_
 rintro e w' ⟨v, H', σ', rfl, h1, h2⟩
 have g : Grows w w' := ⟨h2.os, h2.tape, h2.output, h2.size, fun b hb => h2.block b hb (fun i oi h hl => by obtain ⟨g, u, rfl⟩ := hRg _ (List.mem_of_getElem? h); cases hl)⟩
 obtain ⟨s', st⟩ := grow_sim s g
 exact ⟨v, σ, rfl, rep_flat (c := cx (BoW B σ H) H' σ' w') (c' := cx B H σ w') rfl (fun b off h => .inl h) hres h1, s', st⟩
theorem pure_of_hc {f : FuncId} {args : List PV} {res : PV} (ha : FlatL args) (hres : Flat res) (h : ∀ B σ w vs, Sim B [] σ w → RepL (cx B [] σ w) args vs → Calls P f vs.toArray w fun e w' => ∃ v H' σ', e = .returned v ∧ Rep (cx B H' σ' w') res v ∧ Step B [] σ w H' σ' w') : PureC P f args res :=
 fun H => pureG_of_hc (R := []) (by simp) ha hres h H (by simp)
theorem repL_vals {c : Cx} : ∀ {l vs : List Value}, RepL c (l.map .val) vs → vs = l
 | [], vs, h => by rw [List.map_nil, repL_nil] at h; exact h
 | x :: l, [], h => by rw [List.map_cons] at h; unfold RepL at h; obtain ⟨u, us, h1, _⟩ := h; cases h1
 | x :: l, v :: vs, h => by
  rw [List.map_cons, repL_cons] at h
  have h1 := h.1
  unfold Rep at h1
  rw [h1, repL_vals h.2]
theorem pure_of_calls {f : FuncId} {args : List Value} {r : PV} {v : Value} (hr : ∀ c, Rep c r v) (h : ∀ w, Calls P f args.toArray w fun e w' => e = .returned v ∧ Grows w w') : PureC P f (args.map .val) r := by
 intro H B σ w vs s hv
 have hvs := repL_vals hv
 subst hvs
 refine Calls.mono (h w) ?_
 rintro e w' ⟨rfl, g⟩
 obtain ⟨s', st⟩ := grow_sim s g
 exact ⟨v, σ, rfl, hr _, s', st⟩
end
end Go.Proofs.Ytlponhgbbfgkgaa
namespace Go.Proofs.Ytlponhgbbfgkgaa
open Go.RowKit
def look (G : List (Nat × TD)) (t : Nat) : Option TD := match G with
 | [] => none
 | (u, d) :: r => match Nat.beq u t with
  | true => some d
  | false => look r t
def tysOk (P : Program) (G : List (Nat × TD)) : Bool := G.all fun q => tyOk P q.1 q.2
theorem lO {P : Program} : ∀ {G : List (Nat × TD)} (_ : tysOk P G = true) {t : Nat} {d : TD} (_ : look G t = some d), TyFacts P t d
 | [], _, t, d, h => by cases h
 | (u, d') :: r, hG, t, d, h => by
  unfold tysOk at hG
  simp only [List.all_cons, Bool.and_eq_true] at hG
  unfold look at h
  split at h
  ·rename_i hu
   rw [Nat.beq_eq] at hu
   injection h with h; subst h; subst hu
   exact tyOk_spec hG.1
  ·exact lO (G := r) hG.2 h
def nf1 : PV → Option PV
 | .val v => some (.val v)
 | .any => some .any
 | .agg cs => some (.agg cs)
 | .tup cs => some (.tup cs)
 | .ptr i off => some (.ptr i off)
 | .seq n xs s => some (.seq n xs s)
 | .row xs => some (.row xs)
 | .arr i off n cap => some (.arr i off n cap)
 | .fn f a b => some (.fn f a b)
 | .mapv i => some (.mapv i)
 | .arw i off n => some (.arw i off n)
 | .smap ks xs => some (.smap ks xs)
 | .ifc t x => some (.ifc t x)
theorem nf1_eq {x y : PV} (h : nf1 x = some y) : y = x := by cases x <;> (injection h with h; exact h.symm)
def nfl : List PV → Option (List PV)
 | [] => some []
 | x :: xs => match nf1 x with
  | some y => match nfl xs with
   | some ys => some (y :: ys)
   | none => none
  | none => none
theorem nfl_eq : ∀ {xs ys : List PV}, nfl xs = some ys → ys = xs
 | [], ys, h => by injection h with h; exact h.symm
 | x :: xs, ys, h => by
  simp only [nfl] at h
  split at h
  ·rename_i y hy
   split at h
   ·rename_i zs hz
    injection h with h
    rw [← h, nf1_eq hy, nfl_eq hz]
   ·cases h
  ·cases h
def nf : PV → Option PV
 | .val v => some (.val v)
 | .any => some .any
 | .agg cs => match nfl cs with
  | some ds => some (.agg ds)
  | none => none
 | .tup cs => match nfl cs with
  | some ds => some (.tup ds)
  | none => none
 | .ptr i off => some (.ptr i off)
 | .seq n xs s => some (.seq n xs s)
 | .row xs => some (.row xs)
 | .arr i off n cap => some (.arr i off n cap)
 | .fn f a b => some (.fn f a b)
 | .mapv i => some (.mapv i)
 | .arw i off n => some (.arw i off n)
 | .smap ks xs => some (.smap ks xs)
 | .ifc t x => some (.ifc t x)
theorem nf_eq {x y : PV} (h : nf x = some y) : y = x := by
  cases x <;> simp only [nf] at h <;> first
    | (injection h with h; exact h.symm)
    | (split at h
       · rename_i ds hd
         injection h with h
         rw [← h, nfl_eq hd]
       · cases h)
abbrev Ev := Option (PV × List Ob × Prop)
section
variable (G : List (Nat × TD)) (T : Nat → PV) (H : List Ob)
def evPick : PV → PV → PV → Ev
 | .val (.bool true), x, _ => some (x, H, True)
 | .val (.bool false), _, y => some (y, H, True)
 | _, _, _ => none
def evStr (op : BinOp) (a b : ByteArray) : Ev := match op with
 | .eql => some (.val (.bool (strEq a b)), H, True)
 | .neq => some (.val (.bool (!strEq a b)), H, True)
 | .add => some (.val (.string (a ++ b)), H, a.size + b.size ≤ 9223372036854775807)
 | _ => none
def evBin (op : BinOp) (t : TypeId) (x y : Operand) : Ev := match opv T x, opv T y with
 | .val (.string a), .val (.string b) => evStr H op a b
 | .val (.bool a), .val (.bool b) => match look G t with
  | some d => match d.sh with
   | .bool => match op with
    | .eql => some (.val (.bool (a == b)), H, True)
    | .neq => some (.val (.bool (!(a == b))), H, True)
    | _ => none
   | _ => none
  | none => none
 | .val u, .val v => match binA op t x y u v with
  | some r => some (.val r, H, True)
  | none => none
 | _, _ => none
def evUn (op : UnOp) (x : Operand) : Ev := match opv T x with
 | .val u => match pureOf (Op.unary op u) with
  | some r => some (.val r, H, True)
  | none => none
 | _ => none
def evExtract (x : Operand) (i : Nat) : Ev := match opv T x with
 | .tup cs => match cs[i]? with
  | some r => some (r, H, True)
  | none => none
 | _ => none
def evNil (x : Operand) : Ev := match opv T x with
 | .ptr i off => some (.ptr i off, H, True)
 | .row xs => some (.row xs, H, True)
 | _ => none
def evLoad (t : TypeId) (x : Operand) : Ev := match look G t with
 | some d => match opv T x with
  | .ptr i off => match H[i]? with
   | some (.cells xs _) => match loadPV d xs off with
    | some r => some (r, H, True)
    | none => none
   | _ => none
  | .row xs => match loadPV d xs 0 with
   | some r => some (r, H, True)
   | none => none
  | _ => none
 | none => none
def evStore (t : TypeId) (x y : Operand) : Ev := match look G t with
 | some d => match opv T x with
  | .ptr i off => match H[i]? with
   | some (.cells xs e) => match cellsPV (opv T y) with
    | some ys => match Nat.beq ys.length d.size with
     | true => match ys.all okC with
      | true => match Nat.ble (off + ys.length) xs.length with
       | true => match nfl (splice xs off ys) with
        | some zs => some (.val undef, H.set i (.cells zs e), True)
        | none => none
       | false => none
      | false => none
     | false => none
    | none => none
   | _ => none
  | _ => none
 | none => none
def evFieldAddr (s : TypeId) (x : Operand) (k : Nat) : Ev := match look G s with
 | some d => match d.sh with
  | .struct fs => match fs[k]? with
   | some (fo, _, _) => match opv T x with
    | .ptr i off => some (.ptr i (off + fo), H, True)
    | .row xs => some (.row (xs.drop fo), H, True)
    | _ => none
   | none => none
  | _ => none
 | none => none
def evField (s : TypeId) (x : Operand) (k : Nat) : Ev := match look G s with
 | some d => match d.sh with
  | .struct fs => match fs[k]? with
   | some (fo, z, g) => match opv T x with
    | .agg cs => match fieldPV cs fo z g with
     | some r => some (r, H, True)
     | none => none
    | _ => none
   | none => none
  | _ => none
 | none => none
def evIndexAddr (t : TypeId) (x ix : Operand) : Ev := match look G t with
 | some d => match d.sh with
  | .slice e => match look G e with
   | some de => match opv T x, opv T ix with
    | .seq n xs _, .val (.int _ i) => some (.row (xs.drop (i.toNat * de.size)), H, 0 ≤ i ∧ i < n)
    | .arr id off n _, .val (.int _ i) => some (.ptr id (off + i.toNat * de.size), H, 0 ≤ i ∧ i < n)
    | .arw id off n, .val (.int _ i) => some (.ptr id (off + i.toNat * de.size), H, 0 ≤ i ∧ i < n)
    | _, _ => none
   | none => none
  | .array n e => match look G e with
   | some de => match opv T x, opv T ix with
    | .ptr id off, .val (.int _ i) => some (.ptr id (off + i.toNat * de.size), H, 0 ≤ i ∧ i < n)
    | .row xs, .val (.int _ i) => some (.row (xs.drop (i.toNat * de.size)), H, 0 ≤ i ∧ i < n)
    | _, _ => none
   | none => none
  | _ => none
 | none => none
def evIndex (t : TypeId) (x ix : Operand) : Ev := match look G t with
 | some d => match d.sh with
  | .str => match opv T x, opv T ix with
   | .val (.string s), .val (.int _ i) => some (.val (.int .u8 (byteAt s i.toNat)), H, 0 ≤ i ∧ i < s.size)
   | _, _ => none
  | .array n e => match look G e with
   | some de => match de.agg with
    | false => match opv T x, opv T ix with
     | .agg cs, .val (.int _ i) => match cs[i.toNat * de.size]? with
      | some r => some (r, H, 0 ≤ i ∧ i < n)
      | none => none
     | _, _ => none
    | true => none
   | none => none
  | _ => none
 | none => none
def evBox (t : TypeId) (x : Operand) : Ev := match cellsPV (opv T x) with
 | some xs => match nfl xs with
  | some zs => some (.ptr H.length 0, H ++ [.cells zs t], True)
  | none => none
 | none => none
def evAlloc (t : TypeId) : Ev := match look G t with
 | some d => some (.ptr H.length 0, H ++ [.cells d.zero t], True)
 | none => none
def evBuild (t : TypeId) (parts : Array (Nat × Operand)) : Ev := match look G t with
 | some d => match d.sh with
  | .struct fs => match fillPV (fun i => match fs[i]? with | some (of, z, _) => some (of, z) | none => none) T parts.toList d.zero with
   | some out => some (.agg out, H, True)
   | none => none
  | .array _ e => match look G e with
   | some de => match fillPV (fun i => some (i * de.size, de.size)) T parts.toList d.zero with
    | some out => some (.agg out, H, True)
    | none => none
   | none => none
  | _ => none
 | none => none
def evBuildSlice (t : TypeId) (n : Nat) (parts : Array (Nat × Operand)) : Ev := match look G t with
 | some d => match d.sh with
  | .slice e => match look G e with
   | some de => match Nat.ble (n * de.size) 16777216 with
    | true => match fillPV (fun i => some (i * de.size, de.size)) T parts.toList (zerosPV n de) with
     | some out => some (.seq n out .clip, H, True)
     | none => none
    | false => none
   | none => none
  | _ => none
 | none => none
def bnd (dflt : Nat) : Option Operand → Option (Nat × Prop)
 | none => some (dflt, True)
 | some z => match opv T z with
  | .val (.int _ i) => some (i.toNat, 0 ≤ i)
  | _ => none
theorem bnd_ok {T : Nat → PV} {dflt v : Nat} {y : Option Operand} {p : Prop} (h : bnd T dflt y = some (v, p)) (hp : p) : BndOk T y dflt v := by
 unfold bnd at h
 split at h
 ·cases h; rfl
 ·split at h
  ·rename_i k i hz
   cases h
   exact ⟨_, _, hz, hp, rfl⟩
  ·cases h
def evSlice (t : TypeId) (x : Operand) (lo hi mx : Option Operand) : Ev := match look G t with
 | some d => match d.sh with
  | .slice e => match look G e with
   | some de => match opv T x with
    | .seq n xs _ => match bnd T 0 lo, bnd T n hi, mx with
     | some (l, p), some (h, q), none => some (.seq (h - l) ((xs.drop (l * de.size)).take ((h - l) * de.size)) .any, H, p ∧ q ∧ l ≤ h ∧ h ≤ n)
     | some (l, p), some (h, q), some z => match hi, bnd T n (some z) with
      | some _, some (m, r) => some (.seq (h - l) ((xs.drop (l * de.size)).take ((h - l) * de.size)) .clip, H, p ∧ q ∧ r ∧ m = h ∧ l ≤ h ∧ h ≤ n)
      | _, _ => none
     | _, _, _ => none
    | .arr id off n cap => match bnd T 0 lo, bnd T n hi, mx with
     | some (l, p), some (h, q), none => some (.arr id (if cap = l then off else off + l * de.size) (h - l) (cap - l), H, p ∧ q ∧ l ≤ h ∧ h ≤ n ∧ n ≤ cap)
     | _, _, _ => none
    | _ => none
   | none => none
  | .str => match opv T x with
   | .val (.string s) => match bnd T 0 lo, bnd T s.size hi, mx with
    | some (l, p), some (h, q), none => some (.val (.string (s.extract l h)), H, p ∧ q ∧ l ≤ h ∧ h ≤ s.size)
    | _, _, _ => none
   | _ => none
  | .array n e => match look G e with
   | some de => match opv T x, lo, hi, mx with
    | .ptr id off, none, none, none => some (.arr id off n n, H, True)
    | _, _, _, _ => none
   | none => none
  | _ => none
 | none => none
def evConvert (src dst : TypeId) (x : Operand) : Ev := match look G src, look G dst with
 | some ds, some dd => match dd.sh, opv T x with
  | .int k, .val (.int _ i) => some (.val (.int k (k.wrap i)), H, True)
  | .str, .val (.string s) => some (.val (.string s), H, True)
  | .slice e, .val (.string s) => match look G e with
   | some de => match ds.sh, de.sh with
    | .str, .int .u8 => some (.seq s.size (s.data.toList.map fun b => byteP b.toNat) .any, H, True)
    | _, _ => none
   | none => none
  | _, _ => none
 | _, _ => none
def evMake (t : TypeId) (x y : Operand) : Ev := match look G t with
 | some d => match d.sh with
  | .slice e => match look G e with
   | some de => match opv T x, opv T y with
    | .val (.int _ n), .val (.int _ m) => some (.arr H.length 0 n.toNat n.toNat, H ++ [.cells (zerosPV n.toNat de) e], m = n ∧ 0 ≤ n ∧ (de.bytes : Int) * n ≤ 281474976710656 ∧ n ≤ 9223372036854775807)
    | _, _ => none
   | none => none
  | _ => none
 | none => none
def evLen (ts : List TypeId) (xs : List Operand) : Ev := match ts, xs with
 | [t], [x] => match look G t with
  | some d => match d.sh, opv T x with
   | .slice _, .seq n _ _ => some (.val (.int .i64 n), H, True)
   | .slice _, .arr _ _ n _ => some (.val (.int .i64 n), H, True)
   | .slice _, .arw _ _ n => some (.val (.int .i64 n), H, True)
   | .str, .val (.string s) => some (.val (.int .i64 s.size), H, True)
   | _, _ => none
  | none => none
 | _, _ => none
def evMinMax (mx : Bool) (ats : Array TypeId) (ty : TypeId) (xs : List Operand) : Ev := match xs with
 | [x, y] => match opv T x, opv T y with
  | .val u, .val v => match (match mx with | true => pureOf (Builtin.max_ ats ty #[u, v]) | false => pureOf (Builtin.min_ ats ty #[u, v])) with
   | some r => some (.val r, H, True)
   | none => none
  | _, _ => none
 | _ => none
end
section
variable {P : Program} {B : Nat → Nat → Prop} {o : Oper} {G : List (Nat × TD)} {T : Nat → PV} {H : List Ob} {x : PV} {H' : List Ob} {p : Prop}
theorem evPick_ok {c a b : Operand} (ho : o.op = .pick c a b) (h : evPick H (opv T c) (opv T a) (opv T b) = some (x, H', p)) : Does P B o T H x H' := by
 unfold evPick at h
 split at h
 ·rename_i hc; cases h; exact does_pick (b := true) ho hc
 ·rename_i hc; cases h; exact does_pick (b := false) ho hc
 ·cases h
theorem evBin_ok (hG : tysOk P G = true) {op : BinOp} {t yt : TypeId} {a b : Operand} (ho : o.op = .binOp op t a b yt) (h : evBin G T H op t a b = some (x, H', p)) (hp : p) : Does P B o T H x H' := by
 unfold evBin at h
 split at h
 ·rename_i u v hu hv
  unfold evStr at h
  split at h
  ·cases h; exact does_str_eql ho hu hv
  ·cases h; exact does_str_neq ho hu hv
  ·cases h; exact does_str_add ho hu hv hp
  ·cases h
 ·rename_i u v hu hv
  split at h
  ·rename_i d hd
   split at h
   ·rename_i hs
    split at h
    ·cases h; exact does_bool_eql (lO hG hd) hs ho hu hv
    ·cases h; exact does_bool_neq (lO hG hd) hs ho hu hv
    ·cases h
   ·cases h
  ·cases h
 ·rename_i u v _ _ hu hv
  split at h
  ·rename_i r hr; cases h; exact does_bin ho hu hv hr
  ·cases h
 ·cases h
theorem evUn_ok {op : UnOp} {t : TypeId} {a : Operand} (ho : o.op = .unOp op t a) (h : evUn T H op a = some (x, H', p)) : Does P B o T H x H' := by
 unfold evUn at h
 split at h
 ·rename_i u hu
  split at h
  ·rename_i r hr; cases h; exact does_un ho hu hr
  ·cases h
 ·cases h
theorem evExtract_ok {a : Operand} {i : Nat} (ho : o.op = .extract a i) (h : evExtract T H a i = some (x, H', p)) : Does P B o T H x H' := by
 unfold evExtract at h
 split at h
 ·rename_i cs hc
  split at h
  ·rename_i r hr; cases h; exact does_extract ho hc hr
  ·cases h
 ·cases h
theorem evNil_ok {a : Operand} (ho : o.op = .nilCheck a) (h : evNil T H a = some (x, H', p)) : Does P B o T H x H' := by
 unfold evNil at h
 split at h
 ·rename_i i off hc; cases h; exact does_nilCheck_ptr ho hc
 ·rename_i xs hc; cases h; exact does_nilCheck_row ho hc
 ·cases h
theorem evLoad_ok (hG : tysOk P G = true) {t : TypeId} {a : Operand} (ho : o.op = .load t a) (h : evLoad G T H t a = some (x, H', p)) : Does P B o T H x H' := by
 unfold evLoad at h
 split at h
 ·rename_i d hd
  split at h
  ·rename_i i off hx
   split at h
   ·rename_i xs e hi
    split at h
    ·rename_i r hr; cases h; exact does_load_ptr (lO hG hd) ho hx hi hr
    ·cases h
   ·cases h
  ·rename_i xs hx
   split at h
   ·rename_i r hr; cases h; exact does_load_row (lO hG hd) ho hx hr
   ·cases h
  ·cases h
 ·cases h
theorem evStore_ok (hG : tysOk P G = true) {t : TypeId} {a b : Operand} (ho : o.op = .store t a b) (h : evStore G T H t a b = some (x, H', p)) : Does P B o T H x H' := by
 unfold evStore at h
 split at h
 ·rename_i d hd
  split at h
  ·rename_i i off hx
   split at h
   ·rename_i xs e hi
    split at h
    ·rename_i ys hy
     split at h
     ·rename_i hl
      split at h
      ·rename_i hok
       split at h
       ·rename_i hle
        split at h
        ·rename_i zs hz
         cases h
         rw [nfl_eq hz]
         exact does_store (lO hG hd) ho hx hi hy hl hok hle
        ·cases h
       ·cases h
      ·cases h
     ·cases h
    ·cases h
   ·cases h
  ·cases h
 ·cases h
theorem evFieldAddr_ok (hG : tysOk P G = true) {s : TypeId} {a : Operand} {k : Nat} (ho : o.op = .fieldAddr s a k) (h : evFieldAddr G T H s a k = some (x, H', p)) : Does P B o T H x H' := by
 unfold evFieldAddr at h
 split at h
 ·rename_i d hd
  split at h
  ·rename_i fs hs
   split at h
   ·rename_i fo z g hk
    split at h
    ·rename_i i off hx; cases h; exact does_fieldAddr_ptr (lO hG hd) ho hs hk hx
    ·rename_i xs hx; cases h; exact does_fieldAddr_row (lO hG hd) ho hs hk hx
    ·cases h
   ·cases h
  ·cases h
 ·cases h
theorem evField_ok (hG : tysOk P G = true) {s : TypeId} {a : Operand} {k : Nat} (ho : o.op = .field s a k) (h : evField G T H s a k = some (x, H', p)) : Does P B o T H x H' := by
 unfold evField at h
 split at h
 ·rename_i d hd
  split at h
  ·rename_i fs hs
   split at h
   ·rename_i fo z g hk
    split at h
    ·rename_i cs hx
     split at h
     ·rename_i r hr; cases h; exact does_field (lO hG hd) ho hs hk hx hr
     ·cases h
    ·cases h
   ·cases h
  ·cases h
 ·cases h
theorem evIndexAddr_ok (hG : tysOk P G = true) {t : TypeId} {a b : Operand} (ho : o.op = .indexAddr t a b) (h : evIndexAddr G T H t a b = some (x, H', p)) (hp : p) : Does P B o T H x H' := by
 unfold evIndexAddr at h
 split at h
 ·rename_i d hd
  split at h
  ·rename_i e hs
   split at h
   ·rename_i de he
    split at h
    ·rename_i hx hi; cases h; exact does_indexAddr_seq (lO hG hd) hs (lO hG he) ho hx hi hp
    ·rename_i hx hi; cases h; exact does_indexAddr_arr (lO hG hd) hs (lO hG he) ho hx hi hp
    ·rename_i hx hi; cases h; exact does_indexAddr_arw (lO hG hd) hs (lO hG he) ho hx hi hp
    ·cases h
   ·cases h
  ·rename_i n e hs
   split at h
   ·rename_i de he
    split at h
    ·rename_i hx hi; cases h; exact does_indexAddr_ptr (lO hG hd) hs (lO hG he) ho hx hi hp
    ·rename_i hx hi; cases h; exact does_indexAddr_row (lO hG hd) hs (lO hG he) ho hx hi hp
    ·cases h
   ·cases h
  ·cases h
 ·cases h
theorem evIndex_ok (hG : tysOk P G = true) {t : TypeId} {a b : Operand} (ho : o.op = .index t a b) (h : evIndex G T H t a b = some (x, H', p)) (hp : p) : Does P B o T H x H' := by
 unfold evIndex at h
 split at h
 ·rename_i d hd
  split at h
  ·rename_i hs
   split at h
   ·rename_i hx hi; cases h; exact does_index_str (lO hG hd) hs ho hx hi hp
   ·cases h
  ·rename_i n e hs
   split at h
   ·rename_i de he
    split at h
    ·rename_i ha
     split at h
     ·rename_i hx hi
      split at h
      ·rename_i r hr; cases h; exact does_index_agg (lO hG hd) hs (lO hG he) ha ho hx hi hp hr
      ·cases h
     ·cases h
    ·cases h
   ·cases h
  ·cases h
 ·cases h
theorem evBox_ok {t : TypeId} {a : Operand} (ho : o.op = .box t a) (h : evBox T H t a = some (x, H', p)) : Does P B o T H x H' := by
 unfold evBox at h
 split at h
 ·rename_i xs hx
  split at h
  ·rename_i zs hz
   cases h
   rw [nfl_eq hz]
   exact does_box ho hx
  ·cases h
 ·cases h
theorem evAlloc_ok (hG : tysOk P G = true) {t : TypeId} (ho : o.op = .alloc t) (h : evAlloc G H t = some (x, H', p)) : Does P B o T H x H' := by
 unfold evAlloc at h
 split at h
 ·rename_i d hd; cases h; exact does_alloc (lO hG hd) ho
 ·cases h
theorem evBuild_ok (hG : tysOk P G = true) {t : TypeId} {parts : Array (Nat × Operand)} (ho : o.op = .build t parts) (h : evBuild G T H t parts = some (x, H', p)) : Does P B o T H x H' := by
 unfold evBuild at h
 split at h
 ·rename_i d hd
  split at h
  ·rename_i fs hs
   split at h
   ·rename_i out hf; cases h; exact does_build_struct (lO hG hd) hs ho hf
   ·cases h
  ·rename_i n e hs
   split at h
   ·rename_i de he
    split at h
    ·rename_i out hf; cases h; exact does_build_array (lO hG hd) hs (lO hG he) ho hf
    ·cases h
   ·cases h
  ·cases h
 ·cases h
theorem evBuildSlice_ok (hG : tysOk P G = true) {t : TypeId} {n : Nat} {parts : Array (Nat × Operand)} (ho : o.op = .buildSlice t n parts) (h : evBuildSlice G T H t n parts = some (x, H', p)) : Does P B o T H x H' := by
 unfold evBuildSlice at h
 split at h
 ·rename_i d hd
  split at h
  ·rename_i e hs
   split at h
   ·rename_i de he
    split at h
    ·rename_i hn
     split at h
     ·rename_i out hf; cases h; exact does_buildSlice (lO hG hd) hs (lO hG he) ho hn hf
     ·cases h
    ·cases h
   ·cases h
  ·cases h
 ·cases h
theorem evSlice_ok (hG : tysOk P G = true) {t : TypeId} {a : Operand} {lo hi mx : Option Operand} (ho : o.op = .slice t a lo hi mx) (h : evSlice G T H t a lo hi mx = some (x, H', p)) (hp : p) : Does P B o T H x H' := by
 unfold evSlice at h
 split at h
 ·rename_i d hd
  split at h
  ·rename_i e hs
   split at h
   ·rename_i de he
    split at h
    ·rename_i n xs s hx
     split at h
     ·rename_i l p1 h1 q1 e1 e2
      cases h
      obtain ⟨p1, q1, p2, p3⟩ := hp
      exact does_slice_seq (lO hG hd) hs (lO hG he) ho hx (bnd_ok e1 p1) (bnd_ok e2 q1) rfl p2 p3
     ·rename_i l p1 h1 q1 z e1 e2
      split at h
      ·rename_i y m r1 e3
       cases h
       obtain ⟨p1, q1, r1, p0, p2, p3⟩ := hp
       subst p0
       exact does_slice_clip (lO hG hd) hs (lO hG he) ho hx (bnd_ok e1 p1) (bnd_ok e2 q1) (bnd_ok e3 r1) p2 p3
      ·cases h
     ·cases h
    ·rename_i id off n cap hx
     split at h
     ·rename_i l p1 h1 q1 e1 e2
      cases h
      obtain ⟨p1, q1, p2, p3, p4⟩ := hp
      exact does_slice_arr (lO hG hd) hs (lO hG he) ho hx (bnd_ok e1 p1) (bnd_ok e2 q1) p2 p3 p4
     ·cases h
    ·cases h
   ·cases h
  ·rename_i hs
   split at h
   ·rename_i s hx
    split at h
    ·rename_i l p1 h1 q1 e1 e2
     cases h
     obtain ⟨p1, q1, p2, p3⟩ := hp
     exact does_slice_str (lO hG hd) hs ho hx (bnd_ok e1 p1) (bnd_ok e2 q1) p2 p3
    ·cases h
   ·cases h
  ·rename_i n e hs
   split at h
   ·rename_i de he
    split at h
    ·rename_i id off hx
     cases h
     exact does_slice_ptr (lO hG hd) hs (lO hG he) ho hx
    ·cases h
   ·cases h
  ·cases h
 ·cases h
theorem evConvert_ok (hG : tysOk P G = true) {src dst : TypeId} {a : Operand} (ho : o.op = .convert src dst a) (h : evConvert G T H src dst a = some (x, H', p)) : Does P B o T H x H' := by
 unfold evConvert at h
 split at h
 ·rename_i ds dd hs hd
  split at h
  ·rename_i hk hx; cases h; exact does_convert_int (lO hG hs) (lO hG hd) hk ho hx
  ·rename_i hk hx; cases h; exact does_convert_str (lO hG hs) (lO hG hd) hk ho hx
  ·rename_i e s hk hx
   split at h
   ·rename_i de he
    split at h
    ·rename_i h1 h2; cases h; exact does_convert_toBytes (lO hG hs) h1 (lO hG hd) hk (lO hG he) h2 ho hx
    ·cases h
   ·cases h
  ·cases h
 ·cases h
theorem evMake_ok (hG : tysOk P G = true) {t : TypeId} {a b : Operand} (ho : o.op = .makeSlice t a b) (h : evMake G T H t a b = some (x, H', p)) (hp : p) : Does P B o T H x H' := by
 unfold evMake at h
 split at h
 ·rename_i d hd
  split at h
  ·rename_i e hs
   split at h
   ·rename_i de he
    split at h
    ·rename_i hx hy
     cases h
     obtain ⟨rfl, p1, p2, p3⟩ := hp
     exact does_makeSlice (lO hG hd) hs (lO hG he) ho hx hy p1 p2 p3
    ·cases h
   ·cases h
  ·cases h
 ·cases h
theorem evLen_ok (hG : tysOk P G = true) {args : Array Operand} {ats : Array TypeId} (ho : o.op = .call { callee := .builtin .len, args := args, argTypes := ats }) (h : evLen G T H ats.toList args.toList = some (x, H', p)) : Does P B o T H x H' := by
 unfold evLen at h
 split at h
 ·rename_i t a ht ha
  obtain rfl : ats = #[t] := by rw [← Array.toArray_toList (xs := ats), ht]
  obtain rfl : args = #[a] := by rw [← Array.toArray_toList (xs := args), ha]
  split at h
  ·rename_i d hd
   split at h
   ·rename_i hs hx; cases h; exact does_len_seq (lO hG hd) hs ho hx
   ·rename_i hs hx; cases h; exact does_len_arr (lO hG hd) hs ho hx
   ·rename_i hs hx; cases h; exact does_len_arw (lO hG hd) hs ho hx
   ·rename_i hs hx; cases h; exact does_len_str (lO hG hd) hs ho hx
   ·cases h
  ·cases h
 ·cases h
theorem evMinMax_ok {mx : Bool} {args : Array Operand} {ats : Array TypeId} (ho : o.op = .call { callee := .builtin (match mx with | true => .max | false => .min), args := args, argTypes := ats }) (h : evMinMax T H mx ats o.type args.toList = some (x, H', p)) : Does P B o T H x H' := by
 unfold evMinMax at h
 split at h
 ·rename_i a b ha
  obtain rfl : args = #[a, b] := by rw [← Array.toArray_toList (xs := args), ha]
  split at h
  ·rename_i u v hx hy
   split at h
   ·rename_i r hr
    cases h
    cases mx with
    | true => exact does_max ho hx hy hr
    | false => exact does_min ho hx hy hr
   ·cases h
  ·cases h
 ·cases h
def evCall (G : List (Nat × TD)) (T : Nat → PV) (H : List Ob) (ty : TypeId) (c : Call) : Ev := match c.callee with
 | .builtin .len => evLen G T H c.argTypes.toList c.args.toList
 | .builtin .max => evMinMax T H true c.argTypes ty c.args.toList
 | .builtin .min => evMinMax T H false c.argTypes ty c.args.toList
 | _ => none
def evOp (G : List (Nat × TD)) (T : Nat → PV) (H : List Ob) (ty : TypeId) : Op → Ev
 | .move x => some (opv T x, H, True)
 | .assign x => some (opv T x, H, True)
 | .pick c a b => evPick H (opv T c) (opv T a) (opv T b)
 | .binOp op t x y _ => evBin G T H op t x y
 | .unOp op _ x => evUn T H op x
 | .extract x i => evExtract T H x i
 | .nilCheck x => evNil T H x
 | .load t x => evLoad G T H t x
 | .store t x y => evStore G T H t x y
 | .fieldAddr s x k => evFieldAddr G T H s x k
 | .field s x k => evField G T H s x k
 | .indexAddr t x y => evIndexAddr G T H t x y
 | .index t x y => evIndex G T H t x y
 | .box t x => evBox T H t x
 | .alloc t => evAlloc G H t
 | .build t ps => evBuild G T H t ps
 | .buildSlice t n ps => evBuildSlice G T H t n ps
 | .makeFunc f a b => some (.fn f (a.toList.map (opv T)) (b.toList.map (opv T)), H, True)
 | .slice t x l h m => evSlice G T H t x l h m
 | .convert s d x => evConvert G T H s d x
 | .makeSlice t x y => evMake G T H t x y
 | .call c => evCall G T H ty c
 | _ => none
theorem evOp_ok (hG : tysOk P G = true) {op : Op} (ho : o.op = op) (h : evOp G T H o.type op = some (x, H', p)) (hp : p) : Does P B o T H x H' := by
 cases op <;> simp only [evOp] at h
 case move a => cases h; exact does_move ho
 case assign a => cases h; exact does_assign ho
 case pick c a b => exact evPick_ok ho h
 case binOp op t a b yt => exact evBin_ok hG ho h hp
 case unOp op t a => exact evUn_ok ho h
 case extract a i => exact evExtract_ok ho h
 case nilCheck a => exact evNil_ok ho h
 case load t a => exact evLoad_ok hG ho h
 case store t a b => exact evStore_ok hG ho h
 case fieldAddr s a k => exact evFieldAddr_ok hG ho h
 case field s a k => exact evField_ok hG ho h
 case indexAddr t a b => exact evIndexAddr_ok hG ho h hp
 case index t a b => exact evIndex_ok hG ho h hp
 case box t a => exact evBox_ok ho h
 case alloc t => exact evAlloc_ok hG ho h
 case build t ps => exact evBuild_ok hG ho h
 case buildSlice t n ps => exact evBuildSlice_ok hG ho h
 case makeFunc f a b => cases h; exact does_makeFunc ho
 case slice t a l hh m => exact evSlice_ok hG ho h hp
 case convert s d a => exact evConvert_ok hG ho h
 case makeSlice t a b => exact evMake_ok hG ho h hp
 case call c =>
  obtain ⟨callee, args, ats⟩ := c
  unfold evCall at h
  split at h
  ·rename_i hc; simp only at hc; subst hc; exact evLen_ok hG ho h
  ·rename_i hc; simp only at hc; subst hc; exact evMinMax_ok (mx := true) ho h
  ·rename_i hc; simp only at hc; subst hc; exact evMinMax_ok (mx := false) ho h
  ·cases h
 all_goals cases h
end
def nfH : List Ob → Option (List Ob)
 | [] => some []
 | x :: xs => match nfH xs with
  | some ys => some (x :: ys)
  | none => none
theorem nfH_eq : ∀ {xs ys : List Ob}, nfH xs = some ys → ys = xs
 | [], ys, h => by injection h with h; exact h.symm
 | x :: xs, ys, h => by
  simp only [nfH] at h
  split at h
  ·rename_i zs hz
   injection h with h
   rw [← h, nfH_eq hz]
  ·cases h
def evN (G : List (Nat × TD)) (T : Nat → PV) (H : List Ob) (ty : TypeId) (op : Op) : Ev := match evOp G T H ty op with
 | some (x, H', p) => match nf x with
  | some y => match nfH H' with
   | some H2 => some (y, H2, p)
   | none => none
  | none => none
 | none => none
def evS (G : List (Nat × TD)) (T : Nat → PV) (H : List Ob) (ty : TypeId) (op : Op) : Ev := match evOp G T H ty op with
 | some (x, H', p) => match nf x with
  | some y => some (y, H', p)
  | none => none
 | none => none
section
variable {P : Program} {B : Nat → Nat → Prop} {o : Oper} {G : List (Nat × TD)} {T : Nat → PV} {H : List Ob} {x : PV} {H' : List Ob} {p : Prop}
theorem evN_ok {ty : TypeId} {op : Op} (h : evN G T H ty op = some (x, H', p)) : evOp G T H ty op = some (x, H', p) := by
 unfold evN at h
 split at h
 ·rename_i y H1 q he
  split at h
  ·rename_i z hz
   split at h
   ·rename_i H2 hH
    cases h
    rw [he, nf_eq hz, nfH_eq hH]
   ·cases h
  ·cases h
 ·cases h
theorem evS_ok {ty : TypeId} {op : Op} (h : evS G T H ty op = some (x, H', p)) : evOp G T H ty op = some (x, H', p) := by
 unfold evS at h
 split at h
 ·rename_i y H1 q he
  split at h
  ·rename_i z hz
   cases h
   rw [he, nf_eq hz]
  ·cases h
 ·cases h
variable {n : Nat} {all : Array Oper} {l : List Oper} {K : (Nat → PV) → List Ob → Prop}
theorem We (hG : tysOk P G = true) (hw : wantedA all T o = some true) {d : Option Tmp} (hd : nfD n o.dst = some d) (h : evN G T H o.type o.op = some (x, H', p)) (hp : p) (k : WO P B n all l (updD d x T) H' K) : WO P B n all (o :: l) T H K :=
 Wd hd hw (evOp_ok hG rfl (evN_ok h) hp) k
end
end Go.Proofs.Ytlponhgbbfgkgaa
namespace Go.Proofs.Ytlponhgbbfgkgaa
open Go.RowKit
section
variable {P : Program} {B : Nat → Nat → Prop} {n : Nat} {H : List Ob} {md : Region.Mode} {ops : Array Oper}
theorem upd_comm (i j : Nat) (x y : PV) (T : Nat → PV) (h : i ≠ j) : upd i x (upd j y T) = upd j y (upd i x T) := by
 funext k
 by_cases h1 : k = i
 ·subst h1; rw [upd_same, upd_other _ _ _ _ h, upd_same]
 ·rw [upd_other _ _ _ _ h1]
  by_cases h2 : k = j
  ·subst h2; rw [upd_same, upd_same]
  ·rw [upd_other _ _ _ _ h2, upd_other _ _ _ _ h2, upd_other _ _ _ _ h1]
theorem updD_comm {a b : Option Tmp} (x y : PV) (T : Nat → PV) (h : ∀ d, a = some d → b ≠ some d) : updD a x (updD b y T) = updD b y (updD a x T) := by
 cases a with
 | none => rfl
 | some i =>
  cases b with
  | none => rfl
  | some j => exact upd_comm i j x y T (fun e => h i rfl (by rw [e]))
theorem updD_look {d : Option Tmp} {x : PV} {T : Nat → PV} {t : Nat} (h : ∀ i, d = some i → t ≠ i) : updD d x T t = T t := by
 cases d with
 | none => rfl
 | some i => exact upd_other _ _ _ _ (h i rfl)
def Yld (P : Program) (B : Nat → Nat → Prop) (ops : Array Oper) (H : List Ob) (o : Oper) (T : Nat → PV) (x : PV) : Prop :=
 (wantedA ops T o = some true ∧ (Does P B o T H x H ∨ DoesC P B o T H x H)) ∨ (wantedA ops T o = some false ∧ x = .val undef)
theorem opv_congr {T T' : Nat → PV} {y : Operand} (h : ∀ t, y = .tmp t → T' t = T t) : opv T' y = opv T y := by
 cases y with
 | tmp t => exact h t rfl
 | const v => rfl
 | global g => rfl
 | func f => rfl
theorem looks_op {o : Oper} {t : Nat} (h : Operand.tmp t ∈ o.op.operands.toList) : t ∈ o.looksAt ops := by
 unfold Oper.looksAt
 rw [List.mem_append]
 exact .inl (List.mem_filterMap.2 ⟨_, h, rfl⟩)
theorem looks_guard {o : Oper} {g d : Nat} {b : Bool} (h : o.guard = some (g, b)) (hd : (ops[g]?).bind (·.dst) = some d) : d ∈ o.looksAt ops := by
 unfold Oper.looksAt
 rw [List.mem_append]
 refine .inr ?_
 rw [h]
 simp [hd]
theorem Yld.congr {o : Oper} {T T' : Nat → PV} {x : PV} (h : ∀ t ∈ o.looksAt ops, T' t = T t) (y : Yld P B ops H o T x) : Yld P B ops H o T' x := by
 have hw : wantedA ops T' o = wantedA ops T o := by
  unfold wantedA
  cases hg : o.guard with
  | none => rfl
  | some q =>
   obtain ⟨g, b⟩ := q
   simp only
   cases hd : (ops[g]?).bind (·.dst) with
   | none => rfl
   | some d => simp only; rw [h d (looks_guard hg hd)]
 have ho : ∀ z ∈ o.op.operands.toList, opv T' z = opv T z := fun z hz => opv_congr fun t ht => h t (looks_op (by rw [← ht]; exact hz))
 rcases y with ⟨h1, h2 | h2⟩ | ⟨h1, h2⟩
 ·exact .inl ⟨by rw [hw]; exact h1, .inl fun σ w a s k => h2 σ w a s (fun z hz => by rw [← ho z hz]; exact k z hz)⟩
 ·exact .inl ⟨by rw [hw]; exact h1, .inr fun σ w a s k => h2 σ w a s (fun z hz => by rw [← ho z hz]; exact k z hz)⟩
 ·exact .inr ⟨by rw [hw]; exact h1, h2⟩
theorem apart_looks {x y : Oper} (h : x.apart ops y = true) : (∀ t ∈ y.looksAt ops, ∀ i, x.dst = some i → t ≠ i) ∧ (∀ t ∈ x.looksAt ops, ∀ i, y.dst = some i → t ≠ i) ∧ (∀ d, x.dst = some d → y.dst ≠ some d) := by
 obtain ⟨h1, h2, h3⟩ := Oper.apart_spec h
 exact ⟨fun t ht i hi e => h1 i hi (e ▸ ht), fun t ht i hi e => h3 i hi (e ▸ ht), h2⟩
variable {T : Nat → PV} {Q : Exit → (Nat → PV) → List Ob → Prop}
variable {o : Oper} {l : List Oper} {K : (Nat → PV) → Prop} {x : PV} {G : List (Nat × TD)} {p : Prop}
end
end Go.Proofs.Ytlponhgbbfgkgaa
