/- The engine, part A: values without addresses, how they stand for values of a world, and what keeps that. No condition. -/
import Derived.Calls
import Derived.Orders
import Derived.Below
import Derived.WalkKit
namespace Go.Proofs.Ytkchnmilmepnfaa
open Go.RowKit

/-- What is known of a slice's room: nothing; none beyond its length; its block is the call's own, free beyond the row that is told. -/
inductive SK where
  | any
  | clip
  | own (t k : Nat)

/-- A value without addresses. -/
inductive PV where
  | val (v : Value)
  | any
  | agg (cs : List PV)
  | tup (cs : List PV)
  | ptr (i off : Nat)
  | seq (n : Nat) (xs : List PV) (s : SK)
  | row (xs : List PV)
  | arr (i off n cap : Nat)
  | fn (f : Fn) (first cap : List PV)
  | mapv (i : Nat)

/-- Where values stand: a world, how many blocks have names, which they are, and what may still be written. -/
structure Cx where
  w : World
  N : Nat
  σ : Nat → Option Nat
  Wr : Nat → Nat → Prop

/-- Cells that lie from an address on, and stay. -/
def Lies (c : Cx) (b : Addr) (vs : List Value) : Prop :=
  b.spot = none ∧ ∀ (j : Nat) (u : Value), vs[j]? = some u → c.w.cell? ⟨b.block, b.off + j, none⟩ = some u ∧ ¬ c.Wr b.block (b.off + j)

def KindOk (c : Cx) (s : SK) (a : Option Addr) (n cap len : Nat) : Prop :=
  match s with
  | .any => True
  | .clip => cap = n
  | .own t k => t < c.N ∧ len = n * k ∧ (cap = n ∨ ∃ b cs e, c.σ t = some b ∧ a = some ⟨b, 0, none⟩ ∧ c.w.heap[b]? = some (Obj.cells cs e (0, 0)) ∧ cap * k ≤ cs.size)

mutual
def Rep (c : Cx) : PV → Value → Prop
  | .val u, v => v = u
  | .any, _ => True
  | .agg cs, v => ∃ vs : List Value, v = .agg vs.toArray ∧ RepL c cs vs
  | .tup cs, v => ∃ vs : List Value, v = .tuple vs.toArray ∧ RepL c cs vs
  | .ptr i off, v => i < c.N ∧ ∃ b, c.σ i = some b ∧ v = .pointer (some ⟨b, off, none⟩)
  | .seq n xs s, v => ∃ (a : Option Addr) (cap : Nat) (vs : List Value), v = .slice a n cap ∧ n ≤ cap ∧ (a = none → n = 0 ∧ cap = 0 ∧ vs = []) ∧ RepL c xs vs ∧
      (∀ b, a = some b → Lies c b vs ∨ (cap = 0 ∧ vs = [])) ∧ KindOk c s a n cap xs.length
  | .row xs, v => ∃ (b : Addr) (vs : List Value), v = .pointer (some b) ∧ RepL c xs vs ∧ Lies c b vs
  | .arr i off n cap, v => i < c.N ∧ ∃ b, c.σ i = some b ∧ v = .slice (some ⟨b, off, none⟩) n cap
  | .fn f first cap, v => ∃ fs cs : List Value, v = .func f fs.toArray cs.toArray ∧ RepL c first fs ∧ RepL c cap cs
  | .mapv i, v => i < c.N ∧ ∃ b, c.σ i = some b ∧ v = .map (some b)
def RepL (c : Cx) : List PV → List Value → Prop
  | [], vs => vs = []
  | x :: xs, vs => ∃ (u : Value) (us : List Value), vs = u :: us ∧ Rep c x u ∧ RepL c xs us
end

/-- What a step keeps. -/
structure Cx.Le (c c' : Cx) : Prop where
  N : c.N ≤ c'.N
  σ : ∀ i, i < c.N → c'.σ i = c.σ i
  cell : ∀ b off u, ¬ c.Wr b off → c.w.cell? ⟨b, off, none⟩ = some u → c'.w.cell? ⟨b, off, none⟩ = some u ∧ ¬ c'.Wr b off
  shape : ∀ (b : Nat) (cs : Array Value) (e : TypeId) (fr : Nat × Nat), c.w.heap[b]? = some (Obj.cells cs e fr) → ∃ cs' : Array Value, c'.w.heap[b]? = some (Obj.cells cs' e fr) ∧ cs'.size = cs.size

theorem Cx.Le.refl (c : Cx) : c.Le c := ⟨Nat.le_refl _, fun _ _ => rfl, fun _ _ _ h1 h2 => ⟨h2, h1⟩, fun _ cs _ _ h => ⟨cs, h, rfl⟩⟩
theorem Cx.Le.trans {a b c : Cx} (h : a.Le b) (k : b.Le c) : a.Le c := by
  refine ⟨Nat.le_trans h.N k.N, fun i hi => (k.σ i (Nat.lt_of_lt_of_le hi h.N)).trans (h.σ i hi), fun x off u h1 h2 => ?_, fun x cs e fr h1 => ?_⟩
  · obtain ⟨h3, h4⟩ := h.cell x off u h1 h2
    exact k.cell x off u h4 h3
  · obtain ⟨c1, h2, h3⟩ := h.shape x cs e fr h1
    obtain ⟨c2, h4, h5⟩ := k.shape x c1 e fr h2
    exact ⟨c2, h4, h5.trans h3⟩

theorem Lies.mono {c c' : Cx} (h : c.Le c') {b : Addr} {vs : List Value} (k : Lies c b vs) : Lies c' b vs :=
  ⟨k.1, fun j u hj => h.cell _ _ u (k.2 j u hj).2 (k.2 j u hj).1⟩
theorem KindOk.mono {c c' : Cx} (h : c.Le c') {s : SK} {a : Option Addr} {n cap len : Nat} (k : KindOk c s a n cap len) : KindOk c' s a n cap len := by
  cases s with
  | any => trivial
  | clip => exact k
  | own t m =>
    obtain ⟨h1, h2, h3⟩ := k
    refine ⟨Nat.lt_of_lt_of_le h1 h.N, h2, ?_⟩
    rcases h3 with h3 | ⟨b, cs, e, h3, h4, h5, h6⟩
    · exact .inl h3
    · obtain ⟨cs', h7, h8⟩ := h.shape _ cs e _ h5
      exact .inr ⟨b, cs', e, by rw [h.σ t h1]; exact h3, h4, h7, by omega⟩

mutual
theorem Rep.mono {c c' : Cx} (h : c.Le c') : ∀ {x : PV} {v : Value}, Rep c x v → Rep c' x v
  | .val u, v, k => by unfold Rep at k ⊢; exact k
  | .any, _, _ => by unfold Rep; trivial
  | .agg cs, v, k => by unfold Rep at k ⊢; obtain ⟨vs, h1, h2⟩ := k; exact ⟨vs, h1, RepL.mono h h2⟩
  | .tup cs, v, k => by unfold Rep at k ⊢; obtain ⟨vs, h1, h2⟩ := k; exact ⟨vs, h1, RepL.mono h h2⟩
  | .ptr i off, v, k => by unfold Rep at k ⊢; exact ⟨Nat.lt_of_lt_of_le k.1 h.N, by rw [h.σ i k.1]; exact k.2⟩
  | .seq n xs s, v, k => by
    unfold Rep at k ⊢
    obtain ⟨a, cap, vs, h1, h2, h3, h4, h5, h6⟩ := k
    exact ⟨a, cap, vs, h1, h2, h3, RepL.mono h h4, fun b hb => (h5 b hb).imp (·.mono h) id, h6.mono h⟩
  | .row xs, v, k => by unfold Rep at k ⊢; obtain ⟨b, vs, h1, h2, h3⟩ := k; exact ⟨b, vs, h1, RepL.mono h h2, h3.mono h⟩
  | .arr i off n cap, v, k => by unfold Rep at k ⊢; exact ⟨Nat.lt_of_lt_of_le k.1 h.N, by rw [h.σ i k.1]; exact k.2⟩
  | .fn f first cap, v, k => by unfold Rep at k ⊢; obtain ⟨fs, cs, h1, h2, h3⟩ := k; exact ⟨fs, cs, h1, RepL.mono h h2, RepL.mono h h3⟩
  | .mapv i, v, k => by unfold Rep at k ⊢; exact ⟨Nat.lt_of_lt_of_le k.1 h.N, by rw [h.σ i k.1]; exact k.2⟩
theorem RepL.mono {c c' : Cx} (h : c.Le c') : ∀ {xs : List PV} {vs : List Value}, RepL c xs vs → RepL c' xs vs
  | [], vs, k => by unfold RepL at k ⊢; exact k
  | x :: xs, vs, k => by unfold RepL at k ⊢; obtain ⟨u, us, h1, h2, h3⟩ := k; exact ⟨u, us, h1, Rep.mono h h2, RepL.mono h h3⟩
end

theorem repL_nil {c : Cx} {vs : List Value} : RepL c [] vs ↔ vs = [] := by unfold RepL; rfl
theorem repL_cons {c : Cx} {x : PV} {xs : List PV} {u : Value} {us : List Value} : RepL c (x :: xs) (u :: us) ↔ Rep c x u ∧ RepL c xs us := by
  constructor
  · intro h
    unfold RepL at h
    obtain ⟨u', us', h1, h2, h3⟩ := h
    injection h1 with h4 h5
    subst h4 h5
    exact ⟨h2, h3⟩
  · intro h; unfold RepL; exact ⟨u, us, rfl, h.1, h.2⟩
theorem RepL.length {c : Cx} : ∀ {xs : List PV} {vs : List Value}, RepL c xs vs → vs.length = xs.length
  | [], vs, h => by rw [repL_nil] at h; simp [h]
  | x :: xs, [], h => by unfold RepL at h; obtain ⟨u, us, h1, _⟩ := h; cases h1
  | x :: xs, v :: vs, h => by rw [repL_cons] at h; simp [RepL.length h.2]
theorem RepL.get {c : Cx} : ∀ {xs : List PV} {vs : List Value} (_ : RepL c xs vs) {j : Nat} {x : PV} (_ : xs[j]? = some x), ∃ u, vs[j]? = some u ∧ Rep c x u
  | [], _, _, j, x, hj => by simp at hj
  | y :: xs, [], h, _, _, _ => by unfold RepL at h; obtain ⟨u, us, h1, _⟩ := h; cases h1
  | y :: xs, v :: vs, h, 0, x, hj => by rw [repL_cons] at h; simp at hj; subst hj; exact ⟨v, rfl, h.1⟩
  | y :: xs, v :: vs, h, j + 1, x, hj => by rw [repL_cons] at h; simpa using RepL.get h.2 (by simpa using hj)
theorem RepL.append {c : Cx} : ∀ {xs ys : List PV} {vs us : List Value}, RepL c xs vs → RepL c ys us → RepL c (xs ++ ys) (vs ++ us)
  | [], ys, vs, us, h, k => by rw [repL_nil] at h; subst h; exact k
  | x :: xs, ys, [], us, h, k => by unfold RepL at h; obtain ⟨u, _, h1, _⟩ := h; cases h1
  | x :: xs, ys, v :: vs, us, h, k => by rw [repL_cons] at h; exact repL_cons.2 ⟨h.1, RepL.append h.2 k⟩
theorem RepL.drop {c : Cx} : ∀ {xs : List PV} {vs : List Value} (n : Nat), RepL c xs vs → RepL c (xs.drop n) (vs.drop n)
  | xs, vs, 0, h => by simpa using h
  | [], vs, n + 1, h => by rw [repL_nil] at h; subst h; simpa using repL_nil.2 rfl
  | x :: xs, [], n + 1, h => by unfold RepL at h; obtain ⟨u, _, h1, _⟩ := h; cases h1
  | x :: xs, v :: vs, n + 1, h => by rw [repL_cons] at h; simpa using RepL.drop n h.2
theorem RepL.take {c : Cx} : ∀ {xs : List PV} {vs : List Value} (n : Nat), RepL c xs vs → RepL c (xs.take n) (vs.take n)
  | xs, vs, 0, h => by simpa using repL_nil.2 rfl
  | [], vs, n + 1, h => by rw [repL_nil] at h; subst h; simpa using repL_nil.2 rfl
  | x :: xs, [], n + 1, h => by unfold RepL at h; obtain ⟨u, _, h1, _⟩ := h; cases h1
  | x :: xs, v :: vs, n + 1, h => by rw [repL_cons] at h; simpa using repL_cons.2 ⟨h.1, RepL.take n h.2⟩
theorem RepL.set {c : Cx} : ∀ {xs : List PV} {vs : List Value} (n : Nat) {x : PV} {u : Value}, RepL c xs vs → Rep c x u → RepL c (xs.set n x) (vs.set n u)
  | [], vs, n, x, u, h, k => by rw [repL_nil] at h; subst h; simpa using repL_nil.2 rfl
  | y :: xs, [], n, x, u, h, k => by unfold RepL at h; obtain ⟨u, _, h1, _⟩ := h; cases h1
  | y :: xs, v :: vs, 0, x, u, h, k => by rw [repL_cons] at h; simpa using repL_cons.2 ⟨k, h.2⟩
  | y :: xs, v :: vs, n + 1, x, u, h, k => by rw [repL_cons] at h; simpa using repL_cons.2 ⟨h.1, RepL.set n h.2 k⟩
theorem Lies.drop {c : Cx} {b : Addr} {vs : List Value} (h : Lies c b vs) (n : Nat) : Lies c ⟨b.block, b.off + n, none⟩ (vs.drop n) :=
  ⟨rfl, fun j u hj => by rw [List.getElem?_drop] at hj; have := h.2 (n + j) u hj; simpa [Nat.add_assoc] using this⟩
theorem Lies.take {c : Cx} {b : Addr} {vs : List Value} (h : Lies c b vs) (n : Nat) : Lies c b (vs.take n) :=
  ⟨h.1, fun j u hj => by rw [List.getElem?_take] at hj; split at hj; exact h.2 j u hj; cases hj⟩

/-- A block that has a name: a variable's cells; a row's free room, from a cell on; or no longer known. -/
inductive Ob where
  | cells (xs : List PV) (e : TypeId)
  | free (m : Nat)
  | dead

def Ob.live : Ob → Bool
  | .dead => false
  | _ => true
def Ob.wr : Ob → Nat → Prop
  | .cells _ _, _ => True
  | .free m, off => m ≤ off
  | .dead, _ => False
def OwnWr (σ : Nat → Option Nat) (H : List Ob) (b off : Nat) : Prop := ∃ i ob, H[i]? = some ob ∧ σ i = some b ∧ ob.wr off
def cx (B : Nat → Nat → Prop) (H : List Ob) (σ : Nat → Option Nat) (w : World) : Cx := ⟨w, H.length, σ, fun b off => B b off ∨ OwnWr σ H b off⟩
def Holds (c : Cx) (i : Nat) : Ob → Prop
  | .cells xs e => ∃ (b : Nat) (vs : List Value), c.σ i = some b ∧ c.w.heap[b]? = some (Obj.cells vs.toArray e (0, 0)) ∧ RepL c xs vs
  | .free m => ∀ b, c.σ i = some b → ∃ cs e, c.w.heap[b]? = some (Obj.cells cs e (0, 0)) ∧ m ≤ cs.size
  | .dead => True
/-- The named blocks, as they stand in a world; B: what others may write. -/
structure Sim (B : Nat → Nat → Prop) (H : List Ob) (σ : Nat → Option Nat) (w : World) : Prop where
  inj : ∀ i j b oi oj, H[i]? = some oi → H[j]? = some oj → oi.live = true → oj.live = true → σ i = some b → σ j = some b → i = j
  sep : ∀ i b oi, H[i]? = some oi → oi.live = true → σ i = some b → ∀ off, ¬ B b off
  base : ∀ b off, B b off → b < w.heap.size
  holds : ∀ i oi, H[i]? = some oi → Holds (cx B H σ w) i oi
/-- What a step does to named blocks and the world. -/
structure Step (B : Nat → Nat → Prop) (H : List Ob) (σ : Nat → Option Nat) (w : World) (H' : List Ob) (σ' : Nat → Option Nat) (w' : World) : Prop where
  le : (cx B H σ w).Le (cx B H' σ' w')
  os : w'.os = w.os
  tape : w'.tape = w.tape
  output : w'.output = w.output
  size : w.heap.size ≤ w'.heap.size
  new : ∀ i oi b, H'[i]? = some oi → oi.live = true → σ' i = some b → w.heap.size ≤ b ∨ ∃ j oj, H[j]? = some oj ∧ oj.live = true ∧ σ j = some b
  block : ∀ b, b < w.heap.size → (∀ i oi, H[i]? = some oi → oi.live = true → σ i ≠ some b) → w'.heap[b]? = w.heap[b]?
theorem Step.refl (B : Nat → Nat → Prop) (H : List Ob) (σ : Nat → Option Nat) (w : World) : Step B H σ w H σ w :=
  ⟨Cx.Le.refl _, rfl, rfl, rfl, Nat.le_refl _, fun i oi b h1 h2 h3 => .inr ⟨i, oi, h1, h2, h3⟩, fun _ _ _ => rfl⟩
theorem Step.trans {B : Nat → Nat → Prop} {H H1 H2 : List Ob} {σ σ1 σ2 : Nat → Option Nat} {w w1 w2 : World} (h : Step B H σ w H1 σ1 w1) (k : Step B H1 σ1 w1 H2 σ2 w2) : Step B H σ w H2 σ2 w2 := by
  refine ⟨h.le.trans k.le, k.os.trans h.os, k.tape.trans h.tape, k.output.trans h.output, Nat.le_trans h.size k.size, fun i oi b h1 h2 h0 => ?_, fun b hb hn => ?_⟩
  · rcases k.new i oi b h1 h2 h0 with h3 | ⟨j, oj, h3, h4, h5⟩
    · exact .inl (Nat.le_trans h.size h3)
    · rcases h.new j oj b h3 h4 h5 with h6 | h6
      · exact .inl h6
      · exact .inr h6
  · rw [k.block b (Nat.lt_of_lt_of_le hb h.size) (fun i oi h1 h2 e => ?_)]
    · exact h.block b hb hn
    · rcases h.new i oi b h1 h2 e with h3 | ⟨j, oj, h3, h4, h5⟩
      · omega
      · exact hn j oj h3 h4 h5
end Go.Proofs.Ytkchnmilmepnfaa
