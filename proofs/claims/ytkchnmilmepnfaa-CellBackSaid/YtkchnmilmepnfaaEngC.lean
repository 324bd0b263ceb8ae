/- The engine, part C: what becomes of named blocks when a world grows, or a block is written. No condition. -/
import Derived.Test.YtkchnmilmepnfaaEngB
import Derived.Laws.CopyRow
import Derived.Laws.AppendOwn
import Derived.Laws.MakeOwn
namespace Go.Proofs.Ytkchnmilmepnfaa
open Go.RowKit
set_option linter.unusedVariables false

def ext (σ : Nat → Option Nat) (n : Nat) (b : Option Nat) : Nat → Option Nat := fun i => if i = n then b else σ i
theorem ext_old {σ : Nat → Option Nat} {n i : Nat} {b : Option Nat} (h : i < n) : ext σ n b i = σ i := by unfold ext; rw [if_neg (by omega)]
theorem ext_new (σ : Nat → Option Nat) (n : Nat) (b : Option Nat) : ext σ n b n = b := by unfold ext; rw [if_pos rfl]

theorem get_snoc {α : Type} {H : List α} {o x : α} {i : Nat} (h : (H ++ [o])[i]? = some x) : (i < H.length ∧ H[i]? = some x) ∨ (i = H.length ∧ x = o) := by
  rcases Nat.lt_trichotomy i H.length with h1 | h1 | h1
  · rw [List.getElem?_append_left h1] at h; exact .inl ⟨h1, h⟩
  · subst h1; rw [List.getElem?_append_right (Nat.le_refl _)] at h; simp at h; exact .inr ⟨rfl, h.symm⟩
  · rw [List.getElem?_append_right (by omega)] at h; rw [List.getElem?_eq_none (by simp; omega)] at h; cases h
theorem lt_of_get {α : Type} {H : List α} {i : Nat} {x : α} (h : H[i]? = some x) : i < H.length := by
  rcases Nat.lt_or_ge i H.length with h1 | h1
  · exact h1
  · rw [List.getElem?_eq_none h1] at h; cases h

theorem Holds.lt {c : Cx} {i b : Nat} {oi : Ob} (h : Holds c i oi) (hl : oi.live = true) (hb : c.σ i = some b) : b < c.w.heap.size := by
  cases oi with
  | cells xs e => obtain ⟨b', vs, h1, h2, _⟩ := h; rw [hb] at h1; cases h1; exact (Array.getElem?_eq_some_iff.1 h2).1
  | free m => obtain ⟨cs, e, h1, _⟩ := h b hb; exact (Array.getElem?_eq_some_iff.1 h1).1
  | dead => cases hl

section
variable {B : Nat → Nat → Prop} {H : List Ob} {σ : Nat → Option Nat} {w w' : World}

/-- A world that is as another one, block by block, and has further ones. -/
structure Grows (w w' : World) : Prop where
  os : w'.os = w.os
  tape : w'.tape = w.tape
  output : w'.output = w.output
  size : w.heap.size ≤ w'.heap.size
  block : ∀ b, b < w.heap.size → w'.heap[b]? = w.heap[b]?
theorem Grows.refl (w : World) : Grows w w := ⟨rfl, rfl, rfl, Nat.le_refl _, fun _ _ => rfl⟩
theorem Grows.alloc (w : World) (o : Obj) : Grows w (w.alloc o) := ⟨rfl, rfl, rfl, by simp, fun b hb => Below.heap_alloc w o b hb⟩
theorem Grows.drew (w : World) : Grows w w.drew := ⟨rfl, rfl, rfl, Nat.le_refl _, fun _ _ => rfl⟩
theorem Grows.trans {a b c : World} (h : Grows a b) (k : Grows b c) : Grows a c :=
  ⟨k.os.trans h.os, k.tape.trans h.tape, k.output.trans h.output, Nat.le_trans h.size k.size, fun i hi => (k.block i (Nat.lt_of_lt_of_le hi h.size)).trans (h.block i hi)⟩
theorem Grows.of_below (h : Below w.heap.size w w') : Grows w w' := ⟨h.os, h.tape, h.output, h.size, h.block⟩
theorem Grows.cell (h : Grows w w') {b off : Nat} {u : Value} (hc : w.cell? ⟨b, off, none⟩ = some u) : w'.cell? ⟨b, off, none⟩ = some u := by
  have hlt := World.block_lt_of_cell? w ⟨b, off, none⟩ hc
  rw [World.cell?_of_block (w := w) (a := ⟨b, off, none⟩) (h.block b hlt)]
  exact hc

/-- The same names. -/
theorem grow_sim (s : Sim B H σ w) (g : Grows w w') : Sim B H σ w' ∧ Step B H σ w H σ w' := by
  have le : (cx B H σ w).Le (cx B H σ w') := ⟨Nat.le_refl _, fun _ _ => rfl, fun b off u h1 h2 => ⟨g.cell h2, h1⟩, fun b cs e fr h1 => ⟨cs, (g.block b (Array.getElem?_eq_some_iff.1 h1).1).trans h1, rfl⟩⟩
  refine ⟨⟨s.inj, s.sep, fun b off h => Nat.lt_of_lt_of_le (s.base b off h) g.size, fun i oi h => ?_⟩, ⟨le, g.os, g.tape, g.output, g.size, fun i oi b h1 h2 h3 => .inr ⟨i, oi, h1, h2, h3⟩, fun b hb _ => g.block b hb⟩⟩
  have k := s.holds i oi h
  cases oi with
  | cells xs e => obtain ⟨b, vs, h1, h2, h3⟩ := k; exact ⟨b, vs, h1, (g.block b (Array.getElem?_eq_some_iff.1 h2).1).trans h2, RepL.mono le h3⟩
  | free m => intro b hb; obtain ⟨cs, e, h1, h2⟩ := k b hb; exact ⟨cs, e, (g.block b (Array.getElem?_eq_some_iff.1 h1).1).trans h1, h2⟩
  | dead => trivial
/-- A name more: of a block that is new, or of none. -/
theorem grow_name (s : Sim B H σ w) (g : Grows w w') (o : Ob) (nb : Option Nat) (hnew : ∀ b, nb = some b → w.heap.size ≤ b) (ho : Holds (cx B (H ++ [o]) (ext σ H.length nb) w') H.length o) :
    Sim B (H ++ [o]) (ext σ H.length nb) w' ∧ Step B H σ w (H ++ [o]) (ext σ H.length nb) w' := by
  have own : ∀ b off, b < w.heap.size → OwnWr (ext σ H.length nb) (H ++ [o]) b off → OwnWr σ H b off := by
    rintro b off hb ⟨i, oi, h1, h2, h3⟩
    rcases get_snoc h1 with ⟨h4, h5⟩ | ⟨rfl, rfl⟩
    · rw [ext_old h4] at h2; exact ⟨i, oi, h5, h2, h3⟩
    · rw [ext_new] at h2; have := hnew b h2; omega
  have le : (cx B H σ w).Le (cx B (H ++ [o]) (ext σ H.length nb) w') := by
    refine ⟨by simp [cx], fun i hi => ext_old hi, fun b off u h1 h2 => ⟨g.cell h2, fun h => ?_⟩, fun b cs e fr h1 => ⟨cs, (g.block b (Array.getElem?_eq_some_iff.1 h1).1).trans h1, rfl⟩⟩
    rcases h with h | h
    · exact h1 (.inl h)
    · exact h1 (.inr (own b off (World.block_lt_of_cell? w ⟨b, off, none⟩ h2) h))
  refine ⟨⟨?_, ?_, fun b off h => Nat.lt_of_lt_of_le (s.base b off h) g.size, ?_⟩, ⟨le, g.os, g.tape, g.output, g.size, ?_, fun b hb _ => g.block b hb⟩⟩
  · intro i j b oi oj h1 h2 l1 l2 e1 e2
    rcases get_snoc h1 with ⟨h3, h4⟩ | ⟨rfl, rfl⟩ <;> rcases get_snoc h2 with ⟨h5, h6⟩ | ⟨rfl, rfl⟩
    · rw [ext_old h3] at e1; rw [ext_old h5] at e2; exact s.inj i j b oi oj h4 h6 l1 l2 e1 e2
    · rw [ext_old h3] at e1; rw [ext_new] at e2
      have := (s.holds i oi h4).lt l1 e1
      have := hnew b e2
      simp only [cx] at *; omega
    · rw [ext_new] at e1; rw [ext_old h5] at e2
      have := (s.holds j oj h6).lt l2 e2
      have := hnew b e1
      simp only [cx] at *; omega
    · rfl
  · intro i b oi h1 l1 e1 off hB
    rcases get_snoc h1 with ⟨h3, h4⟩ | ⟨rfl, rfl⟩
    · rw [ext_old h3] at e1; exact s.sep i b oi h4 l1 e1 off hB
    · rw [ext_new] at e1
      have := hnew b e1
      have := s.base b off hB
      omega
  · intro i oi h1
    rcases get_snoc h1 with ⟨h3, h4⟩ | ⟨rfl, rfl⟩
    · have k := s.holds i oi h4
      cases oi with
      | cells xs e => obtain ⟨b, vs, h5, h6, h7⟩ := k; exact ⟨b, vs, (ext_old h3).trans h5, (g.block b (Array.getElem?_eq_some_iff.1 h6).1).trans h6, RepL.mono le h7⟩
      | free m => intro b hb; obtain ⟨cs, e, h5, h6⟩ := k b ((ext_old h3).symm.trans hb); exact ⟨cs, e, (g.block b (Array.getElem?_eq_some_iff.1 h5).1).trans h5, h6⟩
      | dead => trivial
    · exact ho
  · intro i oi b h1 h2 h3
    rcases get_snoc h1 with ⟨h4, h5⟩ | ⟨rfl, rfl⟩
    · rw [ext_old h4] at h3; exact .inr ⟨i, oi, h5, h2, h3⟩
    · rw [ext_new] at h3; exact .inl (hnew b h3)
theorem name_cells (s : Sim B H σ w) (xs : List PV) (vs : List Value) (e : TypeId) (h : RepL (cx B H σ w) xs vs) :
    Sim B (H ++ [.cells xs e]) (ext σ H.length (some w.heap.size)) (w.alloc (.cells vs.toArray e)) ∧ Step B H σ w (H ++ [.cells xs e]) (ext σ H.length (some w.heap.size)) (w.alloc (.cells vs.toArray e)) := by
  have k := fun ho => grow_name s (Grows.alloc w (.cells vs.toArray e)) (.cells xs e) (some w.heap.size) (fun b hb => by cases hb; exact Nat.le_refl _) ho
  refine k ⟨w.heap.size, vs, ext_new _ _ _, (by show (w.heap.push (Obj.cells vs.toArray e))[w.heap.size]? = _; simp), RepL.mono ?_ h⟩
  have g := Grows.alloc w (Obj.cells vs.toArray e)
  refine ⟨by simp [cx], fun i hi => ext_old hi, fun b off u h1 h2 => ⟨g.cell h2, fun h => ?_⟩, fun b cs e' fr h1 => ⟨cs, (g.block b (Array.getElem?_eq_some_iff.1 h1).1).trans h1, rfl⟩⟩
  rcases h with h | ⟨i, oi, h3, h4, h5⟩
  · exact h1 (.inl h)
  · rcases get_snoc h3 with ⟨h6, h7⟩ | ⟨rfl, rfl⟩
    · rw [ext_old h6] at h4; exact h1 (.inr ⟨i, oi, h7, h4, h5⟩)
    · rw [ext_new] at h4; cases h4
      have := World.block_lt_of_cell? w ⟨w.heap.size, off, none⟩ h2
      simp at this

theorem heap_setRow (w : World) (g : Nat) (cs : Array Value) (b : Nat) (h : b ≠ g) : (w.setRow g cs).heap[b]? = w.heap[b]? := by
  simp only [World.setRow, Array.getElem?_modify]
  rw [if_neg (by omega)]
theorem heap_setRow_same {w : World} {g : Nat} {cs cs' : Array Value} {e : TypeId} {fr : Nat × Nat} (h : w.heap[g]? = some (Obj.cells cs e fr)) : (w.setRow g cs').heap[g]? = some (Obj.cells cs' e fr) := by
  simp only [World.setRow, Array.getElem?_modify, if_true, h, Option.map_some]
theorem size_setRow (w : World) (g : Nat) (cs : Array Value) : (w.setRow g cs).heap.size = w.heap.size := by simp [World.setRow]
theorem cell_setRow_other (w : World) (g : Nat) (cs : Array Value) (b off : Nat) (h : b ≠ g) : (w.setRow g cs).cell? ⟨b, off, none⟩ = w.cell? ⟨b, off, none⟩ :=
  World.cell?_of_block (w := w) (a := ⟨b, off, none⟩) (heap_setRow w g cs b h)

/-- A variable's cells are written. -/
theorem set_cells (s : Sim B H σ w) {i b : Nat} {xs ys : List PV} {e : TypeId} (hi : H[i]? = some (.cells xs e)) (hb : σ i = some b) {vs us : List Value} (hv : w.heap[b]? = some (Obj.cells vs.toArray e (0, 0))) (hl : us.length = vs.length)
    (hr : RepL (cx B H σ w) ys us) : Sim B (H.set i (.cells ys e)) σ (w.setRow b us.toArray) ∧ Step B H σ w (H.set i (.cells ys e)) σ (w.setRow b us.toArray) := by
  have hlen := lt_of_get hi
  have get : ∀ j o, (H.set i (.cells ys e))[j]? = some o → (j = i ∧ o = .cells ys e) ∨ (j ≠ i ∧ H[j]? = some o) := by
    intro j o h
    by_cases hj : j = i
    · subst hj; rw [List.getElem?_set_self hlen] at h; cases h; exact .inl ⟨rfl, rfl⟩
    · rw [List.getElem?_set_ne (Ne.symm hj)] at h; exact .inr ⟨hj, h⟩
  have own : ∀ x off, OwnWr σ (H.set i (.cells ys e)) x off → OwnWr σ H x off := by
    rintro x off ⟨j, o, h1, h2, h3⟩
    rcases get j o h1 with ⟨rfl, rfl⟩ | ⟨_, h4⟩
    · exact ⟨j, _, hi, h2, trivial⟩
    · exact ⟨j, o, h4, h2, h3⟩
  have wr : ∀ off, OwnWr σ H b off := fun off => ⟨i, _, hi, hb, trivial⟩
  have le : (cx B H σ w).Le (cx B (H.set i (.cells ys e)) σ (w.setRow b us.toArray)) := by
    refine ⟨by simp [cx], fun _ _ => rfl, fun x off u h1 h2 => ⟨?_, fun h => h1 (h.imp id (own x off))⟩, fun x cs t fr h1 => ?_⟩
    · have hx : x ≠ b := fun hx => h1 (.inr (hx ▸ wr off))
      exact (cell_setRow_other w b _ x off hx).trans h2
    · by_cases hx : x = b
      · subst hx
        simp only [cx] at h1
        rw [hv] at h1; cases h1
        exact ⟨_, heap_setRow_same hv, by simpa using hl⟩
      · exact ⟨cs, (heap_setRow w b _ x hx).trans h1, rfl⟩
  refine ⟨⟨?_, ?_, fun x off h => by rw [size_setRow]; exact s.base x off h, ?_⟩, ⟨le, rfl, rfl, rfl, by rw [size_setRow]; exact Nat.le_refl _, ?_, ?_⟩⟩
  · intro j k x oj ok h1 h2 l1 l2 e1 e2
    rcases get j oj h1 with ⟨rfl, rfl⟩ | ⟨_, h3⟩ <;> rcases get k ok h2 with ⟨rfl, rfl⟩ | ⟨_, h4⟩
    · rfl
    · exact s.inj _ _ x _ _ hi h4 rfl l2 e1 e2
    · exact s.inj _ _ x _ _ h3 hi l1 rfl e1 e2
    · exact s.inj _ _ x _ _ h3 h4 l1 l2 e1 e2
  · intro j x oj h1 l1 e1 off
    rcases get j oj h1 with ⟨rfl, rfl⟩ | ⟨_, h3⟩
    · exact s.sep _ x _ hi rfl e1 off
    · exact s.sep _ x _ h3 l1 e1 off
  · intro j oj h1
    rcases get j oj h1 with ⟨rfl, rfl⟩ | ⟨hj, h3⟩
    · exact ⟨b, us, hb, heap_setRow_same hv, RepL.mono le hr⟩
    · have k := s.holds j oj h3
      cases oj with
      | cells zs t =>
        obtain ⟨x, ws, h5, h6, h7⟩ := k
        have hx : x ≠ b := fun hx => hj (s.inj j i b _ _ h3 hi rfl rfl (hx ▸ h5) hb)
        exact ⟨x, ws, h5, (heap_setRow w b _ x hx).trans h6, RepL.mono le h7⟩
      | free m =>
        intro x hx
        obtain ⟨cs, t, h5, h6⟩ := k x hx
        have hne : x ≠ b := fun h => hj (s.inj j i b _ _ h3 hi rfl rfl (h ▸ hx) hb)
        exact ⟨cs, t, (heap_setRow w b _ x hne).trans h5, h6⟩
      | dead => trivial
  · intro j oj x h1 h2 h3
    rcases get j oj h1 with ⟨rfl, rfl⟩ | ⟨_, h4⟩
    · exact .inr ⟨_, _, hi, rfl, h3⟩
    · exact .inr ⟨j, oj, h4, h2, h3⟩
  · intro x hx hn
    exact heap_setRow w b _ x (fun h => hn i _ hi rfl (h ▸ hb))
end
end Go.Proofs.Ytkchnmilmepnfaa
