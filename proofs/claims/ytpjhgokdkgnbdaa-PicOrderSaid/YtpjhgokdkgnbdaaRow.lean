/- Slices that read as rows, whoever made them: the word for it, and what keeps it. No condition. -/
import Derived.Test.YtpjhgokdkgnbdaaOwnB
import Derived.Test.YtpjhgokdkgnbdaaOpen
import Derived.ArgAppend
namespace Go.Proofs.Ytpjhgokdkgnbdaa
open Go.RowKit

/-- A slice that reads as n elements, of so many cells each. -/
def RowAt (w : World) (size : Nat) (sl : Value) (n : Nat) (xs : List Value) : Prop :=
  xs.length = n * size ∧ ∃ (a : Option Addr) (cap : Nat), sl = .slice a n cap ∧ (a = none → n = 0 ∧ cap = 0) ∧ n ≤ cap ∧ ∀ b, a = some b → ∀ (j : Nat) (u : Value), xs[j]? = some u → w.cell? (b.add j) = some u
/-- A slice that reads as bytes. -/
def BytesAt (w : World) (sl : Value) (xs : List Int) : Prop := RowAt w 1 sl xs.length (xs.map (Value.int .u8)) ∧ ∀ x ∈ xs, 0 ≤ x ∧ x < 256

theorem rowAt_below {w w' : World} {size n : Nat} {sl : Value} {xs : List Value} (h : RowAt w size sl n xs) (hb : Below w.heap.size w w') : RowAt w' size sl n xs := by
  obtain ⟨hl, a, cap, rfl, hn, hc, hx⟩ := h
  refine ⟨hl, a, cap, rfl, hn, hc, fun b hb' j u hj => ?_⟩
  have h1 := hx b hb' j u hj
  rw [hb.cell (World.block_lt_of_cell? w (b.add j) h1)]
  exact h1
theorem bytesAt_below {w w' : World} {sl : Value} {xs : List Int} (h : BytesAt w sl xs) (hb : Below w.heap.size w w') : BytesAt w' sl xs := ⟨rowAt_below h.1 hb, h.2⟩
theorem rowAt_nil (w : World) (size : Nat) : RowAt w size (.slice none 0 0) 0 [] := ⟨by simp, none, 0, rfl, fun _ => ⟨rfl, rfl⟩, Nat.le_refl _, fun b hb => by cases hb⟩
theorem bytesAt_nil (w : World) : BytesAt w (.slice none 0 0) [] := ⟨rowAt_nil w 1, fun x hx => by cases hx⟩
theorem own_rowAt {w : World} {B e size n : Nat} {v : Value} {xs : List Value} (h : w.ownsRow B e size v n xs) : RowAt w size v n xs := by
  refine ⟨h.1, ?_⟩
  rcases h.2 with ⟨rfl, rfl⟩ | ⟨g, cap, cur, rfl, hb, hg, hn, hm, hs, ht⟩
  · exact ⟨none, 0, rfl, fun _ => ⟨rfl, rfl⟩, Nat.le_refl _, fun b hb => by cases hb⟩
  · refine ⟨_, cap, rfl, (fun h => by cases h), hn, fun b hb' j u hj => ?_⟩
    obtain rfl := Option.some.inj hb'
    rw [← ht, List.getElem?_take] at hj
    split at hj
    · simp only [World.cell?, Addr.add_lit, hg, Nat.zero_add]
      simpa using hj
    · cases hj
/-- A store into a cell that holds none of the row's elements. -/
theorem rowAt_setCell {w : World} {size n : Nat} {sl : Value} {xs : List Value} (h : RowAt w size sl n xs) {p : Addr} {u : Value} (hp : w.cell? p = some u) (hu : u ∉ xs) (x : Value) : RowAt (w.setCell p x) size sl n xs := by
  obtain ⟨hl, a, cap, rfl, hn, hc, hx⟩ := h
  refine ⟨hl, a, cap, rfl, hn, hc, fun b hb j y hj => ?_⟩
  have h1 := hx b hb j y hj
  have hne : p ≠ b.add j := fun e => by
    rw [e, h1] at hp
    obtain rfl := Option.some.inj hp
    exact hu (List.mem_of_getElem? hj)
  rw [World.cell?_setCell_other (h := hne)]
  exact h1
theorem bytesAt_setCell {w : World} {sl : Value} {xs : List Int} (h : BytesAt w sl xs) {p : Addr} {u : Value} (hp : w.cell? p = some u) (hu : ∀ x, u ≠ .int .u8 x) (x : Value) : BytesAt (w.setCell p x) sl xs :=
  ⟨rowAt_setCell h.1 hp (fun hm => by obtain ⟨y, _, e⟩ := List.mem_map.1 hm; exact hu y e.symm) x, h.2⟩
/-- The elements' cells, where the slice's address is written out. -/
theorem rowAt_cell {w : World} {size n cap b o : Nat} {xs : List Value} {a : Option Addr} (h : RowAt w size (.slice a n cap) n xs) (ha : a = some ⟨b, o, none⟩) (j : Nat) (u : Value) (hj : xs[j]? = some u) : w.cell? ⟨b, o + j, none⟩ = some u := by
  obtain ⟨_, a', cap', e, _, _, hx⟩ := h
  have := hx ⟨b, o, none⟩ (by cases e; exact ha) j u hj
  rwa [Addr.add_lit] at this
/-- A row that is not empty lies at an address that is written out. -/
theorem rowAt_lit {w : World} {size n : Nat} {sl : Value} {xs : List Value} (h : RowAt w size sl n xs) (h0 : xs ≠ []) : ∃ b o cap, sl = .slice (some ⟨b, o, none⟩) n cap ∧ n ≤ cap ∧ b < w.heap.size ∧ ∀ (j : Nat) (u : Value), xs[j]? = some u → w.cell? ⟨b, o + j, none⟩ = some u := by
  obtain ⟨hl, a, cap, rfl, hn, hc, hx⟩ := h
  match a with
  | none => obtain ⟨rfl, rfl⟩ := hn rfl; exact absurd (List.eq_nil_of_length_eq_zero (by simpa using hl)) h0
  | some ⟨b, o, s⟩ =>
    match xs, h0 with
    | x :: l, _ =>
      have h1 := hx _ rfl 0 x rfl
      have hs : s = none := by
        have := World.cell?_spot h1
        simpa [Addr.add] using this
      subst hs
      refine ⟨b, o, cap, rfl, hc, ?_, fun j u hj => ?_⟩
      · have := World.block_lt_of_cell? w _ h1
        simpa [Addr.add] using this
      · have := hx _ rfl j u hj
        rwa [Addr.add_lit] at this
theorem bytesAt_size {w : World} {sl : Value} {xs : List Int} (h : BytesAt w sl xs) : ∃ a cap, sl = .slice a xs.length cap ∧ (a = none → xs.length = 0 ∧ cap = 0) ∧ xs.length ≤ cap := by
  obtain ⟨⟨_, a, cap, e, hn, hc, _⟩, _⟩ := h
  exact ⟨a, cap, e, hn, hc⟩
set_option maxRecDepth 100000 in
/-- Bytes as a text. -/
theorem text_at {w : World} {sl : Value} {xs : List Int} (h : BytesAt w sl xs) : (convert 22 9 sl).run Try.prog w = .ok (.string (strOfNums xs)) w := by
  by_cases h0 : xs = []
  · subst h0
    obtain ⟨⟨_, a, cap, rfl, hn, hc, hx⟩, _⟩ := h
    match a with
    | none =>
      obtain ⟨_, rfl⟩ := hn rfl
      exact run_convert_bytes_nil (w := w) 22 5 Try.underlying22 Try.underlying5 0 0 9 Try.underlying9
    | some b => exact text_empty w b cap
  · obtain ⟨b, o, cap, rfl, _, _, hc⟩ := rowAt_lit h.1 (by simp [h0])
    refine run_convert_bytes_arg w 22 5 Try.underlying22 Try.underlying5 b o xs.length cap xs rfl (fun i hi => ?_) 9 Try.underlying9
    exact hc i _ (by simp [List.getD, hi])
where
  text_empty (w : World) (b : Addr) (cap : Nat) : (convert 22 9 (.slice (some b) 0 cap)).run Try.prog w = .ok (.string (strOfNums [])) w := by
    rw [run_convert_bytes_string w 22 9 5 (some b) 0 cap Try.underlying22 Try.underlying5 Try.underlying9]
    have hl : (loadCells b 0).run Try.prog w = .ok #[] w := by
      have := run_loadCells_list (P := Try.prog) w b [] (fun j v hj => by cases hj)
      simpa using this
    simp [Conv.bytesToString, hl, Result.andThen, strOfNums]
    rfl
/-- What came in is bytes. -/
theorem ints_bytes {w : World} {a : Option Addr} {len cap : Nat} {zs : List Int} (h : IsInts .u8 w a len cap zs) : ∃ xs : List Int, xs.length = len ∧ BytesAt w (.slice a len cap) xs := by
  rcases h with ⟨rfl, rfl, rfl, rfl⟩ | ⟨x, rfl, hl, hm, hz, hc, hw⟩
  · exact ⟨[], rfl, bytesAt_nil w⟩
  · have hlen : (zs.take len).length = len := by rw [List.length_take]; omega
    refine ⟨zs.take len, hlen, ⟨by simp, some x, cap, by rw [hlen], fun h => by (cases h), by rw [hlen]; exact hl, fun b hb j u hj => ?_⟩, fun y hy => ?_⟩
    · obtain rfl := Option.some.inj hb
      rw [List.getElem?_map, List.getElem?_take] at hj
      split at hj
      · rename_i hlt
        rw [hc j (by omega)]
        rw [List.getElem?_eq_getElem (by omega)] at hj
        simp only [Option.map_some] at hj
        rw [← hj]
        simp [List.getD, show j < zs.length by omega]
      · cases hj
    · have := byte_wf (hw y (List.mem_of_mem_take hy)); omega
end Go.Proofs.Ytpjhgokdkgnbdaa
