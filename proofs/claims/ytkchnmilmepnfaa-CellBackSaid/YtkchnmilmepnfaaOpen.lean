/- How arguments that can be read as data lie in memory: a lemma for each shape of type. No condition. -/
import Derived.Test.YtkchnmilmepnfaaProg
import Derived.WalkKit
import Derived.ProofKit
import Derived.OpenShut
import Derived.ShutString
import Derived.ChangeOld
import Derived.Below
import Derived.ChangeSlices
namespace Go.Proofs.Ytkchnmilmepnfaa
open Go.ChangeShapes Go.WideShapes Go.ChangeAt Go.RowKit
open Go.ChangeMaps (open_string)

/-- Cells that can be read as data of a type. -/
def Rd (w : World) (t : TypeId) (cs : List Value) : Prop := ∃ (H : Type) (enc : TypeId × Value → H) (fuel : Nat) (x : DataW H × List MemPlace), DataW.trod enc Try.prog w 0 (fun _ => true) true fuel t cs = some x
/-- An argument that can be read as data of a type. -/
def Reads (w : World) (t : TypeId) (v : Value) : Prop := ∃ (H : Type) (enc : TypeId × Value → H) (d : DataW H) (p : List MemPlace) (base : Nat), Value.okWide Try.prog w .any base t v ∧ DataW.Trod enc Try.prog w 0 (fun _ => true) true t v d p

theorem reads_rd {w : World} {t : TypeId} {v : Value} (h : Reads w t v) : Rd w t v.cells.toList := by
  obtain ⟨H, enc, d, p, base, _, fuel, hf⟩ := h
  exact ⟨H, enc, fuel, _, hf⟩
set_option maxRecDepth 100000 in
theorem reads_int {w : World} {t : TypeId} {v : Value} {k : IntKind} (ht : Try.prog.underlying t = some (.int k)) (h : Reads w t v) : ∃ n, v = .int k n ∧ (Lit.int k n).wf = true := by
  obtain ⟨H, enc, d, p, base, hv, hd⟩ := h
  obtain ⟨n, hn, _, _, hw⟩ := open_int ht hv hd
  exact ⟨n, hn, hw⟩
set_option maxRecDepth 100000 in
theorem reads_string {w : World} {t : TypeId} {v : Value} (ht : Try.prog.underlying t = some .string) (h : Reads w t v) : ∃ s : ByteArray, v = .string s ∧ s.size ≤ maxLen := by
  obtain ⟨H, enc, d, p, base, hv, hd⟩ := h
  obtain ⟨s, hs, _, _, hw⟩ := open_string ht hv hd
  exact ⟨s, hs, hw⟩
set_option maxRecDepth 100000 in
theorem reads_struct {w : World} {t : TypeId} {v : Value} {fs : Array Field} (ht : Try.prog.underlying t = some (.struct fs)) (h : Reads w t v) : ∃ cs : Array Value, v = .agg cs ∧ cs.toList.length = Try.prog.cellsOf t ∧ Rd w t cs.toList := by
  have hr := reads_rd h
  obtain ⟨H, enc, d, p, base, hv, hd⟩ := h
  obtain ⟨cs, rfl, hs⟩ := okWide_struct ht hv
  exact ⟨cs, rfl, by simpa using hs, hr⟩
set_option maxRecDepth 100000 in
theorem reads_slice {w : World} {t : TypeId} {v : Value} {e : TypeId} (ht : Try.prog.underlying t = some (.slice e)) (h : Reads w t v) : ∃ a len cap, v = .slice a len cap ∧ Rd w t [.slice a len cap] := by
  have hr := reads_rd h
  obtain ⟨H, enc, d, p, base, hv, hd⟩ := h
  obtain ⟨a, len, cap, rfl⟩ := okWide_slice ht hv
  exact ⟨a, len, cap, rfl, hr⟩

theorem rd_int {w : World} {t : TypeId} {cs : List Value} {k : IntKind} (ht : Try.prog.underlying t = some (.int k)) (h : Rd w t cs) : ∃ n, cs = [.int k n] ∧ (Lit.int k n).wf = true := by
  obtain ⟨H, enc, fuel, x, hf⟩ := h
  obtain ⟨n, hc, _, hw⟩ := DataW.trod_int ht hf
  exact ⟨n, hc, hw⟩
theorem rd_bool {w : World} {t : TypeId} {cs : List Value} (ht : Try.prog.underlying t = some .bool) (h : Rd w t cs) : ∃ b, cs = [.bool b] := by
  obtain ⟨H, enc, fuel, x, hf⟩ := h
  obtain ⟨b, hc, _⟩ := DataW.trod_bool ht hf
  exact ⟨b, hc⟩
theorem rd_string {w : World} {t : TypeId} {cs : List Value} (ht : Try.prog.underlying t = some .string) (h : Rd w t cs) : ∃ s : ByteArray, cs = [.string s] ∧ s.size ≤ maxLen := by
  obtain ⟨H, enc, fuel, x, hf⟩ := h
  obtain ⟨s, hc, _, hw⟩ := DataW.trod_string ht hf
  exact ⟨s, hc, hw⟩
theorem rd_len {w : World} {t : TypeId} {cs : List Value} {fs : Array Field} (ht : Try.prog.underlying t = some (.struct fs)) (h : Rd w t cs) : cs.length = Try.prog.cellsOf t := by
  obtain ⟨H, enc, fuel, x, hf⟩ := h
  obtain ⟨xs, n, _, _, hl, _⟩ := DataW.trod_struct ht hf
  exact hl
/-- A struct's field. -/
theorem rd_field {w : World} {t : TypeId} {cs : List Value} {fs : Array Field} (ht : Try.prog.underlying t = some (.struct fs)) (h : Rd w t cs) (i : Nat) (f : Field) (hf : fs[i]? = some f) :
    Rd w f.type ((cs.drop f.offset).take (Try.prog.cellsOf f.type)) := by
  obtain ⟨H, enc, fuel, x, hx⟩ := h
  obtain ⟨xs, n, _, _, _, hlen, hfs⟩ := DataW.trod_struct ht hx
  have hi : i < xs.length := by
    rw [hlen]
    rcases Nat.lt_or_ge i fs.size with h' | h'
    · exact h'
    · rw [Array.getElem?_eq_none h'] at hf; cases hf
  have := hfs i f hf
  rw [List.getElem?_eq_getElem hi] at this
  exact ⟨H, enc, n, _, this⟩
/-- A struct's field of one cell. -/
theorem rd_field1 {w : World} {t : TypeId} {cs : List Value} {fs : Array Field} (ht : Try.prog.underlying t = some (.struct fs)) (h : Rd w t cs) (i : Nat) (f : Field) (hf : fs[i]? = some f) (hc : Try.prog.cellsOf f.type = 1) (x : Value) (hx : cs[f.offset]? = some x) :
    Rd w f.type [x] := by
  have := rd_field ht h i f hf
  rw [hc] at this
  have e : (cs.drop f.offset).take 1 = [x] := by
    rw [List.take_one, List.head?_drop, hx]; rfl
  rwa [e] at this
/-- A slice, element by element, those beyond its length too. -/
theorem rd_slice {w : World} {t : TypeId} {cs : List Value} {e : TypeId} (ht : Try.prog.underlying t = some (.slice e)) (h : Rd w t cs) :
    cs = [.slice none 0 0] ∨ ∃ (a : Addr) (len cap : Nat), cs = [.slice (some a) len cap] ∧ len ≤ cap ∧ cap ≤ maxLen ∧
      ∀ i, i < cap → ∃ es, w.cells? 0 (a.add (i * Try.prog.cellsOf e)) (Try.prog.cellsOf e) = some es ∧ Rd w e es := by
  obtain ⟨H, enc, fuel, x, hx⟩ := h
  rcases DataW.trod_slice ht hx with ⟨h0, _⟩ | ⟨a, len, cap, elems, rest, n, _, hc, _, _, hl, hm, hlen, hel, hsp, _⟩
  · exact .inl h0
  · refine .inr ⟨a, len, cap, hc, hl, hm, fun i hi => ?_⟩
    have key : ∀ (o : Option (List Value)) (y : Option (DataW H × List MemPlace)) (k : Nat) (l : List (DataW H × List MemPlace)), k < l.length → o.bind (DataW.trod enc Try.prog w 0 (fun _ => true) true n e) = l[k]? → ∃ es, o = some es ∧ Rd w e es := by
      intro o y k l hk ho
      rw [List.getElem?_eq_getElem hk] at ho
      cases o with
      | none => cases ho
      | some es => exact ⟨es, rfl, H, enc, n, _, ho⟩
    by_cases h1 : i < len
    · exact key _ none i elems (by omega) (hel i h1)
    · obtain ⟨hr1, hr2⟩ := hsp rfl
      have := hr2 (i - len) (by omega)
      rw [show len + (i - len) = i from by omega] at this
      exact key _ none (i - len) rest (by omega) this

theorem cellsOf_int : Try.prog.cellsOf 3 = 1 := by kernel_rfl
theorem cellsOf_uint8 : Try.prog.cellsOf 5 = 1 := by kernel_rfl
theorem cellsOf_string : Try.prog.cellsOf 9 = 1 := by kernel_rfl
theorem cellsOf_bool : Try.prog.cellsOf 4 = 1 := by kernel_rfl
theorem agg_list {cs : Array Value} {l : List Value} (h : cs.toList = l) : cs = l.toArray := by rw [← h]
theorem two_list {α : Type} {l : List α} (h : l.length = 2) : ∃ a b, l = [a, b] := by
  match l, h with
  | [a, b], _ => exact ⟨a, b, rfl⟩
theorem four_list {α : Type} {l : List α} (h : l.length = 4) : ∃ a b c d, l = [a, b, c, d] := by
  match l, h with
  | [a, b, c, d], _ => exact ⟨a, b, c, d, rfl⟩
theorem five_list {α : Type} {l : List α} (h : l.length = 5) : ∃ a b c d e, l = [a, b, c, d, e] := by
  match l, h with
  | [a, b, c, d, e], _ => exact ⟨a, b, c, d, e, rfl⟩
theorem max_len {n : Nat} (h : n ≤ maxLen) : n ≤ 9223372036854775807 := h
theorem fit_wf {n : Int} (h : (Lit.int .i64 n).wf = true) : -9223372036854775808 ≤ n ∧ n ≤ 9223372036854775807 := by
  have := h; simp [Lit.wf, IntKind.min, IntKind.max, IntKind.bits, IntKind.signed] at this; omega
theorem byte_wf {n : Int} (h : (Lit.int .u8 n).wf = true) : 0 ≤ n ∧ n ≤ 255 := by
  have := h; simp [Lit.wf, IntKind.min, IntKind.max, IntKind.bits, IntKind.signed] at this; omega

/-- What came in is nil, or a row of numbers of one kind. -/
def IsInts (k : IntKind) (w : World) (a : Option Addr) (len cap : Nat) (zs : List Int) : Prop :=
  (a = none ∧ len = 0 ∧ cap = 0 ∧ zs = []) ∨
  ∃ x, a = some x ∧ len ≤ cap ∧ cap ≤ maxLen ∧ zs.length = cap ∧ (∀ i, i < zs.length → w.cell? (x.add i) = some (.int k (zs.getD i 0))) ∧ ∀ n ∈ zs, (Lit.int k n).wf = true
theorem rd_ints {w : World} {t e : TypeId} {k : IntKind} {a : Option Addr} {len cap : Nat} (ht : Try.prog.underlying t = some (.slice e)) (he : Try.prog.underlying e = some (.int k)) (hc : Try.prog.cellsOf e = 1) (h : Rd w t [.slice a len cap]) :
    ∃ zs, IsInts k w a len cap zs := by
  obtain ⟨H, enc, fuel, x, hf⟩ := h
  rcases open_ints ht he hc hf with ⟨hcs, _⟩ | ⟨x, l, c, zs, hcs, _, hl, hm, hz, _, hcell, hwz⟩
  · simp at hcs
    obtain ⟨rfl, rfl, rfl⟩ := hcs
    exact ⟨[], .inl ⟨rfl, rfl, rfl, rfl⟩⟩
  · simp at hcs
    obtain ⟨rfl, rfl, rfl⟩ := hcs
    exact ⟨zs, .inr ⟨_, rfl, hl, hm, by simpa using hz, hcell, hwz⟩⟩
end Go.Proofs.Ytkchnmilmepnfaa
