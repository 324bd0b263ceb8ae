/- The engine, part E: what the operations do over values without addresses: slices, strings, rows. No condition. -/
import Derived.Test.YtkchnmilmepnfaaEngD
import Derived.Deep.AppendSrc
import Derived.Laws.StructEq
import Derived.Laws.BytesArg
import Derived.Laws.IdiomStrings
namespace Go.Proofs.Ytkchnmilmepnfaa
open Go.RowKit
set_option linter.unusedVariables false

theorem cell_alloc_new (w : World) (cs : Array Value) (e : TypeId) (fr : Nat × Nat) (b j : Nat) (hb : b = w.heap.size) : (w.alloc (.cells cs e fr)).cell? ⟨b, j, none⟩ = cs[j]? := by
  subst hb
  have h : (w.alloc (.cells cs e fr)).heap[w.heap.size]? = some (Obj.cells cs e fr) := by show (w.heap.push _)[w.heap.size]? = _; simp
  unfold World.cell?
  simp only [h]
  rfl
section
variable {P : Program} {B : Nat → Nat → Prop} {o : Oper} {T : Nat → PV} {H : List Ob}
theorem rep_seq {c : Cx} {n : Nat} {xs : List PV} {s : SK} {v : Value} (h : Rep c (.seq n xs s) v) : ∃ (a : Option Addr) (cap : Nat) (vs : List Value), v = .slice a n cap ∧ n ≤ cap ∧ (a = none → n = 0 ∧ cap = 0 ∧ vs = []) ∧ RepL c xs vs ∧ (∀ b, a = some b → Lies c b vs ∨ (cap = 0 ∧ vs = [])) ∧ KindOk c s a n cap xs.length := by
  unfold Rep at h; exact h
theorem lies_addr {c : Cx} {b : Addr} {vs : List Value} (h : Lies c b vs) : b = ⟨b.block, b.off, none⟩ := by cases b; simp only [Lies] at h; cases h.1; rfl

theorem does_indexAddr_seq {t e : TypeId} {d de : TD} {x ix : Operand} {n : Nat} {xs : List PV} {s : SK} {k : IntKind} {i : Int} (f : TyFacts P t d) (hd : d.sh = .slice e) (fe : TyFacts P e de) (ho : o.op = .indexAddr t x ix) (hx : opv T x = .seq n xs s) (hi : opv T ix = .val (.int k i)) (h0 : 0 ≤ i ∧ i < n) :
    Does P B o T H (.row (xs.drop (i.toNat * de.size))) H :=
  does_pure fun σ w a s' h => by
    have h1 := h x (by simp [ho, Op.operands])
    have h2 := h ix (by simp [ho, Op.operands])
    rw [hx] at h1
    rw [hi] at h2
    unfold Rep at h2
    obtain ⟨ad, cap, vs, hv, hle, hnil, hrl, hlies, _⟩ := rep_seq h1
    match ad, hnil, hlies, hv with
    | none, hnil, _, _ => obtain ⟨rfl, _⟩ := hnil rfl; omega
    | some b, _, hlies, hv =>
      have hl := (hlies b rfl).resolve_right (by rintro ⟨h3, _⟩; omega)
      have hb := lies_addr hl
      refine ⟨.pointer (some ⟨b.block, b.off + i.toNat * de.size, none⟩), ?_, ?_⟩
      · rw [hb] at hv
        simp [execOp, ho, hv, h2, Instr.indexAt, run_underlying (f.slice hd), asIntOf, h0, fe.sizeOf, Addr.add_lit]
      · unfold Rep; exact ⟨_, vs.drop (i.toNat * de.size), rfl, hrl.drop _, hl.drop _⟩
theorem does_indexAddr_arr {t e : TypeId} {d de : TD} {x ix : Operand} {id off n cap : Nat} {k : IntKind} {i : Int} (f : TyFacts P t d) (hd : d.sh = .slice e) (fe : TyFacts P e de) (ho : o.op = .indexAddr t x ix) (hx : opv T x = .arr id off n cap) (hi : opv T ix = .val (.int k i)) (h0 : 0 ≤ i ∧ i < n) :
    Does P B o T H (.ptr id (off + i.toNat * de.size)) H :=
  does_pure fun σ w a s' h => by
    have h1 := h x (by simp [ho, Op.operands])
    have h2 := h ix (by simp [ho, Op.operands])
    rw [hx] at h1
    rw [hi] at h2
    unfold Rep at h1 h2
    obtain ⟨hN, b, hb, hv⟩ := h1
    refine ⟨.pointer (some ⟨b, off + i.toNat * de.size, none⟩), ?_, ?_⟩
    · simp [execOp, ho, hv, h2, Instr.indexAt, run_underlying (f.slice hd), asIntOf, h0, fe.sizeOf, Addr.add_lit]
    · unfold Rep; exact ⟨hN, b, hb, rfl⟩
theorem does_indexAddr_ptr {t e : TypeId} {d de : TD} {x ix : Operand} {id off n : Nat} {k : IntKind} {i : Int} (f : TyFacts P t d) (hd : d.sh = .array n e) (fe : TyFacts P e de) (ho : o.op = .indexAddr t x ix) (hx : opv T x = .ptr id off) (hi : opv T ix = .val (.int k i)) (h0 : 0 ≤ i ∧ i < n) :
    Does P B o T H (.ptr id (off + i.toNat * de.size)) H :=
  does_pure fun σ w a s' h => by
    have h1 := h x (by simp [ho, Op.operands])
    have h2 := h ix (by simp [ho, Op.operands])
    rw [hx] at h1
    rw [hi] at h2
    unfold Rep at h1 h2
    obtain ⟨hN, b, hb, hv⟩ := h1
    refine ⟨.pointer (some ⟨b, off + i.toNat * de.size, none⟩), ?_, ?_⟩
    · simp [execOp, ho, hv, h2, Instr.indexAt, run_underlying (f.array hd), asIntOf, h0, fe.sizeOf, Addr.add_lit, Instr.sureAddr]
    · unfold Rep; exact ⟨hN, b, hb, rfl⟩
theorem does_indexAddr_row {t e : TypeId} {d de : TD} {x ix : Operand} {xs : List PV} {n : Nat} {k : IntKind} {i : Int} (f : TyFacts P t d) (hd : d.sh = .array n e) (fe : TyFacts P e de) (ho : o.op = .indexAddr t x ix) (hx : opv T x = .row xs) (hi : opv T ix = .val (.int k i)) (h0 : 0 ≤ i ∧ i < n) :
    Does P B o T H (.row (xs.drop (i.toNat * de.size))) H :=
  does_pure fun σ w a s' h => by
    have h1 := h x (by simp [ho, Op.operands])
    have h2 := h ix (by simp [ho, Op.operands])
    rw [hx] at h1
    rw [hi] at h2
    unfold Rep at h1 h2
    obtain ⟨b, vs, hv, hrl, hl⟩ := h1
    have hb := lies_addr hl
    refine ⟨.pointer (some ⟨b.block, b.off + i.toNat * de.size, none⟩), ?_, ?_⟩
    · rw [hb] at hv
      simp [execOp, ho, hv, h2, Instr.indexAt, run_underlying (f.array hd), asIntOf, h0, fe.sizeOf, Addr.add_lit, Instr.sureAddr]
    · unfold Rep; exact ⟨_, vs.drop (i.toNat * de.size), rfl, hrl.drop _, hl.drop _⟩

/-- Texts that are the same, byte by byte. -/
def sEq : List UInt8 → List UInt8 → Bool
  | [], [] => true
  | x :: xs, y :: ys => match Nat.beq x.toNat y.toNat with
    | true => sEq xs ys
    | false => false
  | _, _ => false
theorem sEq_iff : ∀ xs ys : List UInt8, sEq xs ys = true ↔ xs = ys
  | [], [] => by simp [sEq]
  | [], _ :: _ => by simp [sEq]
  | _ :: _, [] => by simp [sEq]
  | x :: xs, y :: ys => by
    simp only [sEq]
    split
    · rename_i h
      rw [Nat.beq_eq] at h
      have h' : x = y := UInt8.toNat_inj.1 h
      subst h'
      simp [sEq_iff xs ys]
    · rename_i h
      have h' : x ≠ y := fun e => by subst e; rw [Nat.beq_refl] at h; cases h
      simp [h']
def strEq (a b : ByteArray) : Bool := sEq a.data.toList b.data.toList
theorem strEq_iff (a b : ByteArray) : strEq a b = true ↔ a = b := by
  unfold strEq
  rw [sEq_iff]
  obtain ⟨⟨l⟩⟩ := a
  obtain ⟨⟨m⟩⟩ := b
  simp
theorem strEq_eq (a b : ByteArray) : strEq a b = decide (a = b) := by
  by_cases h : a = b
  · rw [(strEq_iff a b).2 h]; simp [h]
  · have : strEq a b = false := Bool.eq_false_iff.2 (fun k => h ((strEq_iff a b).1 k))
    simp [h, this]
theorem strEq_list (a b : ByteArray) : (a.toList == b.toList) = strEq a b := by
  rw [ByteArray.toList_eq, ByteArray.toList_eq, Bool.eq_iff_iff, beq_iff_eq]
  unfold strEq
  rw [sEq_iff]
theorem does_str_eql {t yt : TypeId} {x y : Operand} {a b : ByteArray} (ho : o.op = .binOp .eql t x y yt) (hx : opv T x = .val (.string a)) (hy : opv T y = .val (.string b)) : Does P B o T H (.val (.bool (strEq a b))) H :=
  does_pure fun σ w ac s h => by
    have h1 := h x (by simp [ho, Op.operands])
    have h2 := h y (by simp [ho, Op.operands])
    rw [hx] at h1
    rw [hy] at h2
    unfold Rep at h1 h2
    refine ⟨_, ?_, rep_val _ _⟩
    rw [← strEq_list]
    simp [execOp, ho, h1, h2, eqGuard_at_string, binOp, Op.stringOp]
theorem does_str_neq {t yt : TypeId} {x y : Operand} {a b : ByteArray} (ho : o.op = .binOp .neq t x y yt) (hx : opv T x = .val (.string a)) (hy : opv T y = .val (.string b)) : Does P B o T H (.val (.bool (!strEq a b))) H :=
  does_pure fun σ w ac s h => by
    have h1 := h x (by simp [ho, Op.operands])
    have h2 := h y (by simp [ho, Op.operands])
    rw [hx] at h1
    rw [hy] at h2
    unfold Rep at h1 h2
    refine ⟨_, ?_, rep_val _ _⟩
    rw [← strEq_list]
    simp [execOp, ho, h1, h2, eqGuard_at_string, binOp, Op.stringOp]
theorem does_bool_eql {t yt : TypeId} {d : TD} {x y : Operand} {a b : Bool} (f : TyFacts P t d) (hd : d.sh = .bool) (ho : o.op = .binOp .eql t x y yt) (hx : opv T x = .val (.bool a)) (hy : opv T y = .val (.bool b)) : Does P B o T H (.val (.bool (a == b))) H :=
  does_pure fun σ w ac s h => by
    have h1 := h x (by simp [ho, Op.operands])
    have h2 := h y (by simp [ho, Op.operands])
    rw [hx] at h1
    rw [hy] at h2
    unfold Rep at h1 h2
    refine ⟨_, ?_, rep_val _ _⟩
    have := run_equalIn_bool' (P := P) (w := w) (Op.maxDepth - 1) t a b (f.bool hd)
    simp [execOp, ho, h1, h2, eqGuard_at_bool, binOp, Op.equal]
    rw [show Op.maxDepth = Op.maxDepth - 1 + 1 from rfl, this]
    rfl
theorem does_bool_neq {t yt : TypeId} {d : TD} {x y : Operand} {a b : Bool} (f : TyFacts P t d) (hd : d.sh = .bool) (ho : o.op = .binOp .neq t x y yt) (hx : opv T x = .val (.bool a)) (hy : opv T y = .val (.bool b)) : Does P B o T H (.val (.bool (!(a == b)))) H :=
  does_pure fun σ w ac s h => by
    have h1 := h x (by simp [ho, Op.operands])
    have h2 := h y (by simp [ho, Op.operands])
    rw [hx] at h1
    rw [hy] at h2
    unfold Rep at h1 h2
    refine ⟨_, ?_, rep_val _ _⟩
    have := run_equalIn_bool' (P := P) (w := w) (Op.maxDepth - 1) t a b (f.bool hd)
    simp [execOp, ho, h1, h2, eqGuard_at_bool, binOp, Op.equal]
    rw [show Op.maxDepth = Op.maxDepth - 1 + 1 from rfl, this]
    rfl
theorem does_str_add {t yt : TypeId} {x y : Operand} {a b : ByteArray} (ho : o.op = .binOp .add t x y yt) (hx : opv T x = .val (.string a)) (hy : opv T y = .val (.string b)) (hb : a.size + b.size ≤ 9223372036854775807) : Does P B o T H (.val (.string (a ++ b))) H :=
  does_pure fun σ w ac s h => by
    have h1 := h x (by simp [ho, Op.operands])
    have h2 := h y (by simp [ho, Op.operands])
    rw [hx] at h1
    rw [hy] at h2
    unfold Rep at h1 h2
    refine ⟨_, ?_, rep_val _ _⟩
    have hb' : ¬ (9223372036854775807 < (a.size : Int) + (b.size : Int)) := by omega
    simp [execOp, ho, h1, h2, eqGuard_at_string, binOp, Op.stringOp, hb']
/-- A text's byte, as a number. -/
def byteAt (s : ByteArray) (j : Nat) : Int := ((s.data.toList.getD j 0).toNat : Int)
theorem does_index_str {t : TypeId} {d : TD} {x ix : Operand} {s : ByteArray} {k : IntKind} {i : Int} (f : TyFacts P t d) (hd : d.sh = .str) (ho : o.op = .index t x ix) (hx : opv T x = .val (.string s)) (hi : opv T ix = .val (.int k i)) (h0 : 0 ≤ i ∧ i < s.size) :
    Does P B o T H (.val (.int .u8 (byteAt s i.toNat))) H :=
  does_pure fun σ w a s' h => by
    have h1 := h x (by simp [ho, Op.operands])
    have h2 := h ix (by simp [ho, Op.operands])
    rw [hx] at h1
    rw [hi] at h2
    unfold Rep at h1 h2
    have hlt : i.toNat < s.size := by omega
    have hg : s[i.toNat]? = some s[i.toNat] := by rw [getElem?_pos s i.toNat hlt]
    refine ⟨_, ?_, rep_val _ _⟩
    simp only [execOp, ho, h1, h2, Instr.index, run_underlying (f.str hd), asIntOf, h0, Sem.run_bind, Sem.run_pure, Result.andThen_ok, if_true, hg]
    have e : byteAt s i.toNat = ((s[i.toNat]).toNat : Int) := by
      unfold byteAt
      have : s.data.toList.getD i.toNat 0 = s[i.toNat] := by
        have hl : i.toNat < s.data.toList.length := by rw [Array.length_toList]; exact hlt
        rw [List.getD_eq_getElem?_getD, List.getElem?_eq_getElem hl]; rfl
      rw [this]
    rw [e]
theorem does_index_agg {t e : TypeId} {d de : TD} {x ix : Operand} {cs : List PV} {n : Nat} {k : IntKind} {i : Int} {r : PV} (f : TyFacts P t d) (hd : d.sh = .array n e) (fe : TyFacts P e de) (ha : de.agg = false) (ho : o.op = .index t x ix) (hx : opv T x = .agg cs) (hi : opv T ix = .val (.int k i)) (h0 : 0 ≤ i ∧ i < n) (hr : cs[i.toNat * de.size]? = some r) :
    Does P B o T H r H :=
  does_pure fun σ w a s' h => by
    have h1 := h x (by simp [ho, Op.operands])
    have h2 := h ix (by simp [ho, Op.operands])
    rw [hx] at h1
    rw [hi] at h2
    unfold Rep at h1 h2
    obtain ⟨vs, hv, hrl⟩ := h1
    obtain ⟨u, hu, hru⟩ := hrl.get hr
    refine ⟨u, ?_, hru⟩
    simp [execOp, ho, hv, h2, Instr.index, run_underlying (f.array hd), asIntOf, h0, fe.sizeOf, part, fe.isAgg, ha, hu]

/-- A bound of a slice expression. -/
def BndOk (T : Nat → PV) (y : Option Operand) (dflt v : Nat) : Prop := match y with
  | none => v = dflt
  | some z => ∃ k i, opv T z = .val (.int k i) ∧ 0 ≤ i ∧ v = i.toNat
theorem bnd_run {c : Cx} {a : Act} {z : Operand} {dflt v y : Nat} {code : BoundsCode} (h : BndOk T (some z) dflt v) (hr : Rep c (opv T z) (a.eval z)) (hy : v ≤ y) (P : Program) (w : World) : (Instr.sliceBound (a.eval z) y code).run P w = .ok v w := by
  obtain ⟨k, i, h1, h2, rfl⟩ := h
  rw [h1] at hr
  unfold Rep at hr
  rw [hr]
  have : 0 ≤ i ∧ i ≤ y := by omega
  simp [Instr.sliceBound, asIntOf, this]
theorem bounds_run {c : Cx} {a : Act} {lo hi mx : Option Operand} {n cap l hh : Nat} {m : Nat} {b : Bool} (hr : ∀ z, (lo = some z ∨ hi = some z ∨ mx = some z) → Rep c (opv T z) (a.eval z)) (h1 : BndOk T lo 0 l) (h2 : BndOk T hi n hh) (h3 : BndOk T mx cap m) (hmx : mx.isSome = true → hi.isSome = true) (e1 : l ≤ hh) (e2 : hh ≤ m) (e3 : m ≤ cap) (hn : n ≤ cap) (P : Program) (w : World) :
    (Instr.sliceBounds b n cap (lo.map a.eval) (hi.map a.eval) (mx.map a.eval)).run P w = .ok (l, hh, m) w := by
  unfold Instr.sliceBounds
  cases mx with
  | none =>
    have h3' : m = cap := h3
    subst h3'
    cases hi with
    | none =>
      have h2' : hh = n := h2
      subst h2'
      cases lo with
      | none => have h1' : l = 0 := h1; subst h1'; simp
      | some z => simp [bnd_run (code := .sliceB) h1 (hr z (by simp)) e1]
    | some y =>
      have k2 := fun code => bnd_run (code := code) h2 (hr y (by simp)) e2 P w
      cases lo with
      | none => have h1' : l = 0 := h1; subst h1'; simp [k2]
      | some z => simp [k2, bnd_run (code := .sliceB) h1 (hr z (by simp)) e1]
  | some x =>
    have k3 := fun code => bnd_run (code := code) h3 (hr x (by simp)) e3 P w
    cases hi with
    | none => simp at hmx
    | some y =>
      have k2 := fun code => bnd_run (code := code) h2 (hr y (by simp)) e2 P w
      cases lo with
      | none => have h1' : l = 0 := h1; subst h1'; simp [k3, k2]
      | some z => simp [k3, k2, bnd_run (code := .slice3C) h1 (hr z (by simp)) e1]

theorem does_slice_seq {t e : TypeId} {d de : TD} {x : Operand} {lo hi mx : Option Operand} {n l hh : Nat} {xs : List PV} {s : SK} (f : TyFacts P t d) (hd : d.sh = .slice e) (fe : TyFacts P e de) (ho : o.op = .slice t x lo hi mx) (hx : opv T x = .seq n xs s)
    (h1 : BndOk T lo 0 l) (h2 : BndOk T hi n hh) (hm : mx = none) (e1 : l ≤ hh) (e2 : hh ≤ n) :
    Does P B o T H (.seq (hh - l) ((xs.drop (l * de.size)).take ((hh - l) * de.size)) .any) H :=
  does_pure fun σ w a s' h => by
    have k1 := h x (by simp [ho, Op.operands])
    rw [hx] at k1
    obtain ⟨ad, cap, vs, hv, hle, hnil, hrl, hlies, _⟩ := rep_seq k1
    subst hm
    have kb := bounds_run (P := P) (w := w) (a := a) (cap := cap) (b := true) (m := cap) (mx := none) (c := cx B H σ w) (fun z hz => h z (by
      rcases hz with rfl | rfl | hz
      · simp [ho, Op.operands]
      · simp [ho, Op.operands]
      · cases hz)) h1 h2 rfl (by simp) e1 (by omega) (Nat.le_refl _) hle
    refine ⟨.slice (if cap = l then ad else ad.map (·.add (l * de.size))) (hh - l) (cap - l), ?_, ?_⟩
    · simp only [Option.map_none] at kb
      simp [execOp, ho, hv, Instr.sliceAt, run_underlying (f.slice hd), Instr.slice, kb, fe.sizeOf]
    · unfold Rep
      refine ⟨_, _, (vs.drop (l * de.size)).take ((hh - l) * de.size), rfl, by omega, ?_, (hrl.drop _).take _, ?_, trivial⟩
      · intro hn
        split at hn
        · rename_i hcl
          have := hnil hn
          rw [this.2.2]; simp; omega
        · cases ad with
          | none => have := hnil rfl; rw [this.2.2]; simp; omega
          | some b => cases hn
      · intro b hb
        split at hb
        · rename_i hcl
          have h0 : hh - l = 0 := by omega
          rw [h0]
          simp only [Nat.zero_mul, List.take_zero]
          exact .inr (by simp <;> omega)
        · cases ad with
          | none => cases hb
          | some b' =>
            have hl := (hlies b' rfl).resolve_right (by rintro ⟨h3, _⟩; omega)
            have hb' := lies_addr hl
            simp only [Option.map_some, Option.some.injEq] at hb
            subst hb
            rw [hb', Addr.add_lit]
            exact .inl ((hl.drop (l * de.size)).take _)
theorem does_slice_clip {t e : TypeId} {d de : TD} {x y z : Operand} {lo : Option Operand} {n l hh : Nat} {xs : List PV} {s : SK} (f : TyFacts P t d) (hd : d.sh = .slice e) (fe : TyFacts P e de) (ho : o.op = .slice t x lo (some y) (some z)) (hx : opv T x = .seq n xs s)
    (h1 : BndOk T lo 0 l) (h2 : BndOk T (some y) n hh) (h3 : BndOk T (some z) n hh) (e1 : l ≤ hh) (e2 : hh ≤ n) :
    Does P B o T H (.seq (hh - l) ((xs.drop (l * de.size)).take ((hh - l) * de.size)) .clip) H :=
  does_pure fun σ w a s' h => by
    have k1 := h x (by simp [ho, Op.operands])
    rw [hx] at k1
    obtain ⟨ad, cap, vs, hv, hle, hnil, hrl, hlies, _⟩ := rep_seq k1
    have h3' : BndOk T (some z) cap hh := h3
    have kb := bounds_run (P := P) (w := w) (a := a) (n := n) (cap := cap) (b := true) (m := hh) (mx := some z) (hi := some y) (lo := lo) (c := cx B H σ w) (fun q hq => h q (by
      rcases hq with rfl | hq | hq
      · simp [ho, Op.operands]
      · cases hq; simp [ho, Op.operands]
      · cases hq; simp [ho, Op.operands])) h1 h2 h3' (by simp) e1 (Nat.le_refl _) (by omega) hle
    refine ⟨.slice (if hh = l then ad else ad.map (·.add (l * de.size))) (hh - l) (hh - l), ?_, ?_⟩
    · simp only [Option.map_some] at kb
      simp [execOp, ho, hv, Instr.sliceAt, run_underlying (f.slice hd), Instr.slice, kb, fe.sizeOf]
    · unfold Rep
      refine ⟨_, _, (vs.drop (l * de.size)).take ((hh - l) * de.size), rfl, by omega, ?_, (hrl.drop _).take _, ?_, rfl⟩
      · intro hn
        split at hn
        · rename_i hcl
          have := hnil hn
          rw [this.2.2]; simp; omega
        · cases ad with
          | none => have := hnil rfl; rw [this.2.2]; simp; omega
          | some b => cases hn
      · intro b hb
        split at hb
        · rename_i hcl
          have h0 : hh - l = 0 := by omega
          rw [h0]
          simp only [Nat.zero_mul, List.take_zero]
          exact .inr (by simp <;> omega)
        · cases ad with
          | none => cases hb
          | some b' =>
            have hl := (hlies b' rfl).resolve_right (by rintro ⟨h3, _⟩; omega)
            have hb' := lies_addr hl
            simp only [Option.map_some, Option.some.injEq] at hb
            subst hb
            rw [hb', Addr.add_lit]
            exact .inl ((hl.drop (l * de.size)).take _)
theorem does_slice_str {t : TypeId} {d : TD} {x : Operand} {lo hi : Option Operand} {l hh : Nat} {s : ByteArray} (f : TyFacts P t d) (hd : d.sh = .str) (ho : o.op = .slice t x lo hi none) (hx : opv T x = .val (.string s))
    (h1 : BndOk T lo 0 l) (h2 : BndOk T hi s.size hh) (e1 : l ≤ hh) (e2 : hh ≤ s.size) :
    Does P B o T H (.val (.string (s.extract l hh))) H :=
  does_pure fun σ w a s' h => by
    have k1 := h x (by simp [ho, Op.operands])
    rw [hx] at k1
    unfold Rep at k1
    have kb := bounds_run (P := P) (w := w) (a := a) (n := s.size) (cap := s.size) (b := false) (m := s.size) (mx := none) (c := cx B H σ w) (fun z hz => h z (by
      rcases hz with rfl | rfl | hz
      · simp [ho, Op.operands]
      · simp [ho, Op.operands]
      · cases hz)) h1 h2 rfl (by simp) e1 e2 (Nat.le_refl _) (Nat.le_refl _)
    refine ⟨_, ?_, rep_val _ _⟩
    simp only [Option.map_none] at kb
    simp [execOp, ho, k1, Instr.sliceAt, run_underlying (f.str hd), Instr.slice, kb]
theorem does_slice_ptr {t e : TypeId} {d de : TD} {x : Operand} {id off n : Nat} (f : TyFacts P t d) (hd : d.sh = .array n e) (fe : TyFacts P e de) (ho : o.op = .slice t x none none none) (hx : opv T x = .ptr id off) :
    Does P B o T H (.arr id off n n) H :=
  does_pure fun σ w a s' h => by
    have k1 := h x (by simp [ho, Op.operands])
    rw [hx] at k1
    unfold Rep at k1
    obtain ⟨hN, b, hb, hv⟩ := k1
    refine ⟨.slice (some ⟨b, off, none⟩) n n, ?_, by unfold Rep; exact ⟨hN, b, hb, rfl⟩⟩
    simp [execOp, ho, hv, Instr.sliceAt, run_underlying (f.array hd), Instr.sliceBounds, Instr.sureAddr, fe.sizeOf, Addr.add_lit]
theorem does_slice_arr {t e : TypeId} {d de : TD} {x : Operand} {lo hi : Option Operand} {id off n cap l hh : Nat} (f : TyFacts P t d) (hd : d.sh = .slice e) (fe : TyFacts P e de) (ho : o.op = .slice t x lo hi none) (hx : opv T x = .arr id off n cap)
    (h1 : BndOk T lo 0 l) (h2 : BndOk T hi n hh) (e1 : l ≤ hh) (e2 : hh ≤ n) (e3 : n ≤ cap) :
    Does P B o T H (.arr id (if cap = l then off else off + l * de.size) (hh - l) (cap - l)) H :=
  does_pure fun σ w a s' h => by
    have k1 := h x (by simp [ho, Op.operands])
    rw [hx] at k1
    unfold Rep at k1
    obtain ⟨hN, b, hb, hv⟩ := k1
    have kb := bounds_run (P := P) (w := w) (a := a) (n := n) (cap := cap) (b := true) (m := cap) (mx := none) (c := cx B H σ w) (fun z hz => h z (by
      rcases hz with rfl | rfl | hz
      · simp [ho, Op.operands]
      · simp [ho, Op.operands]
      · cases hz)) h1 h2 rfl (by simp) e1 (by omega) (Nat.le_refl _) e3
    simp only [Option.map_none] at kb
    refine ⟨.slice (some ⟨b, if cap = l then off else off + l * de.size, none⟩) (hh - l) (cap - l), ?_, by unfold Rep; exact ⟨hN, b, hb, rfl⟩⟩
    simp [execOp, ho, hv, Instr.sliceAt, run_underlying (f.slice hd), Instr.slice, kb, fe.sizeOf, Addr.add_lit]
    split <;> rfl

theorem does_convert_int {src dst : TypeId} {ds dd : TD} {x : Operand} {k k' : IntKind} {i : Int} (f : TyFacts P src ds) (g : TyFacts P dst dd) (hd : dd.sh = .int k) (ho : o.op = .convert src dst x) (hx : opv T x = .val (.int k' i)) : Does P B o T H (.val (.int k (k.wrap i))) H :=
  does_pure fun σ w a s' h => by
    have k1 := h x (by simp [ho, Op.operands])
    rw [hx] at k1
    unfold Rep at k1
    obtain ⟨u, hu, _⟩ := f.under
    refine ⟨_, ?_, rep_val _ _⟩
    simp [execOp, ho, k1, convert, run_underlying hu, run_underlying (g.int hd), Conv.intToInt]
theorem does_convert_str {src dst : TypeId} {ds dd : TD} {x : Operand} {s : ByteArray} (f : TyFacts P src ds) (g : TyFacts P dst dd) (hd : dd.sh = .str) (ho : o.op = .convert src dst x) (hx : opv T x = .val (.string s)) : Does P B o T H (.val (.string s)) H :=
  does_pure fun σ w a s' h => by
    have k1 := h x (by simp [ho, Op.operands])
    rw [hx] at k1
    unfold Rep at k1
    obtain ⟨u, hu, _⟩ := f.under
    refine ⟨_, ?_, rep_val _ _⟩
    simp [execOp, ho, k1, convert, run_underlying hu, run_underlying (g.str hd)]
/-- Bytes, as values. -/
def byteP (z : Int) : PV := .val (.int .u8 z)
theorem repL_bytes {c : Cx} : ∀ {zs : List Int} {vs : List Value}, RepL c (zs.map byteP) vs → vs = zs.map (Value.int .u8)
  | [], vs, h => by rw [List.map_nil, repL_nil] at h; exact h
  | z :: zs, [], h => by rw [List.map_cons] at h; unfold RepL at h; obtain ⟨u, us, h1, _⟩ := h; cases h1
  | z :: zs, v :: vs, h => by
    rw [List.map_cons, repL_cons] at h
    have h1 := h.1
    unfold byteP Rep at h1
    rw [h1, repL_bytes h.2]; rfl
theorem run_convert_bytes_none {w : World} (src e : TypeId) (hs : P.underlying src = some (.slice e)) (he : P.underlying e = some (.int .u8)) (b : Addr) (c : Nat) (dst : TypeId) (hd : P.underlying dst = some .string) :
    (convert src dst (.slice (some b) 0 c)).run P w = .ok (.string (strOfNums [])) w := by
  have hl : (loadCells b 0).run P w = .ok (([] : List Int).map (Value.int .u8)).toArray w := by
    simpa using run_loadCells_list (P := P) w b [] (fun j v hj => by simp at hj)
  rw [run_convert_bytes_string w src dst e _ 0 c hs he hd, run_bytesToString w _ 0 c [] hl]
  rfl
theorem run_bytes_str {src dst e : TypeId} (hs : P.underlying src = some (.slice e)) (he : P.underlying e = some (.int .u8)) (hd : P.underlying dst = some .string) (a : Option Addr) (zs : List Int) (cap : Nat) (w : World) (hc : ∀ b, a = some b → (b.spot = none ∧ ∀ j, j < zs.length → w.cell? ⟨b.block, b.off + j, none⟩ = some (.int .u8 (zs.getD j 0))) ∨ zs = []) (hn : a = none → zs = [] ∧ cap = 0) :
    (convert src dst (.slice a zs.length cap)).run P w = .ok (.string (strOfNums zs)) w := by
  cases a with
  | none =>
    obtain ⟨rfl, rfl⟩ := hn rfl
    exact run_convert_bytes_nil (w := w) src e hs he 0 0 dst hd
  | some b =>
    rcases hc b rfl with ⟨h1, h2⟩ | rfl
    case inr => exact run_convert_bytes_none (w := w) src e hs he b cap dst hd
    have hb : b = ⟨b.block, b.off, none⟩ := by cases b; simp only at h1; subst h1; rfl
    rw [hb]
    exact run_convert_bytes_arg w src e hs he b.block b.off zs.length cap zs rfl h2 dst hd
theorem does_convert_bytes {src dst e : TypeId} {ds dd de : TD} {x : Operand} {n : Nat} {zs : List Int} {s : SK} (f : TyFacts P src ds) (hs : ds.sh = .slice e) (fe : TyFacts P e de) (he : de.sh = .int .u8) (g : TyFacts P dst dd) (hd : dd.sh = .str) (ho : o.op = .convert src dst x) (hx : opv T x = .seq n (zs.map byteP) s) (hn : zs.length = n) :
    Does P B o T H (.val (.string (strOfNums zs))) H :=
  does_pure fun σ w a s' h => by
    have k1 := h x (by simp [ho, Op.operands])
    rw [hx] at k1
    obtain ⟨ad, cap, vs, hv, hle, hnil, hrl, hlies, _⟩ := rep_seq k1
    have hvs := repL_bytes hrl
    subst hn
    refine ⟨_, ?_, rep_val _ _⟩
    have := run_bytes_str (P := P) (f.slice hs) (fe.int he) (g.str hd) ad zs cap w (fun b hb => (hlies b hb).imp (fun hl => ⟨hl.1, fun j hj => (hl.2 j _ (by rw [hvs, List.getElem?_map, List.getElem?_eq_getElem hj]; simp [List.getD, hj])).1⟩) (fun ⟨_, h3⟩ => by rw [hvs] at h3; simpa using h3)) (fun h0 => by
      obtain ⟨h1, h2, h3⟩ := hnil h0
      exact ⟨List.eq_nil_of_length_eq_zero h1, h2⟩)
    simp [execOp, ho, hv, this]
theorem does_convert_arr {src dst e : TypeId} {ds dd de : TD} {x : Operand} {id off n cap : Nat} {xs : List PV} {et : TypeId} {zs : List Int} (f : TyFacts P src ds) (hs : ds.sh = .slice e) (fe : TyFacts P e de) (he : de.sh = .int .u8) (g : TyFacts P dst dd) (hd : dd.sh = .str) (ho : o.op = .convert src dst x) (hx : opv T x = .arr id off n cap) (hi : H[id]? = some (.cells xs et)) (hz : (xs.drop off).take n = zs.map byteP) (hn : zs.length = n) :
    Does P B o T H (.val (.string (strOfNums zs))) H :=
  does_pure fun σ w a s' h => by
    have k1 := h x (by simp [ho, Op.operands])
    rw [hx] at k1
    unfold Rep at k1
    obtain ⟨hN, b, hb, hv⟩ := k1
    obtain ⟨b', vs, hb', hv', hrl⟩ := s'.holds id _ hi
    simp only [cx] at hb hb' hv'
    rw [hb] at hb'
    cases hb'
    have hrl' := (hrl.drop off).take n
    rw [hz] at hrl'
    have hvs := repL_bytes hrl'
    subst hn
    refine ⟨_, ?_, rep_val _ _⟩
    have := run_bytes_str (P := P) (f.slice hs) (fe.int he) (g.str hd) (some ⟨b, off, none⟩) zs cap w (fun b1 hb1 => by
      cases hb1
      refine .inl ⟨rfl, fun j hj => ?_⟩
      rw [cell_of_heap hv']
      have : ((vs.drop off).take zs.length)[j]? = some (.int .u8 (zs.getD j 0)) := by rw [hvs, List.getElem?_map, List.getElem?_eq_getElem hj]; simp [List.getD, hj]
      rw [List.getElem?_take, if_pos hj, List.getElem?_drop] at this
      exact this) (fun h0 => by cases h0)
    simp [execOp, ho, hv, this]
theorem does_convert_toBytes {src dst e : TypeId} {ds dd de : TD} {x : Operand} {s : ByteArray} (f : TyFacts P src ds) (hs : ds.sh = .str) (g : TyFacts P dst dd) (hd : dd.sh = .slice e) (fe : TyFacts P e de) (he : de.sh = .int .u8) (ho : o.op = .convert src dst x) (hx : opv T x = .val (.string s)) :
    Does P B o T H (.seq s.size (s.data.toList.map fun b => byteP b.toNat) .any) H := by
  intro σ w a s' h
  have k1 := h x (by simp [ho, Op.operands])
  rw [hx] at k1
  unfold Rep at k1
  have hr := run_bytes_of_string w src dst e s (f.str hs) (g.slice hd) (fe.int he)
  have gr : Grows w (w.drew.alloc (.cells (bytesRow s (grownCap w s.size 0 e)) e ((bytesRow s (grownCap w s.size 0 e)).size, (bytesRow s (grownCap w s.size 0 e)).size + 1))) := (Grows.drew w).trans (Grows.alloc _ _)
  obtain ⟨s2, st⟩ := grow_sim s' gr
  refine ⟨_, _, σ, .inl (by simp [execOp, ho, k1, hr]; rfl), ?_, s2, st⟩
  unfold Rep
  have hlen : (s.data.toList.map fun b => Value.int .u8 b.toNat).length = s.size := by rw [List.length_map, Array.length_toList]; rfl
  refine ⟨_, _, s.data.toList.map (fun b => Value.int .u8 b.toNat), rfl, grownCap_ge _ _ _ _, (fun h => by cases h), ?_, ?_, trivial⟩
  · generalize s.data.toList = l
    induction l with
    | nil => exact repL_nil.2 rfl
    | cons x l ih => exact repL_cons.2 ⟨rep_val _ _, ih⟩
  · intro b hb
    cases hb
    refine .inl ⟨rfl, fun j u hj => ⟨?_, ?_⟩⟩
    · have hjl : j < s.size := by rw [← hlen]; exact lt_of_get hj
      show (World.alloc w.drew _).cell? ⟨w.heap.size, 0 + j, none⟩ = _
      rw [cell_alloc_new _ _ _ _ _ _ (by simp), Nat.zero_add]
      simp only [bytesRow]
      rw [Array.getElem?_append_left (by simpa using hjl)]
      simpa using hj
    · rintro (h | ⟨i, oi, h1, h2, h3⟩)
      · exact absurd (s'.base _ _ h) (by simp)
      · have hl : oi.live = true := by cases oi <;> first | rfl | cases h3
        have := (s'.holds i oi h1).lt hl h2
        simp [cx] at this
end
end Go.Proofs.Ytkchnmilmepnfaa
