/- The engine, part K: arguments that can be read as data, as values without addresses; a statement's walk out of the engine's contract. No condition. -/
import Derived.Test.YtkchnmilmepnfaaEngT
import Derived.Test.YtkchnmilmepnfaaOpen
namespace Go.Proofs.Ytkchnmilmepnfaa
open Go.RowKit
set_option linter.unusedVariables false

/-- A world in which nothing has a name. -/
def c0 (w : World) : Cx := cx (fun _ _ => False) [] (fun _ => none) w
theorem sim0 (w : World) : Sim (fun _ _ => False) [] (fun _ => none) w :=
  ⟨fun i j b oi oj h => by simp at h, fun i b oi h => by simp at h, fun b off h => h.elim, fun i oi h => by simp at h⟩
theorem wr0 (w : World) (b off : Nat) : ¬ (c0 w).Wr b off := by
  rintro (h | ⟨i, oi, h1, _⟩)
  · exact h
  · simp at h1
theorem law_calls {P : Program} {f : FuncId} {args : List PV} {vs : List Value} {w : World} (h : PureC P f args (.val (.bool true))) (hr : RepL (c0 w) args vs) :
    Calls P f vs.toArray w fun e w' => e = .returned (.bool true) ∧ Below w.heap.size w w' := by
  refine Calls.mono (h [] (fun _ _ => False) (fun _ => none) w vs (sim0 w) hr) ?_
  rintro e w' ⟨v, σ', rfl, h1, _, h3⟩
  unfold Rep at h1
  subst h1
  exact ⟨rfl, ⟨h3.os, h3.tape, h3.output, h3.size, fun b hb => h3.block b hb (fun i oi hi => by simp at hi)⟩⟩

theorem repL_split {c : Cx} : ∀ {xs ys : List PV} {vs us : List Value}, RepL c xs vs → RepL c ys us → RepL c (xs ++ ys) (vs ++ us) := fun h k => RepL.append h k
/-- Cells, part by part. -/
def RdAll (w : World) : List (TypeId × Nat) → List Value → Prop
  | [], cs => cs = []
  | (t, n) :: l, cs => ∃ a b, cs = a ++ b ∧ a.length = n ∧ Rd w t a ∧ RdAll w l b
def contig (fs : List Field) (k : Nat) : List (TypeId × Nat) → Bool
  | [] => fs.isEmpty
  | (t, n) :: l => match fs with
    | [] => false
    | f :: fs => f.type == t && f.offset == k && contig fs (k + n) l
def contigN (P : Program) : List (TypeId × Nat) → Bool
  | [] => true
  | (t, n) :: l => P.cellsOf t == n && contigN P l
def total : List (TypeId × Nat) → Nat
  | [] => 0
  | (_, n) :: l => n + total l
theorem rd_all {w : World} {t : TypeId} {cs : List Value} {fs : Array Field} (ht : Try.prog.underlying t = some (.struct fs)) (l : List (TypeId × Nat)) (h1 : contig fs.toList 0 l = true) (h2 : contigN Try.prog l = true) (h3 : Try.prog.cellsOf t = total l) (h : Rd w t cs) : RdAll w l cs := by
  have hl := rd_len ht h
  rw [h3] at hl
  have hf := rd_field ht h
  have key : ∀ (l : List (TypeId × Nat)) (fs' : List Field) (j k : Nat), (∀ i, fs'[i]? = fs.toList[j + i]?) → contig fs' k l = true → contigN Try.prog l = true → cs.length = k + total l → RdAll w l (cs.drop k) := by
    intro l
    induction l with
    | nil =>
      intro fs' j k _ _ _ h4
      show cs.drop k = []
      rw [List.drop_eq_nil_iff]; simp [total] at h4; omega
    | cons q l ih =>
      obtain ⟨t', n⟩ := q
      intro fs' j k hg h4 h5 h6
      cases fs' with
      | nil => simp [contig] at h4
      | cons f fs' =>
        simp only [contig, Bool.and_eq_true, beq_iff_eq] at h4
        simp only [contigN, Bool.and_eq_true, beq_iff_eq] at h5
        simp only [total] at h6
        obtain ⟨⟨rfl, rfl⟩, h4⟩ := h4
        have hfj := hg 0
        simp only [List.getElem?_cons_zero, Nat.add_zero] at hfj
        have r := hf j f (by simpa using hfj.symm)
        rw [h5.1] at r
        refine ⟨_, _, (List.take_append_drop n (cs.drop f.offset)).symm, by simp; omega, r, ?_⟩
        rw [List.drop_drop]
        exact ih fs' (j + 1) (f.offset + n) (fun i => by have := hg (i + 1); simpa [Nat.add_assoc, Nat.add_comm 1 i] using this) h4 h5.2 (by omega)
  have := key l fs.toList 0 0 (fun i => by simp) h1 h2 (by omega)
  simpa using this

theorem rd_int_rep {w : World} {t : TypeId} {cs : List Value} {k : IntKind} (ht : Try.prog.underlying t = some (.int k)) (h : Rd w t cs) : ∃ n, (Lit.int k n).wf = true ∧ RepL (c0 w) [.val (.int k n)] cs := by
  obtain ⟨n, rfl, hw⟩ := rd_int ht h
  exact ⟨n, hw, repL_cons.2 ⟨rep_val _ _, repL_nil.2 rfl⟩⟩
theorem rd_bool_rep {w : World} {t : TypeId} {cs : List Value} (ht : Try.prog.underlying t = some .bool) (h : Rd w t cs) : ∃ b, RepL (c0 w) [.val (.bool b)] cs := by
  obtain ⟨n, rfl⟩ := rd_bool ht h
  exact ⟨n, repL_cons.2 ⟨rep_val _ _, repL_nil.2 rfl⟩⟩
theorem rd_string_rep {w : World} {t : TypeId} {cs : List Value} (ht : Try.prog.underlying t = some .string) (h : Rd w t cs) : ∃ s : ByteArray, s.size ≤ maxLen ∧ RepL (c0 w) [.val (.string s)] cs := by
  obtain ⟨n, rfl, hw⟩ := rd_string ht h
  exact ⟨n, hw, repL_cons.2 ⟨rep_val _ _, repL_nil.2 rfl⟩⟩
theorem repL_len {c : Cx} {xs : List PV} {vs : List Value} (h : RepL c xs vs) : vs.length = xs.length := RepL.length h
set_option maxRecDepth 100000 in
theorem rd_slice_rep {α : Type} (enc : α → List PV) (Ok : α → Prop) {w : World} {t e : TypeId} {cs : List Value} (k : Nat) (ht : Try.prog.underlying t = some (.slice e)) (hk : Try.prog.cellsOf e = k) (hk0 : 0 < k) (hel : ∀ es, Rd w e es → ∃ x, Ok x ∧ RepL (c0 w) (enc x) es) (h : Rd w t cs) :
    ∃ l : List α, (∀ x ∈ l, Ok x) ∧ l.length ≤ maxLen ∧ RepL (c0 w) [.seq l.length (l.flatMap enc) .any] cs := by
  rcases rd_slice ht h with rfl | ⟨a, len, cap, rfl, hlc, hcap, hc⟩
  · refine ⟨[], by simp, by simp, repL_cons.2 ⟨?_, repL_nil.2 rfl⟩⟩
    have := rep_nil (c0 w)
    exact imp_seq _ _ _ _ _ this
  · rw [hk] at hc
    have build : ∀ n, n ≤ len → a.spot = none → ∃ (l : List α) (vs : List Value), l.length = n ∧ (∀ x ∈ l, Ok x) ∧ RepL (c0 w) (l.flatMap enc) vs ∧ vs.length = n * k ∧ ∀ j, j < n * k → w.cell? ⟨a.block, a.off + j, none⟩ = vs[j]? := by
      intro n hn hs
      induction n with
      | zero => exact ⟨[], [], rfl, by simp, repL_nil.2 rfl, by simp, fun j hj => by simp at hj⟩
      | succ n ih =>
        obtain ⟨l, vs, h1, h2, h3, h4, h5⟩ := ih (by omega)
        obtain ⟨es, h6, h7⟩ := hc n (by omega)
        obtain ⟨_, h8, h9⟩ := World.cells?_some h6
        obtain ⟨x, hx, hr⟩ := hel es h7
        refine ⟨l ++ [x], vs ++ es, by simp [h1], ?_, ?_, by rw [List.length_append, h4, h8, Nat.succ_mul], fun j hj => ?_⟩
        · intro y hy; rcases List.mem_append.1 hy with hy | hy
          · exact h2 y hy
          · simp at hy; subst hy; exact hx
        · rw [List.flatMap_append]; refine RepL.append h3 ?_; simpa using hr
        · by_cases hj' : j < n * k
          · rw [List.getElem?_append_left (by omega)]; exact h5 j hj'
          · rw [List.getElem?_append_right (by omega), h4]
            rw [Nat.succ_mul] at hj
            rw [← h9 (j - n * k) (by omega)]
            have e : (a.add (n * k)).add (j - n * k) = ⟨a.block, a.off + j, none⟩ := by
              obtain ⟨b, o, sp⟩ := a
              simp only at hs
              subst hs
              rw [Addr.add_lit, Addr.add_lit]
              have : o + n * k + (j - n * k) = o + j := by omega
              rw [this]
            rw [e]
    by_cases h0 : cap = 0
    · have hl0 : len = 0 := by omega
      subst hl0
      refine ⟨[], by simp, by simp, repL_cons.2 ⟨?_, repL_nil.2 rfl⟩⟩
      unfold Rep
      exact ⟨some a, cap, [], rfl, by simp, (fun h => by cases h), repL_nil.2 rfl, (fun b hb => .inr ⟨h0, rfl⟩), trivial⟩
    · have hs : a.spot = none := by
        obtain ⟨es, h6, _⟩ := hc 0 (by omega)
        obtain ⟨_, h8, h9⟩ := World.cells?_some h6
        have h10 := h9 0 hk0
        simp only [Nat.zero_mul] at h10
        have e : (a.add 0).add 0 = a := by simp [Addr.add]
        rw [e, List.getElem?_eq_getElem (by omega)] at h10
        unfold World.cell? at h10
        cases hsp : a.spot with
        | none => rfl
        | some q => rw [hsp] at h10; split at h10 <;> simp at h10
      obtain ⟨l, vs, h1, h2, h3, h4, h5⟩ := build len (Nat.le_refl _) hs
      refine ⟨l, h2, by omega, repL_cons.2 ⟨?_, repL_nil.2 rfl⟩⟩
      unfold Rep
      refine ⟨some a, cap, vs, by rw [h1], by omega, (fun h => by cases h), h3, fun b hb => .inl ?_, trivial⟩
      cases hb
      refine ⟨hs, fun j u hj => ⟨?_, wr0 w _ _⟩⟩
      have hjl := lt_of_get hj
      have := h5 j (by omega)
      rw [hj] at this
      exact this
set_option maxRecDepth 100000 in
theorem rd_ints_rep {w : World} {t e : TypeId} {cs : List Value} {k : IntKind} (ht : Try.prog.underlying t = some (.slice e)) (he : Try.prog.underlying e = some (.int k)) (hk : Try.prog.cellsOf e = 1) (h : Rd w t cs) :
    ∃ l : List Int, (∀ x ∈ l, (Lit.int k x).wf = true) ∧ l.length ≤ maxLen ∧ RepL (c0 w) [.seq l.length (l.map fun x => .val (.int k x)) .any] cs := by
  obtain ⟨l, h1, h2, h3⟩ := rd_slice_rep (fun x => [.val (.int k x)]) (fun x => (Lit.int k x).wf = true) 1 ht hk (by omega) (fun es hes => by
    obtain ⟨n, hw, hr⟩ := rd_int_rep he hes; exact ⟨n, hw, hr⟩) h
  have e : l.flatMap (fun x => [PV.val (.int k x)]) = l.map fun x => .val (.int k x) := by
    clear h1 h2 h3
    induction l with
    | nil => rfl
    | cons x l ih => rw [List.flatMap_cons, ih]; rfl
  rw [e] at h3
  exact ⟨l, h1, h2, h3⟩
set_option maxRecDepth 100000 in
theorem rd_array8 {w : World} {t e : TypeId} {cs : List Value} {k : IntKind} (ht : Try.prog.underlying t = some (.array 8 e)) (he : Try.prog.underlying e = some (.int k)) (hk : Try.prog.cellsOf e = 1) (hc : Try.prog.cellsOf t = 8) (h : Rd w t cs) :
    ∃ x0 x1 x2 x3 x4 x5 x6 x7 : Int, (∀ x ∈ [x0, x1, x2, x3, x4, x5, x6, x7], (Lit.int k x).wf = true) ∧ cs = [.int k x0, .int k x1, .int k x2, .int k x3, .int k x4, .int k x5, .int k x6, .int k x7] := by
  obtain ⟨H, enc, fuel, x, hx⟩ := h
  obtain ⟨xs, m, _, _, hl, hlen, hel⟩ := DataW.trod_array ht hx
  rw [hc] at hl
  match cs, hl with
  | [c0, c1, c2, c3, c4, c5, c6, c7], _ =>
    have key : ∀ i, i < 8 → ∃ n, (Lit.int k n).wf = true ∧ ([c0, c1, c2, c3, c4, c5, c6, c7].drop i).take 1 = [.int k n] := by
      intro i hi
      have h1 := hel i hi
      rw [hk, Nat.mul_one, List.getElem?_eq_getElem (by omega)] at h1
      obtain ⟨n, h2, h3⟩ := rd_int he ⟨H, enc, m, _, h1⟩
      exact ⟨n, h3, h2⟩
    obtain ⟨x0, w0, e0⟩ := key 0 (by omega)
    obtain ⟨x1, w1, e1⟩ := key 1 (by omega)
    obtain ⟨x2, w2, e2⟩ := key 2 (by omega)
    obtain ⟨x3, w3, e3⟩ := key 3 (by omega)
    obtain ⟨x4, w4, e4⟩ := key 4 (by omega)
    obtain ⟨x5, w5, e5⟩ := key 5 (by omega)
    obtain ⟨x6, w6, e6⟩ := key 6 (by omega)
    obtain ⟨x7, w7, e7⟩ := key 7 (by omega)
    simp at e0 e1 e2 e3 e4 e5 e6 e7
    subst e0 e1 e2 e3 e4 e5 e6 e7
    refine ⟨x0, x1, x2, x3, x4, x5, x6, x7, ?_, rfl⟩
    intro x hx
    simp at hx
    rcases hx with rfl | rfl | rfl | rfl | rfl | rfl | rfl | rfl <;> assumption
theorem okWide_array {P : Program} {w : World} {r : Reach} {base : Nat} {t e : TypeId} {n : Nat} {v : Value} (ht : P.underlying t = some (.array n e)) (h : Value.okWide P w r base t v) : ∃ cs, v = .agg cs ∧ cs.size = P.cellsOf t := by
  simp only [Value.okWide, ht] at h
  obtain ⟨cs, h1, h2, _⟩ := h
  exact ⟨cs, h1, h2⟩
theorem reads_agg {w : World} {t : TypeId} {v : Value} {xs : List PV} (h : ∃ cs : Array Value, v = .agg cs ∧ RepL (c0 w) xs cs.toList) : Rep (c0 w) (.agg xs) v := by
  obtain ⟨cs, rfl, h⟩ := h
  unfold Rep
  exact ⟨cs.toList, by simp, h⟩
end Go.Proofs.Ytkchnmilmepnfaa
