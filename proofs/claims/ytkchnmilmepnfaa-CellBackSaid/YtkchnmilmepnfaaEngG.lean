/- The engine, part G: lengths, composite values, make, copy; calls, and a function's contract. No condition. -/
import Derived.Test.YtkchnmilmepnfaaEngF
import Derived.Laws.Tables
namespace Go.Proofs.Ytkchnmilmepnfaa
open Go.RowKit
set_option linter.unusedVariables false

theorem repL_of_get {c : Cx} : ∀ {xs : List PV} {vs : List Value} (_ : vs.length = xs.length) (_ : ∀ (j : Nat) (x : PV), xs[j]? = some x → ∃ u, vs[j]? = some u ∧ Rep c x u), RepL c xs vs
  | [], [], _, _ => repL_nil.2 rfl
  | x :: xs, v :: vs, hl, h => by
    refine repL_cons.2 ⟨?_, repL_of_get (by simpa using hl) (fun j y hj => by have := h (j + 1) y (by simpa using hj); simpa using this)⟩
    obtain ⟨u, h1, h2⟩ := h 0 x rfl
    cases h1; exact h2
  | [], v :: vs, hl, _ => by simp at hl
  | x :: xs, [], hl, _ => by simp at hl

/-- So many noughts of a type. -/
def zerosPV (n : Nat) (d : TD) : List PV := (List.replicate n d.zero).flatten
theorem flatten_rep {α : Type} (z : List α) : ∀ (n j : Nat), (List.replicate n z).flatten[j]? = if j < n * z.length then z[j % z.length]? else none
  | 0, j => by simp
  | n + 1, j => by
    rw [List.replicate_succ, List.flatten_cons]
    by_cases h : j < z.length
    · rw [List.getElem?_append_left h, if_pos (by rw [Nat.add_mul]; omega), Nat.mod_eq_of_lt h]
    · rw [List.getElem?_append_right (by omega), flatten_rep z n (j - z.length)]
      have e : (n + 1) * z.length = n * z.length + z.length := by rw [Nat.add_mul, Nat.one_mul]
      by_cases h2 : j < (n + 1) * z.length
      · rw [if_pos h2, if_pos (by omega)]
        congr 1
        rw [Nat.mod_eq_sub_mod (a := j) (by omega)]
      · rw [if_neg h2, if_neg (by omega)]
theorem zerosPV_len (n : Nat) (d : TD) (h : d.zero.length = d.size) : (zerosPV n d).length = n * d.size := by
  unfold zerosPV; rw [List.length_flatten]; simp [h]
theorem zeros_rep {P : Program} {e : TypeId} {de : TD} (fe : TyFacts P e de) (n : Nat) (z : Value) (hz : ∀ c, RepL c de.zero z.cells.toList) (c : Cx) : RepL c (zerosPV n de) (madeCells z.cells (n * de.size)).toList := by
  have hzl : z.cells.size = de.size := by have := RepL.length (hz c); rw [Array.length_toList] at this; rw [this]; exact fe.zlen
  refine repL_of_get (by rw [Array.length_toList, size_madeCells, zerosPV_len _ _ fe.zlen]) (fun j x hj => ?_)
  unfold zerosPV at hj
  rw [flatten_rep] at hj
  rw [fe.zlen] at hj
  split at hj
  · rename_i hlt
    obtain ⟨u, hu, hr⟩ := (hz c).get hj
    refine ⟨u, ?_, hr⟩
    unfold madeCells
    rw [hzl]
    rw [Array.getElem?_toList] at hu
    obtain ⟨h1, h2⟩ := Array.getElem?_eq_some_iff.1 hu
    simp [hlt]
    rw [getElem!_pos z.cells (j % de.size) h1, h2]
  · cases hj

section
variable {P : Program} {B : Nat → Nat → Prop} {o : Oper} {T : Nat → PV} {H : List Ob}
theorem builtin_op {b : Builtin} {w : World} {a : Act} {args : Array Operand} {ats : Array TypeId} {r : Result Next} (ho : o.op = .call { callee := .builtin b, args := args, argTypes := ats }) (hr : (builtin b ats o.type (args.map fun | .const _ => true | _ => false) (args.map a.eval)).run P w = r) : (execOp a.eval o).run P w = r := by
  unfold execOp
  simp only [ho, resolve, invoke, Sem.run_bind, Sem.run_pure, Result.andThen_ok]
  exact hr
theorem does_len_seq {t : TypeId} {d : TD} {e : Nat} {x : Operand} {n : Nat} {xs : List PV} {s : SK} (f : TyFacts P t d) (hd : d.sh = .slice e) (ho : o.op = .call { callee := .builtin .len, args := #[x], argTypes := #[t] }) (hx : opv T x = .seq n xs s) : Does P B o T H (.val (.int .i64 n)) H :=
  does_pure fun σ w a s' h => by
    have k1 := h x (by simp [ho, Op.operands, Call.operands])
    rw [hx] at k1
    obtain ⟨ad, cap, vs, hv, _⟩ := rep_seq k1
    refine ⟨.int .i64 n, builtin_op ho ?_, rep_val _ _⟩
    simp [builtin, Builtin.len_, run_underlying (f.slice hd), hv, goInt]
theorem does_len_arr {t : TypeId} {d : TD} {e : Nat} {x : Operand} {id off n cap : Nat} (f : TyFacts P t d) (hd : d.sh = .slice e) (ho : o.op = .call { callee := .builtin .len, args := #[x], argTypes := #[t] }) (hx : opv T x = .arr id off n cap) : Does P B o T H (.val (.int .i64 n)) H :=
  does_pure fun σ w a s' h => by
    have k1 := h x (by simp [ho, Op.operands, Call.operands])
    rw [hx] at k1
    unfold Rep at k1
    obtain ⟨_, b, _, hv⟩ := k1
    refine ⟨.int .i64 n, builtin_op ho ?_, rep_val _ _⟩
    simp [builtin, Builtin.len_, run_underlying (f.slice hd), hv, goInt]
theorem does_len_str {t : TypeId} {d : TD} {x : Operand} {s : ByteArray} (f : TyFacts P t d) (hd : d.sh = .str) (ho : o.op = .call { callee := .builtin .len, args := #[x], argTypes := #[t] }) (hx : opv T x = .val (.string s)) : Does P B o T H (.val (.int .i64 s.size)) H :=
  does_pure fun σ w a s' h => by
    have k1 := h x (by simp [ho, Op.operands, Call.operands])
    rw [hx] at k1
    unfold Rep at k1
    refine ⟨.int .i64 s.size, builtin_op ho ?_, rep_val _ _⟩
    simp [builtin, Builtin.len_, run_underlying (f.str hd), k1, goInt]
theorem does_min {ats : Array TypeId} {x y : Operand} {u v r : Value} (ho : o.op = .call { callee := .builtin .min, args := #[x, y], argTypes := ats }) (hx : opv T x = .val u) (hy : opv T y = .val v) (hr : pureOf (Builtin.min_ ats o.type #[u, v]) = some r) : Does P B o T H (.val r) H :=
  does_pure fun σ w a s' h => by
    have k1 := h x (by simp [ho, Op.operands, Call.operands])
    have k2 := h y (by simp [ho, Op.operands, Call.operands])
    rw [hx] at k1
    rw [hy] at k2
    unfold Rep at k1 k2
    refine ⟨r, builtin_op ho ?_, rep_val _ _⟩
    simp [builtin, k1, k2, pureOf_run hr P w]
theorem does_max {ats : Array TypeId} {x y : Operand} {u v r : Value} (ho : o.op = .call { callee := .builtin .max, args := #[x, y], argTypes := ats }) (hx : opv T x = .val u) (hy : opv T y = .val v) (hr : pureOf (Builtin.max_ ats o.type #[u, v]) = some r) : Does P B o T H (.val r) H :=
  does_pure fun σ w a s' h => by
    have k1 := h x (by simp [ho, Op.operands, Call.operands])
    have k2 := h y (by simp [ho, Op.operands, Call.operands])
    rw [hx] at k1
    rw [hy] at k2
    unfold Rep at k1 k2
    refine ⟨r, builtin_op ho ?_, rep_val _ _⟩
    simp [builtin, k1, k2, pureOf_run hr P w]

/-! Composite values. -/
theorem foldl_set (off : Nat) : ∀ (l : List Value) (k : Nat) (cs : Array Value), off + k + l.length ≤ cs.size → ((l.zipIdx k).foldl (fun cs (p : Value × Nat) => cs.setIfInBounds (off + p.2) p.1) cs).toList = cs.toList.take (off + k) ++ l ++ cs.toList.drop (off + k + l.length)
  | [], k, cs, _ => by simp
  | v :: l, k, cs, h => by
    simp only [List.zipIdx_cons, List.foldl_cons]
    rw [foldl_set off l (k + 1) (cs.setIfInBounds (off + k) v) (by simp at h ⊢; omega)]
    simp only [Array.toList_setIfInBounds]
    have hk : off + k < cs.toList.length := by simp at h ⊢; omega
    have e1 : (cs.toList.set (off + k) v).take (off + (k + 1)) = cs.toList.take (off + k) ++ [v] := by
      rw [← Nat.add_assoc, List.take_succ_eq_append_getElem (by simpa using hk), List.take_set_of_le (Nat.le_refl _)]
      simp
    have e2 : (cs.toList.set (off + k) v).drop (off + (k + 1) + l.length) = cs.toList.drop (off + k + (v :: l).length) := by
      rw [List.drop_set_of_lt (by omega)]
      congr 1
      simp only [List.length_cons]; omega
    rw [e1, e2]; simp
def fillPV (pl : Nat → Option (Nat × Nat)) (T : Nat → PV) : List (Nat × Operand) → List PV → Option (List PV)
  | [], cells => some cells
  | (i, x) :: rest, cells => match pl i with
    | some (of, z) => match cellsPV (opv T x) with
      | some ys => match Nat.beq ys.length z with
        | true => match Nat.ble (of + z) cells.length with
          | true => fillPV pl T rest (splice cells of ys)
          | false => none
        | false => none
      | none => none
    | none => none
theorem fill_rep {c : Cx} {ρ : Operand → Value} (pl : Nat → Option (Nat × Nat)) : ∀ (parts : List (Nat × Operand)) (cells out : List PV) (cs : Array Value), RepL c cells cs.toList → fillPV pl T parts cells = some out → (∀ p ∈ parts, Rep c (opv T p.2) (ρ p.2)) →
    ∃ cs', Instr.fill pl cs (parts.map fun p => (p.1, ρ p.2)) = some cs' ∧ RepL c out cs'.toList
  | [], cells, out, cs, h, hf, _ => by injection hf with hf; subst hf; exact ⟨cs, rfl, h⟩
  | (i, x) :: rest, cells, out, cs, h, hf, hp => by
    simp only [fillPV] at hf
    split at hf
    · rename_i of z hpl
      split at hf
      · rename_i ys hys
        split at hf
        · rename_i hz
          split at hf
          · rename_i hle
            rw [Nat.beq_eq] at hz
            rw [Nat.ble_eq] at hle
            have hx := cellsPV_rep hys (hp (i, x) (by simp))
            have hl : (ρ x).cells.size = ys.length := by have := RepL.length hx; rwa [Array.length_toList] at this
            have hcl := RepL.length h
            rw [Array.length_toList] at hcl
            have hfit : of + 0 + (ρ x).cells.toList.length ≤ cs.size := by rw [Array.length_toList]; omega
            have hs := foldl_set of (ρ x).cells.toList 0 cs hfit
            simp only [Nat.add_zero, Array.length_toList] at hs
            have hr : RepL c (splice cells of ys) ((ρ x).cells.zipIdx.foldl (fun cs (p : Value × Nat) => cs.setIfInBounds (of + p.2) p.1) cs).toList := by
              rw [← Array.foldl_toList, Array.toList_zipIdx, hs]
              unfold splice
              rw [hl]
              exact ((h.take of).append hx).append (h.drop _)
            obtain ⟨cs', h1, h2⟩ := fill_rep pl rest _ out _ hr hf (fun p hp' => hp p (by simp [hp']))
            refine ⟨cs', ?_, h2⟩
            simp only [List.map_cons, Instr.fill, hpl]
            rw [if_neg (by simp; omega)]
            exact h1
          · cases hf
        · cases hf
      · cases hf
    · cases hf
theorem places_of {F : List Field} : ∀ {fs : List (Nat × Nat × Bool)}, F.length = fs.length → (F.zip fs).all (fieldOk P) = true → F.mapM (fun f => (P.info? f.type).map fun i => (f.offset, i.size)) = some (fs.map fun q => (q.1, q.2.1)) := by
  induction F with
  | nil => intro fs hl _; cases fs with | nil => rfl | cons _ _ => simp at hl
  | cons f F ih =>
    intro fs hl h
    cases fs with
    | nil => simp at hl
    | cons q fs =>
      obtain ⟨of, z, g⟩ := q
      simp only [List.zip_cons_cons, List.all_cons, Bool.and_eq_true] at h
      obtain ⟨h1, h2⟩ := h
      have h3 := ih (by simpa using hl) h2
      simp only [fieldOk, Bool.and_eq_true, decide_eq_true_eq] at h1
      obtain ⟨⟨⟨h6, h7⟩, h8⟩, h9⟩ := h1
      cases hi : P.info? f.type with
      | none => rw [hi] at h8; cases h8
      | some i => rw [hi] at h8; simp at h8; simp [List.mapM_cons, hi, h3, h6, h8]
def placePV : Sh → TD → Nat → Option (Nat × Nat)
  | .struct fs, _, i => match fs[i]? with
    | some (of, z, _) => some (of, z)
    | none => none
  | .array _ _, de, i => some (i * de.size, de.size)
  | _, _, _ => none
theorem does_build_struct {t : TypeId} {d : TD} {fs : List (Nat × Nat × Bool)} {parts : Array (Nat × Operand)} {out : List PV} (f : TyFacts P t d) (hd : d.sh = .struct fs) (ho : o.op = .build t parts) (hf : fillPV (fun i => match fs[i]? with | some (of, z, _) => some (of, z) | none => none) T parts.toList d.zero = some out) : Does P B o T H (.agg out) H :=
  does_pure fun σ w a s h => by
    obtain ⟨i, z, hi, hsz, hby, hz, hzr⟩ := f.info
    obtain ⟨u, hu, hsh⟩ := f.under
    rw [hd] at hsh
    cases u with
    | struct F =>
      simp only [shOk, Bool.and_eq_true, decide_eq_true_eq] at hsh
      have hpl := places_of (P := P) (F := F.toList) (fs := fs) (by simpa using hsh.1) hsh.2
      obtain ⟨cs', h1, h2⟩ := fill_rep (c := cx B H σ w) (ρ := a.eval) _ parts.toList d.zero out z.cells (hzr _) hf (fun p hp => h p.2 (by
        simp only [ho, Op.operands]
        exact List.mem_map.2 ⟨p, hp, rfl⟩))
      refine ⟨.agg cs', ?_, by unfold Rep; exact ⟨cs'.toList, by simp, h2⟩⟩
      have hb : P.built t (parts.map fun p => (p.1, a.eval p.2)).toList = some cs' := by
        unfold Program.built
        rw [hi, hu]
        simp only [hz, hpl]
        rw [Array.toList_map]
        rw [← h1]
        congr 1
        funext j
        simp only [List.getElem?_toArray, List.getElem?_map]
        cases fs[j]? with
        | none => rfl
        | some q => rfl
      have := run_build (P := P) w t (parts.map fun p => (p.1, a.eval p.2)) cs' hb
      simp [execOp, ho, this]
    | _ => cases hsh
theorem does_build_array {t e : TypeId} {d de : TD} {n : Nat} {parts : Array (Nat × Operand)} {out : List PV} (f : TyFacts P t d) (hd : d.sh = .array n e) (fe : TyFacts P e de) (ho : o.op = .build t parts) (hf : fillPV (fun i => some (i * de.size, de.size)) T parts.toList d.zero = some out) : Does P B o T H (.agg out) H :=
  does_pure fun σ w a s h => by
    obtain ⟨i, z, hi, hsz, hby, hz, hzr⟩ := f.info
    obtain ⟨ie, ze, hie, hsze, _⟩ := fe.info
    obtain ⟨cs', h1, h2⟩ := fill_rep (c := cx B H σ w) (ρ := a.eval) _ parts.toList d.zero out z.cells (hzr _) hf (fun p hp => h p.2 (by
      simp only [ho, Op.operands]
      exact List.mem_map.2 ⟨p, hp, rfl⟩))
    refine ⟨.agg cs', ?_, by unfold Rep; exact ⟨cs'.toList, by simp, h2⟩⟩
    have hb : P.built t (parts.map fun p => (p.1, a.eval p.2)).toList = some cs' := by
      unfold Program.built
      rw [hi, f.array hd]
      simp only [hz, hie]
      rw [Array.toList_map, ← h1, hsze]
    have := run_build (P := P) w t (parts.map fun p => (p.1, a.eval p.2)) cs' hb
    simp [execOp, ho, this]
theorem does_buildSlice {t e : TypeId} {d de : TD} {n : Nat} {parts : Array (Nat × Operand)} {out : List PV} (f : TyFacts P t d) (hd : d.sh = .slice e) (fe : TyFacts P e de) (ho : o.op = .buildSlice t n parts) (hn : Nat.ble (n * de.size) 16777216 = true) (hf : fillPV (fun i => some (i * de.size, de.size)) T parts.toList (zerosPV n de) = some out) : Does P B o T H (.seq n out .clip) H := by
  intro σ w a s h
  obtain ⟨i, z, hi, hsz, hby, hz, hzr⟩ := fe.info
  rw [Nat.ble_eq] at hn
  obtain ⟨cs', h1, h2⟩ := fill_rep (c := cx B H σ w) (ρ := a.eval) _ parts.toList _ out (madeCells z.cells (n * de.size)) (zeros_rep fe n z hzr _) hf (fun p hp => h p.2 (by
    simp only [ho, Op.operands]
    exact List.mem_map.2 ⟨p, hp, rfl⟩))
  obtain ⟨s', st⟩ := grow_sim s (Grows.alloc w (.cells cs' e))
  refine ⟨.slice (some ⟨w.heap.size, 0, none⟩) n n, w.alloc (.cells cs' e), σ, .inl ?_, ?_, s', st⟩
  · have hg : ¬ (16777216 < n * de.size) := by omega
    have hmk : madeCells z.cells (n * de.size) = Array.map (fun x => z.cells[x % z.cells.size]!) (Array.range (n * de.size)) := rfl
    by_cases h0 : n * de.size = 0
    · have hm0 : madeCells z.cells (n * de.size) = #[] := by rw [h0]; simp [madeCells]
      rw [hm0] at h1
      simp [execOp, ho, Instr.buildSlice, run_underlying (f.slice hd), fe.sizeOf, h0, newRow]
      rw [Array.range_zero', Array.map_empty, h1]
      simp
    · rw [hmk] at h1
      simp [execOp, ho, Instr.buildSlice, run_underlying (f.slice hd), fe.sizeOf, hg, h0, zeroValue, typeInfo, hi, hz, newRow]
      rw [h1]
      simp
  · unfold Rep
    refine ⟨_, n, cs'.toList, rfl, Nat.le_refl _, (fun h => by cases h), RepL.mono st.le h2, fun b hb => ?_, rfl⟩
    cases hb
    refine .inl ⟨rfl, fun j u hj => ⟨?_, ?_⟩⟩
    · show (w.alloc (.cells cs' e)).cell? ⟨w.heap.size, 0 + j, none⟩ = _
      rw [cell_alloc_new _ _ _ _ _ _ rfl, Nat.zero_add]
      rw [← Array.getElem?_toList]; exact hj
    · rintro (h' | ⟨i', oi, h3, h4, h5⟩)
      · exact absurd (s.base _ _ h') (by simp)
      · have hl : oi.live = true := by cases oi <;> first | rfl | cases h5
        have := (s.holds i' oi h3).lt hl h4
        simp [cx] at this
theorem does_makeSlice {t e : TypeId} {d de : TD} {x y : Operand} {k k' : IntKind} {n : Int} (f : TyFacts P t d) (hd : d.sh = .slice e) (fe : TyFacts P e de) (ho : o.op = .makeSlice t x y) (hx : opv T x = .val (.int k n)) (hy : opv T y = .val (.int k' n)) (h0 : 0 ≤ n) (hb : (de.bytes : Int) * n ≤ 281474976710656) (h63 : n ≤ 9223372036854775807) :
    Does P B o T H (.arr H.length 0 n.toNat n.toNat) (H ++ [.cells (zerosPV n.toNat de) e]) := by
  intro σ w a s h
  have k1 := h x (by simp [ho, Op.operands])
  have k2 := h y (by simp [ho, Op.operands])
  rw [hx] at k1
  rw [hy] at k2
  unfold Rep at k1 k2
  obtain ⟨i, z, hi, hsz, hby, hz, hzr⟩ := fe.info
  have hr := run_make (P := P) w t e i z (f.slice hd) hi hz k k' n n h0 (Int.le_refl _) (by rw [hby]; exact hb) h63
  obtain ⟨s', st⟩ := name_cells s (zerosPV n.toNat de) (madeCells z.cells (n.toNat * de.size)).toList e (zeros_rep fe n.toNat z hzr _)
  rw [Array.toArray_toList] at s' st
  rw [hsz] at hr
  refine ⟨_, _, _, .inl (by simp [execOp, ho, k1, k2, hr]; rfl), ?_, s', st⟩
  unfold Rep
  exact ⟨by simp [cx], w.heap.size, by simp only [cx]; exact ext_new _ _ _, rfl⟩
theorem does_copy {t tx e : TypeId} {d de : TD} {x y : Operand} {id off n cap m : Nat} {xs ys : List PV} {et : TypeId} {s : SK} (f : TyFacts P t d) (hd : d.sh = .slice e) (fe : TyFacts P e de) (ho : o.op = .call { callee := .builtin .copy, args := #[x, y], argTypes := #[t, tx] })
    (hx : opv T x = .arr id off n cap) (hi : H[id]? = some (.cells xs et)) (hy : opv T y = .seq m ys s) (hl : ys.length = m * de.size) (hok : ∀ z ∈ ys, okC z = true) (hfit : off + n * de.size ≤ xs.length) :
    Does P B o T H (.val (.int .i64 (min m n : Nat))) (H.set id (.cells (splice xs off (ys.take (min m n * de.size))) et)) := by
  intro σ w a s' h
  have k1 := h x (by simp [ho, Op.operands, Call.operands])
  have k2 := h y (by simp [ho, Op.operands, Call.operands])
  rw [hx] at k1
  rw [hy] at k2
  unfold Rep at k1
  obtain ⟨hN, b, hb, hv⟩ := k1
  obtain ⟨ad, cap', vs, hv2, hle, hnil, hrl, hlies, _⟩ := rep_seq k2
  obtain ⟨b', ws, hb', hg, hwl⟩ := s'.holds id _ hi
  simp only [cx] at hb hb' hg
  rw [hb] at hb'
  cases hb'
  have hvl : vs.length = m * de.size := by rw [RepL.length hrl]; exact hl
  have hmn : min m n * de.size ≤ m * de.size := Nat.mul_le_mul_right _ (Nat.min_le_left _ _)
  have hmn2 : min m n * de.size ≤ n * de.size := Nat.mul_le_mul_right _ (Nat.min_le_right _ _)
  have htl : (vs.take (min m n * de.size)).length = min m n * de.size := by rw [List.length_take]; omega
  have hytl : (ys.take (min m n * de.size)).length = min m n * de.size := by rw [List.length_take]; omega
  have hfc : (Builtin.firstCells de.size (min m n) (a.eval y)).run P w = .ok (vs.take (min m n * de.size)).toArray w := by
    rw [hv2]
    cases ad with
    | none =>
      obtain ⟨rfl, _, rfl⟩ := hnil rfl
      simpa using run_firstCells_none w de.size (min 0 n) 0 cap'
    | some bd =>
      refine run_firstCells_some w de.size (min m n) bd m cap' _ htl (fun j u hj => ?_)
      rw [List.getElem?_take] at hj
      have hl2 := (hlies bd rfl).resolve_right (by rintro ⟨_, h3⟩; rw [h3] at hj; simp at hj)
      rw [lies_addr hl2, Addr.add_lit]
      split at hj
      · exact (hl2.2 j u hj).1
      · cases hj
  have hwsl := RepL.length hwl
  have hst := run_storeCells_at P b off et (vs.take (min m n * de.size)) 0 ws.toArray w hg (by rw [Nat.add_zero, htl, List.size_toArray, hwsl]; omega) (okC_repL' (fun z hz => hok z (List.mem_of_mem_take hz)) (hrl.take _))
  simp only [Nat.add_zero] at hst
  obtain ⟨s2, st⟩ := set_cells s' (ys := splice xs off (ys.take (min m n * de.size))) hi hb hg (us := ws.take off ++ vs.take (min m n * de.size) ++ ws.drop (off + (vs.take (min m n * de.size)).length)) (by
    simp only [List.length_append, List.length_drop, htl]
    rw [List.length_take]; omega) (by
    unfold splice
    rw [hytl, htl]
    exact ((hwl.take off).append (hrl.take _)).append (hwl.drop _))
  refine ⟨.int .i64 (min m n : Nat), _, σ, .inl (builtin_op ho ?_), rep_val _ _, s2, st⟩
  have hlen : (Builtin.lenOf (a.eval y)).run P w = .ok m w := by rw [hv2]; rfl
  have hcp : (Builtin.copy_ #[t, tx] o.type #[a.eval x, a.eval y]).run P w = .ok (.int .i64 (min m n : Nat)) (w.setRow b (ws.take off ++ vs.take (min m n * de.size) ++ ws.drop (off + (vs.take (min m n * de.size)).length)).toArray) := by
    have e1 : Nat.min m n = min m n := rfl
    simp only [Builtin.copy_, hv, List.getElem?_toArray, List.getElem?_cons_zero, List.getElem?_cons_succ, Sem.run_bind, run_underlying (f.slice hd), Result.andThen_ok, hlen, fe.sizeOf, e1, hfc, hst, goInt, Sem.run_pure]
  simp only [builtin, List.map_toArray, List.map_cons, List.map_nil, Sem.run_bind, hcp, Result.andThen_ok, Sem.run_pure]
end
end Go.Proofs.Ytkchnmilmepnfaa
