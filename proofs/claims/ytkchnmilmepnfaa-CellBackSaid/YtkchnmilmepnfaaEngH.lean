/- The engine, part H: calls, a function's contract, and what it says in any state. No condition. -/
import Derived.Test.YtkchnmilmepnfaaEngG
namespace Go.Proofs.Ytkchnmilmepnfaa
open Go.RowKit
set_option linter.unusedVariables false

/-- A function's contract over values without addresses: from named blocks H, with these arguments, it returns that, and leaves H'. -/
def HC (P : Program) (f : FuncId) (args : List PV) (H : List Ob) (res : PV) (H' : List Ob) : Prop :=
  ∀ (B : Nat → Nat → Prop) (σ : Nat → Option Nat) (w : World) (vs : List Value), Sim B H σ w → RepL (cx B H σ w) args vs →
    Calls P f vs.toArray w fun e w' => ∃ v σ', e = .returned v ∧ Rep (cx B H' σ' w') res v ∧ Sim B H' σ' w' ∧ Step B H σ w H' σ' w'
/-- The same of a function that touches no named block. -/
def PureC (P : Program) (f : FuncId) (args : List PV) (res : PV) : Prop := ∀ H, HC P f args H res H

section
variable {P : Program} {B : Nat → Nat → Prop} {o : Oper} {T : Nat → PV} {H : List Ob}
theorem repL_ops {c : Cx} {ρ : Operand → Value} : ∀ (l : List Operand), (∀ y ∈ l, Rep c (opv T y) (ρ y)) → RepL c (l.map (opv T)) (l.map ρ)
  | [], _ => repL_nil.2 rfl
  | y :: l, h => repL_cons.2 ⟨h y (by simp), repL_ops l (fun z hz => h z (by simp [hz]))⟩
theorem run_callFunc_go {f : FuncId} {fn : Func} (hf : P.funcs[f]? = some fn) (hb : fn.body.isNone = false) (hn : (fn.name == "runtime.NumGoroutine") = false) (args : Array Value) (w : World) : (callFunc f args).run P w = .ok (.enter f args) w := by
  unfold callFunc
  simp only [Sem.run_bind, run_program, Result.andThen_ok, hf, hn, hb]
  rfl
theorem doesC_func {f : FuncId} {fn : Func} {args : Array Operand} {ats : Array TypeId} {res : PV} {H' : List Ob} (ho : o.op = .call { callee := .value (.func f), args := args, argTypes := ats }) (hf : P.funcs[f]? = some fn) (hb : fn.body.isNone = false) (hn : (fn.name == "runtime.NumGoroutine") = false)
    (h : HC P f (args.toList.map (opv T)) H res H') : DoesC P B o T H res H' := by
  intro σ w a s ha
  refine ⟨f, (args.toList.map a.eval).toArray, ?_, h B σ w _ s (repL_ops _ (fun y hy => ha y ?_))⟩
  · unfold execOp
    simp only [ho, resolve, Act.eval, Deferred.ofValue, invoke, Sem.run_bind, Sem.run_pure, Result.andThen_ok]
    rw [run_callFunc_go hf hb hn]
    simp
    rw [← Array.toList_map]
  · rw [ho]; simp [Op.operands, Call.operands]; exact .inr (by simpa using hy)
theorem doesC_value {f : FuncId} {fn : Func} {x : Operand} {first cap : List PV} {args : Array Operand} {ats : Array TypeId} {res : PV} {H' : List Ob} (ho : o.op = .call { callee := .value x, args := args, argTypes := ats }) (hx : opv T x = .fn (.func f) first cap) (hf : P.funcs[f]? = some fn) (hb : fn.body.isNone = false) (hn : (fn.name == "runtime.NumGoroutine") = false)
    (h : HC P f (first ++ args.toList.map (opv T) ++ cap) H res H') : DoesC P B o T H res H' := by
  intro σ w a s ha
  have k1 := ha x (by rw [ho]; simp [Op.operands, Call.operands])
  rw [hx] at k1
  unfold Rep at k1
  obtain ⟨fs, cs, hv, h1, h2⟩ := k1
  refine ⟨f, (fs ++ args.toList.map a.eval ++ cs).toArray, ?_, h B σ w _ s ((h1.append (repL_ops _ (fun y hy => ha y ?_))).append h2)⟩
  · unfold execOp
    simp only [ho, resolve, hv, Deferred.ofValue, invoke, Sem.run_bind, Sem.run_pure, Result.andThen_ok]
    rw [run_callFunc_go hf hb hn]
    simp
  · rw [ho]; simp [Op.operands, Call.operands]; exact .inr (by simpa using hy)

/-- What is known of one value is known of another one. -/
def Imp (x y : PV) : Prop := ∀ c v, Rep c x v → Rep c y v
theorem imp_of {x y : PV} (h : x = y) : Imp x y := fun _ _ k => h ▸ k
theorem Imp.refl (x : PV) : Imp x x := fun _ _ h => h
theorem imp_any (x : PV) : Imp x .any := fun _ _ _ => by unfold Rep; trivial
theorem imp_seq (n : Nat) (xs : List PV) (s : SK) : Imp (.seq n xs s) (.seq n xs .any) := fun c v h => by
  unfold Rep at h ⊢
  obtain ⟨a, cap, vs, h1, h2, h3, h4, h5, _⟩ := h
  exact ⟨a, cap, vs, h1, h2, h3, h4, h5, trivial⟩
def ImpL : List PV → List PV → Prop
  | [], [] => True
  | x :: xs, y :: ys => Imp x y ∧ ImpL xs ys
  | _, _ => False
theorem impL_rep {c : Cx} : ∀ {xs ys : List PV} {vs : List Value}, ImpL xs ys → RepL c xs vs → RepL c ys vs
  | [], [], vs, _, h => h
  | x :: xs, y :: ys, [], _, h => by unfold RepL at h; obtain ⟨u, us, h1, _⟩ := h; cases h1
  | x :: xs, y :: ys, v :: vs, hi, h => by rw [repL_cons] at h ⊢; exact ⟨hi.1 c v h.1, impL_rep hi.2 h.2⟩
  | [], y :: ys, _, hi, _ => hi.elim
  | x :: xs, [], _, hi, _ => hi.elim
theorem imp_tup {xs ys : List PV} (h : ImpL xs ys) : Imp (.tup xs) (.tup ys) := fun c v k => by
  unfold Rep at k ⊢; obtain ⟨vs, h1, h2⟩ := k; exact ⟨vs, h1, impL_rep h h2⟩
theorem imp_agg {xs ys : List PV} (h : ImpL xs ys) : Imp (.agg xs) (.agg ys) := fun c v k => by
  unfold Rep at k ⊢; obtain ⟨vs, h1, h2⟩ := k; exact ⟨vs, h1, impL_rep h h2⟩
theorem impL_refl : ∀ xs : List PV, ImpL xs xs
  | [] => trivial
  | x :: xs => ⟨Imp.refl x, impL_refl xs⟩

/-- The slots at a function's beginning. -/
def argT (args : List PV) : Nat → PV := fun i => (args[i]?).getD (.val undef)
def resPV (T : Nat → PV) : List Nat → PV
  | [t] => T t
  | ts => .tup (ts.map T)
/-- What is asked at a function's end. -/
def RetQ (ts : List Nat) (res : PV) (H' : List Ob) : Exit → (Nat → PV) → List Ob → Prop
  | .normal, T, H => Imp (resPV T ts) res ∧ H = H'
  | .ret, T, H => Imp (resPV T ts) res ∧ H = H'
  | _, _, _ => False
theorem repT_args {c : Cx} : ∀ {args : List PV} {vs : List Value} (_ : RepL c args vs) (n : Nat) (i : Nat), Rep c (argT args i) ((vs.toArray ++ Array.replicate (n - vs.toArray.size) undef).getD i undef) := by
  intro args vs h n i
  unfold argT
  have hl := RepL.length h
  cases ha : args[i]? with
  | none =>
    have hge : args.length ≤ i := by rcases Nat.lt_or_ge i args.length with h1 | h1; rw [List.getElem?_eq_getElem h1] at ha; cases ha; exact h1
    have : (vs.toArray ++ Array.replicate (n - vs.toArray.size) undef).getD i undef = undef := by
      rw [Array.getD_eq_getD_getElem?, Array.getElem?_append_right (by simp; omega), Array.getElem?_replicate]
      split <;> rfl
    rw [this]; exact rep_val _ _
  | some x =>
    obtain ⟨u, hu, hr⟩ := h.get ha
    have : (vs.toArray ++ Array.replicate (n - vs.toArray.size) undef).getD i undef = u := by
      rw [Array.getD_eq_getD_getElem?, Array.getElem?_append_left (by simpa using lt_of_get hu)]
      simp [hu]
    rw [this]; exact hr
theorem run_results {fn : Func} {ts : List Nat} (h : fn.results = (ts.map ResultVar.tmp).toArray) {c : Cx} {T : Nat → PV} {a : Act} (hr : RepT c T a) (w : World) : ∃ v, (results fn a.tmps).run P w = .ok v w ∧ Rep c (resPV T ts) v := by
  have h1 : ∀ l : List Nat, (l.map fun t => a.tmps.getD t undef) = l.map (fun t => a.tmps.getD t undef) := fun _ => rfl
  have hm : ((ts.map ResultVar.tmp).toArray.mapM fun | .tmp t => pure (a.tmps.getD t undef) | .cell ad t => do loadVar t (← asAddr (a.tmps.getD ad undef)) : Sem (Array Value)) = pure (ts.map fun t => a.tmps.getD t undef).toArray := by
    rw [List.mapM_toArray]
    have : ∀ l : List Nat, ((l.map ResultVar.tmp).mapM fun | .tmp t => pure (a.tmps.getD t undef) | .cell ad t => do loadVar t (← asAddr (a.tmps.getD ad undef)) : Sem (List Value)) = pure (l.map fun t => a.tmps.getD t undef) := by
      intro l
      induction l with
      | nil => rfl
      | cons x l ih => rw [List.map_cons, List.mapM_cons, ih]; rfl
    rw [this]; rfl
  refine ⟨if h : (ts.map fun t => a.tmps.getD t undef).toArray.size = 1 then (ts.map fun t => a.tmps.getD t undef).toArray[0] else .tuple (ts.map fun t => a.tmps.getD t undef).toArray, ?_, ?_⟩
  · unfold results
    rw [h]
    have hm' := hm
    simp only [Sem.run_bind]
    erw [hm']
    simp
  · have htup : Rep c (.tup (ts.map T)) (.tuple (ts.map fun t => a.tmps.getD t undef).toArray) := by
      unfold Rep
      refine ⟨_, rfl, ?_⟩
      clear hm h1 h
      induction ts with
      | nil => exact repL_nil.2 rfl
      | cons t ts ih => exact repL_cons.2 ⟨hr t, ih⟩
    match ts, htup with
    | [], htup => rw [dif_neg (by simp)]; exact htup
    | [t], _ => rw [dif_pos (by simp)]; exact hr t
    | t :: t' :: ts, htup => rw [dif_neg (by simp)]; exact htup

theorem hc_of_W {f : FuncId} {fn : Func} {c : Code} {args : List PV} {res : PV} {H' : List Ob} {ts : List Nat} (hf : P.funcs[f]? = some fn) (hb : fn.body = some c) (hr : fn.results = (ts.map ResultVar.tmp).toArray) (hn0 : Nat.ble args.length fn.ntmps = true)
    (h : ∀ B, W P B fn.ntmps c (argT args) H (RetQ ts res H')) : HC P f args H res H' := by
  intro B σ w vs s ha
  have hn := Nat.le_of_ble_eq_true hn0
  have hl := RepL.length ha
  refine calls_of_wp hf hb (wp_mono (h B σ w { tmps := vs.toArray ++ Array.replicate (fn.ntmps - vs.toArray.size) undef, defers := [] } ⟨s, repT_args ha _, by simp; omega, rfl⟩) ?_)
  rintro e a' w' ⟨T', H1, σ', h1, h2, h3⟩
  have fin : ∀ (h4 : Imp (resPV T' ts) res ∧ H1 = H'), a'.defers = [] ∧ ∃ v, (results fn a'.tmps).run P w' = .ok v w' ∧ ∃ v' σ', Ending.returned v = Ending.returned v' ∧ Rep (cx B H' σ' w') res v' ∧ Sim B H' σ' w' ∧ Step B H σ w H' σ' w' := by
    rintro ⟨h4, rfl⟩
    obtain ⟨v, h5, h6⟩ := run_results (P := P) hr h2.rep w'
    exact ⟨h2.defers, v, h5, v, σ', rfl, h4 _ _ h6, h2.sim, h3⟩
  cases e <;> first | exact fin h1 | exact False.elim h1

/-! What does not lean on named blocks. -/
mutual
def Flat : PV → Prop
  | .val _ => True
  | .any => True
  | .agg cs => FlatL cs
  | .tup cs => FlatL cs
  | .seq _ xs s => FlatL xs ∧ (s = .any ∨ s = .clip)
  | .row xs => FlatL xs
  | .fn _ a b => FlatL a ∧ FlatL b
  | .ptr _ _ => False
  | .arr _ _ _ _ => False
  | .mapv _ => False
def FlatL : List PV → Prop
  | [] => True
  | x :: xs => Flat x ∧ FlatL xs
end
mutual
theorem rep_flat {c c' : Cx} (hw : c'.w = c.w) (hr : ∀ b off, c'.Wr b off → c.Wr b off) : ∀ {x : PV} {v : Value}, Flat x → Rep c x v → Rep c' x v
  | .val u, v, _, k => by unfold Rep at k ⊢; exact k
  | .any, _, _, _ => by unfold Rep; trivial
  | .agg cs, v, f, k => by unfold Rep at k ⊢; unfold Flat at f; obtain ⟨vs, h1, h2⟩ := k; exact ⟨vs, h1, repL_flat hw hr f h2⟩
  | .tup cs, v, f, k => by unfold Rep at k ⊢; unfold Flat at f; obtain ⟨vs, h1, h2⟩ := k; exact ⟨vs, h1, repL_flat hw hr f h2⟩
  | .seq n xs s, v, f, k => by
    unfold Rep at k ⊢; unfold Flat at f
    obtain ⟨a, cap, vs, h1, h2, h3, h4, h5, h6⟩ := k
    refine ⟨a, cap, vs, h1, h2, h3, repL_flat hw hr f.1 h4, fun b hb => (h5 b hb).imp (fun hl => ⟨hl.1, fun j u hj => ⟨by rw [hw]; exact (hl.2 j u hj).1, fun h => (hl.2 j u hj).2 (hr _ _ h)⟩⟩) id, ?_⟩
    rcases f.2 with rfl | rfl
    · trivial
    · exact h6
  | .row xs, v, f, k => by
    unfold Rep at k ⊢; unfold Flat at f
    obtain ⟨b, vs, h1, h2, h3⟩ := k
    exact ⟨b, vs, h1, repL_flat hw hr f h2, h3.1, fun j u hj => ⟨by rw [hw]; exact (h3.2 j u hj).1, fun h => (h3.2 j u hj).2 (hr _ _ h)⟩⟩
  | .fn g a b, v, f, k => by unfold Rep at k ⊢; unfold Flat at f; obtain ⟨fs, cs, h1, h2, h3⟩ := k; exact ⟨fs, cs, h1, repL_flat hw hr f.1 h2, repL_flat hw hr f.2 h3⟩
  | .ptr _ _, _, f, _ => by unfold Flat at f; exact f.elim
  | .arr _ _ _ _, _, f, _ => by unfold Flat at f; exact f.elim
  | .mapv _, _, f, _ => by unfold Flat at f; exact f.elim
theorem repL_flat {c c' : Cx} (hw : c'.w = c.w) (hr : ∀ b off, c'.Wr b off → c.Wr b off) : ∀ {xs : List PV} {vs : List Value}, FlatL xs → RepL c xs vs → RepL c' xs vs
  | [], vs, _, k => by unfold RepL at k ⊢; exact k
  | x :: xs, vs, f, k => by unfold RepL at k ⊢; unfold FlatL at f; obtain ⟨u, us, h1, h2, h3⟩ := k; exact ⟨u, us, h1, rep_flat hw hr f.1 h2, repL_flat hw hr f.2 h3⟩
end
theorem flatL_map {α : Type} (g : α → PV) (h : ∀ x, Flat (g x)) : ∀ l : List α, FlatL (l.map g)
  | [] => by rw [List.map_nil]; unfold FlatL; trivial
  | x :: l => by rw [List.map_cons]; unfold FlatL; exact ⟨h x, flatL_map g h l⟩
theorem flatL_of {xs : List PV} (h : ∀ x ∈ xs, Flat x) : FlatL xs := by
  induction xs with
  | nil => unfold FlatL; trivial
  | cons x l ih => unfold FlatL; exact ⟨h x (by simp), ih (fun y hy => h y (by simp [hy]))⟩

def BoW (B : Nat → Nat → Prop) (σ : Nat → Option Nat) (H : List Ob) : Nat → Nat → Prop := fun b off => B b off ∨ OwnWr σ H b off
theorem sim_nil {σ : Nat → Option Nat} {w : World} (s : Sim B H σ w) : Sim (BoW B σ H) [] σ w := by
  refine ⟨fun i j b oi oj h => by simp at h, fun i b oi h => by simp at h, fun b off h => ?_, fun i oi h => by simp at h⟩
  rcases h with h | ⟨i, oi, h1, h2, h3⟩
  · exact s.base b off h
  · have hl : oi.live = true := by cases oi <;> first | rfl | cases h3
    exact (s.holds i oi h1).lt hl h2
/-- A function that was walked from no named block touches none. -/
theorem pure_of_hc {f : FuncId} {args : List PV} {res : PV} (ha : FlatL args) (hres : Flat res) (h : ∀ B σ w vs, Sim B [] σ w → RepL (cx B [] σ w) args vs → Calls P f vs.toArray w fun e w' => ∃ v H' σ', e = .returned v ∧ Rep (cx B H' σ' w') res v ∧ Step B [] σ w H' σ' w') : PureC P f args res := by
  intro H B σ w vs s hr
  have s0 := sim_nil s
  have hr0 : RepL (cx (BoW B σ H) [] σ w) args vs := repL_flat (c := cx B H σ w) (c' := cx (BoW B σ H) [] σ w) rfl (fun b off h => by
    rcases h with h | ⟨i, oi, h1, _⟩
    · exact h
    · simp at h1) ha hr
  refine Calls.mono (h (BoW B σ H) σ w vs s0 hr0) ?_
  rintro e w' ⟨v, H', σ', rfl, h1, h2⟩
  have g : Grows w w' := ⟨h2.os, h2.tape, h2.output, h2.size, fun b hb => h2.block b hb (fun i oi h => by simp at h)⟩
  obtain ⟨s', st⟩ := grow_sim s g
  exact ⟨v, σ, rfl, rep_flat (c := cx (BoW B σ H) H' σ' w') (c' := cx B H σ w') rfl (fun b off h => .inl h) hres h1, s', st⟩
/-- The end of a function that was walked from no named block. -/
def RetP (ts : List Nat) (res : PV) : Exit → (Nat → PV) → List Ob → Prop
  | .normal, T, _ => Imp (resPV T ts) res
  | .ret, T, _ => Imp (resPV T ts) res
  | _, _, _ => False
theorem pure_of_W {f : FuncId} {fn : Func} {c : Code} {args : List PV} {res : PV} {ts : List Nat} (hf : P.funcs[f]? = some fn) (hb : fn.body = some c) (hr : fn.results = (ts.map ResultVar.tmp).toArray) (hn0 : Nat.ble args.length fn.ntmps = true) (ha : FlatL args) (hres : Flat res)
    (h : ∀ B, W P B fn.ntmps c (argT args) [] (RetP ts res)) : PureC P f args res := by
  have hn := Nat.le_of_ble_eq_true hn0
  refine pure_of_hc ha hres fun B σ w vs s hv => ?_
  have hl := RepL.length hv
  refine calls_of_wp hf hb (wp_mono (h B σ w { tmps := vs.toArray ++ Array.replicate (fn.ntmps - vs.toArray.size) undef, defers := [] } ⟨s, repT_args hv _, by simp; omega, rfl⟩) ?_)
  rintro e a' w' ⟨T', H1, σ', h1, h2, h3⟩
  have fin : ∀ (h4 : Imp (resPV T' ts) res), a'.defers = [] ∧ ∃ v, (results fn a'.tmps).run P w' = .ok v w' ∧ ∃ v' H' σ', Ending.returned v = Ending.returned v' ∧ Rep (cx B H' σ' w') res v' ∧ Step B [] σ w H' σ' w' := by
    intro h4
    obtain ⟨v, h5, h6⟩ := run_results (P := P) hr h2.rep w'
    exact ⟨h2.defers, v, h5, v, H1, σ', rfl, h4 _ _ h6, h3⟩
  cases e <;> first | exact fin h1 | exact False.elim h1
theorem repL_vals {c : Cx} : ∀ {l vs : List Value}, RepL c (l.map .val) vs → vs = l
  | [], vs, h => by rw [List.map_nil, repL_nil] at h; exact h
  | x :: l, [], h => by rw [List.map_cons] at h; unfold RepL at h; obtain ⟨u, us, h1, _⟩ := h; cases h1
  | x :: l, v :: vs, h => by
    rw [List.map_cons, repL_cons] at h
    have h1 := h.1
    unfold Rep at h1
    rw [h1, repL_vals h.2]
/-- A contract of the world's own kind, for values that are the same in each world. -/
theorem pure_of_calls {f : FuncId} {args : List Value} {r : PV} {v : Value} (hr : ∀ c, Rep c r v) (h : ∀ w, Calls P f args.toArray w fun e w' => e = .returned v ∧ Grows w w') : PureC P f (args.map .val) r := by
  intro H B σ w vs s hv
  have hvs := repL_vals hv
  subst hvs
  refine Calls.mono (h w) ?_
  rintro e w' ⟨rfl, g⟩
  obtain ⟨s', st⟩ := grow_sim s g
  exact ⟨v, σ, rfl, hr _, s', st⟩
end
end Go.Proofs.Ytkchnmilmepnfaa
