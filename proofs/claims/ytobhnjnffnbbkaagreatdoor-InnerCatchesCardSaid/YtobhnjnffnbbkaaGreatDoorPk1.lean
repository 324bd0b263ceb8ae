import Derived.Carry
import Derived.Laws.Externs
import Derived.Lib.MakeNoZero
import Derived.LoopN
import Derived.Still
import Derived.Test.YtobhnjnffnbbkaaGreatDoorPk0
set_option linter.unusedVariables false
set_option linter.unusedSimpArgs false
namespace Go.Proofs.YtobhnjnffnbbkaaGreatDoor
open Go.RowKit
def HC (P : Program) (f : FuncId) (args : List PV) (H : List Ob) (res : PV) (H' : List Ob) : Prop :=
 ∀ (B : Nat → Nat → Prop) (σ : Nat → Option Nat) (w : World) (vs : List Value), Sim B H σ w → RepL (cx B H σ w) args vs →
  Calls P f vs.toArray w fun e w' => ∃ v σ', e = .returned v ∧ Rep (cx B H' σ' w') res v ∧ Sim B H' σ' w' ∧ Step B H σ w H' σ' w'
def PureC (P : Program) (f : FuncId) (args : List PV) (res : PV) : Prop := ∀ H, HC P f args H res H
section
variable {P : Program} {B : Nat → Nat → Prop} {o : Oper} {T : Nat → PV} {H : List Ob}
theorem repL_ops {c : Cx} {ρ : Operand → Value} : ∀ (l : List Operand), (∀ y ∈ l, Rep c (opv T y) (ρ y)) → RepL c (l.map (opv T)) (l.map ρ)
 | [], _ => repL_nil.2 rfl
 | y :: l, h => repL_cons.2 ⟨h y (by simp), repL_ops l (fun z hz => h z (by simp [hz]))⟩
theorem run_callFunc_go {f : FuncId} {fn : Func} (hf : P.funcs[f]? = some fn) (hb : fn.body.isNone = false) (hn : (fn.name == "runtime.NumGoroutine") = false) (args : Array Value) (w : World) : (callFunc f args).run P w = .ok (.enter f args) w := by
 unfold callFunc
 simp only [Sem.run_bind, run_program, Result.andThen_ok, hf, hn, hb]
 rfl
theorem doesC_func {f : FuncId} {fn : Func} {args : Array Operand} {ats : Array TypeId} {res : PV} {H' : List Ob} (ho : o.op = .call { callee := .value (.func f), args := args, argTypes := ats }) (hf : P.funcs[f]? = some fn) (hb : fn.body.isNone = false) (hn : (fn.name == "runtime.NumGoroutine") = false)
  (h : HC P f (args.toList.map (opv T)) H res H') : DoesC P B o T H res H' := by
 intro σ w a s ha
 refine ⟨f, (args.toList.map a.eval).toArray, ?_, h B σ w _ s (repL_ops _ (fun y hy => ha y ?_))⟩
 ·unfold execOp
  simp only [ho, resolve, Act.eval, Deferred.ofValue, invoke, Sem.run_bind, Sem.run_pure, Result.andThen_ok]
  rw [run_callFunc_go hf hb hn]
  simp
  rw [← Array.toList_map]
 ·rw [ho]; simp [Op.operands, Call.operands]; exact .inr (by simpa using hy)
theorem doesC_value {f : FuncId} {fn : Func} {x : Operand} {first cap : List PV} {args : Array Operand} {ats : Array TypeId} {res : PV} {H' : List Ob} (ho : o.op = .call { callee := .value x, args := args, argTypes := ats }) (hx : opv T x = .fn (.func f) first cap) (hf : P.funcs[f]? = some fn) (hb : fn.body.isNone = false) (hn : (fn.name == "runtime.NumGoroutine") = false)
  (h : HC P f (first ++ args.toList.map (opv T) ++ cap) H res H') : DoesC P B o T H res H' := by
 intro σ w a s ha
 have k1 := ha x (by rw [ho]; simp [Op.operands, Call.operands])
 rw [hx] at k1
 unfold Rep at k1
 obtain ⟨fs, cs, hv, h1, h2⟩ := k1
 refine ⟨f, (fs ++ args.toList.map a.eval ++ cs).toArray, ?_, h B σ w _ s ((h1.append (repL_ops _ (fun y hy => ha y ?_))).append h2)⟩
 ·unfold execOp
  simp only [ho, resolve, hv, Deferred.ofValue, invoke, Sem.run_bind, Sem.run_pure, Result.andThen_ok]
  rw [run_callFunc_go hf hb hn]
  simp
 ·rw [ho]; simp [Op.operands, Call.operands]; exact .inr (by simpa using hy)
def Imp (x y : PV) : Prop := ∀ c v, Rep c x v → Rep c y v
theorem imp_of {x y : PV} (h : x = y) : Imp x y := fun _ _ k => h ▸ k
theorem Imp.refl (x : PV) : Imp x x := fun _ _ h => h
theorem imp_seq (n : Nat) (xs : List PV) (s : SK) : Imp (.seq n xs s) (.seq n xs .any) := fun c v h => by
 unfold Rep at h ⊢
 obtain ⟨a, cap, vs, h1, h2, h3, h4, h5, _⟩ := h
 exact ⟨a, cap, vs, h1, h2, h3, h4, h5, trivial⟩
def ImpL : List PV → List PV → Prop
 | [], [] => True
 | x :: xs, y :: ys => Imp x y ∧ ImpL xs ys
 | _, _ => False
theorem impL_rep {c : Cx} : ∀ {xs ys : List PV} {vs : List Value}, ImpL xs ys → RepL c xs vs → RepL c ys vs
 | [], [], vs, _, h => h
 | x :: xs, y :: ys, [], _, h => by unfold RepL at h; obtain ⟨u, us, h1, _⟩ := h; cases h1
 | x :: xs, y :: ys, v :: vs, hi, h => by rw [repL_cons] at h ⊢; exact ⟨hi.1 c v h.1, impL_rep hi.2 h.2⟩
 | [], y :: ys, _, hi, _ => hi.elim
 | x :: xs, [], _, hi, _ => hi.elim
theorem imp_tup {xs ys : List PV} (h : ImpL xs ys) : Imp (.tup xs) (.tup ys) := fun c v k => by
 unfold Rep at k ⊢; obtain ⟨vs, h1, h2⟩ := k; exact ⟨vs, h1, impL_rep h h2⟩
theorem imp_agg {xs ys : List PV} (h : ImpL xs ys) : Imp (.agg xs) (.agg ys) := fun c v k => by
 unfold Rep at k ⊢; obtain ⟨vs, h1, h2⟩ := k; exact ⟨vs, h1, impL_rep h h2⟩
theorem impL_refl : ∀ xs : List PV, ImpL xs xs
 | [] => trivial
 | x :: xs => ⟨Imp.refl x, impL_refl xs⟩
def argT (args : List PV) : Nat → PV := fun i => (args[i]?).getD (.val undef)
theorem repT_args {c : Cx} : ∀ {args : List PV} {vs : List Value} (_ : RepL c args vs) (n : Nat) (i : Nat), Rep c (argT args i) ((vs.toArray ++ Array.replicate (n - vs.toArray.size) undef).getD i undef) := by
 intro args vs h n i
 unfold argT
 have hl := RepL.length h
 cases ha : args[i]? with
 | none =>
  have hge : args.length ≤ i := by rcases Nat.lt_or_ge i args.length with h1 | h1; rw [List.getElem?_eq_getElem h1] at ha; cases ha; exact h1
  have : (vs.toArray ++ Array.replicate (n - vs.toArray.size) undef).getD i undef = undef := by
   rw [Array.getD_eq_getD_getElem?, Array.getElem?_append_right (by simp; omega), Array.getElem?_replicate]
   split <;> rfl
  rw [this]; exact rep_val _ _
 | some x =>
  obtain ⟨u, hu, hr⟩ := h.get ha
  have : (vs.toArray ++ Array.replicate (n - vs.toArray.size) undef).getD i undef = u := by
   rw [Array.getD_eq_getD_getElem?, Array.getElem?_append_left (by simpa using lt_of_get hu)]
   simp [hu]
  rw [this]; exact hr
mutual
def Flat : PV → Prop
 | .val _ => True
 | .any => True
 | .agg cs => FlatL cs
 | .tup cs => FlatL cs
 | .seq _ xs s => FlatL xs ∧ (s = .any ∨ s = .clip)
 | .row xs => FlatL xs
 | .fn _ a b => FlatL a ∧ FlatL b
 | .ptr _ _ => False
 | .arr _ _ _ _ => False
 | .mapv _ => False
 | .arw _ _ _ => False
 | .smap _ xs => FlatL xs
 | .ifc _ x => Flat x
def FlatL : List PV → Prop
 | [] => True
 | x :: xs => Flat x ∧ FlatL xs
end
mutual
theorem rep_flat {c c' : Cx} (hw : c'.w = c.w) (hr : ∀ b off, c'.Wr b off → c.Wr b off) : ∀ {x : PV} {v : Value}, Flat x → Rep c x v → Rep c' x v
 | .val u, v, _, k => by unfold Rep at k ⊢; exact k
 | .any, _, _, _ => by unfold Rep; trivial
 | .agg cs, v, f, k => by unfold Rep at k ⊢; unfold Flat at f; obtain ⟨vs, h1, h2⟩ := k; exact ⟨vs, h1, repL_flat hw hr f h2⟩
 | .tup cs, v, f, k => by unfold Rep at k ⊢; unfold Flat at f; obtain ⟨vs, h1, h2⟩ := k; exact ⟨vs, h1, repL_flat hw hr f h2⟩
 | .seq n xs s, v, f, k => by
  unfold Rep at k ⊢; unfold Flat at f
  obtain ⟨a, cap, vs, h1, h2, h3, h4, h5, h6⟩ := k
  refine ⟨a, cap, vs, h1, h2, h3, repL_flat hw hr f.1 h4, fun b hb => (h5 b hb).imp (fun hl => ⟨hl.1, fun j u hj => ⟨by rw [hw]; exact (hl.2 j u hj).1, fun h => (hl.2 j u hj).2 (hr _ _ h)⟩⟩) id, ?_⟩
  rcases f.2 with rfl | rfl
  ·trivial
  ·exact h6
 | .row xs, v, f, k => by
  unfold Rep at k ⊢; unfold Flat at f
  obtain ⟨b, vs, h1, h2, h3⟩ := k
  exact ⟨b, vs, h1, repL_flat hw hr f h2, h3.1, fun j u hj => ⟨by rw [hw]; exact (h3.2 j u hj).1, fun h => (h3.2 j u hj).2 (hr _ _ h)⟩⟩
 | .fn g a b, v, f, k => by unfold Rep at k ⊢; unfold Flat at f; obtain ⟨fs, cs, h1, h2, h3⟩ := k; exact ⟨fs, cs, h1, repL_flat hw hr f.1 h2, repL_flat hw hr f.2 h3⟩
 | .ptr _ _, _, f, _ => by unfold Flat at f; exact f.elim
 | .arr _ _ _ _, _, f, _ => by unfold Flat at f; exact f.elim
 | .mapv _, _, f, _ => by unfold Flat at f; exact f.elim
 | .arw _ _ _, _, f, _ => by unfold Flat at f; exact f.elim
 | .smap ks xs, v, f, k => by
  unfold Rep at k ⊢; unfold Flat at f
  obtain ⟨b, es, clk, h1, h2, h3, h4, h5⟩ := k
  exact ⟨b, es, clk, h1, by rw [hw]; exact h2, fun h => h3 (hr _ _ h), h4, repL_flat hw hr f h5⟩
 | .ifc t x, v, f, k => by unfold Rep at k ⊢; unfold Flat at f; obtain ⟨u, h1, h2⟩ := k; exact ⟨u, h1, rep_flat hw hr f h2⟩
theorem repL_flat {c c' : Cx} (hw : c'.w = c.w) (hr : ∀ b off, c'.Wr b off → c.Wr b off) : ∀ {xs : List PV} {vs : List Value}, FlatL xs → RepL c xs vs → RepL c' xs vs
 | [], vs, _, k => by unfold RepL at k ⊢; exact k
 | x :: xs, vs, f, k => by unfold RepL at k ⊢; unfold FlatL at f; obtain ⟨u, us, h1, h2, h3⟩ := k; exact ⟨u, us, h1, rep_flat hw hr f.1 h2, repL_flat hw hr f.2 h3⟩
end
theorem flatL_map {α : Type} (g : α → PV) (h : ∀ x, Flat (g x)) : ∀ l : List α, FlatL (l.map g)
 | [] => by rw [List.map_nil]; unfold FlatL; trivial
 | x :: l => by rw [List.map_cons]; unfold FlatL; exact ⟨h x, flatL_map g h l⟩
def BoW (B : Nat → Nat → Prop) (σ : Nat → Option Nat) (H : List Ob) : Nat → Nat → Prop := fun b off => B b off ∨ OwnWr σ H b off
theorem sim_globs {σ : Nat → Option Nat} {w : World} {R : List Ob} (hRg : ∀ o ∈ R, ∃ g u, o = .glob g u) (hRH : ∀ o ∈ R, ∃ k : Nat, H[k]? = some o) (s : Sim B H σ w) : Sim (BoW B σ H) R σ w := by
 have dull : ∀ {j : Nat} {oj : Ob}, R[j]? = some oj → oj.live = true → False := fun h1 h2 => by
  obtain ⟨g, u, rfl⟩ := hRg _ (List.mem_of_getElem? h1); cases h2
 refine ⟨fun i j b oi oj h _ l => (dull h l).elim, fun i b oi h l => (dull h l).elim, fun b off h => ?_, fun i oi h => ?_⟩
 ·rcases h with h | ⟨i, oi, h1, h2, h3⟩
  ·exact s.base b off h
  ·have hl : oi.live = true := by cases oi <;> first | rfl | cases h3
   exact (s.holds i oi h1).lt hl h2
 ·have hm := List.mem_of_getElem? h
  obtain ⟨g, u, rfl⟩ := hRg _ hm
  obtain ⟨k, hk⟩ := hRH _ hm
  obtain ⟨q1, q2⟩ := s.holds k _ hk
  refine ⟨q1, fun q => ?_⟩
  rcases q with q | ⟨i, oi, h1, _, h3⟩
  ·exact q2 q
  ·obtain ⟨g, u, rfl⟩ := hRg _ (List.mem_of_getElem? h1); cases h3
theorem sim_nil {σ : Nat → Option Nat} {w : World} (s : Sim B H σ w) : Sim (BoW B σ H) [] σ w := sim_globs (R := []) (by simp) (by simp) s
theorem pureG_of_hc {R : List Ob} (hRg : ∀ o ∈ R, ∃ g u, o = .glob g u) {f : FuncId} {args : List PV} {res : PV} (ha : FlatL args) (hres : Flat res) (h : ∀ B σ w vs, Sim B R σ w → RepL (cx B R σ w) args vs → Calls P f vs.toArray w fun e w' => ∃ v H' σ', e = .returned v ∧ Rep (cx B H' σ' w') res v ∧ Step B R σ w H' σ' w')
  (H : List Ob) (hRH : ∀ o ∈ R, ∃ k : Nat, H[k]? = some o) : HC P f args H res H := by
 intro B σ w vs s hr
 have s0 := sim_globs hRg hRH s
 have hr0 : RepL (cx (BoW B σ H) R σ w) args vs := repL_flat (c := cx B H σ w) (c' := cx (BoW B σ H) R σ w) rfl (fun b off h => by
  rcases h with h | ⟨i, oi, h1, _, h3⟩
  ·exact h
  ·obtain ⟨g, u, rfl⟩ := hRg _ (List.mem_of_getElem? h1); cases h3) ha hr
 refine Calls.mono (h (BoW B σ H) σ w vs s0 hr0) ?_
 rintro e w' ⟨v, H', σ', rfl, h1, h2⟩
 have g : Grows w w' := ⟨h2.os, h2.tape, h2.output, h2.size, fun b hb => h2.block b hb (fun i oi h hl => by obtain ⟨g, u, rfl⟩ := hRg _ (List.mem_of_getElem? h); cases hl)⟩
 obtain ⟨s', st⟩ := grow_sim s g
 exact ⟨v, σ, rfl, rep_flat (c := cx (BoW B σ H) H' σ' w') (c' := cx B H σ w') rfl (fun b off h => .inl h) hres h1, s', st⟩
theorem pure_of_hc {f : FuncId} {args : List PV} {res : PV} (ha : FlatL args) (hres : Flat res) (h : ∀ B σ w vs, Sim B [] σ w → RepL (cx B [] σ w) args vs → Calls P f vs.toArray w fun e w' => ∃ v H' σ', e = .returned v ∧ Rep (cx B H' σ' w') res v ∧ Step B [] σ w H' σ' w') : PureC P f args res :=
 fun H => pureG_of_hc (R := []) (by simp) ha hres h H (by simp)
theorem repL_vals {c : Cx} : ∀ {l vs : List Value}, RepL c (l.map .val) vs → vs = l
 | [], vs, h => by rw [List.map_nil, repL_nil] at h; exact h
 | x :: l, [], h => by rw [List.map_cons] at h; unfold RepL at h; obtain ⟨u, us, h1, _⟩ := h; cases h1
 | x :: l, v :: vs, h => by
  rw [List.map_cons, repL_cons] at h
  have h1 := h.1
  unfold Rep at h1
  rw [h1, repL_vals h.2]
theorem pure_of_calls {f : FuncId} {args : List Value} {r : PV} {v : Value} (hr : ∀ c, Rep c r v) (h : ∀ w, Calls P f args.toArray w fun e w' => e = .returned v ∧ Grows w w') : PureC P f (args.map .val) r := by
 intro H B σ w vs s hv
 have hvs := repL_vals hv
 subst hvs
 refine Calls.mono (h w) ?_
 rintro e w' ⟨rfl, g⟩
 obtain ⟨s', st⟩ := grow_sim s g
 exact ⟨v, σ, rfl, hr _, s', st⟩
end
end Go.Proofs.YtobhnjnffnbbkaaGreatDoor
namespace Go.Proofs.YtobhnjnffnbbkaaGreatDoor
open Go.RowKit
def look (G : List (Nat × TD)) (t : Nat) : Option TD := match G with
 | [] => none
 | (u, d) :: r => match Nat.beq u t with
  | true => some d
  | false => look r t
def tysOk (P : Program) (G : List (Nat × TD)) : Bool := G.all fun q => tyOk P q.1 q.2
theorem lO {P : Program} : ∀ {G : List (Nat × TD)} (_ : tysOk P G = true) {t : Nat} {d : TD} (_ : look G t = some d), TyFacts P t d
 | [], _, t, d, h => by cases h
 | (u, d') :: r, hG, t, d, h => by
  unfold tysOk at hG
  simp only [List.all_cons, Bool.and_eq_true] at hG
  unfold look at h
  split at h
  ·rename_i hu
   rw [Nat.beq_eq] at hu
   injection h with h; subst h; subst hu
   exact tyOk_spec hG.1
  ·exact lO (G := r) hG.2 h
def nf1 : PV → Option PV
 | .val v => some (.val v)
 | .any => some .any
 | .agg cs => some (.agg cs)
 | .tup cs => some (.tup cs)
 | .ptr i off => some (.ptr i off)
 | .seq n xs s => some (.seq n xs s)
 | .row xs => some (.row xs)
 | .arr i off n cap => some (.arr i off n cap)
 | .fn f a b => some (.fn f a b)
 | .mapv i => some (.mapv i)
 | .arw i off n => some (.arw i off n)
 | .smap ks xs => some (.smap ks xs)
 | .ifc t x => some (.ifc t x)
theorem nf1_eq {x y : PV} (h : nf1 x = some y) : y = x := by cases x <;> (injection h with h; exact h.symm)
def nfl : List PV → Option (List PV)
 | [] => some []
 | x :: xs => match nf1 x with
  | some y => match nfl xs with
   | some ys => some (y :: ys)
   | none => none
  | none => none
theorem nfl_eq : ∀ {xs ys : List PV}, nfl xs = some ys → ys = xs
 | [], ys, h => by injection h with h; exact h.symm
 | x :: xs, ys, h => by
  simp only [nfl] at h
  split at h
  ·rename_i y hy
   split at h
   ·rename_i zs hz
    injection h with h
    rw [← h, nf1_eq hy, nfl_eq hz]
   ·cases h
  ·cases h
def nf : PV → Option PV
 | .val v => some (.val v)
 | .any => some .any
 | .agg cs => match nfl cs with
  | some ds => some (.agg ds)
  | none => none
 | .tup cs => match nfl cs with
  | some ds => some (.tup ds)
  | none => none
 | .ptr i off => some (.ptr i off)
 | .seq n xs s => some (.seq n xs s)
 | .row xs => some (.row xs)
 | .arr i off n cap => some (.arr i off n cap)
 | .fn f a b => some (.fn f a b)
 | .mapv i => some (.mapv i)
 | .arw i off n => some (.arw i off n)
 | .smap ks xs => some (.smap ks xs)
 | .ifc t x => some (.ifc t x)
theorem nf_eq {x y : PV} (h : nf x = some y) : y = x := by
  cases x <;> simp only [nf] at h <;> first
    | (injection h with h; exact h.symm)
    | (split at h
       · rename_i ds hd
         injection h with h
         rw [← h, nfl_eq hd]
       · cases h)
abbrev Ev := Option (PV × List Ob × Prop)
section
variable (G : List (Nat × TD)) (T : Nat → PV) (H : List Ob)
def evPick : PV → PV → PV → Ev
 | .val (.bool true), x, _ => some (x, H, True)
 | .val (.bool false), _, y => some (y, H, True)
 | _, _, _ => none
def evStr (op : BinOp) (a b : ByteArray) : Ev := match op with
 | .eql => some (.val (.bool (strEq a b)), H, True)
 | .neq => some (.val (.bool (!strEq a b)), H, True)
 | .add => some (.val (.string (a ++ b)), H, a.size + b.size ≤ 9223372036854775807)
 | _ => none
def evBin (op : BinOp) (t : TypeId) (x y : Operand) : Ev := match opv T x, opv T y with
 | .val (.string a), .val (.string b) => evStr H op a b
 | .val (.bool a), .val (.bool b) => match look G t with
  | some d => match d.sh with
   | .bool => match op with
    | .eql => some (.val (.bool (a == b)), H, True)
    | .neq => some (.val (.bool (!(a == b))), H, True)
    | _ => none
   | _ => none
  | none => none
 | .val u, .val v => match binA op t x y u v with
  | some r => some (.val r, H, True)
  | none => none
 | _, _ => none
def evUn (op : UnOp) (x : Operand) : Ev := match opv T x with
 | .val u => match pureOf (Op.unary op u) with
  | some r => some (.val r, H, True)
  | none => none
 | _ => none
def evExtract (x : Operand) (i : Nat) : Ev := match opv T x with
 | .tup cs => match cs[i]? with
  | some r => some (r, H, True)
  | none => none
 | _ => none
def evNil (x : Operand) : Ev := match opv T x with
 | .ptr i off => some (.ptr i off, H, True)
 | .row xs => some (.row xs, H, True)
 | _ => none
def evLoad (t : TypeId) (x : Operand) : Ev := match look G t with
 | some d => match opv T x with
  | .ptr i off => match H[i]? with
   | some (.cells xs _) => match loadPV d xs off with
    | some r => some (r, H, True)
    | none => none
   | _ => none
  | .row xs => match loadPV d xs 0 with
   | some r => some (r, H, True)
   | none => none
  | _ => none
 | none => none
def evStore (t : TypeId) (x y : Operand) : Ev := match look G t with
 | some d => match opv T x with
  | .ptr i off => match H[i]? with
   | some (.cells xs e) => match cellsPV (opv T y) with
    | some ys => match Nat.beq ys.length d.size with
     | true => match ys.all okC with
      | true => match Nat.ble (off + ys.length) xs.length with
       | true => match nfl (splice xs off ys) with
        | some zs => some (.val undef, H.set i (.cells zs e), True)
        | none => none
       | false => none
      | false => none
     | false => none
    | none => none
   | _ => none
  | _ => none
 | none => none
def evFieldAddr (s : TypeId) (x : Operand) (k : Nat) : Ev := match look G s with
 | some d => match d.sh with
  | .struct fs => match fs[k]? with
   | some (fo, _, _) => match opv T x with
    | .ptr i off => some (.ptr i (off + fo), H, True)
    | .row xs => some (.row (xs.drop fo), H, True)
    | _ => none
   | none => none
  | _ => none
 | none => none
def evField (s : TypeId) (x : Operand) (k : Nat) : Ev := match look G s with
 | some d => match d.sh with
  | .struct fs => match fs[k]? with
   | some (fo, z, g) => match opv T x with
    | .agg cs => match fieldPV cs fo z g with
     | some r => some (r, H, True)
     | none => none
    | _ => none
   | none => none
  | _ => none
 | none => none
def evIndexAddr (t : TypeId) (x ix : Operand) : Ev := match look G t with
 | some d => match d.sh with
  | .slice e => match look G e with
   | some de => match opv T x, opv T ix with
    | .seq n xs _, .val (.int _ i) => some (.row (xs.drop (i.toNat * de.size)), H, 0 ≤ i ∧ i < n)
    | .arr id off n _, .val (.int _ i) => some (.ptr id (off + i.toNat * de.size), H, 0 ≤ i ∧ i < n)
    | .arw id off n, .val (.int _ i) => some (.ptr id (off + i.toNat * de.size), H, 0 ≤ i ∧ i < n)
    | _, _ => none
   | none => none
  | .array n e => match look G e with
   | some de => match opv T x, opv T ix with
    | .ptr id off, .val (.int _ i) => some (.ptr id (off + i.toNat * de.size), H, 0 ≤ i ∧ i < n)
    | .row xs, .val (.int _ i) => some (.row (xs.drop (i.toNat * de.size)), H, 0 ≤ i ∧ i < n)
    | _, _ => none
   | none => none
  | _ => none
 | none => none
def evIndex (t : TypeId) (x ix : Operand) : Ev := match look G t with
 | some d => match d.sh with
  | .str => match opv T x, opv T ix with
   | .val (.string s), .val (.int _ i) => some (.val (.int .u8 (byteAt s i.toNat)), H, 0 ≤ i ∧ i < s.size)
   | _, _ => none
  | .array n e => match look G e with
   | some de => match de.agg with
    | false => match opv T x, opv T ix with
     | .agg cs, .val (.int _ i) => match cs[i.toNat * de.size]? with
      | some r => some (r, H, 0 ≤ i ∧ i < n)
      | none => none
     | _, _ => none
    | true => none
   | none => none
  | _ => none
 | none => none
def evBox (t : TypeId) (x : Operand) : Ev := match cellsPV (opv T x) with
 | some xs => match nfl xs with
  | some zs => some (.ptr H.length 0, H ++ [.cells zs t], True)
  | none => none
 | none => none
def evAlloc (t : TypeId) : Ev := match look G t with
 | some d => some (.ptr H.length 0, H ++ [.cells d.zero t], True)
 | none => none
def evBuild (t : TypeId) (parts : Array (Nat × Operand)) : Ev := match look G t with
 | some d => match d.sh with
  | .struct fs => match fillPV (fun i => match fs[i]? with | some (of, z, _) => some (of, z) | none => none) T parts.toList d.zero with
   | some out => some (.agg out, H, True)
   | none => none
  | .array _ e => match look G e with
   | some de => match fillPV (fun i => some (i * de.size, de.size)) T parts.toList d.zero with
    | some out => some (.agg out, H, True)
    | none => none
   | none => none
  | _ => none
 | none => none
def evBuildSlice (t : TypeId) (n : Nat) (parts : Array (Nat × Operand)) : Ev := match look G t with
 | some d => match d.sh with
  | .slice e => match look G e with
   | some de => match Nat.ble (n * de.size) 16777216 with
    | true => match fillPV (fun i => some (i * de.size, de.size)) T parts.toList (zerosPV n de) with
     | some out => some (.seq n out .clip, H, True)
     | none => none
    | false => none
   | none => none
  | _ => none
 | none => none
def bnd (dflt : Nat) : Option Operand → Option (Nat × Prop)
 | none => some (dflt, True)
 | some z => match opv T z with
  | .val (.int _ i) => some (i.toNat, 0 ≤ i)
  | _ => none
theorem bnd_ok {T : Nat → PV} {dflt v : Nat} {y : Option Operand} {p : Prop} (h : bnd T dflt y = some (v, p)) (hp : p) : BndOk T y dflt v := by
 unfold bnd at h
 split at h
 ·cases h; rfl
 ·split at h
  ·rename_i k i hz
   cases h
   exact ⟨_, _, hz, hp, rfl⟩
  ·cases h
def evSlice (t : TypeId) (x : Operand) (lo hi mx : Option Operand) : Ev := match look G t with
 | some d => match d.sh with
  | .slice e => match look G e with
   | some de => match opv T x with
    | .seq n xs _ => match bnd T 0 lo, bnd T n hi, mx with
     | some (l, p), some (h, q), none => some (.seq (h - l) ((xs.drop (l * de.size)).take ((h - l) * de.size)) .any, H, p ∧ q ∧ l ≤ h ∧ h ≤ n)
     | some (l, p), some (h, q), some z => match hi, bnd T n (some z) with
      | some _, some (m, r) => some (.seq (h - l) ((xs.drop (l * de.size)).take ((h - l) * de.size)) .clip, H, p ∧ q ∧ r ∧ m = h ∧ l ≤ h ∧ h ≤ n)
      | _, _ => none
     | _, _, _ => none
    | .arr id off n cap => match bnd T 0 lo, bnd T n hi, mx with
     | some (l, p), some (h, q), none => some (.arr id (if cap = l then off else off + l * de.size) (h - l) (cap - l), H, p ∧ q ∧ l ≤ h ∧ h ≤ n ∧ n ≤ cap)
     | _, _, _ => none
    | _ => none
   | none => none
  | .str => match opv T x with
   | .val (.string s) => match bnd T 0 lo, bnd T s.size hi, mx with
    | some (l, p), some (h, q), none => some (.val (.string (s.extract l h)), H, p ∧ q ∧ l ≤ h ∧ h ≤ s.size)
    | _, _, _ => none
   | _ => none
  | .array n e => match look G e with
   | some de => match opv T x, lo, hi, mx with
    | .ptr id off, none, none, none => some (.arr id off n n, H, True)
    | _, _, _, _ => none
   | none => none
  | _ => none
 | none => none
def evConvert (src dst : TypeId) (x : Operand) : Ev := match look G src, look G dst with
 | some ds, some dd => match dd.sh, opv T x with
  | .int k, .val (.int _ i) => some (.val (.int k (k.wrap i)), H, True)
  | .str, .val (.string s) => some (.val (.string s), H, True)
  | .slice e, .val (.string s) => match look G e with
   | some de => match ds.sh, de.sh with
    | .str, .int .u8 => some (.seq s.size (s.data.toList.map fun b => byteP b.toNat) .any, H, True)
    | _, _ => none
   | none => none
  | _, _ => none
 | _, _ => none
def evMake (t : TypeId) (x y : Operand) : Ev := match look G t with
 | some d => match d.sh with
  | .slice e => match look G e with
   | some de => match opv T x, opv T y with
    | .val (.int _ n), .val (.int _ m) => some (.arr H.length 0 n.toNat n.toNat, H ++ [.cells (zerosPV n.toNat de) e], m = n ∧ 0 ≤ n ∧ (de.bytes : Int) * n ≤ 281474976710656 ∧ n ≤ 9223372036854775807)
    | _, _ => none
   | none => none
  | _ => none
 | none => none
def evLen (ts : List TypeId) (xs : List Operand) : Ev := match ts, xs with
 | [t], [x] => match look G t with
  | some d => match d.sh, opv T x with
   | .slice _, .seq n _ _ => some (.val (.int .i64 n), H, True)
   | .slice _, .arr _ _ n _ => some (.val (.int .i64 n), H, True)
   | .slice _, .arw _ _ n => some (.val (.int .i64 n), H, True)
   | .str, .val (.string s) => some (.val (.int .i64 s.size), H, True)
   | _, _ => none
  | none => none
 | _, _ => none
def evMinMax (mx : Bool) (ats : Array TypeId) (ty : TypeId) (xs : List Operand) : Ev := match xs with
 | [x, y] => match opv T x, opv T y with
  | .val u, .val v => match (match mx with | true => pureOf (Builtin.max_ ats ty #[u, v]) | false => pureOf (Builtin.min_ ats ty #[u, v])) with
   | some r => some (.val r, H, True)
   | none => none
  | _, _ => none
 | _ => none
end
section
variable {P : Program} {B : Nat → Nat → Prop} {o : Oper} {G : List (Nat × TD)} {T : Nat → PV} {H : List Ob} {x : PV} {H' : List Ob} {p : Prop}
theorem evPick_ok {c a b : Operand} (ho : o.op = .pick c a b) (h : evPick H (opv T c) (opv T a) (opv T b) = some (x, H', p)) : Does P B o T H x H' := by
 unfold evPick at h
 split at h
 ·rename_i hc; cases h; exact does_pick (b := true) ho hc
 ·rename_i hc; cases h; exact does_pick (b := false) ho hc
 ·cases h
theorem evBin_ok (hG : tysOk P G = true) {op : BinOp} {t yt : TypeId} {a b : Operand} (ho : o.op = .binOp op t a b yt) (h : evBin G T H op t a b = some (x, H', p)) (hp : p) : Does P B o T H x H' := by
 unfold evBin at h
 split at h
 ·rename_i u v hu hv
  unfold evStr at h
  split at h
  ·cases h; exact does_str_eql ho hu hv
  ·cases h; exact does_str_neq ho hu hv
  ·cases h; exact does_str_add ho hu hv hp
  ·cases h
 ·rename_i u v hu hv
  split at h
  ·rename_i d hd
   split at h
   ·rename_i hs
    split at h
    ·cases h; exact does_bool_eql (lO hG hd) hs ho hu hv
    ·cases h; exact does_bool_neq (lO hG hd) hs ho hu hv
    ·cases h
   ·cases h
  ·cases h
 ·rename_i u v _ _ hu hv
  split at h
  ·rename_i r hr; cases h; exact does_bin ho hu hv hr
  ·cases h
 ·cases h
theorem evUn_ok {op : UnOp} {t : TypeId} {a : Operand} (ho : o.op = .unOp op t a) (h : evUn T H op a = some (x, H', p)) : Does P B o T H x H' := by
 unfold evUn at h
 split at h
 ·rename_i u hu
  split at h
  ·rename_i r hr; cases h; exact does_un ho hu hr
  ·cases h
 ·cases h
theorem evExtract_ok {a : Operand} {i : Nat} (ho : o.op = .extract a i) (h : evExtract T H a i = some (x, H', p)) : Does P B o T H x H' := by
 unfold evExtract at h
 split at h
 ·rename_i cs hc
  split at h
  ·rename_i r hr; cases h; exact does_extract ho hc hr
  ·cases h
 ·cases h
theorem evNil_ok {a : Operand} (ho : o.op = .nilCheck a) (h : evNil T H a = some (x, H', p)) : Does P B o T H x H' := by
 unfold evNil at h
 split at h
 ·rename_i i off hc; cases h; exact does_nilCheck_ptr ho hc
 ·rename_i xs hc; cases h; exact does_nilCheck_row ho hc
 ·cases h
theorem evLoad_ok (hG : tysOk P G = true) {t : TypeId} {a : Operand} (ho : o.op = .load t a) (h : evLoad G T H t a = some (x, H', p)) : Does P B o T H x H' := by
 unfold evLoad at h
 split at h
 ·rename_i d hd
  split at h
  ·rename_i i off hx
   split at h
   ·rename_i xs e hi
    split at h
    ·rename_i r hr; cases h; exact does_load_ptr (lO hG hd) ho hx hi hr
    ·cases h
   ·cases h
  ·rename_i xs hx
   split at h
   ·rename_i r hr; cases h; exact does_load_row (lO hG hd) ho hx hr
   ·cases h
  ·cases h
 ·cases h
theorem evStore_ok (hG : tysOk P G = true) {t : TypeId} {a b : Operand} (ho : o.op = .store t a b) (h : evStore G T H t a b = some (x, H', p)) : Does P B o T H x H' := by
 unfold evStore at h
 split at h
 ·rename_i d hd
  split at h
  ·rename_i i off hx
   split at h
   ·rename_i xs e hi
    split at h
    ·rename_i ys hy
     split at h
     ·rename_i hl
      split at h
      ·rename_i hok
       split at h
       ·rename_i hle
        split at h
        ·rename_i zs hz
         cases h
         rw [nfl_eq hz]
         exact does_store (lO hG hd) ho hx hi hy hl hok hle
        ·cases h
       ·cases h
      ·cases h
     ·cases h
    ·cases h
   ·cases h
  ·cases h
 ·cases h
theorem evFieldAddr_ok (hG : tysOk P G = true) {s : TypeId} {a : Operand} {k : Nat} (ho : o.op = .fieldAddr s a k) (h : evFieldAddr G T H s a k = some (x, H', p)) : Does P B o T H x H' := by
 unfold evFieldAddr at h
 split at h
 ·rename_i d hd
  split at h
  ·rename_i fs hs
   split at h
   ·rename_i fo z g hk
    split at h
    ·rename_i i off hx; cases h; exact does_fieldAddr_ptr (lO hG hd) ho hs hk hx
    ·rename_i xs hx; cases h; exact does_fieldAddr_row (lO hG hd) ho hs hk hx
    ·cases h
   ·cases h
  ·cases h
 ·cases h
theorem evField_ok (hG : tysOk P G = true) {s : TypeId} {a : Operand} {k : Nat} (ho : o.op = .field s a k) (h : evField G T H s a k = some (x, H', p)) : Does P B o T H x H' := by
 unfold evField at h
 split at h
 ·rename_i d hd
  split at h
  ·rename_i fs hs
   split at h
   ·rename_i fo z g hk
    split at h
    ·rename_i cs hx
     split at h
     ·rename_i r hr; cases h; exact does_field (lO hG hd) ho hs hk hx hr
     ·cases h
    ·cases h
   ·cases h
  ·cases h
 ·cases h
theorem evIndexAddr_ok (hG : tysOk P G = true) {t : TypeId} {a b : Operand} (ho : o.op = .indexAddr t a b) (h : evIndexAddr G T H t a b = some (x, H', p)) (hp : p) : Does P B o T H x H' := by
 unfold evIndexAddr at h
 split at h
 ·rename_i d hd
  split at h
  ·rename_i e hs
   split at h
   ·rename_i de he
    split at h
    ·rename_i hx hi; cases h; exact does_indexAddr_seq (lO hG hd) hs (lO hG he) ho hx hi hp
    ·rename_i hx hi; cases h; exact does_indexAddr_arr (lO hG hd) hs (lO hG he) ho hx hi hp
    ·rename_i hx hi; cases h; exact does_indexAddr_arw (lO hG hd) hs (lO hG he) ho hx hi hp
    ·cases h
   ·cases h
  ·rename_i n e hs
   split at h
   ·rename_i de he
    split at h
    ·rename_i hx hi; cases h; exact does_indexAddr_ptr (lO hG hd) hs (lO hG he) ho hx hi hp
    ·rename_i hx hi; cases h; exact does_indexAddr_row (lO hG hd) hs (lO hG he) ho hx hi hp
    ·cases h
   ·cases h
  ·cases h
 ·cases h
theorem evIndex_ok (hG : tysOk P G = true) {t : TypeId} {a b : Operand} (ho : o.op = .index t a b) (h : evIndex G T H t a b = some (x, H', p)) (hp : p) : Does P B o T H x H' := by
 unfold evIndex at h
 split at h
 ·rename_i d hd
  split at h
  ·rename_i hs
   split at h
   ·rename_i hx hi; cases h; exact does_index_str (lO hG hd) hs ho hx hi hp
   ·cases h
  ·rename_i n e hs
   split at h
   ·rename_i de he
    split at h
    ·rename_i ha
     split at h
     ·rename_i hx hi
      split at h
      ·rename_i r hr; cases h; exact does_index_agg (lO hG hd) hs (lO hG he) ha ho hx hi hp hr
      ·cases h
     ·cases h
    ·cases h
   ·cases h
  ·cases h
 ·cases h
theorem evBox_ok {t : TypeId} {a : Operand} (ho : o.op = .box t a) (h : evBox T H t a = some (x, H', p)) : Does P B o T H x H' := by
 unfold evBox at h
 split at h
 ·rename_i xs hx
  split at h
  ·rename_i zs hz
   cases h
   rw [nfl_eq hz]
   exact does_box ho hx
  ·cases h
 ·cases h
theorem evAlloc_ok (hG : tysOk P G = true) {t : TypeId} (ho : o.op = .alloc t) (h : evAlloc G H t = some (x, H', p)) : Does P B o T H x H' := by
 unfold evAlloc at h
 split at h
 ·rename_i d hd; cases h; exact does_alloc (lO hG hd) ho
 ·cases h
theorem evBuild_ok (hG : tysOk P G = true) {t : TypeId} {parts : Array (Nat × Operand)} (ho : o.op = .build t parts) (h : evBuild G T H t parts = some (x, H', p)) : Does P B o T H x H' := by
 unfold evBuild at h
 split at h
 ·rename_i d hd
  split at h
  ·rename_i fs hs
   split at h
   ·rename_i out hf; cases h; exact does_build_struct (lO hG hd) hs ho hf
   ·cases h
  ·rename_i n e hs
   split at h
   ·rename_i de he
    split at h
    ·rename_i out hf; cases h; exact does_build_array (lO hG hd) hs (lO hG he) ho hf
    ·cases h
   ·cases h
  ·cases h
 ·cases h
theorem evBuildSlice_ok (hG : tysOk P G = true) {t : TypeId} {n : Nat} {parts : Array (Nat × Operand)} (ho : o.op = .buildSlice t n parts) (h : evBuildSlice G T H t n parts = some (x, H', p)) : Does P B o T H x H' := by
 unfold evBuildSlice at h
 split at h
 ·rename_i d hd
  split at h
  ·rename_i e hs
   split at h
   ·rename_i de he
    split at h
    ·rename_i hn
     split at h
     ·rename_i out hf; cases h; exact does_buildSlice (lO hG hd) hs (lO hG he) ho hn hf
     ·cases h
    ·cases h
   ·cases h
  ·cases h
 ·cases h
theorem evSlice_ok (hG : tysOk P G = true) {t : TypeId} {a : Operand} {lo hi mx : Option Operand} (ho : o.op = .slice t a lo hi mx) (h : evSlice G T H t a lo hi mx = some (x, H', p)) (hp : p) : Does P B o T H x H' := by
 unfold evSlice at h
 split at h
 ·rename_i d hd
  split at h
  ·rename_i e hs
   split at h
   ·rename_i de he
    split at h
    ·rename_i n xs s hx
     split at h
     ·rename_i l p1 h1 q1 e1 e2
      cases h
      obtain ⟨p1, q1, p2, p3⟩ := hp
      exact does_slice_seq (lO hG hd) hs (lO hG he) ho hx (bnd_ok e1 p1) (bnd_ok e2 q1) rfl p2 p3
     ·rename_i l p1 h1 q1 z e1 e2
      split at h
      ·rename_i y m r1 e3
       cases h
       obtain ⟨p1, q1, r1, p0, p2, p3⟩ := hp
       subst p0
       exact does_slice_clip (lO hG hd) hs (lO hG he) ho hx (bnd_ok e1 p1) (bnd_ok e2 q1) (bnd_ok e3 r1) p2 p3
      ·cases h
     ·cases h
    ·rename_i id off n cap hx
     split at h
     ·rename_i l p1 h1 q1 e1 e2
      cases h
      obtain ⟨p1, q1, p2, p3, p4⟩ := hp
      exact does_slice_arr (lO hG hd) hs (lO hG he) ho hx (bnd_ok e1 p1) (bnd_ok e2 q1) p2 p3 p4
     ·cases h
    ·cases h
   ·cases h
  ·rename_i hs
   split at h
   ·rename_i s hx
    split at h
    ·rename_i l p1 h1 q1 e1 e2
     cases h
     obtain ⟨p1, q1, p2, p3⟩ := hp
     exact does_slice_str (lO hG hd) hs ho hx (bnd_ok e1 p1) (bnd_ok e2 q1) p2 p3
    ·cases h
   ·cases h
  ·rename_i n e hs
   split at h
   ·rename_i de he
    split at h
    ·rename_i id off hx
     cases h
     exact does_slice_ptr (lO hG hd) hs (lO hG he) ho hx
    ·cases h
   ·cases h
  ·cases h
 ·cases h
theorem evConvert_ok (hG : tysOk P G = true) {src dst : TypeId} {a : Operand} (ho : o.op = .convert src dst a) (h : evConvert G T H src dst a = some (x, H', p)) : Does P B o T H x H' := by
 unfold evConvert at h
 split at h
 ·rename_i ds dd hs hd
  split at h
  ·rename_i hk hx; cases h; exact does_convert_int (lO hG hs) (lO hG hd) hk ho hx
  ·rename_i hk hx; cases h; exact does_convert_str (lO hG hs) (lO hG hd) hk ho hx
  ·rename_i e s hk hx
   split at h
   ·rename_i de he
    split at h
    ·rename_i h1 h2; cases h; exact does_convert_toBytes (lO hG hs) h1 (lO hG hd) hk (lO hG he) h2 ho hx
    ·cases h
   ·cases h
  ·cases h
 ·cases h
theorem evMake_ok (hG : tysOk P G = true) {t : TypeId} {a b : Operand} (ho : o.op = .makeSlice t a b) (h : evMake G T H t a b = some (x, H', p)) (hp : p) : Does P B o T H x H' := by
 unfold evMake at h
 split at h
 ·rename_i d hd
  split at h
  ·rename_i e hs
   split at h
   ·rename_i de he
    split at h
    ·rename_i hx hy
     cases h
     obtain ⟨rfl, p1, p2, p3⟩ := hp
     exact does_makeSlice (lO hG hd) hs (lO hG he) ho hx hy p1 p2 p3
    ·cases h
   ·cases h
  ·cases h
 ·cases h
theorem evLen_ok (hG : tysOk P G = true) {args : Array Operand} {ats : Array TypeId} (ho : o.op = .call { callee := .builtin .len, args := args, argTypes := ats }) (h : evLen G T H ats.toList args.toList = some (x, H', p)) : Does P B o T H x H' := by
 unfold evLen at h
 split at h
 ·rename_i t a ht ha
  obtain rfl : ats = #[t] := by rw [← Array.toArray_toList (xs := ats), ht]
  obtain rfl : args = #[a] := by rw [← Array.toArray_toList (xs := args), ha]
  split at h
  ·rename_i d hd
   split at h
   ·rename_i hs hx; cases h; exact does_len_seq (lO hG hd) hs ho hx
   ·rename_i hs hx; cases h; exact does_len_arr (lO hG hd) hs ho hx
   ·rename_i hs hx; cases h; exact does_len_arw (lO hG hd) hs ho hx
   ·rename_i hs hx; cases h; exact does_len_str (lO hG hd) hs ho hx
   ·cases h
  ·cases h
 ·cases h
theorem evMinMax_ok {mx : Bool} {args : Array Operand} {ats : Array TypeId} (ho : o.op = .call { callee := .builtin (match mx with | true => .max | false => .min), args := args, argTypes := ats }) (h : evMinMax T H mx ats o.type args.toList = some (x, H', p)) : Does P B o T H x H' := by
 unfold evMinMax at h
 split at h
 ·rename_i a b ha
  obtain rfl : args = #[a, b] := by rw [← Array.toArray_toList (xs := args), ha]
  split at h
  ·rename_i u v hx hy
   split at h
   ·rename_i r hr
    cases h
    cases mx with
    | true => exact does_max ho hx hy hr
    | false => exact does_min ho hx hy hr
   ·cases h
  ·cases h
 ·cases h
def evCall (G : List (Nat × TD)) (T : Nat → PV) (H : List Ob) (ty : TypeId) (c : Call) : Ev := match c.callee with
 | .builtin .len => evLen G T H c.argTypes.toList c.args.toList
 | .builtin .max => evMinMax T H true c.argTypes ty c.args.toList
 | .builtin .min => evMinMax T H false c.argTypes ty c.args.toList
 | _ => none
def evOp (G : List (Nat × TD)) (T : Nat → PV) (H : List Ob) (ty : TypeId) : Op → Ev
 | .move x => some (opv T x, H, True)
 | .assign x => some (opv T x, H, True)
 | .pick c a b => evPick H (opv T c) (opv T a) (opv T b)
 | .binOp op t x y _ => evBin G T H op t x y
 | .unOp op _ x => evUn T H op x
 | .extract x i => evExtract T H x i
 | .nilCheck x => evNil T H x
 | .load t x => evLoad G T H t x
 | .store t x y => evStore G T H t x y
 | .fieldAddr s x k => evFieldAddr G T H s x k
 | .field s x k => evField G T H s x k
 | .indexAddr t x y => evIndexAddr G T H t x y
 | .index t x y => evIndex G T H t x y
 | .box t x => evBox T H t x
 | .alloc t => evAlloc G H t
 | .build t ps => evBuild G T H t ps
 | .buildSlice t n ps => evBuildSlice G T H t n ps
 | .makeFunc f a b => some (.fn f (a.toList.map (opv T)) (b.toList.map (opv T)), H, True)
 | .slice t x l h m => evSlice G T H t x l h m
 | .convert s d x => evConvert G T H s d x
 | .makeSlice t x y => evMake G T H t x y
 | .call c => evCall G T H ty c
 | _ => none
theorem evOp_ok (hG : tysOk P G = true) {op : Op} (ho : o.op = op) (h : evOp G T H o.type op = some (x, H', p)) (hp : p) : Does P B o T H x H' := by
 cases op <;> simp only [evOp] at h
 case move a => cases h; exact does_move ho
 case assign a => cases h; exact does_assign ho
 case pick c a b => exact evPick_ok ho h
 case binOp op t a b yt => exact evBin_ok hG ho h hp
 case unOp op t a => exact evUn_ok ho h
 case extract a i => exact evExtract_ok ho h
 case nilCheck a => exact evNil_ok ho h
 case load t a => exact evLoad_ok hG ho h
 case store t a b => exact evStore_ok hG ho h
 case fieldAddr s a k => exact evFieldAddr_ok hG ho h
 case field s a k => exact evField_ok hG ho h
 case indexAddr t a b => exact evIndexAddr_ok hG ho h hp
 case index t a b => exact evIndex_ok hG ho h hp
 case box t a => exact evBox_ok ho h
 case alloc t => exact evAlloc_ok hG ho h
 case build t ps => exact evBuild_ok hG ho h
 case buildSlice t n ps => exact evBuildSlice_ok hG ho h
 case makeFunc f a b => cases h; exact does_makeFunc ho
 case slice t a l hh m => exact evSlice_ok hG ho h hp
 case convert s d a => exact evConvert_ok hG ho h
 case makeSlice t a b => exact evMake_ok hG ho h hp
 case call c =>
  obtain ⟨callee, args, ats⟩ := c
  unfold evCall at h
  split at h
  ·rename_i hc; simp only at hc; subst hc; exact evLen_ok hG ho h
  ·rename_i hc; simp only at hc; subst hc; exact evMinMax_ok (mx := true) ho h
  ·rename_i hc; simp only at hc; subst hc; exact evMinMax_ok (mx := false) ho h
  ·cases h
 all_goals cases h
end
def nfH : List Ob → Option (List Ob)
 | [] => some []
 | x :: xs => match nfH xs with
  | some ys => some (x :: ys)
  | none => none
theorem nfH_eq : ∀ {xs ys : List Ob}, nfH xs = some ys → ys = xs
 | [], ys, h => by injection h with h; exact h.symm
 | x :: xs, ys, h => by
  simp only [nfH] at h
  split at h
  ·rename_i zs hz
   injection h with h
   rw [← h, nfH_eq hz]
  ·cases h
def evN (G : List (Nat × TD)) (T : Nat → PV) (H : List Ob) (ty : TypeId) (op : Op) : Ev := match evOp G T H ty op with
 | some (x, H', p) => match nf x with
  | some y => match nfH H' with
   | some H2 => some (y, H2, p)
   | none => none
  | none => none
 | none => none
def evS (G : List (Nat × TD)) (T : Nat → PV) (H : List Ob) (ty : TypeId) (op : Op) : Ev := match evOp G T H ty op with
 | some (x, H', p) => match nf x with
  | some y => some (y, H', p)
  | none => none
 | none => none
section
variable {P : Program} {B : Nat → Nat → Prop} {o : Oper} {G : List (Nat × TD)} {T : Nat → PV} {H : List Ob} {x : PV} {H' : List Ob} {p : Prop}
theorem evN_ok {ty : TypeId} {op : Op} (h : evN G T H ty op = some (x, H', p)) : evOp G T H ty op = some (x, H', p) := by
 unfold evN at h
 split at h
 ·rename_i y H1 q he
  split at h
  ·rename_i z hz
   split at h
   ·rename_i H2 hH
    cases h
    rw [he, nf_eq hz, nfH_eq hH]
   ·cases h
  ·cases h
 ·cases h
theorem evS_ok {ty : TypeId} {op : Op} (h : evS G T H ty op = some (x, H', p)) : evOp G T H ty op = some (x, H', p) := by
 unfold evS at h
 split at h
 ·rename_i y H1 q he
  split at h
  ·rename_i z hz
   cases h
   rw [he, nf_eq hz]
  ·cases h
 ·cases h
variable {n : Nat} {all : Array Oper} {l : List Oper} {K : (Nat → PV) → List Ob → Prop}
theorem We (hG : tysOk P G = true) (hw : wantedA all T o = some true) {d : Option Tmp} (hd : nfD n o.dst = some d) (h : evN G T H o.type o.op = some (x, H', p)) (hp : p) (k : WO P B n all l (updD d x T) H' K) : WO P B n all (o :: l) T H K :=
 Wd hd hw (evOp_ok hG rfl (evN_ok h) hp) k
end
end Go.Proofs.YtobhnjnffnbbkaaGreatDoor
namespace Go.Proofs.YtobhnjnffnbbkaaGreatDoor
open Go.RowKit
section
variable {P : Program} {B : Nat → Nat → Prop} {n : Nat} {H : List Ob} {md : Region.Mode} {ops : Array Oper}
theorem upd_comm (i j : Nat) (x y : PV) (T : Nat → PV) (h : i ≠ j) : upd i x (upd j y T) = upd j y (upd i x T) := by
 funext k
 by_cases h1 : k = i
 ·subst h1; rw [upd_same, upd_other _ _ _ _ h, upd_same]
 ·rw [upd_other _ _ _ _ h1]
  by_cases h2 : k = j
  ·subst h2; rw [upd_same, upd_same]
  ·rw [upd_other _ _ _ _ h2, upd_other _ _ _ _ h2, upd_other _ _ _ _ h1]
theorem updD_comm {a b : Option Tmp} (x y : PV) (T : Nat → PV) (h : ∀ d, a = some d → b ≠ some d) : updD a x (updD b y T) = updD b y (updD a x T) := by
 cases a with
 | none => rfl
 | some i =>
  cases b with
  | none => rfl
  | some j => exact upd_comm i j x y T (fun e => h i rfl (by rw [e]))
theorem updD_look {d : Option Tmp} {x : PV} {T : Nat → PV} {t : Nat} (h : ∀ i, d = some i → t ≠ i) : updD d x T t = T t := by
 cases d with
 | none => rfl
 | some i => exact upd_other _ _ _ _ (h i rfl)
def Yld (P : Program) (B : Nat → Nat → Prop) (ops : Array Oper) (H : List Ob) (o : Oper) (T : Nat → PV) (x : PV) : Prop :=
 (wantedA ops T o = some true ∧ (Does P B o T H x H ∨ DoesC P B o T H x H)) ∨ (wantedA ops T o = some false ∧ x = .val undef)
theorem opv_congr {T T' : Nat → PV} {y : Operand} (h : ∀ t, y = .tmp t → T' t = T t) : opv T' y = opv T y := by
 cases y with
 | tmp t => exact h t rfl
 | const v => rfl
 | global g => rfl
 | func f => rfl
theorem looks_op {o : Oper} {t : Nat} (h : Operand.tmp t ∈ o.op.operands.toList) : t ∈ o.looksAt ops := by
 unfold Oper.looksAt
 rw [List.mem_append]
 exact .inl (List.mem_filterMap.2 ⟨_, h, rfl⟩)
theorem looks_guard {o : Oper} {g d : Nat} {b : Bool} (h : o.guard = some (g, b)) (hd : (ops[g]?).bind (·.dst) = some d) : d ∈ o.looksAt ops := by
 unfold Oper.looksAt
 rw [List.mem_append]
 refine .inr ?_
 rw [h]
 simp [hd]
theorem Yld.congr {o : Oper} {T T' : Nat → PV} {x : PV} (h : ∀ t ∈ o.looksAt ops, T' t = T t) (y : Yld P B ops H o T x) : Yld P B ops H o T' x := by
 have hw : wantedA ops T' o = wantedA ops T o := by
  unfold wantedA
  cases hg : o.guard with
  | none => rfl
  | some q =>
   obtain ⟨g, b⟩ := q
   simp only
   cases hd : (ops[g]?).bind (·.dst) with
   | none => rfl
   | some d => simp only; rw [h d (looks_guard hg hd)]
 have ho : ∀ z ∈ o.op.operands.toList, opv T' z = opv T z := fun z hz => opv_congr fun t ht => h t (looks_op (by rw [← ht]; exact hz))
 rcases y with ⟨h1, h2 | h2⟩ | ⟨h1, h2⟩
 ·exact .inl ⟨by rw [hw]; exact h1, .inl fun σ w a s k => h2 σ w a s (fun z hz => by rw [← ho z hz]; exact k z hz)⟩
 ·exact .inl ⟨by rw [hw]; exact h1, .inr fun σ w a s k => h2 σ w a s (fun z hz => by rw [← ho z hz]; exact k z hz)⟩
 ·exact .inr ⟨by rw [hw]; exact h1, h2⟩
theorem apart_looks {x y : Oper} (h : x.apart ops y = true) : (∀ t ∈ y.looksAt ops, ∀ i, x.dst = some i → t ≠ i) ∧ (∀ t ∈ x.looksAt ops, ∀ i, y.dst = some i → t ≠ i) ∧ (∀ d, x.dst = some d → y.dst ≠ some d) := by
 obtain ⟨h1, h2, h3⟩ := Oper.apart_spec h
 exact ⟨fun t ht i hi e => h1 i hi (e ▸ ht), fun t ht i hi e => h3 i hi (e ▸ ht), h2⟩
variable {T : Nat → PV} {Q : Exit → (Nat → PV) → List Ob → Prop}
variable {o : Oper} {l : List Oper} {K : (Nat → PV) → Prop} {x : PV} {G : List (Nat × TD)} {p : Prop}
theorem does_append_drawn {t tx e : TypeId} {d de dx : TD} {a b : Operand} {k m : Nat} {xs ys : List PV} (f : TyFacts P t d) (hd : d.sh = .slice e) (fe : TyFacts P e de) (fx : TyFacts P tx dx)
  (ho : o.op = .call { callee := .builtin .append, args := #[a, b], argTypes := #[t, tx] }) (hx : opv T a = .seq k xs .clip) (ht : SrcTy dx (opv T b)) (hy : SrcPV de.size (opv T b) m ys) (hl : xs.length = k * de.size)
  (hb : (k + m) * de.bytes ≤ 140737488355328) (h63 : k + m ≤ 9223372036854775807) (hf : FlatL (xs ++ ys)) :
  Does P B o T H (.seq (k + m) (xs ++ ys) .any) H := by
 intro σ w ac s h
 have k1 := h a (by simp [ho, Op.operands, Call.operands])
 have k2 := h b (by simp [ho, Op.operands, Call.operands])
 rw [hx] at k1
 obtain ⟨ad, cap, vs, hv, hle, hnil, hrl, hlies, hk⟩ := rep_seq k1
 have hcap : cap = k := hk
 subst hcap
 obtain ⟨news, hnr, hsrc⟩ := src_ty fx ht hy k2
 obtain ⟨v', w', σ', h1, h2, h3, h4, h5⟩ := append_core (ty := o.type) s f hd fe hle hnil hrl hlies hl hnr hsrc hb h63 (by omega)
 obtain ⟨s', st⟩ := grow_sim s h5
 refine ⟨v', w', σ, .inl (append_op ho hv h1), ?_, s', st⟩
 refine rep_flat (c := cx B (H ++ [.free ((cap + m) * de.size)]) σ' w') (c' := cx B H σ w') rfl (fun b off hw => ?_) (by unfold Flat; exact ⟨hf, .inl rfl⟩) (imp_seq _ _ _ _ _ h2)
 rcases hw with hw | ⟨i, oi, h6, h7, h8⟩
 ·exact .inl hw
 ·have hlt := lt_of_get h6
  exact .inr ⟨i, oi, by rw [List.getElem?_append_left hlt]; exact h6, (h4.le.σ i hlt).trans h7, h8⟩
end
end Go.Proofs.YtobhnjnffnbbkaaGreatDoor
namespace Go.Proofs.YtobhnjnffnbbkaaGreatDoor
open Go.RowKit
def wk1 : PV → PV
 | .seq n xs _ => .seq n xs .any
 | x => x
def wk : PV → PV
 | .seq n xs _ => .seq n xs .any
 | .agg cs => .agg (cs.map wk1)
 | x => x
theorem imp_wk1 (x : PV) : Imp x (wk1 x) := by cases x <;> first | exact imp_seq _ _ _ | exact Imp.refl _
theorem impL_map {g : PV → PV} (h : ∀ x, Imp x (g x)) : ∀ l : List PV, ImpL l (l.map g)
 | [] => trivial
 | x :: l => ⟨h x, impL_map h l⟩
theorem imp_wk (x : PV) : Imp x (wk x) := by
 cases x <;> first | exact imp_seq _ _ _ | exact imp_agg (impL_map imp_wk1 _) | exact Imp.refl _
section
variable {P : Program} {B : Nat → Nat → Prop} {o : Oper} {T : Nat → PV} {H : List Ob} {n : Nat} {all : Array Oper} {K : (Nat → PV) → List Ob → Prop} {Q : Exit → (Nat → PV) → List Ob → Prop}
theorem hc_imp {f : FuncId} {args args' : List PV} {res : PV} {H' : List Ob} (h : ImpL args args') (k : HC P f args' H res H') : HC P f args H res H' :=
 fun B σ w vs s hr => k B σ w vs s (impL_rep h hr)
theorem dC {f : FuncId} {fn : Func} {args : Array Operand} {ats : Array TypeId} {res : PV} {H' : List Ob} (ho : o.op = .call { callee := .value (.func f), args := args, argTypes := ats }) (hf : P.funcs[f]? = some fn) (hb : fn.body.isNone = false) (hn : (fn.name == "runtime.NumGoroutine") = false)
  (h : HC P f (args.toList.map fun y => wk (opv T y)) H res H') : DoesC P B o T H res H' :=
 doesC_func ho hf hb hn (hc_imp (by
  have := impL_map imp_wk (args.toList.map (opv T))
  rw [List.map_map] at this
  exact this) h)
theorem doesCWv {f : FuncId} {fn : Func} {x : Operand} {first cap : List PV} {args : Array Operand} {ats : Array TypeId} {res : PV} {H' : List Ob} (ho : o.op = .call { callee := .value x, args := args, argTypes := ats }) (hx : opv T x = .fn (.func f) first cap) (hf : P.funcs[f]? = some fn) (hb : fn.body.isNone = false) (hn : (fn.name == "runtime.NumGoroutine") = false)
  (h : HC P f (first ++ (args.toList.map fun y => wk (opv T y)) ++ cap) H res H') : DoesC P B o T H res H' :=
 doesC_value ho hx hf hb hn (hc_imp (by
  have h1 := impL_map imp_wk (args.toList.map (opv T))
  rw [List.map_map] at h1
  have app : ∀ (a b c d : List PV), ImpL a b → ImpL c d → ImpL (a ++ c) (b ++ d) := by
   intro a
   induction a with
   | nil => intro b c d h1 h2; cases b with
    | nil => exact h2
    | cons y b => exact h1.elim
   | cons x a ih => intro b c d h1 h2; cases b with
    | nil => exact h1.elim
    | cons y b => exact ⟨h1.1, ih b c d h1.2 h2⟩
  exact app _ _ _ _ (app _ _ _ _ (impL_refl first) h1) (impL_refl cap)) h)
theorem Wm {l : List Oper} (d : Nat) {x y : PV} (hT : T d = x) (hxy : Imp x y) (h1 : WO P B n all l (upd d y T) H K) : WO P B n all l T H K := by
 intro hall σ w a g
 refine h1 hall σ w a ⟨g.sim, fun i => ?_, g.size, g.defers⟩
 by_cases hi : i = d
 ·subst hi; rw [upd_same]; have := g.rep i; rw [hT] at this; exact hxy _ _ this
 ·rw [upd_other _ _ _ _ hi]; exact g.rep i
theorem WO_ob {l : List Oper} {H' : List Ob} (hH : H' = H) (h1 : WO P B n all l T H' K) : WO P B n all l T H K := by subst hH; exact h1
theorem W_ob {c : Code} {H' : List Ob} (hH : H' = H) (h1 : W P B n c T H' Q) : W P B n c T H Q := by subst hH; exact h1
theorem freeze_good {σ : Nat → Option Nat} {w : World} {a : Act} (g : Good B n T H σ w a) {d i m q : Nat} {xs : List PV} {e : TypeId} (hT : T d = .arw i 0 m) (hi : H[i]? = some (.cells xs e)) (hq : q ≤ xs.length) :
  Good B n (upd d (.seq m (xs.take q) .any) T) (H.set i .dead) σ w a ∧ Step B H σ w (H.set i .dead) σ w := by
 obtain ⟨s', st⟩ := drop_name g.sim hi
 refine ⟨⟨s', fun j => ?_, g.size, g.defers⟩, st⟩
 by_cases hj : j = d
 ·subst hj
  rw [upd_same]
  have h1 := g.rep j
  rw [hT] at h1
  unfold Rep at h1
  obtain ⟨_, b, cap, hb, hmc, hv⟩ := h1
  obtain ⟨b', vs, fr, hb', hg, _, hp⟩ := g.sim.holds i _ hi
  simp only [cx] at hb hb' hg
  rw [hb] at hb'
  cases hb'
  rw [hv]
  unfold Rep
  refine ⟨_, cap, vs.take q, rfl, hmc, (fun h => by cases h), RepL.mono st.le (hp.take hq), fun b1 hb1 => .inl ?_, trivial⟩
  cases hb1
  refine ⟨rfl, fun j' u hu => ⟨?_, ?_⟩⟩
  ·rw [List.getElem?_take] at hu
   split at hu
   ·show w.cell? ⟨b, 0 + j', none⟩ = some u
    rw [Nat.zero_add, cell_of_heap hg]; exact hu
   ·cases hu
  ·rintro (h2 | ⟨k, ok, h2, h3, h4⟩)
   ·exact g.sim.sep i b _ hi rfl hb _ h2
   ·have hlk : ok.live = true := by cases ok <;> first | rfl | cases h4
    by_cases hki : k = i
    ·subst hki
     rw [List.getElem?_set_self (lt_of_get hi)] at h2; cases h2; cases h4
    ·rw [List.getElem?_set_ne (Ne.symm hki)] at h2
     exact hki (g.sim.inj k i b _ _ h2 hi hlk rfl h3 hb)
 ·rw [upd_other _ _ _ _ hj]; exact (g.rep j).mono st.le
theorem WO_freeze {l : List Oper} (d i m q : Nat) {xs : List PV} {e : TypeId} (hT : T d = .arw i 0 m) (hi : H[i]? = some (.cells xs e)) (hq : q ≤ xs.length) (h1 : WO P B n all l (upd d (.seq m (xs.take q) .any) T) (H.set i .dead) K) : WO P B n all l T H K := by
 intro hall σ w a g
 obtain ⟨g', st⟩ := freeze_good g hT hi hq
 exact wpL_mono (fun _ _ _ h => post_mono st (fun _ _ _ h => h) h) _ _ _ (h1 hall σ w a g')
def rvPV (G : List (Nat × TD)) (T : Nat → PV) (H : List Ob) : ResultVar → Option PV
 | .tmp t => some (T t)
 | .cell ad ty => match look G ty with
  | some d => match T ad with
   | .ptr i off => match H[i]? with
    | some (.cells xs _) => loadPV d xs off
    | _ => none
   | _ => none
  | none => none
def resAll (G : List (Nat × TD)) (T : Nat → PV) (H : List Ob) : List ResultVar → Option (List PV)
 | [] => some []
 | r :: rs => match rvPV G T H r with
  | some x => match resAll G T H rs with
   | some xs => some (x :: xs)
   | none => none
  | none => none
def resX (G : List (Nat × TD)) (T : Nat → PV) (H : List Ob) : List ResultVar → Option PV
 | [r] => rvPV G T H r
 | rs => match resAll G T H rs with
  | some xs => some (.tup xs)
  | none => none
theorem run_rv {G : List (Nat × TD)} (hG : tysOk P G = true) {σ : Nat → Option Nat} {w : World} {a : Act} {n : Nat} (g : Good B n T H σ w a) {r : ResultVar} {x : PV} (h : rvPV G T H r = some x) :
  ∃ v, ((match r with | .tmp t => pure (a.tmps.getD t undef) | .cell ad t => do loadVar t (← asAddr (a.tmps.getD ad undef)) : Sem Value)).run P w = .ok v w ∧ Rep (cx B H σ w) x v := by
 cases r with
 | tmp t => simp only [rvPV, Option.some.injEq] at h; subst h; exact ⟨_, rfl, g.rep t⟩
 | cell ad t =>
  unfold rvPV at h
  split at h
  ·rename_i hd h0
   cases h0
  ·rename_i ad' ty' h0
   cases h0
   split at h
   ·rename_i d hd
    split at h
    ·rename_i i off hx
     split at h
     ·rename_i xs e hi
      have h1 := g.rep ad
      rw [hx] at h1
      unfold Rep at h1
      obtain ⟨_, b, hb, h1⟩ := h1
      obtain ⟨b', vs0, fr, hb', hv, _, vs, q, rfl, hrl⟩ := g.sim.holds i _ hi
      simp only [cx] at hb hb' hv
      rw [hb] at hb'
      cases hb'
      obtain ⟨v, h2, h3⟩ := run_loadVar_row (P := P) (w := w) (b := b) (off := 0) (lO hG hd) hrl (fun j u hj => by rw [Nat.zero_add, cell_of_heap hv]; exact get_left hj) h
      rw [Nat.zero_add] at h2
      exact ⟨v, by simp [h1, asAddr, h2], h3⟩
     ·cases h
    ·cases h
   ·cases h
theorem run_resAll {G : List (Nat × TD)} (hG : tysOk P G = true) {σ : Nat → Option Nat} {w : World} {a : Act} {n : Nat} (g : Good B n T H σ w a) : ∀ {rs : List ResultVar} {xs : List PV}, resAll G T H rs = some xs →
  ∃ vs, (rs.mapM fun r => (match r with | .tmp t => pure (a.tmps.getD t undef) | .cell ad t => do loadVar t (← asAddr (a.tmps.getD ad undef)) : Sem Value)).run P w = .ok vs w ∧ RepL (cx B H σ w) xs vs
 | [], xs, h => by simp only [resAll, Option.some.injEq] at h; subst h; exact ⟨[], rfl, repL_nil.2 rfl⟩
 | r :: rs, xs, h => by
  simp only [resAll] at h
  split at h
  ·rename_i x hx
   split at h
   ·rename_i ys hy
    cases h
    obtain ⟨v, h1, h2⟩ := run_rv hG g hx
    obtain ⟨vs, h3, h4⟩ := run_resAll hG g hy
    refine ⟨v :: vs, ?_, repL_cons.2 ⟨h2, h4⟩⟩
    rw [List.mapM_cons]
    simp only [Sem.run_bind, h1, Result.andThen_ok, h3, Sem.run_pure]
   ·cases h
  ·cases h
theorem run_resX {G : List (Nat × TD)} (hG : tysOk P G = true) {fn : Func} {rs : List ResultVar} (hr : fn.results = rs.toArray) {σ : Nat → Option Nat} {w : World} {a : Act} {n : Nat} (g : Good B n T H σ w a) {x : PV} (h : resX G T H rs = some x) :
  ∃ v, (results fn a.tmps).run P w = .ok v w ∧ Rep (cx B H σ w) x v := by
 have gen : ∀ xs, resAll G T H rs = some xs → ∃ vs, (fn.results.mapM fun | .tmp t => pure (a.tmps.getD t undef) | .cell ad t => do loadVar t (← asAddr (a.tmps.getD ad undef)) : Sem (Array Value)).run P w = .ok vs.toArray w ∧ RepL (cx B H σ w) xs vs := by
  intro xs hx
  obtain ⟨vs, h1, h2⟩ := run_resAll hG g hx
  refine ⟨vs, ?_, h2⟩
  rw [hr, List.mapM_toArray, ← bind_pure_comp]
  simp only [Sem.run_bind]
  erw [h1]
  rfl
 unfold results
 match rs, h, gen with
 | [r], h, gen =>
  simp only [resX] at h
  obtain ⟨vs, h1, h2⟩ := gen [x] (by simp only [resAll, h])
  match vs, h2 with
  | [v], h2 =>
   refine ⟨v, ?_, (repL_cons.1 h2).1⟩
   simp only [Sem.run_bind]
   erw [h1]
   simp
  | [], h2 => exact absurd (RepL.length h2) (by simp)
  | v :: v' :: vs, h2 => exact absurd (RepL.length h2) (by simp)
 | [], h, gen =>
  simp only [resX, resAll, Option.some.injEq] at h
  subst h
  obtain ⟨vs, h1, h2⟩ := gen [] rfl
  rw [repL_nil] at h2
  subst h2
  refine ⟨.tuple #[], ?_, ?_⟩
  ·simp only [Sem.run_bind]
   erw [h1]
   simp
  ·unfold Rep; exact ⟨[], rfl, repL_nil.2 rfl⟩
 | r :: r' :: rs, h, gen =>
  simp only [resX] at h
  split at h
  ·rename_i xs hx
   cases h
   obtain ⟨vs, h1, h2⟩ := gen xs hx
   have hl : 2 ≤ xs.length := by
    simp only [resAll] at hx
    split at hx
    ·split at hx
     ·rename_i h8
      split at h8
      ·split at h8
       ·cases h8; cases hx; simp
       ·cases h8
      ·cases h8
     ·cases hx
    ·cases hx
   refine ⟨.tuple vs.toArray, ?_, ?_⟩
   ·simp only [Sem.run_bind]
    erw [h1]
    have := RepL.length h2
    simp only [Result.andThen_ok]
    rw [dif_neg (by simp; omega)]
    rfl
   ·unfold Rep; exact ⟨vs, rfl, h2⟩
  ·cases h
def RetH (G : List (Nat × TD)) (rs : List ResultVar) (res : PV) (H' : List Ob) : Exit → (Nat → PV) → List Ob → Prop
 | .normal, T, H => ∃ x, resX G T H rs = some x ∧ Imp x res ∧ H = H'
 | .ret, T, H => ∃ x, resX G T H rs = some x ∧ Imp x res ∧ H = H'
 | _, _, _ => False
def RetP' (G : List (Nat × TD)) (rs : List ResultVar) (res : PV) : Exit → (Nat → PV) → List Ob → Prop
 | .normal, T, H => ∃ x, resX G T H rs = some x ∧ Imp x res
 | .ret, T, H => ∃ x, resX G T H rs = some x ∧ Imp x res
 | _, _, _ => False
def RetM (G : List (Nat × TD)) (rs : List ResultVar) (res : PV) (ys : List PV) (e : TypeId) : Exit → (Nat → PV) → List Ob → Prop
 | .normal, T, H => ∃ x, resX G T H rs = some x ∧ Imp x res ∧ ∃ zs, H[0]? = some (.cells zs e) ∧ ImpL zs ys
 | .ret, T, H => ∃ x, resX G T H rs = some x ∧ Imp x res ∧ ∃ zs, H[0]? = some (.cells zs e) ∧ ImpL zs ys
 | _, _, _ => False
theorem hc_of_WR {G : List (Nat × TD)} (hG : tysOk P G = true) {f : FuncId} {fn : Func} {c : Code} {args : List PV} {res : PV} {H' : List Ob} {rs : List ResultVar} (hf : P.funcs[f]? = some fn) (hb : fn.body = some c) (hr : fn.results = rs.toArray) (hn0 : Nat.ble args.length fn.ntmps = true)
  (h : ∀ B, W P B fn.ntmps c (argT args) H (RetH G rs res H')) : HC P f args H res H' := by
 intro B σ w vs s ha
 have hn := Nat.le_of_ble_eq_true hn0
 have hl := RepL.length ha
 refine calls_of_wp hf hb (wp_mono (h B σ w { tmps := vs.toArray ++ Array.replicate (fn.ntmps - vs.toArray.size) undef, defers := [] } ⟨s, repT_args ha _, by simp; omega, rfl⟩) ?_)
 rintro e a' w' ⟨T', H1, σ', h1, h2, h3⟩
 have fin : ∀ (h4 : ∃ x, resX G T' H1 rs = some x ∧ Imp x res ∧ H1 = H'), a'.defers = [] ∧ ∃ v, (results fn a'.tmps).run P w' = .ok v w' ∧ ∃ v' σ', Ending.returned v = Ending.returned v' ∧ Rep (cx B H' σ' w') res v' ∧ Sim B H' σ' w' ∧ Step B H σ w H' σ' w' := by
  rintro ⟨x, hx, h4, rfl⟩
  obtain ⟨v, h5, h6⟩ := run_resX hG hr h2 hx
  exact ⟨h2.defers, v, h5, v, σ', rfl, h4 _ _ h6, h2.sim, h3⟩
 cases e <;> first | exact fin h1 | exact False.elim h1
theorem pureG_of_WR {R : List Ob} (hRg : ∀ o ∈ R, ∃ g u, o = .glob g u) {G : List (Nat × TD)} (hG : tysOk P G = true) {f : FuncId} {fn : Func} {c : Code} {args : List PV} {res : PV} {rs : List ResultVar} (hf : P.funcs[f]? = some fn) (hb : fn.body = some c) (hr : fn.results = rs.toArray) (hn0 : Nat.ble args.length fn.ntmps = true) (ha : FlatL args) (hres : Flat res)
  (h : ∀ B, W P B fn.ntmps c (argT args) R (RetP' G rs res)) (H : List Ob) (hRH : ∀ o ∈ R, ∃ k : Nat, H[k]? = some o) : HC P f args H res H := by
 have hn := Nat.le_of_ble_eq_true hn0
 refine pureG_of_hc hRg ha hres (fun B σ w vs s hv => ?_) H hRH
 have hl := RepL.length hv
 refine calls_of_wp hf hb (wp_mono (h B σ w { tmps := vs.toArray ++ Array.replicate (fn.ntmps - vs.toArray.size) undef, defers := [] } ⟨s, repT_args hv _, by simp; omega, rfl⟩) ?_)
 rintro e a' w' ⟨T', H1, σ', h1, h2, h3⟩
 have fin : ∀ (h4 : ∃ x, resX G T' H1 rs = some x ∧ Imp x res), a'.defers = [] ∧ ∃ v, (results fn a'.tmps).run P w' = .ok v w' ∧ ∃ v' H' σ', Ending.returned v = Ending.returned v' ∧ Rep (cx B H' σ' w') res v' ∧ Step B R σ w H' σ' w' := by
  rintro ⟨x, hx, h4⟩
  obtain ⟨v, h5, h6⟩ := run_resX hG hr h2 hx
  exact ⟨h2.defers, v, h5, v, H1, σ', rfl, h4 _ _ h6, h3⟩
 cases e <;> first | exact fin h1 | exact False.elim h1
theorem pW {G : List (Nat × TD)} (hG : tysOk P G = true) {f : FuncId} {fn : Func} {c : Code} {args : List PV} {res : PV} {rs : List ResultVar} (hf : P.funcs[f]? = some fn) (hb : fn.body = some c) (hr : fn.results = rs.toArray) (hn0 : Nat.ble args.length fn.ntmps = true) (ha : FlatL args) (hres : Flat res)
  (h : ∀ B, W P B fn.ntmps c (argT args) [] (RetP' G rs res)) : PureC P f args res :=
 fun H => pureG_of_WR (R := []) (by simp) hG hf hb hr hn0 ha hres h H (by simp)
def nf2 : PV → Option PV
 | .seq n xs _ => some (.seq n xs .any)
 | .agg cs => match nfl (cs.map wk1) with
  | some ds => some (.agg ds)
  | none => none
 | .val v => some (.val v)
 | .any => some .any
 | .tup cs => some (.tup cs)
 | .ptr i off => some (.ptr i off)
 | .row xs => some (.row xs)
 | .arr i off n cap => some (.arr i off n cap)
 | .fn f a b => some (.fn f a b)
 | .mapv i => some (.mapv i)
 | .arw i off n => some (.arw i off n)
 | .smap ks xs => some (.smap ks xs)
 | .ifc t x => some (.ifc t x)
def nf2L : List PV → Option (List PV)
 | [] => some []
 | x :: xs => match nf2 x with
  | some y => match nf2L xs with
   | some ys => some (y :: ys)
   | none => none
  | none => none
def nfR (x : PV) : Option PV := match x with
 | .tup cs => match nf2L cs with
  | some ds => some (.tup ds)
  | none => none
 | x => nf2 x
theorem nf2_imp {x y : PV} (h : nf2 x = some y) : Imp x y := by
  cases x <;> simp only [nf2] at h <;> first
    | (injection h with h; subst h; first | exact imp_seq _ _ _ | exact Imp.refl _)
    | (split at h
       · rename_i ds hd
         injection h with h
         subst h
         rw [nfl_eq hd]
         exact imp_agg (impL_map imp_wk1 _)
       · cases h)
theorem nf2L_imp : ∀ {xs ys : List PV}, nf2L xs = some ys → ImpL xs ys
 | [], ys, h => by injection h with h; subst h; trivial
 | x :: xs, ys, h => by
  simp only [nf2L] at h
  split at h
  ·rename_i y hy
   split at h
   ·rename_i zs hz
    injection h with h
    subst h
    exact ⟨nf2_imp hy, nf2L_imp hz⟩
   ·cases h
  ·cases h
theorem nfR_imp {x y : PV} (h : nfR x = some y) : Imp x y := by
 unfold nfR at h
 split at h
 ·split at h
  ·rename_i ds hd
   injection h with h
   subst h
   exact imp_tup (nf2L_imp hd)
  ·cases h
 ·exact nf2_imp h
def resN (G : List (Nat × TD)) (T : Nat → PV) (H : List Ob) (rs : List ResultVar) : Option PV := match resX G T H rs with
 | some x => nfR x
 | none => none
theorem resN_ok {G : List (Nat × TD)} {rs : List ResultVar} {y : PV} (h : resN G T H rs = some y) : ∃ x, resX G T H rs = some x ∧ Imp x y := by
 unfold resN at h
 split at h
 ·rename_i x hx; exact ⟨x, hx, nfR_imp h⟩
 ·cases h
theorem lP {G : List (Nat × TD)} {rs : List ResultVar} {x res : PV} (h : resN G T H rs = some x) (h2 : x = res) : RetP' G rs res .ret T H := by
 subst h2; exact resN_ok h
theorem leafH {G : List (Nat × TD)} {rs : List ResultVar} {x res : PV} {H' : List Ob} (h : resN G T H rs = some x) (h2 : x = res) (h3 : H = H') : RetH G rs res H' .ret T H := by
 subst h2; obtain ⟨y, h4, h5⟩ := resN_ok h; exact ⟨y, h4, h5, h3⟩
def cellN (H : List Ob) (e : TypeId) : Option (List PV) := match (H[0]? : Option Ob) with
 | some (.cells zs e') => match Nat.beq e' e with
  | true => nfl (zs.map wk1)
  | false => none
 | _ => none
theorem cellN_ok {e : TypeId} {ys : List PV} (h : cellN H e = some ys) : ∃ zs, H[0]? = some (.cells zs e) ∧ ImpL zs ys := by
 unfold cellN at h
 split at h
 ·rename_i zs e' h0
  split at h
  ·rename_i he
   rw [Nat.beq_eq] at he
   subst he
   exact ⟨zs, h0, by rw [nfl_eq h]; exact impL_map imp_wk1 _⟩
  ·cases h
 ·cases h
theorem leafM {G : List (Nat × TD)} {rs : List ResultVar} {x res : PV} {e : TypeId} {zs ys : List PV} (h : resN G T H rs = some x) (h1 : cellN H e = some zs) (h2 : x = res) (h3 : zs = ys) : RetM G rs res ys e .ret T H := by
 subst h2 h3; obtain ⟨y, h4, h5⟩ := resN_ok h; exact ⟨y, h4, h5, cellN_ok h1⟩
theorem leafMn {G : List (Nat × TD)} {rs : List ResultVar} {x res : PV} {e : TypeId} {zs ys : List PV} (h : resN G T H rs = some x) (h1 : cellN H e = some zs) (h2 : x = res) (h3 : zs = ys) : RetM G rs res ys e .normal T H := by
 subst h2 h3; obtain ⟨y, h4, h5⟩ := resN_ok h; exact ⟨y, h4, h5, cellN_ok h1⟩
theorem leafMs {G : List (Nat × TD)} {rs : List ResultVar} {x res : PV} {e : TypeId} {zs ys : List PV} (h : resN G T H rs = some x) (h1 : H[0]? = some (.cells zs e)) (h2 : x = res) (h3 : zs = ys) : RetM G rs res ys e .ret T H := by
 subst h2 h3; obtain ⟨y, h4, h5⟩ := resN_ok h; exact ⟨y, h4, h5, zs, h1, impL_refl _⟩
theorem leafMsn {G : List (Nat × TD)} {rs : List ResultVar} {x res : PV} {e : TypeId} {zs ys : List PV} (h : resN G T H rs = some x) (h1 : H[0]? = some (.cells zs e)) (h2 : x = res) (h3 : zs = ys) : RetM G rs res ys e .normal T H := by
 subst h2 h3; obtain ⟨y, h4, h5⟩ := resN_ok h; exact ⟨y, h4, h5, zs, h1, impL_refl _⟩
theorem get_set {α : Type} {H : List α} {i j : Nat} {x y : α} (hi : i < H.length) (h : (H.set i x)[j]? = some y) : (j = i ∧ y = x) ∨ (j ≠ i ∧ H[j]? = some y) := by
 by_cases hj : j = i
 ·subst hj; rw [List.getElem?_set_self hi] at h; cases h; exact .inl ⟨rfl, rfl⟩
 ·rw [List.getElem?_set_ne (Ne.symm hj)] at h; exact .inr ⟨hj, h⟩
theorem mutG_of_W {G : List (Nat × TD)} {f : FuncId} {fn : Func} {c : Code} {rest : List PV} {res : PV} {rs : List ResultVar} {off : Nat} {xs ys : List PV} {e : TypeId} {R : List Ob} (hRg : ∀ o ∈ R, ∃ g u, o = .glob g u) (hG : tysOk P G = true) (hf : P.funcs[f]? = some fn) (hb : fn.body = some c) (hr : fn.results = rs.toArray) (hn0 : Nat.ble (rest.length + 1) fn.ntmps = true)
  (ha : FlatL rest) (hres : Flat res) (hxs : FlatL xs) (hys : FlatL ys)
  (h : ∀ B, W P B fn.ntmps c (argT (.ptr 0 off :: rest)) (.cells xs e :: R) (RetM G rs res ys e)) (H : List Ob) (i : Nat) (hi : H[i]? = some (.cells xs e)) (hRH : ∀ o ∈ R, ∃ k : Nat, H[k]? = some o) : HC P f (.ptr i off :: rest) H res (H.set i (.cells ys e)) := by
 intro B σ w vs s hv
 have hilt := lt_of_get hi
 match vs, hv with
 | [], hv => unfold RepL at hv; obtain ⟨u, us, h1, _⟩ := hv; cases h1
 | v0 :: vs, hv =>
 rw [repL_cons] at hv
 obtain ⟨hv0, hvr⟩ := hv
 unfold Rep at hv0
 obtain ⟨_, b, hσ, rfl⟩ := hv0
 simp only [cx] at hσ
 have hl : (Ob.cells xs e).live = true := rfl
 have dull : ∀ {j : Nat} {oj : Ob}, (Ob.cells xs e :: R)[j + 1]? = some oj → oj.live = true → False := fun h1 h2 => by
  obtain ⟨g, u, rfl⟩ := hRg _ (List.mem_of_getElem? (by simpa using h1)); cases h2
 let B' : Nat → Nat → Prop := BoW B σ (H.set i .dead)
 let σ0 : Nat → Option Nat := fun k => if k = 0 then some b else none
 have other : ∀ j oj, (H.set i .dead)[j]? = some oj → oj.live = true → j ≠ i ∧ H[j]? = some oj := by
  intro j oj h1 h2
  rcases get_set hilt h1 with ⟨rfl, rfl⟩ | h3
  ·cases h2
  ·exact h3
 have hB' : ∀ b' off, B' b' off → b' ≠ b := by
  rintro b' off (h1 | ⟨j, oj, h1, h2, h3⟩) rfl
  ·exact s.sep i _ _ hi hl hσ off h1
  ·have hlj : oj.live = true := by cases oj <;> first | rfl | cases h3
   obtain ⟨h4, h5⟩ := other j oj h1 hlj
   exact h4 (s.inj j i _ _ _ h5 hi hlj hl h2 hσ)
 have wrB : ∀ b' off, (cx B' (.cells xs e :: R) σ0 w).Wr b' off → (cx B H σ w).Wr b' off := by
  rintro b' off ((h1 | ⟨j, oj, h1, h2, h3⟩) | ⟨j, oj, h1, h2, h3⟩)
  ·exact .inl h1
  ·have hlj : oj.live = true := by cases oj <;> first | rfl | cases h3
   exact .inr ⟨j, oj, (other j oj h1 hlj).2, h2, h3⟩
  ·match j, h1, h2 with
   | 0, h1, h2 =>
    simp only [σ0, if_true, Option.some.injEq] at h2
    subst h2
    exact .inr ⟨i, _, hi, hσ, trivial⟩
   | j + 1, h1, _ => exact (dull h1 (by cases oj <;> first | rfl | cases h3)).elim
 have s0 : Sim B' (.cells xs e :: R) σ0 w := by
  refine ⟨?_, ?_, ?_, ?_⟩
  ·intro j k b' oj ok h1 h2 l1 l2 _ _
   match j, k, h1, h2 with
   | 0, 0, _, _ => rfl
   | j + 1, _, h1, _ => exact (dull h1 l1).elim
   | 0, k + 1, _, h2 => exact (dull h2 l2).elim
  ·intro j b' oj h1 l1 h2 off h3
   match j, h1, h2 with
   | 0, _, h2 =>
    simp only [σ0, if_true, Option.some.injEq] at h2
    exact hB' _ _ h3 h2.symm
   | j + 1, h1, _ => exact (dull h1 l1).elim
  ·rintro b' off (h1 | ⟨j, oj, h1, h2, h3⟩)
   ·exact s.base _ _ h1
   ·have hlj : oj.live = true := by cases oj <;> first | rfl | cases h3
    exact (s.holds j oj (other j oj h1 hlj).2).lt hlj h2
  ·intro j oj h1
   match j, h1 with
   | 0, h1 =>
    simp only [List.getElem?_cons_zero, Option.some.injEq] at h1
    subst h1
    obtain ⟨b1, vs1, fr, h2, h3, hf, p, q, hpq, h4⟩ := s.holds i _ hi
    simp only [cx] at h2 h3
    rw [hσ] at h2; cases h2
    exact ⟨b, vs1, fr, by simp [cx, σ0], h3, hf, p, q, hpq, repL_flat (c := cx B H σ w) (c' := cx B' (.cells xs e :: R) σ0 w) rfl wrB hxs h4⟩
   | j + 1, h1 =>
    have hm := List.mem_of_getElem? (show R[j]? = some oj by simpa using h1)
    obtain ⟨g, u, rfl⟩ := hRg _ hm
    obtain ⟨k, hk⟩ := hRH _ hm
    obtain ⟨q1, q2⟩ := s.holds k _ hk
    exact ⟨q1, fun q => q2 (wrB _ _ q)⟩
 have hr0 : RepL (cx B' (.cells xs e :: R) σ0 w) (.ptr 0 off :: rest) (.pointer (some ⟨b, off, none⟩) :: vs) := by
  refine repL_cons.2 ⟨?_, repL_flat (c := cx B H σ w) (c' := cx B' (.cells xs e :: R) σ0 w) rfl wrB ha hvr⟩
  unfold Rep
  exact ⟨by simp [cx], b, by simp [cx, σ0], rfl⟩
 have hn := Nat.le_of_ble_eq_true hn0
 have hvl := RepL.length hvr
 refine calls_of_wp hf hb (wp_mono (h B' σ0 w { tmps := (Value.pointer (some ⟨b, off, none⟩) :: vs).toArray ++ Array.replicate (fn.ntmps - (Value.pointer (some ⟨b, off, none⟩) :: vs).toArray.size) undef, defers := [] } ⟨s0, repT_args hr0 _, by simp; omega, rfl⟩) ?_)
 rintro e1 a' w' ⟨T', H1, σ', h1, h2, h3⟩
 have fin : ∀ (h4 : ∃ x, resX G T' H1 rs = some x ∧ Imp x res ∧ ∃ zs, H1[0]? = some (.cells zs e) ∧ ImpL zs ys), a'.defers = [] ∧ ∃ v, (results fn a'.tmps).run P w' = .ok v w' ∧ ∃ v' σ', Ending.returned v = Ending.returned v' ∧ Rep (cx B (H.set i (.cells ys e)) σ' w') res v' ∧ Sim B (H.set i (.cells ys e)) σ' w' ∧ Step B H σ w (H.set i (.cells ys e)) σ' w' := by
  rintro ⟨x, hx, h4, zs, h5, hzy⟩
  obtain ⟨v, h6, h7⟩ := run_resX hG hr h2 hx
  have hσ' : σ' 0 = some b := by have := h3.le.σ 0 (by simp [cx]); simpa [cx, σ0] using this
  have get : ∀ j oj, (H.set i (.cells ys e))[j]? = some oj → (j = i ∧ oj = .cells ys e) ∨ (j ≠ i ∧ H[j]? = some oj) := fun j oj hj => get_set hilt hj
  have wrN : ∀ b' off, (cx B (H.set i (.cells ys e)) σ w').Wr b' off → (cx B' H1 σ' w').Wr b' off := by
   rintro b' off (k1 | ⟨j, oj, k1, k2, k3⟩)
   ·exact .inl (.inl k1)
   ·rcases get j oj k1 with ⟨rfl, rfl⟩ | ⟨k4, k5⟩
    ·rw [hσ] at k2; cases k2
     exact .inr ⟨0, _, h5, hσ', trivial⟩
    ·exact .inl (.inr ⟨j, oj, by rw [List.getElem?_set_ne (Ne.symm k4)]; exact k5, k2, k3⟩)
  have wrO : ∀ b' off, (cx B (H.set i (.cells ys e)) σ w').Wr b' off → (cx B H σ w).Wr b' off := by
   rintro b' off (k1 | ⟨j, oj, k1, k2, k3⟩)
   ·exact .inl k1
   ·rcases get j oj k1 with ⟨rfl, rfl⟩ | ⟨k4, k5⟩
    ·exact .inr ⟨_, _, hi, k2, trivial⟩
    ·exact .inr ⟨j, oj, k5, k2, k3⟩
  have le : (cx B H σ w).Le (cx B (H.set i (.cells ys e)) σ w') := by
   refine ⟨by simp [cx], fun _ _ => rfl, fun b' off u k1 k2 => ?_, fun b' es clk k1 k2 => ?_, h3.le.shape⟩
   ·have k3 := h3.le.cell b' off u (fun k => k1 (wrB _ _ k)) k2
    exact ⟨k3.1, fun k => k1 (wrO _ _ k)⟩
   ·have k3 := h3.le.mapo b' es clk (fun k => k1 (wrB _ _ k)) k2
    exact ⟨k3.1, fun k => k1 (wrO _ _ k)⟩
  have keep : ∀ b', b' < w.heap.size → b' ≠ b → w'.heap[b']? = w.heap[b']? := by
   intro b' k1 k2
   refine h3.block b' k1 (fun j oj k3 kl k4 => ?_)
   match j, k3, k4 with
   | 0, _, k4 => simp only [σ0, if_true, Option.some.injEq] at k4; exact k2 k4.symm
   | j + 1, k3, _ => exact (dull k3 kl).elim
  have s' : Sim B (H.set i (.cells ys e)) σ w' := by
   refine ⟨?_, ?_, fun b' off k => Nat.lt_of_lt_of_le (s.base b' off k) h3.size, ?_⟩
   ·intro j k b' oj ok k1 k2 l1 l2 e1 e2
    rcases get j oj k1 with ⟨rfl, rfl⟩ | ⟨_, k3⟩ <;> rcases get k ok k2 with ⟨rfl, rfl⟩ | ⟨_, k4⟩
    ·rfl
    ·exact s.inj _ _ b' _ _ hi k4 rfl l2 e1 e2
    ·exact s.inj _ _ b' _ _ k3 hi l1 rfl e1 e2
    ·exact s.inj _ _ b' _ _ k3 k4 l1 l2 e1 e2
   ·intro j b' oj k1 l1 e1 off
    rcases get j oj k1 with ⟨rfl, rfl⟩ | ⟨_, k3⟩
    ·exact s.sep _ b' _ hi rfl e1 off
    ·exact s.sep _ b' _ k3 l1 e1 off
   ·intro j oj k1
    rcases get j oj k1 with ⟨rfl, rfl⟩ | ⟨hj, k3⟩
    ·obtain ⟨b1, vs1, fr, k4, k5, hf, p, q, hpq, k6⟩ := h2.sim.holds 0 _ h5
     simp only [cx] at k4 k5
     rw [hσ'] at k4; cases k4
     exact ⟨b, vs1, fr, hσ, k5, hf, p, q, hpq, repL_flat (c := cx B' H1 σ' w') (c' := cx B (H.set j (.cells ys e)) σ w') rfl wrN hys (impL_rep hzy k6)⟩
    ·have k := s.holds j oj k3
     cases oj with
     | cells zs t =>
      obtain ⟨x, ws, fr, k5, k6, hf, k7⟩ := k
      have hx : x ≠ b := fun hx => hj (s.inj j i b _ _ k3 hi rfl rfl (hx ▸ k5) hσ)
      exact ⟨x, ws, fr, k5, (keep x (Array.getElem?_eq_some_iff.1 k6).1 hx).trans k6, hf, k7.mono le⟩
     | free m =>
      intro x hx
      obtain ⟨cs, t, k5, k6⟩ := k x hx
      have hne : x ≠ b := fun h => hj (s.inj j i b _ _ k3 hi rfl rfl (h ▸ hx) hσ)
      exact ⟨cs, t, (keep x (Array.getElem?_eq_some_iff.1 k5).1 hne).trans k5, k6⟩
     | dead => trivial
     | glob g u => obtain ⟨q1, q2⟩ := k; exact le.cell g 0 u q2 q1
     | iter s2 pos =>
      obtain ⟨x, k5, k6⟩ := k
      have hx : x ≠ b := fun hx => hj (s.inj j i b _ _ k3 hi rfl rfl (hx ▸ k5) hσ)
      exact ⟨x, k5, (keep x (Array.getElem?_eq_some_iff.1 k6).1 hx).trans k6⟩
     | smap ks ms =>
      obtain ⟨x, es, clk, k5, k6, k7, k8⟩ := k
      have hx : x ≠ b := fun hx => hj (s.inj j i b _ _ k3 hi rfl rfl (hx ▸ k5) hσ)
      exact ⟨x, es, clk, k5, (keep x (Array.getElem?_eq_some_iff.1 k6).1 hx).trans k6, k7, RepL.mono le k8⟩
  refine ⟨h2.defers, v, h6, v, σ, rfl, ?_, s', ⟨le, h3.os, h3.tape, h3.output, h3.size, ?_, ?_⟩⟩
  ·exact rep_flat (c := cx B' H1 σ' w') (c' := cx B (H.set i (.cells ys e)) σ w') rfl wrN hres (h4 _ _ h7)
  ·intro j oj b' k1 k2 k3
   rcases get j oj k1 with ⟨rfl, rfl⟩ | ⟨_, k4⟩
   ·exact .inr ⟨_, _, hi, rfl, k3⟩
   ·exact .inr ⟨j, oj, k4, k2, k3⟩
  ·intro b' k1 k2
   exact keep b' k1 (fun k => k2 i _ hi rfl (k ▸ hσ))
 cases e1 <;> first | exact fin h1 | exact False.elim h1
theorem mut_of_W {G : List (Nat × TD)} (hG : tysOk P G = true) {f : FuncId} {fn : Func} {c : Code} {rest : List PV} {res : PV} {rs : List ResultVar} {off : Nat} {xs ys : List PV} {e : TypeId} (hf : P.funcs[f]? = some fn) (hb : fn.body = some c) (hr : fn.results = rs.toArray) (hn0 : Nat.ble (rest.length + 1) fn.ntmps = true)
  (ha : FlatL rest) (hres : Flat res) (hxs : FlatL xs) (hys : FlatL ys)
  (h : ∀ B, W P B fn.ntmps c (argT (.ptr 0 off :: rest)) [.cells xs e] (RetM G rs res ys e)) (H : List Ob) (i : Nat) (hi : H[i]? = some (.cells xs e)) : HC P f (.ptr i off :: rest) H res (H.set i (.cells ys e)) :=
 mutG_of_W (R := []) (by simp) hG hf hb hr hn0 ha hres hxs hys h H i hi (by simp)
end
end Go.Proofs.YtobhnjnffnbbkaaGreatDoor
namespace Go.Proofs.YtobhnjnffnbbkaaGreatDoor
open Go.RowKit
def sq {α : Type} (enc : α → List PV) (l : List α) : PV := .seq l.length (l.flatMap enc) .any
theorem flatMap_len {α : Type} (enc : α → List PV) (k : Nat) (hk : ∀ x, (enc x).length = k) : ∀ l : List α, (l.flatMap enc).length = l.length * k
 | [] => by simp
 | x :: l => by rw [List.flatMap_cons, List.length_append, flatMap_len enc k hk l, hk, List.length_cons, Nat.succ_mul, Nat.add_comm]
theorem flatMap_drop {α : Type} (enc : α → List PV) (k : Nat) (hk : ∀ x, (enc x).length = k) : ∀ (i : Nat) (l : List α), (l.flatMap enc).drop (i * k) = (l.drop i).flatMap enc
 | 0, l => by simp
 | i + 1, [] => by simp
 | i + 1, x :: l => by
  rw [List.flatMap_cons, List.drop_append, Nat.succ_mul]
  have h1 : (enc x).drop (i * k + k) = [] := by rw [List.drop_eq_nil_iff, hk]; omega
  have h2 : i * k + k - (enc x).length = i * k := by rw [hk]; omega
  rw [h1, h2, List.nil_append, flatMap_drop enc k hk i l, List.drop_succ_cons]
theorem flatMap_take {α : Type} (enc : α → List PV) (k : Nat) (hk : ∀ x, (enc x).length = k) : ∀ (i : Nat) (l : List α), (l.flatMap enc).take (i * k) = (l.take i).flatMap enc
 | 0, l => by simp
 | i + 1, [] => by simp
 | i + 1, x :: l => by
  rw [List.flatMap_cons, List.take_append, Nat.succ_mul]
  have h1 : (enc x).take (i * k + k) = enc x := List.take_of_length_le (by rw [hk]; omega)
  have h2 : i * k + k - (enc x).length = i * k := by rw [hk]; omega
  rw [h1, h2, flatMap_take enc k hk i l, List.take_succ_cons, List.flatMap_cons]
theorem iR {α : Type} (enc : α → List PV) (k : Nat) (hk : ∀ x, (enc x).length = k) (d : α) {l : List α} {i : Nat} (h : i < l.length) : Imp (.row ((l.flatMap enc).drop (i * k))) (.row (enc (l.getD i d))) := by
 intro c v hv
 rw [flatMap_drop enc k hk] at hv
 rw [List.drop_eq_getElem_cons h, List.flatMap_cons] at hv
 have e : l.getD i d = l[i] := by simp [List.getD, h]
 rw [e]
 unfold Rep at hv ⊢
 obtain ⟨b, vs, h1, h2, h3⟩ := hv
 have h4 := h2.take (enc l[i]).length
 rw [List.take_left] at h4
 exact ⟨b, _, h1, h4, Lies.take h3 _⟩
theorem sq_slice {α : Type} (enc : α → List PV) (k : Nat) (hk : ∀ x, (enc x).length = k) {l : List α} {a b : Nat} {s : SK} (hb : b ≤ l.length) : PV.seq (b - a) (((l.flatMap enc).drop (a * k)).take ((b - a) * k)) s = .seq ((l.take b).drop a).length (((l.take b).drop a).flatMap enc) s := by
 rw [flatMap_drop enc k hk, flatMap_take enc k hk, List.length_drop, List.length_take, Nat.min_eq_left hb]
 congr 2
 rw [List.drop_take]
theorem sq_append {α : Type} (enc : α → List PV) {l m : List α} {s : SK} : PV.seq (l.length + m.length) (l.flatMap enc ++ m.flatMap enc) s = .seq (l ++ m).length ((l ++ m).flatMap enc) s := by
 rw [List.length_append, List.flatMap_append]
theorem sq_one {α : Type} (enc : α → List PV) (x : α) {s : SK} : PV.seq (0 + 1) ([] ++ enc x) s = .seq [x].length ([x].flatMap enc) s := by simp
theorem flat_sq {α : Type} {enc : α → List PV} (h : ∀ x, FlatL (enc x)) (l : List α) : Flat (sq enc l) := by
 unfold sq Flat
 refine ⟨?_, .inl rfl⟩
 induction l with
 | nil => rw [List.flatMap_nil]; unfold FlatL; trivial
 | cons x l ih =>
  rw [List.flatMap_cons]
  have app : ∀ a b : List PV, FlatL a → FlatL b → FlatL (a ++ b) := by
   intro a b ha hb
   induction a with
   | nil => exact hb
   | cons y a iha => unfold FlatL at ha; rw [List.cons_append]; unfold FlatL; exact ⟨ha.1, iha ha.2⟩
  exact app _ _ (h x) ih
theorem okC_flat {α : Type} (enc : α → List PV) (h : ∀ x, ((enc x).all okC) = true) : ∀ l : List α, ∀ x ∈ l.flatMap enc, okC x = true := by
 intro l x hx
 obtain ⟨y, _, hy⟩ := List.mem_flatMap.1 hx
 exact List.all_eq_true.1 (h y) x hy
@[simp] theorem flat_val (v : Value) : Flat (.val v) := by unfold Flat; trivial
@[simp] theorem flat_tup (cs : List PV) : Flat (.tup cs) ↔ FlatL cs := by rw [Flat]
@[simp] theorem flat_agg (cs : List PV) : Flat (.agg cs) ↔ FlatL cs := by rw [Flat]
@[simp] theorem flatL_nil : FlatL [] := by unfold FlatL; trivial
@[simp] theorem flatL_cons (x : PV) (xs : List PV) : FlatL (x :: xs) ↔ Flat x ∧ FlatL xs := by rw [FlatL]
def cInt (n : Int) : List PV := [.val (.int .i64 n)]
def cByte (b : UInt8) : List PV := [.val (.int .u8 (b.toNat : Int))]
abbrev Str := List UInt8
def str (l : Str) : PV := .val (.string ⟨l.toArray⟩)
def cStr (l : Str) : List PV := [str l]
def i64 (n : Int) : PV := .val (.int .i64 n)
def boo (b : Bool) : PV := .val (.bool b)
@[simp] theorem flat_i64 (n : Int) : Flat (i64 n) := by unfold i64 Flat; trivial
@[simp] theorem flat_boo (n : Bool) : Flat (boo n) := by unfold boo Flat; trivial
@[simp] theorem flat_str (n : Str) : Flat (str n) := by unfold str Flat; trivial
@[simp] theorem flat_cInt (n : Int) : FlatL (cInt n) := by unfold cInt FlatL; exact ⟨by unfold Flat; trivial, by unfold FlatL; trivial⟩
@[simp] theorem flat_cByte (n : UInt8) : FlatL (cByte n) := by unfold cByte FlatL; exact ⟨by unfold Flat; trivial, by unfold FlatL; trivial⟩
@[simp] theorem flat_cStr (n : Str) : FlatL (cStr n) := by unfold cStr FlatL; exact ⟨flat_str n, by unfold FlatL; trivial⟩
@[simp] theorem flat_ints (l : List Int) : Flat (sq cInt l) := flat_sq flat_cInt l
@[simp] theorem flat_bytes (l : List UInt8) : Flat (sq cByte l) := flat_sq flat_cByte l
@[simp] theorem flat_strs (l : List Str) : Flat (sq cStr l) := flat_sq flat_cStr l
theorem i64w (x : Int) : IntKind.i64.wrap x = wrap64 x := IntWalk.i64_left _
theorem bytes_ext {a b : ByteArray} (h : a.data.toList = b.data.toList) : a = b := by
 cases a; cases b; simp only at h; congr 1; exact Array.toList_inj.1 h
theorem str_eql (a b : Str) : PV.val (.bool (strEq ⟨a.toArray⟩ ⟨b.toArray⟩)) = .val (.bool (decide (a = b))) := by
 rw [strEq_eq]
 have : decide ((⟨a.toArray⟩ : ByteArray) = ⟨b.toArray⟩) = decide (a = b) := by
  rw [Bool.eq_iff_iff]; simp [ByteArray.mk.injEq]
 rw [this]
theorem str_neq (a b : Str) : PV.val (.bool (!strEq ⟨a.toArray⟩ ⟨b.toArray⟩)) = .val (.bool (!decide (a = b))) := by
 have := str_eql a b
 simp only [PV.val.injEq, Value.bool.injEq] at this
 rw [this]
theorem str_append (a b : Str) : PV.val (.string ((⟨a.toArray⟩ : ByteArray) ++ ⟨b.toArray⟩)) = str (a ++ b) := by
 unfold str
 rw [show (⟨a.toArray⟩ : ByteArray) ++ ⟨b.toArray⟩ = ⟨(a ++ b).toArray⟩ from bytes_ext (by rw [ByteArray.data_append]; simp)]
theorem str_byte (l : Str) (i : Nat) : PV.val (.int .u8 (byteAt ⟨l.toArray⟩ i)) = .val (.int .u8 ((l.getD i 0).toNat : Int)) := by
 unfold byteAt
 simp
theorem str_size (l : Str) : (⟨l.toArray⟩ : ByteArray).size = l.length := by
 show l.toArray.size = _
 simp
theorem str_byteN (l : Str) (k : Nat) : PV.val (.int .u8 (byteAt ⟨l.toArray⟩ ((k : Int)).toNat)) = .val (.int .u8 ((l.getD k 0).toNat : Int)) := str_byte l k
theorem iN {α : Type} (enc : α → List PV) (k : Nat) (hk : ∀ x, (enc x).length = k) (d : α) {l : List α} {i : Nat} (h : i < l.length) : Imp (.row ((l.flatMap enc).drop (((i : Int)).toNat * k))) (.row (enc (l.getD i d))) := iR enc k hk d h
theorem take_snoc' {α : Type} (l : List α) (k : Nat) (d : α) (h : k < l.length) : l.take (k + 1) = l.take k ++ [l.getD k d] := by
 rw [List.take_succ_eq_append_getElem h]; simp [List.getD, h]
theorem take_all' {α : Type} (l : List α) (k : Nat) (h : l.length ≤ k) : l.take k = l := List.take_of_length_le h
theorem splice_sq {α : Type} (enc : α → List PV) (k : Nat) (hk : ∀ x, (enc x).length = k) {l : List α} {i : Nat} (h : i < l.length) (x : α) : splice (l.flatMap enc) (i * k) (enc x) = (l.set i x).flatMap enc := by
 unfold splice
 rw [flatMap_take enc k hk, hk, ← Nat.succ_mul, flatMap_drop enc k hk]
 rw [List.set_eq_take_append_cons_drop, if_pos h, List.flatMap_append, List.flatMap_cons, List.append_assoc]
theorem splice_byte {l : List UInt8} {i : Nat} (h : i < l.length) (x : UInt8) : splice (l.flatMap cByte) i [.val (.int .u8 (x.toNat : Int))] = (l.set i x).flatMap cByte := by
 have := splice_sq cByte 1 (fun _ => rfl) h x
 rw [Nat.mul_one] at this
 exact this
theorem str_len (l : Str) : PV.val (.int .i64 ((⟨l.toArray⟩ : ByteArray).size : Int)) = .val (.int .i64 (l.length : Int)) := by rw [str_size]
theorem str_of (s : ByteArray) : PV.val (.string s) = str s.data.toList := by unfold str; cases s; simp
theorem nums_str (l : List UInt8) : strOfNums (l.map fun b => (b.toNat : Int)) = ⟨l.toArray⟩ := by
 apply bytes_ext
 rw [strOfNums_data]
 simp only [List.map_map]
 induction l with
 | nil => rfl
 | cons x l ih =>
  simp only [List.map_cons, List.toList_toArray, List.cons.injEq, Function.comp]
  refine ⟨?_, by simpa using ih⟩
  rw [← UInt8.toNat_inj, UInt8.toNat_ofNat']
  have := x.toNat_lt
  omega
theorem cByte_map (l : List UInt8) : l.flatMap cByte = (l.map fun b => (b.toNat : Int)).map byteP := by
 induction l with
 | nil => rfl
 | cons x l ih => rw [List.flatMap_cons, ih]; rfl
theorem does_bytes_str {P : Program} {B : Nat → Nat → Prop} {o : Oper} {T : Nat → PV} {H : List Ob} {src dst e : TypeId} {ds dd de : TD} {x : Operand} {l : List UInt8} {s : SK} (f : TyFacts P src ds) (hs : ds.sh = .slice e) (fe : TyFacts P e de) (he : de.sh = .int .u8) (g : TyFacts P dst dd) (hd : dd.sh = .str) (ho : o.op = .convert src dst x) (hx : opv T x = .seq l.length (l.flatMap cByte) s) :
  Does P B o T H (str l) H := by
 rw [cByte_map] at hx
 have := does_convert_bytes (B := B) (H := H) (s := s) f hs fe he g hd ho hx (by simp)
 rw [nums_str] at this
 exact this
theorem str_bytes (l : Str) : PV.seq (⟨l.toArray⟩ : ByteArray).size ((⟨l.toArray⟩ : ByteArray).data.toList.map fun b => byteP b.toNat) .any = sq cByte l := by
 unfold sq
 rw [str_size, cByte_map]
 simp [List.map_map]
section
variable {P : Program} {B : Nat → Nat → Prop} {n : Nat} {T : Nat → PV} {H : List Ob} {o : Oper} {l : List Oper} {x y : PV} {H' : List Ob} {p : Prop} {G : List (Nat × TD)} {all : Array Oper}
theorem Does.imp (h : Does P B o T H x H') (hi : Imp x y) : Does P B o T H y H' := by
 intro σ w a s k
 obtain ⟨v, w', σ', h1, h2, h3, h4⟩ := h σ w a s k
 exact ⟨v, w', σ', h1, hi _ _ h2, h3, h4⟩
theorem DoesC.imp (h : DoesC P B o T H x H') (hi : Imp x y) : DoesC P B o T H y H' := by
 intro σ w a s k
 obtain ⟨f, args, h1, h2⟩ := h σ w a s k
 refine ⟨f, args, h1, Calls.mono h2 ?_⟩
 rintro e w' ⟨v, σ', he, h3, h4⟩
 exact ⟨v, σ', he, hi _ _ h3, h4⟩
theorem Wv {K : (Nat → PV) → List Ob → Prop} {d : Option Tmp} (hG : tysOk P G = true) (hd : nfD n o.dst = some d) (hw : wantedA all T o = some true) (h : evN G T H o.type o.op = some (x, H', p)) (hp : p) (hi : Imp x y) (k : WO P B n all l (updD d y T) H' K) : WO P B n all (o :: l) T H K :=
 Wd hd hw ((evOp_ok hG rfl (evN_ok h) hp).imp hi) k
end
end Go.Proofs.YtobhnjnffnbbkaaGreatDoor
namespace Go.Proofs.YtobhnjnffnbbkaaGreatDoor
open Go.RowKit
def St : List (Nat × PV) → Nat → PV
 | [], _ => .any
 | (i, x) :: l, j => match Nat.beq j i with
  | true => x
  | false => St l j
def nm (b : Nat) (is : List Nat) (t : Nat) : Nat := match Nat.blt t b with
 | true => t
 | false => is.getD (t - b) 0
def unre1 (b : Nat) (is : List Nat) : PV → PV
 | .ptr i off => .ptr (nm b is i) off
 | x => x
def unre (b : Nat) (is : List Nat) : PV → PV
 | .ptr i off => .ptr (nm b is i) off
 | .arr i off n cap => .arr (nm b is i) off n cap
 | .arw i off n => .arw (nm b is i) off n
 | .seq n xs (.own t k) => .seq n xs (.own (nm b is t) k)
 | .fn f a c => .fn f (a.map (unre1 b is)) (c.map (unre1 b is))
 | x => x
def NL1 (N : Nat) : PV → Prop
 | .ptr i _ => i < N
 | x => Flat x
def NL1L (N : Nat) : List PV → Prop
 | [] => True
 | x :: xs => NL1 N x ∧ NL1L N xs
def NL (N : Nat) : PV → Prop
 | .ptr i _ => i < N
 | .arr i _ _ _ => i < N
 | .arw i _ _ => i < N
 | .seq _ xs (.own t _) => t < N ∧ FlatL xs
 | .fn _ a c => NL1L N a ∧ NL1L N c
 | x => Flat x
def NLs (N : Nat) : List (Nat × PV) → Prop
 | [] => True
 | (_, x) :: l => NL N x ∧ NLs N l
def NLo (b : Nat) : List Ob → Prop
 | [] => True
 | .cells xs _ :: l => NL1L b xs ∧ NLo b l
 | .smap _ xs :: l => NL1L b xs ∧ NLo b l
 | _ :: l => NLo b l
def ReBase : List Ob → List Ob → Prop
 | _, [] => True
 | [], _ :: _ => False
 | o :: H, o' :: Hb => (o' = o ∨ o' = .dead) ∧ ReBase H Hb
def ReX (H : List Ob) : List Nat → List Ob → Prop
 | [], [] => True
 | k :: is, o :: Hx => H[k]? = some o ∧ ReX H is Hx
 | _, _ => False
def Moved (Hb : List Ob) (b : Nat) : List Nat → Prop
 | [] => True
 | k :: is => (b ≤ k ∨ Hb[k]? = some .dead) ∧ Moved Hb b is
def SubL (b : Nat) (is : List Nat) (T : Nat → PV) : List (Nat × PV) → Prop
 | [] => True
 | (i, x) :: l => Imp (T i) (unre b is x) ∧ SubL b is T l
def reσ (b : Nat) (is : List Nat) (σ : Nat → Option Nat) : Nat → Option Nat := fun i => match Nat.blt i b with
 | true => σ i
 | false => match is[i - b]? with
  | some k => σ k
  | none => none
structure Re (H Hb Hx : List Ob) (is : List Nat) : Prop where
 base : ReBase H Hb
 extra : ReX H is Hx
 nodup : is.Nodup
 moved : Moved Hb Hb.length is
 cont : NLo Hb.length (Hb ++ Hx)
section
variable {P : Program} {B : Nat → Nat → Prop} {T : Nat → PV} {H Hb Hx : List Ob} {is : List Nat} {σ : Nat → Option Nat} {w : World}
theorem ReBase.get : ∀ {H Hb : List Ob} (_ : ReBase H Hb) {i : Nat} {o : Ob}, Hb[i]? = some o → H[i]? = some o ∨ o = .dead
 | _, [], _, i, o, h => by simp at h
 | [], _ :: _, r, _, _, _ => r.elim
 | x :: H, y :: Hb, r, 0, o, h => by
  simp at h; subst h
  rcases r.1 with h | h
  ·exact .inl (by simp [h])
  ·exact .inr h
 | x :: H, y :: Hb, r, i + 1, o, h => by simpa using ReBase.get r.2 (by simpa using h)
theorem ReBase.le : ∀ {H Hb : List Ob} (_ : ReBase H Hb), Hb.length ≤ H.length
 | _, [], _ => by simp
 | [], _ :: _, r => r.elim
 | x :: H, y :: Hb, r => by simpa using ReBase.le r.2
theorem ReX.len : ∀ {is : List Nat} {Hx : List Ob} (_ : ReX H is Hx), Hx.length = is.length
 | [], [], _ => rfl
 | k :: is, o :: Hx, r => by simpa using ReX.len r.2
 | [], _ :: _, r => r.elim
 | _ :: _, [], r => r.elim
theorem ReX.get : ∀ {is : List Nat} {Hx : List Ob} (_ : ReX H is Hx) {j : Nat} {o : Ob}, Hx[j]? = some o → ∃ k, is[j]? = some k ∧ H[k]? = some o
 | [], [], _, j, o, h => by simp at h
 | k :: is, x :: Hx, r, 0, o, h => by simp at h; subst h; exact ⟨k, rfl, r.1⟩
 | k :: is, x :: Hx, r, j + 1, o, h => by simpa using ReX.get r.2 (by simpa using h)
 | [], _ :: _, r, _, _, _ => r.elim
 | _ :: _, [], r, _, _, _ => r.elim
theorem Moved.get : ∀ {is : List Nat} {b : Nat} (_ : Moved Hb b is) {k : Nat}, k ∈ is → b ≤ k ∨ Hb[k]? = some .dead
 | [], _, _, k, h => by simp at h
 | x :: is, b, r, k, h => by
  rcases List.mem_cons.1 h with rfl | h
  ·exact r.1
  ·exact Moved.get r.2 h
theorem reσ_lt {b i : Nat} (h : i < b) : reσ b is σ i = σ i := by unfold reσ; rw [show Nat.blt i b = true from by rw [Nat.blt_eq]; exact h]
theorem reσ_ge {b j : Nat} : reσ b is σ (b + j) = match is[j]? with | some k => σ k | none => none := by
 unfold reσ
 rw [show Nat.blt (b + j) b = false from by rw [← Bool.not_eq_true, Nat.blt_eq]; omega]
 simp
theorem re_old (r : Re H Hb Hx is) {i : Nat} {o : Ob} (h : (Hb ++ Hx)[i]? = some o) (hl : o.live = true) :
  ∃ k, H[k]? = some o ∧ reσ Hb.length is σ i = σ k ∧ ((i < Hb.length ∧ k = i) ∨ ∃ j, i = Hb.length + j ∧ is[j]? = some k) := by
 rcases Nat.lt_or_ge i Hb.length with h1 | h1
 ·rw [List.getElem?_append_left h1] at h
  rcases r.base.get h with h2 | rfl
  ·exact ⟨i, h2, reσ_lt h1, .inl ⟨h1, rfl⟩⟩
  ·cases hl
 ·obtain ⟨j, rfl⟩ : ∃ j, i = Hb.length + j := ⟨i - Hb.length, by omega⟩
  rw [List.getElem?_append_right h1, Nat.add_sub_cancel_left] at h
  obtain ⟨k, h2, h3⟩ := r.extra.get h
  exact ⟨k, h3, by rw [reσ_ge, h2], .inr ⟨j, rfl, h2⟩⟩
theorem re_wr (r : Re H Hb Hx is) {b' off : Nat} (h : OwnWr (reσ Hb.length is σ) (Hb ++ Hx) b' off) : OwnWr σ H b' off := by
 obtain ⟨i, oi, h1, h2, h3⟩ := h
 have hl : oi.live = true := by cases oi <;> first | rfl | cases h3
 obtain ⟨k, h4, h5, _⟩ := re_old (σ := σ) r h1 hl
 exact ⟨k, oi, h4, by rw [← h5]; exact h2, h3⟩
theorem re_wrC (r : Re H Hb Hx is) : ∀ b' off, (cx B (Hb ++ Hx) (reσ Hb.length is σ) w).Wr b' off → (cx B H σ w).Wr b' off
 | _, _, .inl h => .inl h
 | _, _, .inr h => .inr (re_wr r h)
theorem re_name (r : Re H Hb Hx is) {i : Nat} (hi : i < (Hb ++ Hx).length) : reσ Hb.length is σ i = σ (nm Hb.length is i) := by
 unfold nm
 rcases Nat.lt_or_ge i Hb.length with h1 | h1
 ·rw [reσ_lt h1, show Nat.blt i Hb.length = true from by rw [Nat.blt_eq]; exact h1]
 ·obtain ⟨j, rfl⟩ : ∃ j, i = Hb.length + j := ⟨i - Hb.length, by omega⟩
  rw [reσ_ge, show Nat.blt (Hb.length + j) Hb.length = false from by rw [← Bool.not_eq_true, Nat.blt_eq]; omega]
  have hj : j < is.length := by rw [List.length_append, r.extra.len] at hi; omega
  simp [List.getD, hj]
theorem rep_re (r : Re H Hb Hx is) {x : PV} {v : Value} (hn : NL (Hb ++ Hx).length x) (h : Rep (cx B H σ w) (unre Hb.length is x) v) : Rep (cx B (Hb ++ Hx) (reσ Hb.length is σ) w) x v := by
 have flat : ∀ {x v}, Flat x → Rep (cx B H σ w) x v → Rep (cx B (Hb ++ Hx) (reσ Hb.length is σ) w) x v := fun hf hr => rep_flat (c := cx B H σ w) (c' := cx B (Hb ++ Hx) (reσ Hb.length is σ) w) rfl (re_wrC r) hf hr
 have ptr : ∀ {i off v}, i < (Hb ++ Hx).length → Rep (cx B H σ w) (.ptr (nm Hb.length is i) off) v → Rep (cx B (Hb ++ Hx) (reσ Hb.length is σ) w) (.ptr i off) v := by
  intro i off v hi hr
  unfold Rep at hr ⊢
  obtain ⟨_, b, h1, h2⟩ := hr
  exact ⟨hi, b, (re_name r hi).trans h1, h2⟩
 have one : ∀ {x v}, NL1 (Hb ++ Hx).length x → Rep (cx B H σ w) (unre1 Hb.length is x) v → Rep (cx B (Hb ++ Hx) (reσ Hb.length is σ) w) x v := by
  intro x v h1 h2
  cases x <;> first | exact ptr h1 h2 | exact flat h1 h2
 have oneL : ∀ {xs : List PV} {vs : List Value}, NL1L (Hb ++ Hx).length xs → RepL (cx B H σ w) (xs.map (unre1 Hb.length is)) vs → RepL (cx B (Hb ++ Hx) (reσ Hb.length is σ) w) xs vs := by
  intro xs
  induction xs with
  | nil => intro vs _ h2; rw [List.map_nil, repL_nil] at h2; exact repL_nil.2 h2
  | cons x xs ih =>
   intro vs h1 h2
   cases vs with
   | nil => rw [List.map_cons] at h2; unfold RepL at h2; obtain ⟨u, us, h3, _⟩ := h2; cases h3
   | cons v vs => rw [List.map_cons, repL_cons] at h2; exact repL_cons.2 ⟨one h1.1 h2.1, ih h1.2 h2.2⟩
 cases x with
 | ptr i off => exact ptr hn h
 | arr i off n cap =>
  unfold unre Rep at h
  unfold Rep
  obtain ⟨_, b, h1, h2⟩ := h
  exact ⟨hn, b, (re_name r hn).trans h1, h2⟩
 | arw i off n =>
  unfold unre Rep at h
  unfold Rep
  obtain ⟨_, b, cap, h1, h2⟩ := h
  exact ⟨hn, b, cap, (re_name r hn).trans h1, h2⟩
 | seq n xs s =>
  cases s with
  | own t k =>
   unfold unre Rep at h
   unfold Rep
   obtain ⟨a, cap, vs, h1, h2, h3, h4, h5, h6, h7, h8⟩ := h
   refine ⟨a, cap, vs, h1, h2, h3, repL_flat (c := cx B H σ w) (c' := cx B (Hb ++ Hx) (reσ Hb.length is σ) w) rfl (re_wrC r) hn.2 h4, fun b hb => (h5 b hb).imp (fun hl => ⟨hl.1, fun j u hj => ⟨(hl.2 j u hj).1, fun hw => (hl.2 j u hj).2 (re_wrC r _ _ hw)⟩⟩) id, hn.1, h7, ?_⟩
   rcases h8 with h8 | ⟨b, cs, e, h9, h10, h11⟩
   ·exact .inl h8
   ·exact .inr ⟨b, cs, e, (re_name r hn.1).trans h9, h10, h11⟩
  | any => exact flat hn h
  | clip => exact flat hn h
 | fn f a c =>
  unfold unre Rep at h
  unfold Rep
  obtain ⟨fs, cs, h1, h2, h3⟩ := h
  exact ⟨fs, cs, h1, oneL hn.1 h2, oneL hn.2 h3⟩
 | _ => exact flat hn h
theorem nlo_get : ∀ {l : List Ob} {b : Nat} (_ : NLo b l) {i : Nat} {xs : List PV} {e : TypeId}, l[i]? = some (.cells xs e) → NL1L b xs
 | [], _, _, i, xs, e, h => by simp at h
 | o :: l, b, hn, 0, xs, e, h => by simp at h; subst h; exact hn.1
 | .cells _ _ :: l, b, hn, i + 1, xs, e, h => nlo_get (l := l) hn.2 (by simpa using h)
 | .smap _ _ :: l, b, hn, i + 1, xs, e, h => nlo_get (l := l) hn.2 (by simpa using h)
 | .iter _ _ :: l, b, hn, i + 1, xs, e, h => nlo_get (l := l) hn (by simpa using h)
 | .free _ :: l, b, hn, i + 1, xs, e, h => nlo_get (l := l) hn (by simpa using h)
 | .dead :: l, b, hn, i + 1, xs, e, h => nlo_get (l := l) hn (by simpa using h)
 | .glob _ _ :: l, b, hn, i + 1, xs, e, h => nlo_get (l := l) hn (by simpa using h)
theorem nlo_getM : ∀ {l : List Ob} {b : Nat} (_ : NLo b l) {i : Nat} {ks : List MKey} {xs : List PV}, l[i]? = some (.smap ks xs) → NL1L b xs
 | [], _, _, i, xs, e, h => by simp at h
 | o :: l, b, hn, 0, xs, e, h => by simp at h; subst h; exact hn.1
 | .cells _ _ :: l, b, hn, i + 1, xs, e, h => nlo_getM (l := l) hn.2 (by simpa using h)
 | .smap _ _ :: l, b, hn, i + 1, xs, e, h => nlo_getM (l := l) hn.2 (by simpa using h)
 | .iter _ _ :: l, b, hn, i + 1, xs, e, h => nlo_getM (l := l) hn (by simpa using h)
 | .free _ :: l, b, hn, i + 1, xs, e, h => nlo_getM (l := l) hn (by simpa using h)
 | .dead :: l, b, hn, i + 1, xs, e, h => nlo_getM (l := l) hn (by simpa using h)
 | .glob _ _ :: l, b, hn, i + 1, xs, e, h => nlo_getM (l := l) hn (by simpa using h)
theorem unre1_low {b : Nat} : ∀ {xs : List PV}, NL1L b xs → xs.map (unre1 b is) = xs
 | [], _ => rfl
 | x :: xs, h => by
  rw [List.map_cons, unre1_low h.2]
  congr 1
  have h1 := h.1
  cases x <;> first | rfl | skip
  simp only [NL1] at h1
  simp only [unre1, nm]
  rw [show Nat.blt _ b = true from by rw [Nat.blt_eq]; exact h1]
theorem repL_re (r : Re H Hb Hx is) {xs : List PV} {vs : List Value} (hn : NL1L Hb.length xs) (h : RepL (cx B H σ w) xs vs) : RepL (cx B (Hb ++ Hx) (reσ Hb.length is σ) w) xs vs := by
 have h1 := unre1_low (is := is) hn
 have h2 : RepL (cx B H σ w) (xs.map (unre1 Hb.length is)) vs := by rw [h1]; exact h
 clear h h1
 induction xs generalizing vs with
 | nil => rw [List.map_nil, repL_nil] at h2; exact repL_nil.2 h2
 | cons x xs ih =>
  cases vs with
  | nil => rw [List.map_cons] at h2; unfold RepL at h2; obtain ⟨u, us, h3, _⟩ := h2; cases h3
  | cons v vs =>
   rw [List.map_cons, repL_cons] at h2
   refine repL_cons.2 ⟨?_, ih hn.2 h2.2⟩
   have hx := hn.1
   cases x <;> first
    | (refine rep_re (x := .ptr _ _) r ?_ h2.1; show _ < _; simp only [NL1] at hx; rw [List.length_append]; omega)
    | exact rep_flat (c := cx B H σ w) (c' := cx B (Hb ++ Hx) (reσ Hb.length is σ) w) rfl (re_wrC r) hx h2.1
theorem sim_re (r : Re H Hb Hx is) (s : Sim B H σ w) : Sim B (Hb ++ Hx) (reσ Hb.length is σ) w := by
 refine ⟨?_, ?_, s.base, ?_⟩
 ·intro i j b oi oj h1 h2 l1 l2 e1 e2
  obtain ⟨k, g1, g2, g3⟩ := re_old (σ := σ) r h1 l1
  obtain ⟨k', g1', g2', g3'⟩ := re_old (σ := σ) r h2 l2
  have hk := s.inj k k' b oi oj g1 g1' l1 l2 (g2 ▸ e1) (g2' ▸ e2)
  subst hk
  rcases g3 with ⟨g3, rfl⟩ | ⟨q, rfl, g3⟩ <;> rcases g3' with ⟨g3', rfl⟩ | ⟨q', rfl, g3'⟩
  ·rfl
  ·rcases r.moved.get (List.mem_of_getElem? g3') with g4 | g4
   ·omega
   ·rw [List.getElem?_append_left g3] at h1; rw [h1] at g4; cases g4; cases l1
  ·rcases r.moved.get (List.mem_of_getElem? g3) with g4 | g4
   ·omega
   ·rw [List.getElem?_append_left g3'] at h2; rw [h2] at g4; cases g4; cases l2
  ·have : q = q' := by
    have hq := (List.getElem?_eq_some_iff.1 g3).1
    exact (List.getElem?_inj hq r.nodup).1 (g3.trans g3'.symm)
   rw [this]
 ·intro i b oi h1 l1 e1 off
  obtain ⟨k, g1, g2, _⟩ := re_old (σ := σ) r h1 l1
  exact s.sep k b oi g1 l1 (g2 ▸ e1) off
 ·intro i oi h1
  cases oi with
  | dead => trivial
  | glob g u =>
   have key : ∃ k : Nat, H[k]? = some (Ob.glob g u) := by
    rcases Nat.lt_or_ge i Hb.length with h2 | h2
    ·rw [List.getElem?_append_left h2] at h1
     rcases r.base.get h1 with h3 | h3
     ·exact ⟨i, h3⟩
     ·cases h3
    ·rw [List.getElem?_append_right h2] at h1
     obtain ⟨k, _, h3⟩ := r.extra.get h1
     exact ⟨k, h3⟩
   obtain ⟨k, hk⟩ := key
   obtain ⟨q1, q2⟩ := s.holds k _ hk
   exact ⟨q1, fun q => q2 (re_wrC r _ _ q)⟩
  | cells xs e =>
   obtain ⟨k, g1, g2, _⟩ := re_old (σ := σ) r h1 rfl
   obtain ⟨b, vs, fr, h3, h4, h5, p, q, hpq, h6⟩ := s.holds k _ g1
   exact ⟨b, vs, fr, g2.trans h3, h4, h5, p, q, hpq, repL_re r (nlo_get r.cont h1) h6⟩
  | iter s2 pos =>
   obtain ⟨k, g1, g2, _⟩ := re_old (σ := σ) r h1 rfl
   obtain ⟨b, h3, h4⟩ := s.holds k _ g1
   exact ⟨b, g2.trans h3, h4⟩
  | smap ks ms =>
   obtain ⟨k, g1, g2, _⟩ := re_old (σ := σ) r h1 rfl
   obtain ⟨b, es, clk, h3, h4, h5, h6⟩ := s.holds k _ g1
   exact ⟨b, es, clk, g2.trans h3, h4, h5, repL_re r (nlo_getM r.cont h1) h6⟩
  | free m =>
   obtain ⟨k, g1, g2, _⟩ := re_old (σ := σ) r h1 rfl
   intro b hb
   exact s.holds k _ g1 b (by show σ k = some b; rw [← g2]; exact hb)
theorem step_re {H0 : List Ob} {σ0 : Nat → Option Nat} {w0 : World} (r : Re H Hb Hx is) (hb : H0.length = Hb.length) (st : Step B H0 σ0 w0 H σ w) : Step B H0 σ0 w0 (Hb ++ Hx) (reσ Hb.length is σ) w := by
 refine ⟨⟨by simp [cx]; omega, fun i hi => ?_, fun b off u h1 h2 => ?_, fun b es clk h1 h2 => ?_, st.le.shape⟩, st.os, st.tape, st.output, st.size, fun i oi b h1 h2 h3 => ?_, st.block⟩
 ·simp only [cx] at hi ⊢
  rw [reσ_lt (by omega)]
  exact st.le.σ i hi
 ·have := st.le.cell b off u h1 h2
  exact ⟨this.1, fun h => this.2 (re_wrC r _ _ h)⟩
 ·have := st.le.mapo b es clk h1 h2
  exact ⟨this.1, fun h => this.2 (re_wrC r _ _ h)⟩
 ·obtain ⟨k, g1, g2, _⟩ := re_old (σ := σ) r h1 h2
  exact st.new k oi b g1 h2 (g2 ▸ h3)
theorem st_rep (r : Re H Hb Hx is) {a : Act} (h : RepT (cx B H σ w) T a) : ∀ {l : List (Nat × PV)}, SubL Hb.length is T l → NLs (Hb ++ Hx).length l → RepT (cx B (Hb ++ Hx) (reσ Hb.length is σ) w) (St l) a
 | [], _, _ => fun i => by unfold St Rep; trivial
 | (i, x) :: l, hs, hn => fun j => by
  unfold St
  by_cases hj : j = i
  ·subst hj
   rw [show Nat.beq j j = true from Nat.beq_refl j]
   exact rep_re r hn.1 (hs.1 _ _ (h j))
  ·rw [show Nat.beq j i = false from by rw [← Bool.not_eq_true, Nat.beq_eq]; exact hj]
   exact st_rep r h hs.2 hn.2 j
variable {n : Nat} {Q : Exit → (Nat → PV) → List Ob → Prop}
structure Fits (b : Nat) (L : List (Nat × PV)) (Hb Hx : List Ob) (T : Nat → PV) (H : List Ob) (is : List Nat) : Prop where
 len : b = Hb.length
 re : Re H Hb Hx is
 sub : SubL Hb.length is T L
 low : NLs (Hb ++ Hx).length L
theorem W_loopS {α : Type} {c : Code} (L : α → List (Nat × PV)) (Hb Hx : α → List Ob) (Inv : α → Prop) (μ : α → Nat) (s0 : α) (i0 : Inv s0) (is0 : List Nat) (h0 : Fits H.length (L s0) (Hb s0) (Hx s0) T H is0)
  (round : ∀ s, Inv s → W P B n c (St (L s)) (Hb s ++ Hx s) (thenQ (fun T' H' => ∃ s' is, Inv s' ∧ μ s' < μ s ∧ Fits H.length (L s') (Hb s') (Hx s') T' H' is) Q)) : W P B n (.loop c) T H Q := by
 intro σ w a g
 have st0 : Step B H σ w (Hb s0 ++ Hx s0) (reσ (Hb s0).length is0 σ) w := step_re h0.re h0.len (Step.refl B H σ w)
 refine wp_loop_ix (fun m a' w' => ∃ s σ', Inv s ∧ μ s = m ∧ Good B n (St (L s)) (Hb s ++ Hx s) σ' w' a' ∧ Step B H σ w (Hb s ++ Hx s) σ' w') ?_ (μ s0) a w ⟨s0, _, i0, rfl, ⟨sim_re h0.re g.sim, st_rep h0.re g.rep h0.sub h0.low, g.size, g.defers⟩, st0⟩
 rintro m a' w' ⟨s, σ', hi, rfl, hg, hst⟩
 refine wp_mono (round s hi σ' w' a' hg) ?_
 rintro e a2 w2 ⟨T2, H2, σ2, k1, k2, k3⟩
 have k4 := hst.trans k3
 cases e with
 | normal =>
  obtain ⟨s', is, h1, h2, h3⟩ := k1
  exact ⟨μ s', h2, s', _, h1, rfl, ⟨sim_re h3.re k2.sim, st_rep h3.re k2.rep h3.sub h3.low, k2.size, k2.defers⟩, step_re h3.re h3.len k4⟩
 | exit id => exact ⟨T2, H2, σ2, k1, k2, k4⟩
 | goto l => exact ⟨T2, H2, σ2, k1, k2, k4⟩
 | ret => exact ⟨T2, H2, σ2, k1, k2, k4⟩
 | panic c => exact ⟨T2, H2, σ2, k1, k2, k4⟩
 | outgrown => exact ⟨T2, H2, σ2, k1, k2, k4⟩
theorem reBase_nil : ReBase H [] := by cases H <;> exact trivial
theorem rB {o o' : Ob} (h : o' = o ∨ o' = .dead) (k : ReBase H Hb) : ReBase (o :: H) (o' :: Hb) := ⟨h, k⟩
theorem reX_nil : ReX H [] [] := trivial
theorem rX {k : Nat} {o : Ob} (h : H[k]? = some o) (r : ReX H is Hx) : ReX H (k :: is) (o :: Hx) := ⟨h, r⟩
theorem moved_nil {b : Nat} : Moved Hb b [] := trivial
theorem mC {b k : Nat} (h : b ≤ k ∨ Hb[k]? = some .dead) (r : Moved Hb b is) : Moved Hb b (k :: is) := ⟨h, r⟩
theorem nlo_nil {b : Nat} : NLo b [] := trivial
theorem nlo_cells {b : Nat} {xs : List PV} {e : TypeId} {l : List Ob} (h : NL1L b xs) (k : NLo b l) : NLo b (.cells xs e :: l) := ⟨h, k⟩
theorem nlo_smap {b : Nat} {ks : List MKey} {xs : List PV} {l : List Ob} (h : NL1L b xs) (k : NLo b l) : NLo b (.smap ks xs :: l) := ⟨h, k⟩
theorem nO {b m : Nat} {l : List Ob} (k : NLo b l) : NLo b (.free m :: l) := k
theorem nlo_dead {b : Nat} {l : List Ob} (k : NLo b l) : NLo b (.dead :: l) := k
theorem subL_nil {b : Nat} : SubL b is T [] := trivial
theorem subL_cons {b i : Nat} {x : PV} {l : List (Nat × PV)} (h : Imp (T i) (unre b is x)) (k : SubL b is T l) : SubL b is T ((i, x) :: l) := ⟨h, k⟩
theorem nls_nil {N : Nat} : NLs N [] := trivial
theorem nls_cons {N i : Nat} {x : PV} {l : List (Nat × PV)} (h : NL N x) (k : NLs N l) : NLs N ((i, x) :: l) := ⟨h, k⟩
theorem fitT {b : Nat} {L : List (Nat × PV)} (sub : SubL Hb.length is T L := by repeat (first | exact subL_nil | refine subL_cons (by first | exact imp_of rfl | exact imp_seq _ _ _ | exact imp_of (congrArg i64 (by first | (rw [i64w]; unfold wrap64; omega) | omega | (simp; done)))) ?_)) (len : b = Hb.length := by exact rfl)
  (base : ReBase H Hb := by repeat (first | exact reBase_nil | refine rB (.inl rfl) ?_ | refine rB (.inr rfl) ?_)) (extra : ReX H is Hx := by repeat (first | exact reX_nil | refine rX rfl ?_ | refine rX (by refine congrArg (fun q => some (Ob.free q)) ?_; simp <;> omega) ?_)) (nodup : is.Nodup := by decide)
  (moved : Moved Hb Hb.length is := by repeat (first | exact moved_nil | refine mC (.inl (Nat.le_of_ble_eq_true rfl)) ?_ | refine mC (.inr rfl) ?_))
  (cont : NLo Hb.length (Hb ++ Hx) := by repeat (first | exact nlo_nil | exact nO nlo_nil | refine nlo_cells (by first | (refine nF ?_; simp; done) | (refine nF (flatL_map' ?_ _); intro x; simp; done) | (simp [NL1L, NL1]; done)) ?_ | refine nO ?_ | refine nlo_dead ?_ | refine nlo_iter ?_ | refine nlo_smap (by first | (refine nF ?_; simp; done) | (refine nF (flatL_map' ?_ _); intro x; simp; done) | (simp [NL1L, NL1]; done)) ?_))
  (low : NLs (Hb ++ Hx).length L := by repeat (first | exact nls_nil | refine nls_cons (by first | (refine nl_flat ?_; simp; done) | (show _ < _; first | decide | (simp; done)) | (refine ⟨?_, flatL_map' ?_ _⟩ <;> first | decide | (intro x; simp; done) | (simp; done)) | (refine ⟨?_, ?_⟩ <;> first | decide | (simp; done)) | (simp [NL, NL1L, NL1]; done)) ?_)) : Fits b L Hb Hx T H is :=
 ⟨len, ⟨base, extra, nodup, moved, cont⟩, sub, low⟩
theorem nl1_flat {N : Nat} {x : PV} (h : Flat x) : NL1 N x := by cases x <;> first | exact h | (unfold Flat at h; exact h.elim)
theorem nl_flat {N : Nat} {x : PV} (h : Flat x) : NL N x := by
 cases x <;> first | exact h | skip
 ·unfold Flat at h; exact h.elim
 ·rename_i n xs s
  cases s <;> first | exact h | (unfold Flat at h; rcases h.2 with h | h <;> cases h)
 ·unfold Flat at h; exact h.elim
 ·rename_i f a b
  unfold Flat at h
  have one : ∀ l : List PV, FlatL l → NL1L N l := by
   intro l
   induction l with
   | nil => intro _; exact trivial
   | cons x l ih => intro hl; unfold FlatL at hl; exact ⟨nl1_flat hl.1, ih hl.2⟩
  exact ⟨one _ h.1, one _ h.2⟩
 ·unfold Flat at h; exact h.elim
theorem nF {N : Nat} : ∀ {l : List PV}, FlatL l → NL1L N l
 | [], _ => trivial
 | x :: l, h => by unfold FlatL at h; exact ⟨nl1_flat h.1, nF h.2⟩
theorem flatL_map' {α : Type} {enc : α → List PV} (h : ∀ x, FlatL (enc x)) (l : List α) : FlatL (l.flatMap enc) := by
 have := flat_sq h l
 unfold sq at this
 unfold Flat at this
 exact this.1
theorem W_meet {x y : Code} (L : List (Nat × PV)) (Hb Hx : List Ob) (hx : W P B n x T H (thenQ (fun T1 H1 => ∃ is, Fits H.length L Hb Hx T1 H1 is) Q)) (hy : W P B n y (St L) (Hb ++ Hx) Q) : W P B n (x.seq y) T H Q := by
 intro σ w a g
 refine wp_seq (wp_mono (hx σ w a g) ?_)
 rintro e a' w' ⟨T', H', σ', h1, h2, h3⟩
 cases e with
 | normal =>
  obtain ⟨is, hf⟩ := h1
  exact wp_mono (hy _ w' a' ⟨sim_re hf.re h2.sim, st_rep hf.re h2.rep hf.sub hf.low, h2.size, h2.defers⟩) fun _ _ _ k => post_mono (step_re hf.re hf.len h3) (fun _ _ _ h => h) k
 | exit id => exact ⟨T', H', σ', h1, h2, h3⟩
 | goto l => exact ⟨T', H', σ', h1, h2, h3⟩
 | ret => exact ⟨T', H', σ', h1, h2, h3⟩
 | panic c => exact ⟨T', H', σ', h1, h2, h3⟩
 | outgrown => exact ⟨T', H', σ', h1, h2, h3⟩
end
end Go.Proofs.YtobhnjnffnbbkaaGreatDoor
namespace Go.Proofs.YtobhnjnffnbbkaaGreatDoor
open Go.RowKit
def MKey.like : MKey → MKey → Bool
 | .s _, .s _ => true
 | .n _, .n _ => true
 | _, _ => false
def MKey.kind : MKey → TypeDesc
 | .s _ => .string
 | .n _ => .int .i64
def keyPV : MKey → PV
 | .s k => .val (.string ⟨k.toArray⟩)
 | .n i => .val (.int .i64 i)
def mapOk (P : Program) (t e : TypeId) (key : MKey) : Bool := match P.underlying t with
 | some (.map k e') => match P.underlying k, key with
  | some .string, .s _ => Nat.beq e' e
  | some (.int .i64), .n _ => Nat.beq e' e
  | _, _ => false
 | _ => false
theorem mapOk_spec {P : Program} {t e : TypeId} {key : MKey} (h : mapOk P t e key = true) : ∃ k, P.underlying t = some (.map k e) ∧ P.underlying k = some key.kind := by
 unfold mapOk at h
 split at h
 ·rename_i k e' h1
  split at h
  ·rename_i h2
   rw [Nat.beq_eq] at h; subst h
   exact ⟨k, h1, h2⟩
  ·rename_i h2
   rw [Nat.beq_eq] at h; subst h
   exact ⟨k, h1, h2⟩
  ·cases h
 ·cases h
def lkPV : List MKey → List PV → MKey → PV → PV × Bool
 | k :: ks, x :: xs, key, z => if k = key then (x, true) else lkPV ks xs key z
 | _, _, _, z => (z, false)
theorem same_now {k key : MKey} (h : key.like k = true) : Instr.sameNow key.kind (keyV key) (keyV k) = some (decide (k = key)) := by
 cases key <;> cases k <;> cases h
 ·rename_i a b
  simp only [MKey.kind, keyV, Instr.sameNow, Option.some.injEq, MKey.s.injEq]
  by_cases hab : b = a
  ·subst hab
   have : ((⟨b.toArray⟩ : ByteArray) == ⟨b.toArray⟩) = true := by show (b.toArray == b.toArray) = true; simp
   simp [this]
  ·have : ((⟨a.toArray⟩ : ByteArray) == ⟨b.toArray⟩) = false := by
    show (a.toArray == b.toArray) = false
    rw [beq_eq_false_iff_ne]
    intro he
    exact hab (by simpa using he.symm)
   simp [hab, this]
 ·rename_i a b
  simp only [MKey.kind, keyV, Instr.sameNow, if_true, Option.some.injEq, MKey.n.injEq]
  by_cases hab : b = a
  ·subst hab; simp
  ·have : ¬ a = b := fun h => hab h.symm
   simp [hab, this]
def zeroOk (P : Program) (e : TypeId) (agg : Bool) : Bool := match (P.info? e).bind (·.zero) with
 | some (.agg _) => agg
 | some _ => !agg
 | none => false
def zeroPV (d : TD) : Option PV := match d.agg with
 | true => some (.agg d.zero)
 | false => d.zero[0]?
section
variable {P : Program} {B : Nat → Nat → Prop} {n : Nat} {o : Oper} {T : Nat → PV} {H : List Ob} {G : List (Nat × TD)} {all : Array Oper} {K : (Nat → PV) → List Ob → Prop} {Q : Exit → (Nat → PV) → List Ob → Prop}
theorem does_makeMap {t : TypeId} (ho : o.op = .makeMap t none) : Does P B o T H (.mapv H.length) (H ++ [.smap [] []]) := by
 intro σ w a s h
 have gr : Grows w (w.alloc (.map #[] 0)) := Grows.alloc _ _
 obtain ⟨s', st⟩ := grow_name s gr (.smap [] []) (some w.heap.size) (fun b hb => by cases hb; exact Nat.le_refl _) ⟨w.heap.size, #[], 0, by simp only [cx]; rw [ext_new], by show (w.heap.push _)[w.heap.size]? = _; simp, rfl, repL_nil.2 rfl⟩
 refine ⟨.map (some w.heap.size), _, _, .inl ?_, ?_, s', st⟩
 ·simp [execOp, ho, run_makeMap]
 ·unfold Rep; exact ⟨by simp [cx], w.heap.size, by simp only [cx]; rw [ext_new], rfl⟩
theorem findNow_keys {ks : List MKey} {key : MKey} : ∀ {es : List MapEntry} {i : Nat}, es.map (·.key) = ks.map keyV → ks.all key.like = true → key ∉ ks → Instr.findNow key.kind (keyV key) es i = some none := by
 induction ks with
 | nil => intro es i h _ _; cases es with
  | nil => rfl
  | cons e es => simp at h
 | cons k ks ih =>
  intro es i h hl hn
  cases es with
  | nil => simp at h
  | cons e es =>
   simp only [List.map_cons, List.cons.injEq] at h
   simp only [List.all_cons, Bool.and_eq_true] at hl
   have h1 : Instr.sameNow key.kind (keyV key) e.key = some false := by
    rw [h.1, same_now hl.1]
    simp only [Option.some.injEq, decide_eq_false_iff_not]
    rintro rfl; exact hn (by simp)
   simp only [Instr.findNow, h1]
   exact ih h.2 hl.2 (fun hk => hn (List.mem_cons_of_mem _ hk))
theorem findNow_lk {c : Cx} {key : MKey} {z : PV} : ∀ {ks : List MKey} {xs : List PV} {es : List MapEntry} {i : Nat}, es.map (·.key) = ks.map keyV → ks.all key.like = true → RepL c xs (es.map (·.val)) →
  (∃ j v, Instr.findNow key.kind (keyV key) es i = some (some (j, v)) ∧ (lkPV ks xs key z).2 = true ∧ Rep c (lkPV ks xs key z).1 v) ∨ (Instr.findNow key.kind (keyV key) es i = some none ∧ lkPV ks xs key z = (z, false))
 | [], xs, es, i, h1, _, h2 => by
  cases es with
  | nil => exact .inr ⟨rfl, by unfold lkPV; rfl⟩
  | cons e es => simp at h1
 | k :: ks, xs, [], i, h1, _, h2 => by simp at h1
 | k :: ks, [], e :: es, i, h1, _, h2 => by rw [List.map_cons] at h2; rw [repL_nil] at h2; cases h2
 | k :: ks, x :: xs, e :: es, i, h1, hl, h2 => by
  simp only [List.map_cons, List.cons.injEq] at h1
  simp only [List.all_cons, Bool.and_eq_true] at hl
  rw [List.map_cons, repL_cons] at h2
  have hs : Instr.sameNow key.kind (keyV key) e.key = some (decide (k = key)) := by rw [h1.1]; exact same_now hl.1
  by_cases hk : k = key
  ·refine .inl ⟨i, e.val, ?_, by simp [lkPV, hk], by simpa [lkPV, hk] using h2.1⟩
   rw [decide_eq_true hk] at hs
   simp only [Instr.findNow, hs]
  ·rw [decide_eq_false hk] at hs
   have e1 : Instr.findNow key.kind (keyV key) (e :: es) i = Instr.findNow key.kind (keyV key) es (i + 1) := by
    simp only [Instr.findNow, hs]
   rw [e1]
   simp only [lkPV, if_neg hk]
   exact findNow_lk h1.2 hl.2 h2.2
theorem run_checkKey' (n : Nat) (key : MKey) {kt : TypeId} (h : P.underlying kt = some key.kind) (b : Bool) (w : World) : (Instr.checkKey b (n + 1) kt (keyV key)).run P w = .ok () w := by
 cases key <;> simp [Instr.checkKey, run_underlying h, MKey.kind, keyV]
theorem run_checkKey (key : MKey) {kt : TypeId} (h : P.underlying kt = some key.kind) (b : Bool) (w : World) : (Instr.checkKey b 10000 kt (keyV key)).run P w = .ok () w := run_checkKey' 9999 key h b w
theorem set_map {σ : Nat → Option Nat} {w : World} (s : Sim B H σ w) {i b : Nat} {ks ks' : List MKey} {xs xs' : List PV} (hi : H[i]? = some (.smap ks xs)) (hb : σ i = some b) {es es' : Array MapEntry} {clk clk' : Nat} (hv : w.heap[b]? = some (Obj.map es clk))
  (hk : es'.toList.map (·.key) = ks'.map keyV) (hr : RepL (cx B H σ w) xs' (es'.toList.map (·.val))) :
  Sim B (H.set i (.smap ks' xs')) σ { w with heap := w.heap.setIfInBounds b (.map es' clk') } ∧ Step B H σ w (H.set i (.smap ks' xs')) σ { w with heap := w.heap.setIfInBounds b (.map es' clk') } := by
 have hlen := lt_of_get hi
 have hbl := (Array.getElem?_eq_some_iff.1 hv).1
 have other : ∀ x, x ≠ b → (w.heap.setIfInBounds b (.map es' clk'))[x]? = w.heap[x]? := fun x hx => Array.getElem?_setIfInBounds_ne (Ne.symm hx)
 have same : (w.heap.setIfInBounds b (.map es' clk'))[b]? = some (.map es' clk') := by simp [hbl]
 have get : ∀ j o, (H.set i (.smap ks' xs'))[j]? = some o → (j = i ∧ o = .smap ks' xs') ∨ (j ≠ i ∧ H[j]? = some o) := fun j o h => get_set hlen h
 have own : ∀ x off, OwnWr σ (H.set i (.smap ks' xs')) x off → OwnWr σ H x off := by
  rintro x off ⟨j, o, h1, h2, h3⟩
  rcases get j o h1 with ⟨rfl, rfl⟩ | ⟨_, h4⟩
  ·exact ⟨j, _, hi, h2, trivial⟩
  ·exact ⟨j, o, h4, h2, h3⟩
 have wr : ∀ off, OwnWr σ H b off := fun off => ⟨i, _, hi, hb, trivial⟩
 have le : (cx B H σ w).Le (cx B (H.set i (.smap ks' xs')) σ { w with heap := w.heap.setIfInBounds b (.map es' clk') }) := by
  refine ⟨by simp [cx], fun _ _ => rfl, fun x off u h1 h2 => ⟨?_, fun h => h1 (h.imp id (own x off))⟩, fun x e2 c2 h1 h2 => ⟨?_, fun h => h1 (h.imp id (own x 0))⟩, fun x cs t fr h1 => ⟨cs, ?_, rfl⟩⟩
  ·have hx : x ≠ b := fun hx => h1 (.inr (hx ▸ wr off))
   exact (World.cell?_of_block (w := w) (w' := { w with heap := w.heap.setIfInBounds b (.map es' clk') }) (a := ⟨x, off, none⟩) (other x hx)).trans h2
  ·have hx : x ≠ b := fun hx => h1 (.inr (hx ▸ wr 0))
   exact (other x hx).trans h2
  ·have hx : x ≠ b := by rintro rfl; simp only [cx] at h1; rw [hv] at h1; cases h1
   exact (other x hx).trans h1
 refine ⟨⟨?_, ?_, fun x off h => by simpa using s.base x off h, ?_⟩, ⟨le, rfl, rfl, rfl, by simp, ?_, ?_⟩⟩
 ·intro j k x oj ok h1 h2 l1 l2 e1 e2
  rcases get j oj h1 with ⟨rfl, rfl⟩ | ⟨_, h3⟩ <;> rcases get k ok h2 with ⟨rfl, rfl⟩ | ⟨_, h4⟩
  ·rfl
  ·exact s.inj _ _ x _ _ hi h4 rfl l2 e1 e2
  ·exact s.inj _ _ x _ _ h3 hi l1 rfl e1 e2
  ·exact s.inj _ _ x _ _ h3 h4 l1 l2 e1 e2
 ·intro j x oj h1 l1 e1 off
  rcases get j oj h1 with ⟨rfl, rfl⟩ | ⟨_, h3⟩
  ·exact s.sep _ x _ hi rfl e1 off
  ·exact s.sep _ x _ h3 l1 e1 off
 ·intro j oj h1
  rcases get j oj h1 with ⟨rfl, rfl⟩ | ⟨hj, h3⟩
  ·exact ⟨b, es', clk', hb, same, hk, RepL.mono le hr⟩
  ·have k := s.holds j oj h3
   cases oj with
   | cells zs t =>
    obtain ⟨x, ws, fr', h5, h6, hf, h7⟩ := k
    have hx : x ≠ b := fun hx => hj (s.inj j i b _ _ h3 hi rfl rfl (hx ▸ h5) hb)
    exact ⟨x, ws, fr', h5, (other x hx).trans h6, hf, h7.mono le⟩
   | iter s2 pos =>
    obtain ⟨x, h5, h6⟩ := k
    have hx : x ≠ b := fun hx => hj (s.inj j i b _ _ h3 hi rfl rfl (hx ▸ h5) hb)
    exact ⟨x, h5, (other x hx).trans h6⟩
   | smap ks2 ms =>
    obtain ⟨x, e2, c2, h5, h6, h7, h8⟩ := k
    have hx : x ≠ b := fun hx => hj (s.inj j i b _ _ h3 hi rfl rfl (hx ▸ h5) hb)
    exact ⟨x, e2, c2, h5, (other x hx).trans h6, h7, RepL.mono le h8⟩
   | free m =>
    intro x hx
    obtain ⟨cs, t, h5, h6⟩ := k x hx
    have hne : x ≠ b := fun h => hj (s.inj j i b _ _ h3 hi rfl rfl (h ▸ hx) hb)
    exact ⟨cs, t, (other x hne).trans h5, h6⟩
   | dead => trivial
   | glob g u => obtain ⟨q1, q2⟩ := k; exact le.cell g 0 u q2 q1
 ·intro j oj x h1 h2 h3
  rcases get j oj h1 with ⟨rfl, rfl⟩ | ⟨_, h4⟩
  ·exact .inr ⟨_, _, hi, rfl, h3⟩
  ·exact .inr ⟨j, oj, h4, h2, h3⟩
 ·intro x hx hn
  exact other x (fun h => hn i _ hi rfl (h ▸ hb))
theorem dI {t e : TypeId} {m k x : Operand} {i : Nat} {ks : List MKey} {xs : List PV} {key : MKey} (ht : mapOk P t e key = true) (ho : o.op = .insert t m k x) (hm : opv T m = .mapv i) (hi : H[i]? = some (.smap ks xs)) (hk : opv T k = keyPV key) (hn : (ks.all key.like && !(ks.contains key)) = true) :
  Does P B o T H (.val undef) (H.set i (.smap (ks ++ [key]) (xs ++ [opv T x]))) := by
 intro σ w a s h
 obtain ⟨kt, h1, h2⟩ := mapOk_spec ht
 have k1 := h m (by simp [ho, Op.operands])
 have k2 := h k (by simp [ho, Op.operands])
 have k3 := h x (by simp [ho, Op.operands])
 rw [hm] at k1
 rw [hk] at k2
 unfold Rep at k1
 have k2 : a.eval k = keyV key := by cases key <;> (unfold keyPV Rep at k2; exact k2)
 obtain ⟨_, b, hb, hv⟩ := k1
 obtain ⟨b', es, clk, hb', hg, hks, hxs⟩ := s.holds i _ hi
 simp only [cx] at hb hb' hg
 rw [hb] at hb'
 cases hb'
 simp only [Bool.and_eq_true, Bool.not_eq_true', List.contains_eq_mem, decide_eq_false_iff_not] at hn
 have hf := findNow_keys (i := 0) hks hn.1 hn.2
 obtain ⟨s', st⟩ := set_map s (es' := es.push { key := keyV key, val := a.eval x, born := clk }) (clk' := clk + 1) hi hb hg (ks' := ks ++ [key]) (xs' := xs ++ [opv T x]) (by simp [hks]) (by
  rw [Array.toList_push, List.map_append]
  exact hxs.append (repL_cons.2 ⟨k3, repL_nil.2 rfl⟩))
 refine ⟨undef, _, σ, .inr ⟨?_, rfl⟩, rep_val _ _, s', st⟩
 simp only [execOp, ho, hv, k2]
 simp [Instr.mapUpdate, run_underlying h1, run_checkKey key h2, run_underlying h2, Instr.findKey, hf, getObj, setObj, Sem.run, hg]
theorem does_lookup {t e : TypeId} {de : TD} {m k : Operand} {b : Bool} {ks : List MKey} {xs : List PV} {key : MKey} {z y : PV} {q : Bool} (ht : mapOk P t e key = true) (fe : TyFacts P e de) (hzo : zeroOk P e de.agg = true) (hz : zeroPV de = some z) (ho : o.op = .lookup t m k b) (hm : opv T m = .smap ks xs) (hk : opv T k = keyPV key) (hkl : ks.all key.like = true) (hl : lkPV ks xs key z = (y, q)) :
  Does P B o T H (match b with | true => .tup [y, .val (.bool q)] | false => y) H :=
 does_pure fun σ w a s h => by
  obtain ⟨kt, h1, h2⟩ := mapOk_spec ht
  have k1 := h m (by simp [ho, Op.operands])
  have k2 := h k (by simp [ho, Op.operands])
  rw [hm] at k1
  rw [hk] at k2
  unfold Rep at k1
  have k2 : a.eval k = keyV key := by cases key <;> (unfold keyPV Rep at k2; exact k2)
  obtain ⟨r, es, clk, hv, hg, _, hks, hxs⟩ := k1
  simp only [cx] at hg
  obtain ⟨i, zv, hi, _, _, hzv, hzr⟩ := fe.info
  have zrep : Rep (cx B H σ w) z zv := by
   have hz1 := hzr (cx B H σ w)
   have hz2 : (P.info? e).bind (·.zero) = some zv := by rw [hi]; exact hzv
   unfold zeroOk at hzo
   rw [hz2] at hzo
   unfold zeroPV at hz
   cases hag : de.agg with
   | true =>
    rw [hag] at hz hzo
    simp only [Option.some.injEq] at hz
    subst hz
    cases zv <;> first | (simp at hzo; done) | skip
    rename_i cs
    unfold Rep
    exact ⟨cs.toList, by simp, by simpa [Value.cells] using hz1⟩
   | false =>
    rw [hag] at hz hzo
    simp only at hz
    cases zv <;> first | (simp at hzo; done) | (
     simp only [Value.cells] at hz1
     obtain ⟨u, hu, hr⟩ := hz1.get hz
     simp only [List.getElem?_cons_zero, Option.some.injEq] at hu
     subst hu
     exact hr)
  have fin : ∀ v, Rep (cx B H σ w) y v → Rep (cx B H σ w) (match b with | true => .tup [y, .val (.bool q)] | false => y) (if b then .tuple #[v, .bool q] else v) := by
   intro v hv
   cases b with
   | true => show Rep _ (.tup _) _; unfold Rep; exact ⟨[v, .bool q], rfl, repL_cons.2 ⟨hv, repL_cons.2 ⟨rep_val _ _, repL_nil.2 rfl⟩⟩⟩
   | false => exact hv
  rcases findNow_lk (i := 0) (z := z) (key := key) hks hkl hxs with ⟨j, v, h3, h4, h5⟩ | ⟨h3, h4⟩
  ·rw [hl] at h4 h5
   simp only at h4 h5
   subst h4
   refine ⟨_, ?_, fin v h5⟩
   simp only [execOp, ho, hv, k2]
   simp [Instr.lookup, run_underlying h1, run_checkKey key h2, run_underlying h2, Instr.findKey, h3, getObj, Sem.run, hg]
  ·rw [hl] at h4
   cases h4
   refine ⟨_, ?_, fin zv zrep⟩
   simp only [execOp, ho, hv, k2]
   simp [Instr.lookup, run_underlying h1, run_checkKey key h2, run_underlying h2, Instr.findKey, h3, getObj, Sem.run, hg, zeroValue, typeInfo, hi, hzv]
theorem freezeP_good {σ : Nat → Option Nat} {w : World} {a : Act} (g : Good B n T H σ w a) {d i : Nat} {xs : List PV} {e : TypeId} (hT : T d = .ptr i 0) (hi : H[i]? = some (.cells xs e)) :
  Good B n (upd d (.row xs) T) (H.set i .dead) σ w a ∧ Step B H σ w (H.set i .dead) σ w := by
 obtain ⟨s', st⟩ := drop_name g.sim hi
 refine ⟨⟨s', fun j => ?_, g.size, g.defers⟩, st⟩
 by_cases hj : j = d
 ·subst hj
  rw [upd_same]
  have h1 := g.rep j
  rw [hT] at h1
  unfold Rep at h1
  obtain ⟨_, b, hb, hv⟩ := h1
  obtain ⟨b', vs, fr, hb', hg, _, p, q, rfl, hp⟩ := g.sim.holds i _ hi
  simp only [cx] at hb hb' hg
  rw [hb] at hb'
  cases hb'
  rw [hv]
  unfold Rep
  refine ⟨_, p, rfl, RepL.mono st.le hp, rfl, fun j' u hu => ⟨?_, ?_⟩⟩
  ·show w.cell? ⟨b, 0 + j', none⟩ = some u
   rw [Nat.zero_add, cell_of_heap hg]; exact get_left hu
  ·rintro (h2 | ⟨k, ok, h2, h3, h4⟩)
   ·exact g.sim.sep i b _ hi rfl hb _ h2
   ·have hlk : ok.live = true := by cases ok <;> first | rfl | cases h4
    by_cases hki : k = i
    ·subst hki
     rw [List.getElem?_set_self (lt_of_get hi)] at h2; cases h2; cases h4
    ·rw [List.getElem?_set_ne (Ne.symm hki)] at h2
     exact hki (g.sim.inj k i b _ _ h2 hi hlk rfl h3 hb)
 ·rw [upd_other _ _ _ _ hj]; exact (g.rep j).mono st.le
theorem freezeM_good {σ : Nat → Option Nat} {w : World} {a : Act} (g : Good B n T H σ w a) {d i : Nat} {ks : List MKey} {xs : List PV} (hT : T d = .mapv i) (hi : H[i]? = some (.smap ks xs)) :
  Good B n (upd d (.smap ks xs) T) (H.set i .dead) σ w a ∧ Step B H σ w (H.set i .dead) σ w := by
 obtain ⟨s', st⟩ := drop_name g.sim hi
 refine ⟨⟨s', fun j => ?_, g.size, g.defers⟩, st⟩
 by_cases hj : j = d
 ·subst hj
  rw [upd_same]
  have h1 := g.rep j
  rw [hT] at h1
  unfold Rep at h1
  obtain ⟨_, b, hb, hv⟩ := h1
  obtain ⟨b', es, clk, hb', hg, hk, hp⟩ := g.sim.holds i _ hi
  simp only [cx] at hb hb' hg
  rw [hb] at hb'
  cases hb'
  rw [hv]
  unfold Rep
  refine ⟨b, es, clk, rfl, hg, ?_, hk, RepL.mono st.le hp⟩
  rintro (h2 | ⟨k, ok, h2, h3, h4⟩)
  ·exact g.sim.sep i b _ hi rfl hb _ h2
  ·have hlk : ok.live = true := by cases ok <;> first | rfl | cases h4
   by_cases hki : k = i
   ·subst hki
    rw [List.getElem?_set_self (lt_of_get hi)] at h2; cases h2; cases h4
   ·rw [List.getElem?_set_ne (Ne.symm hki)] at h2
    exact hki (g.sim.inj k i b _ _ h2 hi hlk rfl h3 hb)
 ·rw [upd_other _ _ _ _ hj]; exact (g.rep j).mono st.le
theorem WO_freezeP {l : List Oper} (d i : Nat) {xs : List PV} {e : TypeId} {H' : List Ob} (hT : T d = .ptr i 0) (hi : H[i]? = some (.cells xs e)) (hH : nfH (H.set i .dead) = some H') (h1 : WO P B n all l (upd d (.row xs) T) H' K) : WO P B n all l T H K := by
 rw [nfH_eq hH] at h1
 intro hall σ w a g
 obtain ⟨g', st⟩ := freezeP_good g hT hi
 exact wpL_mono (fun _ _ _ h => post_mono st (fun _ _ _ h => h) h) _ _ _ (h1 hall σ w a g')
theorem WO_freezeM {l : List Oper} (d i : Nat) {ks : List MKey} {xs : List PV} {H' : List Ob} (hT : T d = .mapv i) (hi : H[i]? = some (.smap ks xs)) (hH : nfH (H.set i .dead) = some H') (h1 : WO P B n all l (upd d (.smap ks xs) T) H' K) : WO P B n all l T H K := by
 rw [nfH_eq hH] at h1
 intro hall σ w a g
 obtain ⟨g', st⟩ := freezeM_good g hT hi
 exact wpL_mono (fun _ _ _ h => post_mono st (fun _ _ _ h => h) h) _ _ _ (h1 hall σ w a g')
def WR (P : Program) (B : Nat → Nat → Prop) (n : Nat) (c : Code) (Q : Exit → (Nat → PV) → List Ob → Prop) : Nat → (Nat → PV) → List Ob → Prop
 | 0, _, _ => False
 | m + 1, T, H => W P B n c T H (thenQ (fun T' H' => WR P B n c Q m T' H') Q)
theorem WR_sound {c : Code} {H0 : List Ob} {σ0 : Nat → Option Nat} {w0 : World} : ∀ (m : Nat) {T : Nat → PV} {H : List Ob} {σ : Nat → Option Nat} {w : World} {a : Act}, WR P B n c Q m T H → Good B n T H σ w a → Step B H0 σ0 w0 H σ w → Code.rounds P c (Post B n H0 σ0 w0 Q) m a w
 | 0, _, _, _, _, _, h, _, _ => h.elim
 | m + 1, T, H, σ, w, a, h, g, st => by
  rw [rounds_succ]
  refine wp_mono (h σ w a g) ?_
  rintro e a' w' ⟨T', H', σ', h1, h2, h3⟩
  cases e with
  | normal => exact WR_sound m h1 h2 (st.trans h3)
  | exit id => exact ⟨T', H', σ', h1, h2, st.trans h3⟩
  | goto l => exact ⟨T', H', σ', h1, h2, st.trans h3⟩
  | ret => exact ⟨T', H', σ', h1, h2, st.trans h3⟩
  | panic ch => exact ⟨T', H', σ', h1, h2, st.trans h3⟩
  | outgrown => exact ⟨T', H', σ', h1, h2, st.trans h3⟩
theorem W_rounds {c : Code} (m : Nat) (h : WR P B n c Q m T H) : W P B n (.loop c) T H Q := fun σ w a g => wp_loop_rounds m (WR_sound m h g (Step.refl _ _ _ _))
def Callable (P : Program) (f : FuncId) (args : List PV) (H : List Ob) (res : PV) (H' : List Ob) : Prop :=
 (∃ fn, P.funcs[f]? = some fn ∧ fn.body.isNone = false ∧ (fn.name == "runtime.NumGoroutine") = false) ∧ HC P f args H res H'
theorem doesCWs {f : FuncId} {x : Operand} {first cap : List PV} {args : Array Operand} {ats : Array TypeId} {res : PV} {H' : List Ob} (ho : o.op = .call { callee := .value x, args := args, argTypes := ats }) (hx : opv T x = .fn (.func f) first cap)
  (h : Callable P f (first ++ (args.toList.map fun y => wk (opv T y)) ++ cap) H res H') : DoesC P B o T H res H' := by
 obtain ⟨⟨fn, h1, h2, h3⟩, h4⟩ := h
 exact doesCWv ho hx h1 h2 h3 h4
end
end Go.Proofs.YtobhnjnffnbbkaaGreatDoor
namespace Go.Proofs.YtobhnjnffnbbkaaGreatDoor
open Go.RowKit
section
variable {P : Program} {B : Nat → Nat → Prop} {n : Nat} {H : List Ob} {md : Region.Mode} {ops : Array Oper} {k : Nat}
theorem zip_get {α : Type} {l : List α} {j : Nat} {x : α} (h : l[j]? = some x) : (x, j) ∈ l.zipIdx := by
 rw [List.mem_zipIdx_iff_getElem?]; exact h
variable {T : Nat → PV} {Q : Exit → (Nat → PV) → List Ob → Prop}
end
section
variable {P : Program} {B : Nat → Nat → Prop} {n : Nat} {all : Array Oper} {K : (Nat → PV) → List Ob → Prop} {H : List Ob} {T : Nat → PV} {o : Oper}
theorem WO_nilS {l : List Oper} {d : Option Tmp} {t yt : TypeId} {td : TD} {e : Nat} {x : Operand} {q : Nat} {xs : List PV} {s : SK} (f : TyFacts P t td) (htd : td.sh = .slice e) (hd : nfD n o.dst = some d) (hw : wantedA all T o = some true) (ho : o.op = .binOp .eql t x (.const (.slice none 0 0)) yt) (hx : opv T x = .seq q xs s)
  (k : ∀ b, (b = true → q = 0 ∧ xs = []) → WO P B n all l (updD d (.val (.bool b)) T) H K) : WO P B n all (o :: l) T H K := by
 obtain ⟨rfl, hd0⟩ := nfD_eq hd
 intro hall σ w a g
 have k1 := rep_opv g.rep x
 rw [hx] at k1
 obtain ⟨ad, cap, vs, hv, hle, hnil, hrl, hlies, hk⟩ := rep_seq k1
 have hb : ad.isNone = true → q = 0 ∧ xs = [] := fun h => by
  have h1 := hnil (by simpa using h)
  exact ⟨h1.1, List.eq_nil_of_length_eq_zero (by rw [← RepL.length hrl, h1.2.2]; rfl)⟩
 have hr : (execOp a.eval o).run P w = .ok (.value (.bool ad.isNone)) w := by
  have hc : a.eval (.const (.slice none 0 0)) = .slice none 0 0 := rfl
  have hq : (Op.equal t (.slice ad q cap) (.slice none 0 0)).run P w = .ok ad.isNone w := by
   unfold Op.equal
   cases hm : Op.maxDepth with
   | zero => exact absurd hm (by decide)
   | succ m => cases ad <;> simp [Op.equalIn, run_underlying (f.slice htd)]
  simp [execOp, ho, hv, hc, eqGuard, binOp, hq]
 simp only [wpL]
 rw [if_pos (guard_ok (dstsOk_spec hall) g hw)]
 unfold Oper.wp
 rw [hr]
 exact k _ hb hall σ w _ (good_put (dOk_spec hd0) g (rep_val _ _) g.sim (Step.refl _ _ _ _))
theorem sq_none {α : Type} (enc : α → List PV) {l : List α} {s : SK} : PV.seq (0 + l.length) ([] ++ l.flatMap enc) s = .seq l.length (l.flatMap enc) s := by simp
def sqc {α : Type} (enc : α → List PV) (l : List α) : PV := .seq l.length (l.flatMap enc) .clip
theorem flat_sqc {α : Type} {enc : α → List PV} (h : ∀ x, FlatL (enc x)) (l : List α) : Flat (sqc enc l) := by
 have := flat_sq h l
 unfold sq Flat at this
 unfold sqc Flat
 exact ⟨this.1, .inr rfl⟩
theorem nilS {α : Type} {enc : α → List PV} {l : List α} (h : l.length = 0 ∧ l.flatMap enc = []) : PV.seq 0 [] .any = sq enc l := by
 have : l = [] := List.eq_nil_of_length_eq_zero h.1
 subst this; rfl
theorem imp_arr_arw {i off m cap : Nat} (h : m ≤ cap) : Imp (.arr i off m cap) (.arw i off m) := by
 intro c v hr
 unfold Rep at hr ⊢
 obtain ⟨h1, b, h2, h3⟩ := hr
 exact ⟨h1, b, cap, h2, h, h3⟩
theorem does_append_fresh {t tx e : TypeId} {d de dx : TD} {x y : Operand} {q m : Nat} {xs ys : List PV} (f : TyFacts P t d) (hd : d.sh = .slice e) (fe : TyFacts P e de) (fx : TyFacts P tx dx)
  (ho : o.op = .call { callee := .builtin .append, args := #[x, y], argTypes := #[t, tx] }) (hx : opv T x = .seq q xs .clip) (ht : SrcTy dx (opv T y)) (hy : SrcPV de.size (opv T y) m ys) (hl : xs.length = q * de.size)
  (hb : (q + m) * de.bytes ≤ 140737488355328) (h63 : q + m ≤ 9223372036854775807) (hm : 0 < m) :
  Does P B o T H (.arw H.length 0 (q + m)) (H ++ [.cells (xs ++ ys) e]) := by
 intro σ w a s h
 have k1 := h x (by simp [ho, Op.operands, Call.operands])
 have k2 := h y (by simp [ho, Op.operands, Call.operands])
 rw [hx] at k1
 obtain ⟨ad, cap, vs, hv, hle, hnil, hrl, hlies, hk⟩ := rep_seq k1
 have hcap : cap = q := hk
 subst hcap
 obtain ⟨news, hnr, hsrc⟩ := src_ty fx ht hy k2
 obtain ⟨i, z, hi, hsz, hby, hz, hzr⟩ := fe.info
 rw [← hsz] at hsrc
 have hsrc' : Src P i.size tx (a.eval y) m news w := hsrc
 have hvl : vs.length = cap * i.size := by rw [RepL.length hrl, hsz]; exact hl
 have hr := append_new (P := P) (w := w) t tx o.type e i z (f.slice hd) hi hz ad cap cap vs hvl (fun h0 => (hnil h0).1) (fun b hb j v hj => by
  have hl2 := (hlies b hb).resolve_right (by rintro ⟨_, h3⟩; rw [h3] at hj; simp at hj)
  rw [lies_addr hl2, Addr.add_lit]; exact (hl2.2 j v hj).1) _ m news hsrc' (by omega) (by rw [hby]; exact hb) h63
 have gr : Grows w (w.drew.alloc (.cells ((vs ++ news).toArray ++ Builtin.zeroCells z.cells (grownCap w (cap + m) cap e - (cap + m))) e)) := (Grows.drew w).trans (Grows.alloc _ _)
 have hheap : (w.drew.alloc (.cells ((vs ++ news).toArray ++ Builtin.zeroCells z.cells (grownCap w (cap + m) cap e - (cap + m))) e)).heap[w.heap.size]? = some (Obj.cells ((vs ++ news) ++ (Builtin.zeroCells z.cells (grownCap w (cap + m) cap e - (cap + m))).toList).toArray e (0, 0)) := by
  show (w.heap.push _)[w.heap.size]? = _; simp
 obtain ⟨s0, st0⟩ := grow_sim s gr
 obtain ⟨s', st⟩ := grow_name s gr (.cells (xs ++ ys) e) (some w.heap.size) (fun b hb => by cases hb; exact Nat.le_refl _) (by
  refine ⟨w.heap.size, _, (0, 0), ext_new _ _ _, hheap, .inl rfl, ?_⟩
  refine ⟨vs ++ news, _, rfl, ?_⟩
  refine RepL.mono ?_ (hrl.append hnr)
  refine ⟨by simp [cx], fun i hi => ext_old hi, fun b off u h1 h2 => ⟨gr.cell h2, fun h => ?_⟩, fun b es clk h1 h2 => ⟨(gr.block b (Array.getElem?_eq_some_iff.1 h2).1).trans h2, fun h => h.elim (fun h => h1 (.inl h)) (fun ⟨i, oi, h3, h4, h5⟩ => (get_snoc h3).elim (fun ⟨h6, h7⟩ => h1 (.inr ⟨i, oi, h7, by rw [ext_old h6] at h4; exact h4, h5⟩)) (fun ⟨h6, _⟩ => by subst h6; rw [ext_new] at h4; cases h4; have := (Array.getElem?_eq_some_iff.1 h2).1; simp [cx] at this))⟩, fun b cs e' fr h1 => ⟨cs, (gr.block b (Array.getElem?_eq_some_iff.1 h1).1).trans h1, rfl⟩⟩
  rcases h with h | ⟨i, oi, h3, h4, h5⟩
  ·exact h1 (.inl h)
  ·rcases get_snoc h3 with ⟨h6, h7⟩ | ⟨rfl, rfl⟩
   ·rw [ext_old h6] at h4; exact h1 (.inr ⟨i, oi, h7, h4, h5⟩)
   ·rw [ext_new] at h4; cases h4
    have := World.block_lt_of_cell? w ⟨w.heap.size, off, none⟩ h2
    simp at this)
 refine ⟨_, _, _, .inl (append_op ho hv hr), ?_, s', st⟩
 unfold Rep
 exact ⟨by simp [cx], w.heap.size, _, ext_new _ _ _, grownCap_ge w (cap + m) cap e, rfl⟩
end
@[simp] theorem flat_clip0 : Flat (.seq 0 [] .clip) := by unfold Flat; exact ⟨trivial, .inr rfl⟩
theorem bsL {α : Type} (enc : α → List PV) (l : List α) {n : Nat} {xs : List PV} (h : xs = l.flatMap enc) (hn : n = l.length) : PV.seq n xs .clip = .seq l.length (l.flatMap enc) .clip := by rw [h, hn]
theorem flatL_app : ∀ {a b : List PV}, FlatL a → FlatL b → FlatL (a ++ b)
 | [], _, _, h => h
 | _ :: _, _, h, k => by unfold FlatL at h; exact ⟨h.1, flatL_app h.2 k⟩
section
variable {P : Program} {H : List Ob} {T : Nat → PV}
theorem leafPx {G : List (Nat × TD)} {rs : List ResultVar} {x res : PV} (h : resX G T H rs = some x) (h2 : x = res) : RetP' G rs res .ret T H := by
 subst h2; exact ⟨_, h, Imp.refl _⟩
end
end Go.Proofs.YtobhnjnffnbbkaaGreatDoor
namespace Go.Proofs.YtobhnjnffnbbkaaGreatDoor
open Go.RowKit
section
variable {P : Program} {B : Nat → Nat → Prop} {n : Nat} {all : Array Oper} {K : (Nat → PV) → List Ob → Prop} {H : List Ob} {T : Nat → PV} {o : Oper}
theorem repL_any {c : Cx} : ∀ (vs : List Value), RepL c (List.replicate vs.length .any) vs
 | [] => repL_nil.2 rfl
 | v :: vs => by
  rw [List.length_cons, List.replicate_succ]
  exact repL_cons.2 ⟨by unfold Rep; trivial, repL_any vs⟩
theorem does_makeNoZero {f : FuncId} {fn : Func} {x : Operand} {ats ps : Array TypeId} {t e : TypeId} {d : TD} {m : Nat} (ho : o.op = .call { callee := .value (.func f), args := #[x], argTypes := ats }) (hf : P.funcs[f]? = some fn) (hname : (fn.name == "runtime.NumGoroutine") = false)
  (hb : fn.body.isNone = true) (hn : Extern.findNext fn = none) (he : Extern.find fn = some (Extern.BytealgMakeNoZero.makeNoZero ps #[t])) (ft : TyFacts P t d) (hd : d.sh = .slice e) (hx : opv T x = .val (.int .i64 (m : Int))) (hm : m ≤ 281474976710656) :
  Does P B o T H (.arw H.length 0 m) (H ++ [.cells (List.replicate m .any) e]) := by
 intro σ w a s h
 have k1 := h x (by simp [ho, Op.operands, Call.operands])
 rw [hx] at k1
 unfold Rep at k1
 obtain ⟨cs, hr, hle, _⟩ := Lib.run_makeNoZero (P := P) w ps t e (ft.slice hd) m hm
 have gr : Grows w (w.drew.drew.alloc (.cells cs e)) := ((Grows.drew w).trans (Grows.drew _)).trans (Grows.alloc _ _)
 have hheap : (w.drew.drew.alloc (.cells cs e)).heap[w.heap.size]? = some (Obj.cells cs.toList.toArray e (0, 0)) := by
  show (w.heap.push _)[w.heap.size]? = _; simp
 obtain ⟨s', st⟩ := grow_name s gr (.cells (List.replicate m .any) e) (some w.heap.size) (fun b hb => by cases hb; exact Nat.le_refl _) (by
  refine ⟨w.heap.size, cs.toList, (0, 0), ext_new _ _ _, hheap, .inl rfl, cs.toList.take m, cs.toList.drop m, (List.take_append_drop _ _).symm, ?_⟩
  have := repL_any (c := cx B (H ++ [.cells (List.replicate m .any) e]) (ext σ H.length (some w.heap.size)) (w.drew.drew.alloc (.cells cs e))) (cs.toList.take m)
  rwa [List.length_take, Nat.min_eq_left (by simpa using hle)] at this)
 refine ⟨.slice (some ⟨w.heap.size, 0, none⟩) m cs.size, _, _, .inl ?_, ?_, s', st⟩
 ·unfold execOp
  simp only [ho, resolve, Act.eval, Deferred.ofValue, invoke, Sem.run_bind, Sem.run_pure, Result.andThen_ok]
  rw [run_callFunc_extern hf hname hb hn he]
  simp [k1, hr]
 ·unfold Rep
  exact ⟨by simp [cx], w.heap.size, _, ext_new _ _ _, hle, rfl⟩
theorem does_slice_arw_clip {t e : TypeId} {d de : TD} {x y z : Operand} {id m : Nat} (f : TyFacts P t d) (hd : d.sh = .slice e) (fe : TyFacts P e de) (ho : o.op = .slice t x none (some y) (some z)) (hx : opv T x = .arw id 0 m)
  (h2 : BndOk T (some y) m m) (h3 : BndOk T (some z) m m) : Does P B o T H (.arr id 0 m m) H :=
 does_pure fun σ w a s' h => by
  have k1 := h x (by simp [ho, Op.operands])
  rw [hx] at k1
  unfold Rep at k1
  obtain ⟨hN, b, cap, hb, hle, hv⟩ := k1
  have h3' : BndOk T (some z) cap m := h3
  have kb := bounds_run (P := P) (w := w) (a := a) (n := m) (cap := cap) (b := true) (m := m) (mx := some z) (hi := some y) (lo := none) (l := 0) (c := cx B H σ w) (fun q hq => h q (by
   rcases hq with hq | hq | hq
   ·cases hq
   ·cases hq; simp [ho, Op.operands]
   ·cases hq; simp [ho, Op.operands])) rfl h2 h3' (by simp) (by omega) (Nat.le_refl _) (by omega) hle
  refine ⟨.slice (some ⟨b, 0, none⟩) m m, ?_, by unfold Rep; exact ⟨hN, b, hb, rfl⟩⟩
  simp only [Option.map_some, Option.map_none] at kb
  simp [execOp, ho, hv, Instr.sliceAt, run_underlying (f.slice hd), Instr.slice, kb, fe.sizeOf]
  intro _; simp [Addr.add]
theorem does_copy_self {t tx e : TypeId} {d de : TD} {x y : Operand} {id off n cap off2 m cap2 : Nat} {xs : List PV} {et : TypeId} (f : TyFacts P t d) (hd : d.sh = .slice e) (fe : TyFacts P e de) (ho : o.op = .call { callee := .builtin .copy, args := #[x, y], argTypes := #[t, tx] })
  (hx : opv T x = .arr id off n cap) (hi : H[id]? = some (.cells xs et)) (hy : opv T y = .arr id off2 m cap2) (hok : ∀ z ∈ (xs.drop off2).take (min m n * de.size), okC z = true) (hfit : off + n * de.size ≤ xs.length) (hfit2 : off2 + m * de.size ≤ xs.length) :
  Does P B o T H (.val (.int .i64 (min m n : Nat))) (H.set id (.cells (splice xs off ((xs.drop off2).take (min m n * de.size))) et)) := by
 intro σ w a s' h
 have k1 := h x (by simp [ho, Op.operands, Call.operands])
 have k2 := h y (by simp [ho, Op.operands, Call.operands])
 rw [hx] at k1
 rw [hy] at k2
 unfold Rep at k1 k2
 obtain ⟨hN, b, hb, hv⟩ := k1
 obtain ⟨_, b2, hb2, hv2⟩ := k2
 obtain ⟨b', ws, fr, hb', hg, hfr, hwp⟩ := s'.holds id _ hi
 simp only [cx] at hb hb' hg hb2
 rw [hb] at hb' hb2
 cases hb'
 cases hb2
 have hmn : min m n * de.size ≤ m * de.size := Nat.mul_le_mul_right _ (Nat.min_le_left _ _)
 have hmn2 : min m n * de.size ≤ n * de.size := Nat.mul_le_mul_right _ (Nat.min_le_right _ _)
 have hwsl := hwp.le
 generalize hvs : (ws.drop off2).take (min m n * de.size) = vs
 have hyl : ((xs.drop off2).take (min m n * de.size)).length = min m n * de.size := by rw [List.length_take, List.length_drop]; omega
 have hrl : RepL (cx B H σ w) ((xs.drop off2).take (min m n * de.size)) vs := by
  rw [← hvs]; exact (hwp.drop off2).take (by rw [List.length_drop]; omega)
 have htl : vs.length = min m n * de.size := by rw [RepL.length hrl, hyl]
 have hfc : (Builtin.firstCells de.size (min m n) (a.eval y)).run P w = .ok vs.toArray w := by
  rw [hv2]
  refine run_firstCells_some w de.size (min m n) ⟨b, off2, none⟩ m cap2 _ htl (fun j u hj => ?_)
  rw [Addr.add_lit, cell_of_heap hg]
  rw [← hvs, List.getElem?_take] at hj
  split at hj
  ·rw [List.getElem?_drop] at hj
   simpa using hj
  ·cases hj
 have hst := storeCells_fr P b off et fr vs 0 ws.toArray w hg (by simpa using hfr) (by rw [Nat.add_zero, htl, List.size_toArray]; omega) (okC_repL' hok hrl)
 simp only [Nat.add_zero] at hst
 obtain ⟨s2, st⟩ := set_cells s' (ys := splice xs off ((xs.drop off2).take (min m n * de.size))) hi hb hg hfr (us := ws.take off ++ vs ++ ws.drop (off + vs.length)) (by
  simp only [List.length_append, List.length_drop, htl]
  rw [List.length_take]; omega) (by
  unfold splice
  rw [hyl, htl]
  obtain ⟨p, q, hpq, hd⟩ := hwp.drop (off + min m n * de.size)
  exact ⟨ws.take off ++ vs ++ p, q, by rw [hpq]; simp, ((hwp.take (by omega)).append hrl).append hd⟩)
 refine ⟨.int .i64 (min m n : Nat), _, σ, .inl (builtin_op ho ?_), rep_val _ _, s2, st⟩
 have hlen : (Builtin.lenOf (a.eval y)).run P w = .ok m w := by rw [hv2]; rfl
 have hcp : (Builtin.copy_ #[t, tx] o.type #[a.eval x, a.eval y]).run P w = .ok (.int .i64 (min m n : Nat)) (w.setRow b (ws.take off ++ vs ++ ws.drop (off + vs.length)).toArray) := by
  have e1 : Nat.min m n = min m n := rfl
  simp only [Builtin.copy_, hv, List.getElem?_toArray, List.getElem?_cons_zero, List.getElem?_cons_succ, Sem.run_bind, run_underlying (f.slice hd), Result.andThen_ok, hlen, fe.sizeOf, e1, hfc, hst, goInt, Sem.run_pure]
 simp only [builtin, List.map_toArray, List.map_cons, List.map_nil, Sem.run_bind, hcp, Result.andThen_ok, Sem.run_pure]
theorem does_makeSeq {t e : TypeId} {d de : TD} {x y : Operand} {k k' : IntKind} {m : Int} (f : TyFacts P t d) (hd : d.sh = .slice e) (fe : TyFacts P e de) (ho : o.op = .makeSlice t x y) (hx : opv T x = .val (.int k m)) (hy : opv T y = .val (.int k' m)) (h0 : 0 ≤ m) (hb : (de.bytes : Int) * m ≤ 281474976710656) (h63 : m ≤ 9223372036854775807) :
  Does P B o T H (.seq m.toNat (zerosPV m.toNat de) .clip) H := by
 intro σ w a s h
 have k1 := h x (by simp [ho, Op.operands])
 have k2 := h y (by simp [ho, Op.operands])
 rw [hx] at k1
 rw [hy] at k2
 unfold Rep at k1 k2
 obtain ⟨i, z, hi, hsz, hby, hz, hzr⟩ := fe.info
 have hr := run_make (P := P) w t e i z (f.slice hd) hi hz k k' m m h0 (Int.le_refl _) (by rw [hby]; exact hb) h63
 rw [hsz] at hr
 obtain ⟨s', st⟩ := grow_sim s (Grows.alloc w (.cells (madeCells z.cells (m.toNat * de.size)) e))
 refine ⟨_, _, σ, .inl (by simp [execOp, ho, k1, k2, hr]; rfl), ?_, s', st⟩
 unfold Rep
 refine ⟨_, m.toNat, (madeCells z.cells (m.toNat * de.size)).toList, rfl, Nat.le_refl _, (fun h => by cases h), RepL.mono st.le (zeros_rep fe m.toNat z hzr _), fun b hb => ?_, rfl⟩
 cases hb
 refine .inl ⟨rfl, fun j u hj => ⟨?_, ?_⟩⟩
 ·show (w.alloc (.cells (madeCells z.cells (m.toNat * de.size)) e)).cell? ⟨w.heap.size, 0 + j, none⟩ = _
  rw [cell_alloc_new _ _ _ _ _ _ rfl, Nat.zero_add]
  rw [← Array.getElem?_toList]; exact hj
 ·rintro (h' | ⟨i', oi, h3, h4, h5⟩)
  ·exact absurd (s.base _ _ h') (by simp)
  ·have hl : oi.live = true := by cases oi <;> first | rfl | cases h5
   have := (s.holds i' oi h3).lt hl h4
   simp [cx] at this
theorem own_good {σ : Nat → Option Nat} {w : World} {a : Act} (g : Good B n T H σ w a) {d q k : Nat} {xs : List PV} (hT : T d = .seq q xs .clip) (hl : xs.length = q * k) :
  Good B n (upd d (.seq q xs (.own H.length k)) T) (H ++ [.free (q * k)]) (ext σ H.length none) w a ∧ Step B H σ w (H ++ [.free (q * k)]) (ext σ H.length none) w := by
 obtain ⟨s', st⟩ := grow_name g.sim (Grows.refl w) (.free (q * k)) none (fun b hb => by cases hb) (fun b hb => by simp only [cx] at hb; rw [ext_new] at hb; cases hb)
 refine ⟨⟨s', fun i => ?_, g.size, g.defers⟩, st⟩
 by_cases hi : i = d
 ·subst hi
  rw [upd_same]
  have h0 := g.rep i
  rw [hT] at h0
  obtain ⟨ad, cap, vs, hv, hle, hnil, hrl, hlies, hk⟩ := rep_seq h0
  have hcap : cap = q := hk
  unfold Rep
  exact ⟨ad, cap, vs, hv, hle, hnil, RepL.mono st.le hrl, fun b hb => (hlies b hb).imp (·.mono st.le) id, by simp [cx], hl, .inl hcap⟩
 ·rw [upd_other _ _ _ _ hi]; exact (g.rep i).mono st.le
theorem WO_own {l : List Oper} (d q k : Nat) {xs : List PV} (hT : T d = .seq q xs .clip) (hl : xs.length = q * k) (h1 : WO P B n all l (upd d (.seq q xs (.own H.length k)) T) (H ++ [.free (q * k)]) K) : WO P B n all l T H K := by
 intro hall σ w a g
 obtain ⟨g', st⟩ := own_good g hT hl
 exact wpL_mono (fun _ _ _ h => post_mono st (fun _ _ _ h => h) h) _ _ _ (h1 hall _ w a g')
end
end Go.Proofs.YtobhnjnffnbbkaaGreatDoor
