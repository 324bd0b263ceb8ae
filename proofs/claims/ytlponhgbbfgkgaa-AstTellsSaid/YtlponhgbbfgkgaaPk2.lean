import Derived.Carry
import Derived.Laws.Externs
import Derived.Lib.MakeNoZero
import Derived.LoopN
import Derived.Test.YtlponhgbbfgkgaaPk1
set_option linter.unusedVariables false
set_option linter.unusedSimpArgs false
namespace Go.Proofs.Ytlponhgbbfgkgaa
open Go.RowKit
def wk1 : PV → PV
 | .seq n xs _ => .seq n xs .any
 | x => x
def wk : PV → PV
 | .seq n xs _ => .seq n xs .any
 | .agg cs => .agg (cs.map wk1)
 | x => x
theorem imp_wk1 (x : PV) : Imp x (wk1 x) := by cases x <;> first | exact imp_seq _ _ _ | exact Imp.refl _
theorem impL_map {g : PV → PV} (h : ∀ x, Imp x (g x)) : ∀ l : List PV, ImpL l (l.map g)
 | [] => trivial
 | x :: l => ⟨h x, impL_map h l⟩
theorem imp_wk (x : PV) : Imp x (wk x) := by
 cases x <;> first | exact imp_seq _ _ _ | exact imp_agg (impL_map imp_wk1 _) | exact Imp.refl _
section
variable {P : Program} {B : Nat → Nat → Prop} {o : Oper} {T : Nat → PV} {H : List Ob} {n : Nat} {all : Array Oper} {K : (Nat → PV) → List Ob → Prop} {Q : Exit → (Nat → PV) → List Ob → Prop}
theorem hc_imp {f : FuncId} {args args' : List PV} {res : PV} {H' : List Ob} (h : ImpL args args') (k : HC P f args' H res H') : HC P f args H res H' :=
 fun B σ w vs s hr => k B σ w vs s (impL_rep h hr)
theorem dC {f : FuncId} {fn : Func} {args : Array Operand} {ats : Array TypeId} {res : PV} {H' : List Ob} (ho : o.op = .call { callee := .value (.func f), args := args, argTypes := ats }) (hf : P.funcs[f]? = some fn) (hb : fn.body.isNone = false) (hn : (fn.name == "runtime.NumGoroutine") = false)
  (h : HC P f (args.toList.map fun y => wk (opv T y)) H res H') : DoesC P B o T H res H' :=
 doesC_func ho hf hb hn (hc_imp (by
  have := impL_map imp_wk (args.toList.map (opv T))
  rw [List.map_map] at this
  exact this) h)
theorem doesCWv {f : FuncId} {fn : Func} {x : Operand} {first cap : List PV} {args : Array Operand} {ats : Array TypeId} {res : PV} {H' : List Ob} (ho : o.op = .call { callee := .value x, args := args, argTypes := ats }) (hx : opv T x = .fn (.func f) first cap) (hf : P.funcs[f]? = some fn) (hb : fn.body.isNone = false) (hn : (fn.name == "runtime.NumGoroutine") = false)
  (h : HC P f (first ++ (args.toList.map fun y => wk (opv T y)) ++ cap) H res H') : DoesC P B o T H res H' :=
 doesC_value ho hx hf hb hn (hc_imp (by
  have h1 := impL_map imp_wk (args.toList.map (opv T))
  rw [List.map_map] at h1
  have app : ∀ (a b c d : List PV), ImpL a b → ImpL c d → ImpL (a ++ c) (b ++ d) := by
   intro a
   induction a with
   | nil => intro b c d h1 h2; cases b with
    | nil => exact h2
    | cons y b => exact h1.elim
   | cons x a ih => intro b c d h1 h2; cases b with
    | nil => exact h1.elim
    | cons y b => exact ⟨h1.1, ih b c d h1.2 h2⟩
  exact app _ _ _ _ (app _ _ _ _ (impL_refl first) h1) (impL_refl cap)) h)
theorem Wm {l : List Oper} (d : Nat) {x y : PV} (hT : T d = x) (hxy : Imp x y) (h1 : WO P B n all l (upd d y T) H K) : WO P B n all l T H K := by
 intro hall σ w a g
 refine h1 hall σ w a ⟨g.sim, fun i => ?_, g.size, g.defers⟩
 by_cases hi : i = d
 ·subst hi; rw [upd_same]; have := g.rep i; rw [hT] at this; exact hxy _ _ this
 ·rw [upd_other _ _ _ _ hi]; exact g.rep i
theorem WO_ob {l : List Oper} {H' : List Ob} (hH : H' = H) (h1 : WO P B n all l T H' K) : WO P B n all l T H K := by subst hH; exact h1
theorem W_ob {c : Code} {H' : List Ob} (hH : H' = H) (h1 : W P B n c T H' Q) : W P B n c T H Q := by subst hH; exact h1
theorem freeze_good {σ : Nat → Option Nat} {w : World} {a : Act} (g : Good B n T H σ w a) {d i m q : Nat} {xs : List PV} {e : TypeId} (hT : T d = .arw i 0 m) (hi : H[i]? = some (.cells xs e)) (hq : q ≤ xs.length) :
  Good B n (upd d (.seq m (xs.take q) .any) T) (H.set i .dead) σ w a ∧ Step B H σ w (H.set i .dead) σ w := by
 obtain ⟨s', st⟩ := drop_name g.sim hi
 refine ⟨⟨s', fun j => ?_, g.size, g.defers⟩, st⟩
 by_cases hj : j = d
 ·subst hj
  rw [upd_same]
  have h1 := g.rep j
  rw [hT] at h1
  unfold Rep at h1
  obtain ⟨_, b, cap, hb, hmc, hv⟩ := h1
  obtain ⟨b', vs, fr, hb', hg, _, hp⟩ := g.sim.holds i _ hi
  simp only [cx] at hb hb' hg
  rw [hb] at hb'
  cases hb'
  rw [hv]
  unfold Rep
  refine ⟨_, cap, vs.take q, rfl, hmc, (fun h => by cases h), RepL.mono st.le (hp.take hq), fun b1 hb1 => .inl ?_, trivial⟩
  cases hb1
  refine ⟨rfl, fun j' u hu => ⟨?_, ?_⟩⟩
  ·rw [List.getElem?_take] at hu
   split at hu
   ·show w.cell? ⟨b, 0 + j', none⟩ = some u
    rw [Nat.zero_add, cell_of_heap hg]; exact hu
   ·cases hu
  ·rintro (h2 | ⟨k, ok, h2, h3, h4⟩)
   ·exact g.sim.sep i b _ hi rfl hb _ h2
   ·have hlk : ok.live = true := by cases ok <;> first | rfl | cases h4
    by_cases hki : k = i
    ·subst hki
     rw [List.getElem?_set_self (lt_of_get hi)] at h2; cases h2; cases h4
    ·rw [List.getElem?_set_ne (Ne.symm hki)] at h2
     exact hki (g.sim.inj k i b _ _ h2 hi hlk rfl h3 hb)
 ·rw [upd_other _ _ _ _ hj]; exact (g.rep j).mono st.le
theorem WO_freeze {l : List Oper} (d i m q : Nat) {xs : List PV} {e : TypeId} (hT : T d = .arw i 0 m) (hi : H[i]? = some (.cells xs e)) (hq : q ≤ xs.length) (h1 : WO P B n all l (upd d (.seq m (xs.take q) .any) T) (H.set i .dead) K) : WO P B n all l T H K := by
 intro hall σ w a g
 obtain ⟨g', st⟩ := freeze_good g hT hi hq
 exact wpL_mono (fun _ _ _ h => post_mono st (fun _ _ _ h => h) h) _ _ _ (h1 hall σ w a g')
def rvPV (G : List (Nat × TD)) (T : Nat → PV) (H : List Ob) : ResultVar → Option PV
 | .tmp t => some (T t)
 | .cell ad ty => match look G ty with
  | some d => match T ad with
   | .ptr i off => match H[i]? with
    | some (.cells xs _) => loadPV d xs off
    | _ => none
   | _ => none
  | none => none
def resAll (G : List (Nat × TD)) (T : Nat → PV) (H : List Ob) : List ResultVar → Option (List PV)
 | [] => some []
 | r :: rs => match rvPV G T H r with
  | some x => match resAll G T H rs with
   | some xs => some (x :: xs)
   | none => none
  | none => none
def resX (G : List (Nat × TD)) (T : Nat → PV) (H : List Ob) : List ResultVar → Option PV
 | [r] => rvPV G T H r
 | rs => match resAll G T H rs with
  | some xs => some (.tup xs)
  | none => none
theorem run_rv {G : List (Nat × TD)} (hG : tysOk P G = true) {σ : Nat → Option Nat} {w : World} {a : Act} {n : Nat} (g : Good B n T H σ w a) {r : ResultVar} {x : PV} (h : rvPV G T H r = some x) :
  ∃ v, ((match r with | .tmp t => pure (a.tmps.getD t undef) | .cell ad t => do loadVar t (← asAddr (a.tmps.getD ad undef)) : Sem Value)).run P w = .ok v w ∧ Rep (cx B H σ w) x v := by
 cases r with
 | tmp t => simp only [rvPV, Option.some.injEq] at h; subst h; exact ⟨_, rfl, g.rep t⟩
 | cell ad t =>
  unfold rvPV at h
  split at h
  ·rename_i hd h0
   cases h0
  ·rename_i ad' ty' h0
   cases h0
   split at h
   ·rename_i d hd
    split at h
    ·rename_i i off hx
     split at h
     ·rename_i xs e hi
      have h1 := g.rep ad
      rw [hx] at h1
      unfold Rep at h1
      obtain ⟨_, b, hb, h1⟩ := h1
      obtain ⟨b', vs0, fr, hb', hv, _, vs, q, rfl, hrl⟩ := g.sim.holds i _ hi
      simp only [cx] at hb hb' hv
      rw [hb] at hb'
      cases hb'
      obtain ⟨v, h2, h3⟩ := run_loadVar_row (P := P) (w := w) (b := b) (off := 0) (lO hG hd) hrl (fun j u hj => by rw [Nat.zero_add, cell_of_heap hv]; exact get_left hj) h
      rw [Nat.zero_add] at h2
      exact ⟨v, by simp [h1, asAddr, h2], h3⟩
     ·cases h
    ·cases h
   ·cases h
theorem run_resAll {G : List (Nat × TD)} (hG : tysOk P G = true) {σ : Nat → Option Nat} {w : World} {a : Act} {n : Nat} (g : Good B n T H σ w a) : ∀ {rs : List ResultVar} {xs : List PV}, resAll G T H rs = some xs →
  ∃ vs, (rs.mapM fun r => (match r with | .tmp t => pure (a.tmps.getD t undef) | .cell ad t => do loadVar t (← asAddr (a.tmps.getD ad undef)) : Sem Value)).run P w = .ok vs w ∧ RepL (cx B H σ w) xs vs
 | [], xs, h => by simp only [resAll, Option.some.injEq] at h; subst h; exact ⟨[], rfl, repL_nil.2 rfl⟩
 | r :: rs, xs, h => by
  simp only [resAll] at h
  split at h
  ·rename_i x hx
   split at h
   ·rename_i ys hy
    cases h
    obtain ⟨v, h1, h2⟩ := run_rv hG g hx
    obtain ⟨vs, h3, h4⟩ := run_resAll hG g hy
    refine ⟨v :: vs, ?_, repL_cons.2 ⟨h2, h4⟩⟩
    rw [List.mapM_cons]
    simp only [Sem.run_bind, h1, Result.andThen_ok, h3, Sem.run_pure]
   ·cases h
  ·cases h
theorem run_resX {G : List (Nat × TD)} (hG : tysOk P G = true) {fn : Func} {rs : List ResultVar} (hr : fn.results = rs.toArray) {σ : Nat → Option Nat} {w : World} {a : Act} {n : Nat} (g : Good B n T H σ w a) {x : PV} (h : resX G T H rs = some x) :
  ∃ v, (results fn a.tmps).run P w = .ok v w ∧ Rep (cx B H σ w) x v := by
 have gen : ∀ xs, resAll G T H rs = some xs → ∃ vs, (fn.results.mapM fun | .tmp t => pure (a.tmps.getD t undef) | .cell ad t => do loadVar t (← asAddr (a.tmps.getD ad undef)) : Sem (Array Value)).run P w = .ok vs.toArray w ∧ RepL (cx B H σ w) xs vs := by
  intro xs hx
  obtain ⟨vs, h1, h2⟩ := run_resAll hG g hx
  refine ⟨vs, ?_, h2⟩
  rw [hr, List.mapM_toArray, ← bind_pure_comp]
  simp only [Sem.run_bind]
  erw [h1]
  rfl
 unfold results
 match rs, h, gen with
 | [r], h, gen =>
  simp only [resX] at h
  obtain ⟨vs, h1, h2⟩ := gen [x] (by simp only [resAll, h])
  match vs, h2 with
  | [v], h2 =>
   refine ⟨v, ?_, (repL_cons.1 h2).1⟩
   simp only [Sem.run_bind]
   erw [h1]
   simp
  | [], h2 => exact absurd (RepL.length h2) (by simp)
  | v :: v' :: vs, h2 => exact absurd (RepL.length h2) (by simp)
 | [], h, gen =>
  simp only [resX, resAll, Option.some.injEq] at h
  subst h
  obtain ⟨vs, h1, h2⟩ := gen [] rfl
  rw [repL_nil] at h2
  subst h2
  refine ⟨.tuple #[], ?_, ?_⟩
  ·simp only [Sem.run_bind]
   erw [h1]
   simp
  ·unfold Rep; exact ⟨[], rfl, repL_nil.2 rfl⟩
 | r :: r' :: rs, h, gen =>
  simp only [resX] at h
  split at h
  ·rename_i xs hx
   cases h
   obtain ⟨vs, h1, h2⟩ := gen xs hx
   have hl : 2 ≤ xs.length := by
    simp only [resAll] at hx
    split at hx
    ·split at hx
     ·rename_i h8
      split at h8
      ·split at h8
       ·cases h8; cases hx; simp
       ·cases h8
      ·cases h8
     ·cases hx
    ·cases hx
   refine ⟨.tuple vs.toArray, ?_, ?_⟩
   ·simp only [Sem.run_bind]
    erw [h1]
    have := RepL.length h2
    simp only [Result.andThen_ok]
    rw [dif_neg (by simp; omega)]
    rfl
   ·unfold Rep; exact ⟨vs, rfl, h2⟩
  ·cases h
def RetP' (G : List (Nat × TD)) (rs : List ResultVar) (res : PV) : Exit → (Nat → PV) → List Ob → Prop
 | .normal, T, H => ∃ x, resX G T H rs = some x ∧ Imp x res
 | .ret, T, H => ∃ x, resX G T H rs = some x ∧ Imp x res
 | _, _, _ => False
def RetM (G : List (Nat × TD)) (rs : List ResultVar) (res : PV) (ys : List PV) (e : TypeId) : Exit → (Nat → PV) → List Ob → Prop
 | .normal, T, H => ∃ x, resX G T H rs = some x ∧ Imp x res ∧ ∃ zs, H[0]? = some (.cells zs e) ∧ ImpL zs ys
 | .ret, T, H => ∃ x, resX G T H rs = some x ∧ Imp x res ∧ ∃ zs, H[0]? = some (.cells zs e) ∧ ImpL zs ys
 | _, _, _ => False
theorem pureG_of_WR {R : List Ob} (hRg : ∀ o ∈ R, ∃ g u, o = .glob g u) {G : List (Nat × TD)} (hG : tysOk P G = true) {f : FuncId} {fn : Func} {c : Code} {args : List PV} {res : PV} {rs : List ResultVar} (hf : P.funcs[f]? = some fn) (hb : fn.body = some c) (hr : fn.results = rs.toArray) (hn0 : Nat.ble args.length fn.ntmps = true) (ha : FlatL args) (hres : Flat res)
  (h : ∀ B, W P B fn.ntmps c (argT args) R (RetP' G rs res)) (H : List Ob) (hRH : ∀ o ∈ R, ∃ k : Nat, H[k]? = some o) : HC P f args H res H := by
 have hn := Nat.le_of_ble_eq_true hn0
 refine pureG_of_hc hRg ha hres (fun B σ w vs s hv => ?_) H hRH
 have hl := RepL.length hv
 refine calls_of_wp hf hb (wp_mono (h B σ w { tmps := vs.toArray ++ Array.replicate (fn.ntmps - vs.toArray.size) undef, defers := [] } ⟨s, repT_args hv _, by simp; omega, rfl⟩) ?_)
 rintro e a' w' ⟨T', H1, σ', h1, h2, h3⟩
 have fin : ∀ (h4 : ∃ x, resX G T' H1 rs = some x ∧ Imp x res), a'.defers = [] ∧ ∃ v, (results fn a'.tmps).run P w' = .ok v w' ∧ ∃ v' H' σ', Ending.returned v = Ending.returned v' ∧ Rep (cx B H' σ' w') res v' ∧ Step B R σ w H' σ' w' := by
  rintro ⟨x, hx, h4⟩
  obtain ⟨v, h5, h6⟩ := run_resX hG hr h2 hx
  exact ⟨h2.defers, v, h5, v, H1, σ', rfl, h4 _ _ h6, h3⟩
 cases e <;> first | exact fin h1 | exact False.elim h1
theorem pW {G : List (Nat × TD)} (hG : tysOk P G = true) {f : FuncId} {fn : Func} {c : Code} {args : List PV} {res : PV} {rs : List ResultVar} (hf : P.funcs[f]? = some fn) (hb : fn.body = some c) (hr : fn.results = rs.toArray) (hn0 : Nat.ble args.length fn.ntmps = true) (ha : FlatL args) (hres : Flat res)
  (h : ∀ B, W P B fn.ntmps c (argT args) [] (RetP' G rs res)) : PureC P f args res :=
 fun H => pureG_of_WR (R := []) (by simp) hG hf hb hr hn0 ha hres h H (by simp)
def nf2 : PV → Option PV
 | .seq n xs _ => some (.seq n xs .any)
 | .agg cs => match nfl (cs.map wk1) with
  | some ds => some (.agg ds)
  | none => none
 | .val v => some (.val v)
 | .any => some .any
 | .tup cs => some (.tup cs)
 | .ptr i off => some (.ptr i off)
 | .row xs => some (.row xs)
 | .arr i off n cap => some (.arr i off n cap)
 | .fn f a b => some (.fn f a b)
 | .mapv i => some (.mapv i)
 | .arw i off n => some (.arw i off n)
 | .smap ks xs => some (.smap ks xs)
 | .ifc t x => some (.ifc t x)
def nf2L : List PV → Option (List PV)
 | [] => some []
 | x :: xs => match nf2 x with
  | some y => match nf2L xs with
   | some ys => some (y :: ys)
   | none => none
  | none => none
def nfR (x : PV) : Option PV := match x with
 | .tup cs => match nf2L cs with
  | some ds => some (.tup ds)
  | none => none
 | x => nf2 x
theorem nf2_imp {x y : PV} (h : nf2 x = some y) : Imp x y := by
  cases x <;> simp only [nf2] at h <;> first
    | (injection h with h; subst h; first | exact imp_seq _ _ _ | exact Imp.refl _)
    | (split at h
       · rename_i ds hd
         injection h with h
         subst h
         rw [nfl_eq hd]
         exact imp_agg (impL_map imp_wk1 _)
       · cases h)
theorem nf2L_imp : ∀ {xs ys : List PV}, nf2L xs = some ys → ImpL xs ys
 | [], ys, h => by injection h with h; subst h; trivial
 | x :: xs, ys, h => by
  simp only [nf2L] at h
  split at h
  ·rename_i y hy
   split at h
   ·rename_i zs hz
    injection h with h
    subst h
    exact ⟨nf2_imp hy, nf2L_imp hz⟩
   ·cases h
  ·cases h
theorem nfR_imp {x y : PV} (h : nfR x = some y) : Imp x y := by
 unfold nfR at h
 split at h
 ·split at h
  ·rename_i ds hd
   injection h with h
   subst h
   exact imp_tup (nf2L_imp hd)
  ·cases h
 ·exact nf2_imp h
def resN (G : List (Nat × TD)) (T : Nat → PV) (H : List Ob) (rs : List ResultVar) : Option PV := match resX G T H rs with
 | some x => nfR x
 | none => none
theorem resN_ok {G : List (Nat × TD)} {rs : List ResultVar} {y : PV} (h : resN G T H rs = some y) : ∃ x, resX G T H rs = some x ∧ Imp x y := by
 unfold resN at h
 split at h
 ·rename_i x hx; exact ⟨x, hx, nfR_imp h⟩
 ·cases h
theorem lP {G : List (Nat × TD)} {rs : List ResultVar} {x res : PV} (h : resN G T H rs = some x) (h2 : x = res) : RetP' G rs res .ret T H := by
 subst h2; exact resN_ok h
def cellN (H : List Ob) (e : TypeId) : Option (List PV) := match (H[0]? : Option Ob) with
 | some (.cells zs e') => match Nat.beq e' e with
  | true => nfl (zs.map wk1)
  | false => none
 | _ => none
theorem cellN_ok {e : TypeId} {ys : List PV} (h : cellN H e = some ys) : ∃ zs, H[0]? = some (.cells zs e) ∧ ImpL zs ys := by
 unfold cellN at h
 split at h
 ·rename_i zs e' h0
  split at h
  ·rename_i he
   rw [Nat.beq_eq] at he
   subst he
   exact ⟨zs, h0, by rw [nfl_eq h]; exact impL_map imp_wk1 _⟩
  ·cases h
 ·cases h
theorem leafM {G : List (Nat × TD)} {rs : List ResultVar} {x res : PV} {e : TypeId} {zs ys : List PV} (h : resN G T H rs = some x) (h1 : cellN H e = some zs) (h2 : x = res) (h3 : zs = ys) : RetM G rs res ys e .ret T H := by
 subst h2 h3; obtain ⟨y, h4, h5⟩ := resN_ok h; exact ⟨y, h4, h5, cellN_ok h1⟩
theorem leafMn {G : List (Nat × TD)} {rs : List ResultVar} {x res : PV} {e : TypeId} {zs ys : List PV} (h : resN G T H rs = some x) (h1 : cellN H e = some zs) (h2 : x = res) (h3 : zs = ys) : RetM G rs res ys e .normal T H := by
 subst h2 h3; obtain ⟨y, h4, h5⟩ := resN_ok h; exact ⟨y, h4, h5, cellN_ok h1⟩
theorem leafMsn {G : List (Nat × TD)} {rs : List ResultVar} {x res : PV} {e : TypeId} {zs ys : List PV} (h : resN G T H rs = some x) (h1 : H[0]? = some (.cells zs e)) (h2 : x = res) (h3 : zs = ys) : RetM G rs res ys e .normal T H := by
 subst h2 h3; obtain ⟨y, h4, h5⟩ := resN_ok h; exact ⟨y, h4, h5, zs, h1, impL_refl _⟩
theorem get_set {α : Type} {H : List α} {i j : Nat} {x y : α} (hi : i < H.length) (h : (H.set i x)[j]? = some y) : (j = i ∧ y = x) ∨ (j ≠ i ∧ H[j]? = some y) := by
 by_cases hj : j = i
 ·subst hj; rw [List.getElem?_set_self hi] at h; cases h; exact .inl ⟨rfl, rfl⟩
 ·rw [List.getElem?_set_ne (Ne.symm hj)] at h; exact .inr ⟨hj, h⟩
theorem mutG_of_W {G : List (Nat × TD)} {f : FuncId} {fn : Func} {c : Code} {rest : List PV} {res : PV} {rs : List ResultVar} {off : Nat} {xs ys : List PV} {e : TypeId} {R : List Ob} (hRg : ∀ o ∈ R, ∃ g u, o = .glob g u) (hG : tysOk P G = true) (hf : P.funcs[f]? = some fn) (hb : fn.body = some c) (hr : fn.results = rs.toArray) (hn0 : Nat.ble (rest.length + 1) fn.ntmps = true)
  (ha : FlatL rest) (hres : Flat res) (hxs : FlatL xs) (hys : FlatL ys)
  (h : ∀ B, W P B fn.ntmps c (argT (.ptr 0 off :: rest)) (.cells xs e :: R) (RetM G rs res ys e)) (H : List Ob) (i : Nat) (hi : H[i]? = some (.cells xs e)) (hRH : ∀ o ∈ R, ∃ k : Nat, H[k]? = some o) : HC P f (.ptr i off :: rest) H res (H.set i (.cells ys e)) := by
 intro B σ w vs s hv
 have hilt := lt_of_get hi
 match vs, hv with
 | [], hv => unfold RepL at hv; obtain ⟨u, us, h1, _⟩ := hv; cases h1
 | v0 :: vs, hv =>
 rw [repL_cons] at hv
 obtain ⟨hv0, hvr⟩ := hv
 unfold Rep at hv0
 obtain ⟨_, b, hσ, rfl⟩ := hv0
 simp only [cx] at hσ
 have hl : (Ob.cells xs e).live = true := rfl
 have dull : ∀ {j : Nat} {oj : Ob}, (Ob.cells xs e :: R)[j + 1]? = some oj → oj.live = true → False := fun h1 h2 => by
  obtain ⟨g, u, rfl⟩ := hRg _ (List.mem_of_getElem? (by simpa using h1)); cases h2
 let B' : Nat → Nat → Prop := BoW B σ (H.set i .dead)
 let σ0 : Nat → Option Nat := fun k => if k = 0 then some b else none
 have other : ∀ j oj, (H.set i .dead)[j]? = some oj → oj.live = true → j ≠ i ∧ H[j]? = some oj := by
  intro j oj h1 h2
  rcases get_set hilt h1 with ⟨rfl, rfl⟩ | h3
  ·cases h2
  ·exact h3
 have hB' : ∀ b' off, B' b' off → b' ≠ b := by
  rintro b' off (h1 | ⟨j, oj, h1, h2, h3⟩) rfl
  ·exact s.sep i _ _ hi hl hσ off h1
  ·have hlj : oj.live = true := by cases oj <;> first | rfl | cases h3
   obtain ⟨h4, h5⟩ := other j oj h1 hlj
   exact h4 (s.inj j i _ _ _ h5 hi hlj hl h2 hσ)
 have wrB : ∀ b' off, (cx B' (.cells xs e :: R) σ0 w).Wr b' off → (cx B H σ w).Wr b' off := by
  rintro b' off ((h1 | ⟨j, oj, h1, h2, h3⟩) | ⟨j, oj, h1, h2, h3⟩)
  ·exact .inl h1
  ·have hlj : oj.live = true := by cases oj <;> first | rfl | cases h3
   exact .inr ⟨j, oj, (other j oj h1 hlj).2, h2, h3⟩
  ·match j, h1, h2 with
   | 0, h1, h2 =>
    simp only [σ0, if_true, Option.some.injEq] at h2
    subst h2
    exact .inr ⟨i, _, hi, hσ, trivial⟩
   | j + 1, h1, _ => exact (dull h1 (by cases oj <;> first | rfl | cases h3)).elim
 have s0 : Sim B' (.cells xs e :: R) σ0 w := by
  refine ⟨?_, ?_, ?_, ?_⟩
  ·intro j k b' oj ok h1 h2 l1 l2 _ _
   match j, k, h1, h2 with
   | 0, 0, _, _ => rfl
   | j + 1, _, h1, _ => exact (dull h1 l1).elim
   | 0, k + 1, _, h2 => exact (dull h2 l2).elim
  ·intro j b' oj h1 l1 h2 off h3
   match j, h1, h2 with
   | 0, _, h2 =>
    simp only [σ0, if_true, Option.some.injEq] at h2
    exact hB' _ _ h3 h2.symm
   | j + 1, h1, _ => exact (dull h1 l1).elim
  ·rintro b' off (h1 | ⟨j, oj, h1, h2, h3⟩)
   ·exact s.base _ _ h1
   ·have hlj : oj.live = true := by cases oj <;> first | rfl | cases h3
    exact (s.holds j oj (other j oj h1 hlj).2).lt hlj h2
  ·intro j oj h1
   match j, h1 with
   | 0, h1 =>
    simp only [List.getElem?_cons_zero, Option.some.injEq] at h1
    subst h1
    obtain ⟨b1, vs1, fr, h2, h3, hf, p, q, hpq, h4⟩ := s.holds i _ hi
    simp only [cx] at h2 h3
    rw [hσ] at h2; cases h2
    exact ⟨b, vs1, fr, by simp [cx, σ0], h3, hf, p, q, hpq, repL_flat (c := cx B H σ w) (c' := cx B' (.cells xs e :: R) σ0 w) rfl wrB hxs h4⟩
   | j + 1, h1 =>
    have hm := List.mem_of_getElem? (show R[j]? = some oj by simpa using h1)
    obtain ⟨g, u, rfl⟩ := hRg _ hm
    obtain ⟨k, hk⟩ := hRH _ hm
    obtain ⟨q1, q2⟩ := s.holds k _ hk
    exact ⟨q1, fun q => q2 (wrB _ _ q)⟩
 have hr0 : RepL (cx B' (.cells xs e :: R) σ0 w) (.ptr 0 off :: rest) (.pointer (some ⟨b, off, none⟩) :: vs) := by
  refine repL_cons.2 ⟨?_, repL_flat (c := cx B H σ w) (c' := cx B' (.cells xs e :: R) σ0 w) rfl wrB ha hvr⟩
  unfold Rep
  exact ⟨by simp [cx], b, by simp [cx, σ0], rfl⟩
 have hn := Nat.le_of_ble_eq_true hn0
 have hvl := RepL.length hvr
 refine calls_of_wp hf hb (wp_mono (h B' σ0 w { tmps := (Value.pointer (some ⟨b, off, none⟩) :: vs).toArray ++ Array.replicate (fn.ntmps - (Value.pointer (some ⟨b, off, none⟩) :: vs).toArray.size) undef, defers := [] } ⟨s0, repT_args hr0 _, by simp; omega, rfl⟩) ?_)
 rintro e1 a' w' ⟨T', H1, σ', h1, h2, h3⟩
 have fin : ∀ (h4 : ∃ x, resX G T' H1 rs = some x ∧ Imp x res ∧ ∃ zs, H1[0]? = some (.cells zs e) ∧ ImpL zs ys), a'.defers = [] ∧ ∃ v, (results fn a'.tmps).run P w' = .ok v w' ∧ ∃ v' σ', Ending.returned v = Ending.returned v' ∧ Rep (cx B (H.set i (.cells ys e)) σ' w') res v' ∧ Sim B (H.set i (.cells ys e)) σ' w' ∧ Step B H σ w (H.set i (.cells ys e)) σ' w' := by
  rintro ⟨x, hx, h4, zs, h5, hzy⟩
  obtain ⟨v, h6, h7⟩ := run_resX hG hr h2 hx
  have hσ' : σ' 0 = some b := by have := h3.le.σ 0 (by simp [cx]); simpa [cx, σ0] using this
  have get : ∀ j oj, (H.set i (.cells ys e))[j]? = some oj → (j = i ∧ oj = .cells ys e) ∨ (j ≠ i ∧ H[j]? = some oj) := fun j oj hj => get_set hilt hj
  have wrN : ∀ b' off, (cx B (H.set i (.cells ys e)) σ w').Wr b' off → (cx B' H1 σ' w').Wr b' off := by
   rintro b' off (k1 | ⟨j, oj, k1, k2, k3⟩)
   ·exact .inl (.inl k1)
   ·rcases get j oj k1 with ⟨rfl, rfl⟩ | ⟨k4, k5⟩
    ·rw [hσ] at k2; cases k2
     exact .inr ⟨0, _, h5, hσ', trivial⟩
    ·exact .inl (.inr ⟨j, oj, by rw [List.getElem?_set_ne (Ne.symm k4)]; exact k5, k2, k3⟩)
  have wrO : ∀ b' off, (cx B (H.set i (.cells ys e)) σ w').Wr b' off → (cx B H σ w).Wr b' off := by
   rintro b' off (k1 | ⟨j, oj, k1, k2, k3⟩)
   ·exact .inl k1
   ·rcases get j oj k1 with ⟨rfl, rfl⟩ | ⟨k4, k5⟩
    ·exact .inr ⟨_, _, hi, k2, trivial⟩
    ·exact .inr ⟨j, oj, k5, k2, k3⟩
  have le : (cx B H σ w).Le (cx B (H.set i (.cells ys e)) σ w') := by
   refine ⟨by simp [cx], fun _ _ => rfl, fun b' off u k1 k2 => ?_, fun b' es clk k1 k2 => ?_, h3.le.shape⟩
   ·have k3 := h3.le.cell b' off u (fun k => k1 (wrB _ _ k)) k2
    exact ⟨k3.1, fun k => k1 (wrO _ _ k)⟩
   ·have k3 := h3.le.mapo b' es clk (fun k => k1 (wrB _ _ k)) k2
    exact ⟨k3.1, fun k => k1 (wrO _ _ k)⟩
  have keep : ∀ b', b' < w.heap.size → b' ≠ b → w'.heap[b']? = w.heap[b']? := by
   intro b' k1 k2
   refine h3.block b' k1 (fun j oj k3 kl k4 => ?_)
   match j, k3, k4 with
   | 0, _, k4 => simp only [σ0, if_true, Option.some.injEq] at k4; exact k2 k4.symm
   | j + 1, k3, _ => exact (dull k3 kl).elim
  have s' : Sim B (H.set i (.cells ys e)) σ w' := by
   refine ⟨?_, ?_, fun b' off k => Nat.lt_of_lt_of_le (s.base b' off k) h3.size, ?_⟩
   ·intro j k b' oj ok k1 k2 l1 l2 e1 e2
    rcases get j oj k1 with ⟨rfl, rfl⟩ | ⟨_, k3⟩ <;> rcases get k ok k2 with ⟨rfl, rfl⟩ | ⟨_, k4⟩
    ·rfl
    ·exact s.inj _ _ b' _ _ hi k4 rfl l2 e1 e2
    ·exact s.inj _ _ b' _ _ k3 hi l1 rfl e1 e2
    ·exact s.inj _ _ b' _ _ k3 k4 l1 l2 e1 e2
   ·intro j b' oj k1 l1 e1 off
    rcases get j oj k1 with ⟨rfl, rfl⟩ | ⟨_, k3⟩
    ·exact s.sep _ b' _ hi rfl e1 off
    ·exact s.sep _ b' _ k3 l1 e1 off
   ·intro j oj k1
    rcases get j oj k1 with ⟨rfl, rfl⟩ | ⟨hj, k3⟩
    ·obtain ⟨b1, vs1, fr, k4, k5, hf, p, q, hpq, k6⟩ := h2.sim.holds 0 _ h5
     simp only [cx] at k4 k5
     rw [hσ'] at k4; cases k4
     exact ⟨b, vs1, fr, hσ, k5, hf, p, q, hpq, repL_flat (c := cx B' H1 σ' w') (c' := cx B (H.set j (.cells ys e)) σ w') rfl wrN hys (impL_rep hzy k6)⟩
    ·have k := s.holds j oj k3
     cases oj with
     | cells zs t =>
      obtain ⟨x, ws, fr, k5, k6, hf, k7⟩ := k
      have hx : x ≠ b := fun hx => hj (s.inj j i b _ _ k3 hi rfl rfl (hx ▸ k5) hσ)
      exact ⟨x, ws, fr, k5, (keep x (Array.getElem?_eq_some_iff.1 k6).1 hx).trans k6, hf, k7.mono le⟩
     | free m =>
      intro x hx
      obtain ⟨cs, t, k5, k6⟩ := k x hx
      have hne : x ≠ b := fun h => hj (s.inj j i b _ _ k3 hi rfl rfl (h ▸ hx) hσ)
      exact ⟨cs, t, (keep x (Array.getElem?_eq_some_iff.1 k5).1 hne).trans k5, k6⟩
     | dead => trivial
     | glob g u => obtain ⟨q1, q2⟩ := k; exact le.cell g 0 u q2 q1
     | iter s2 pos =>
      obtain ⟨x, k5, k6⟩ := k
      have hx : x ≠ b := fun hx => hj (s.inj j i b _ _ k3 hi rfl rfl (hx ▸ k5) hσ)
      exact ⟨x, k5, (keep x (Array.getElem?_eq_some_iff.1 k6).1 hx).trans k6⟩
     | smap ks ms =>
      obtain ⟨x, es, clk, k5, k6, k7, k8⟩ := k
      have hx : x ≠ b := fun hx => hj (s.inj j i b _ _ k3 hi rfl rfl (hx ▸ k5) hσ)
      exact ⟨x, es, clk, k5, (keep x (Array.getElem?_eq_some_iff.1 k6).1 hx).trans k6, k7, RepL.mono le k8⟩
  refine ⟨h2.defers, v, h6, v, σ, rfl, ?_, s', ⟨le, h3.os, h3.tape, h3.output, h3.size, ?_, ?_⟩⟩
  ·exact rep_flat (c := cx B' H1 σ' w') (c' := cx B (H.set i (.cells ys e)) σ w') rfl wrN hres (h4 _ _ h7)
  ·intro j oj b' k1 k2 k3
   rcases get j oj k1 with ⟨rfl, rfl⟩ | ⟨_, k4⟩
   ·exact .inr ⟨_, _, hi, rfl, k3⟩
   ·exact .inr ⟨j, oj, k4, k2, k3⟩
  ·intro b' k1 k2
   exact keep b' k1 (fun k => k2 i _ hi rfl (k ▸ hσ))
 cases e1 <;> first | exact fin h1 | exact False.elim h1
theorem mut_of_W {G : List (Nat × TD)} (hG : tysOk P G = true) {f : FuncId} {fn : Func} {c : Code} {rest : List PV} {res : PV} {rs : List ResultVar} {off : Nat} {xs ys : List PV} {e : TypeId} (hf : P.funcs[f]? = some fn) (hb : fn.body = some c) (hr : fn.results = rs.toArray) (hn0 : Nat.ble (rest.length + 1) fn.ntmps = true)
  (ha : FlatL rest) (hres : Flat res) (hxs : FlatL xs) (hys : FlatL ys)
  (h : ∀ B, W P B fn.ntmps c (argT (.ptr 0 off :: rest)) [.cells xs e] (RetM G rs res ys e)) (H : List Ob) (i : Nat) (hi : H[i]? = some (.cells xs e)) : HC P f (.ptr i off :: rest) H res (H.set i (.cells ys e)) :=
 mutG_of_W (R := []) (by simp) hG hf hb hr hn0 ha hres hxs hys h H i hi (by simp)
end
end Go.Proofs.Ytlponhgbbfgkgaa
namespace Go.Proofs.Ytlponhgbbfgkgaa
open Go.RowKit
def sq {α : Type} (enc : α → List PV) (l : List α) : PV := .seq l.length (l.flatMap enc) .any
theorem flatMap_len {α : Type} (enc : α → List PV) (k : Nat) (hk : ∀ x, (enc x).length = k) : ∀ l : List α, (l.flatMap enc).length = l.length * k
 | [] => by simp
 | x :: l => by rw [List.flatMap_cons, List.length_append, flatMap_len enc k hk l, hk, List.length_cons, Nat.succ_mul, Nat.add_comm]
theorem flatMap_drop {α : Type} (enc : α → List PV) (k : Nat) (hk : ∀ x, (enc x).length = k) : ∀ (i : Nat) (l : List α), (l.flatMap enc).drop (i * k) = (l.drop i).flatMap enc
 | 0, l => by simp
 | i + 1, [] => by simp
 | i + 1, x :: l => by
  rw [List.flatMap_cons, List.drop_append, Nat.succ_mul]
  have h1 : (enc x).drop (i * k + k) = [] := by rw [List.drop_eq_nil_iff, hk]; omega
  have h2 : i * k + k - (enc x).length = i * k := by rw [hk]; omega
  rw [h1, h2, List.nil_append, flatMap_drop enc k hk i l, List.drop_succ_cons]
theorem flatMap_take {α : Type} (enc : α → List PV) (k : Nat) (hk : ∀ x, (enc x).length = k) : ∀ (i : Nat) (l : List α), (l.flatMap enc).take (i * k) = (l.take i).flatMap enc
 | 0, l => by simp
 | i + 1, [] => by simp
 | i + 1, x :: l => by
  rw [List.flatMap_cons, List.take_append, Nat.succ_mul]
  have h1 : (enc x).take (i * k + k) = enc x := List.take_of_length_le (by rw [hk]; omega)
  have h2 : i * k + k - (enc x).length = i * k := by rw [hk]; omega
  rw [h1, h2, flatMap_take enc k hk i l, List.take_succ_cons, List.flatMap_cons]
theorem iR {α : Type} (enc : α → List PV) (k : Nat) (hk : ∀ x, (enc x).length = k) (d : α) {l : List α} {i : Nat} (h : i < l.length) : Imp (.row ((l.flatMap enc).drop (i * k))) (.row (enc (l.getD i d))) := by
 intro c v hv
 rw [flatMap_drop enc k hk] at hv
 rw [List.drop_eq_getElem_cons h, List.flatMap_cons] at hv
 have e : l.getD i d = l[i] := by simp [List.getD, h]
 rw [e]
 unfold Rep at hv ⊢
 obtain ⟨b, vs, h1, h2, h3⟩ := hv
 have h4 := h2.take (enc l[i]).length
 rw [List.take_left] at h4
 exact ⟨b, _, h1, h4, Lies.take h3 _⟩
theorem sq_slice {α : Type} (enc : α → List PV) (k : Nat) (hk : ∀ x, (enc x).length = k) {l : List α} {a b : Nat} {s : SK} (hb : b ≤ l.length) : PV.seq (b - a) (((l.flatMap enc).drop (a * k)).take ((b - a) * k)) s = .seq ((l.take b).drop a).length (((l.take b).drop a).flatMap enc) s := by
 rw [flatMap_drop enc k hk, flatMap_take enc k hk, List.length_drop, List.length_take, Nat.min_eq_left hb]
 congr 2
 rw [List.drop_take]
theorem sq_append {α : Type} (enc : α → List PV) {l m : List α} {s : SK} : PV.seq (l.length + m.length) (l.flatMap enc ++ m.flatMap enc) s = .seq (l ++ m).length ((l ++ m).flatMap enc) s := by
 rw [List.length_append, List.flatMap_append]
theorem flat_sq {α : Type} {enc : α → List PV} (h : ∀ x, FlatL (enc x)) (l : List α) : Flat (sq enc l) := by
 unfold sq Flat
 refine ⟨?_, .inl rfl⟩
 induction l with
 | nil => rw [List.flatMap_nil]; unfold FlatL; trivial
 | cons x l ih =>
  rw [List.flatMap_cons]
  have app : ∀ a b : List PV, FlatL a → FlatL b → FlatL (a ++ b) := by
   intro a b ha hb
   induction a with
   | nil => exact hb
   | cons y a iha => unfold FlatL at ha; rw [List.cons_append]; unfold FlatL; exact ⟨ha.1, iha ha.2⟩
  exact app _ _ (h x) ih
theorem okC_flat {α : Type} (enc : α → List PV) (h : ∀ x, ((enc x).all okC) = true) : ∀ l : List α, ∀ x ∈ l.flatMap enc, okC x = true := by
 intro l x hx
 obtain ⟨y, _, hy⟩ := List.mem_flatMap.1 hx
 exact List.all_eq_true.1 (h y) x hy
@[simp] theorem flat_val (v : Value) : Flat (.val v) := by unfold Flat; trivial
@[simp] theorem flat_tup (cs : List PV) : Flat (.tup cs) ↔ FlatL cs := by rw [Flat]
@[simp] theorem flat_agg (cs : List PV) : Flat (.agg cs) ↔ FlatL cs := by rw [Flat]
@[simp] theorem flatL_nil : FlatL [] := by unfold FlatL; trivial
@[simp] theorem flatL_cons (x : PV) (xs : List PV) : FlatL (x :: xs) ↔ Flat x ∧ FlatL xs := by rw [FlatL]
def cInt (n : Int) : List PV := [.val (.int .i64 n)]
def cByte (b : UInt8) : List PV := [.val (.int .u8 (b.toNat : Int))]
abbrev Str := List UInt8
def str (l : Str) : PV := .val (.string ⟨l.toArray⟩)
def cStr (l : Str) : List PV := [str l]
def cBool (b : Bool) : List PV := [.val (.bool b)]
def i64 (n : Int) : PV := .val (.int .i64 n)
def boo (b : Bool) : PV := .val (.bool b)
@[simp] theorem flat_i64 (n : Int) : Flat (i64 n) := by unfold i64 Flat; trivial
@[simp] theorem flat_boo (n : Bool) : Flat (boo n) := by unfold boo Flat; trivial
@[simp] theorem flat_str (n : Str) : Flat (str n) := by unfold str Flat; trivial
@[simp] theorem flat_cInt (n : Int) : FlatL (cInt n) := by unfold cInt FlatL; exact ⟨by unfold Flat; trivial, by unfold FlatL; trivial⟩
@[simp] theorem flat_cByte (n : UInt8) : FlatL (cByte n) := by unfold cByte FlatL; exact ⟨by unfold Flat; trivial, by unfold FlatL; trivial⟩
@[simp] theorem flat_cStr (n : Str) : FlatL (cStr n) := by unfold cStr FlatL; exact ⟨flat_str n, by unfold FlatL; trivial⟩
@[simp] theorem flat_cBool (n : Bool) : FlatL (cBool n) := by unfold cBool FlatL; exact ⟨by unfold Flat; trivial, by unfold FlatL; trivial⟩
@[simp] theorem flat_ints (l : List Int) : Flat (sq cInt l) := flat_sq flat_cInt l
@[simp] theorem flat_bytes (l : List UInt8) : Flat (sq cByte l) := flat_sq flat_cByte l
@[simp] theorem flat_strs (l : List Str) : Flat (sq cStr l) := flat_sq flat_cStr l
@[simp] theorem flat_bools (l : List Bool) : Flat (sq cBool l) := flat_sq flat_cBool l
theorem i64w (x : Int) : IntKind.i64.wrap x = wrap64 x := IntWalk.i64_left _
theorem bytes_ext {a b : ByteArray} (h : a.data.toList = b.data.toList) : a = b := by
 cases a; cases b; simp only at h; congr 1; exact Array.toList_inj.1 h
theorem str_eql (a b : Str) : PV.val (.bool (strEq ⟨a.toArray⟩ ⟨b.toArray⟩)) = .val (.bool (decide (a = b))) := by
 rw [strEq_eq]
 have : decide ((⟨a.toArray⟩ : ByteArray) = ⟨b.toArray⟩) = decide (a = b) := by
  rw [Bool.eq_iff_iff]; simp [ByteArray.mk.injEq]
 rw [this]
theorem str_neq (a b : Str) : PV.val (.bool (!strEq ⟨a.toArray⟩ ⟨b.toArray⟩)) = .val (.bool (!decide (a = b))) := by
 have := str_eql a b
 simp only [PV.val.injEq, Value.bool.injEq] at this
 rw [this]
theorem str_append (a b : Str) : PV.val (.string ((⟨a.toArray⟩ : ByteArray) ++ ⟨b.toArray⟩)) = str (a ++ b) := by
 unfold str
 rw [show (⟨a.toArray⟩ : ByteArray) ++ ⟨b.toArray⟩ = ⟨(a ++ b).toArray⟩ from bytes_ext (by rw [ByteArray.data_append]; simp)]
theorem str_byte (l : Str) (i : Nat) : PV.val (.int .u8 (byteAt ⟨l.toArray⟩ i)) = .val (.int .u8 ((l.getD i 0).toNat : Int)) := by
 unfold byteAt
 simp
theorem str_size (l : Str) : (⟨l.toArray⟩ : ByteArray).size = l.length := by
 show l.toArray.size = _
 simp
theorem str_byteN (l : Str) (k : Nat) : PV.val (.int .u8 (byteAt ⟨l.toArray⟩ ((k : Int)).toNat)) = .val (.int .u8 ((l.getD k 0).toNat : Int)) := str_byte l k
theorem iN {α : Type} (enc : α → List PV) (k : Nat) (hk : ∀ x, (enc x).length = k) (d : α) {l : List α} {i : Nat} (h : i < l.length) : Imp (.row ((l.flatMap enc).drop (((i : Int)).toNat * k))) (.row (enc (l.getD i d))) := iR enc k hk d h
theorem take_snoc' {α : Type} (l : List α) (k : Nat) (d : α) (h : k < l.length) : l.take (k + 1) = l.take k ++ [l.getD k d] := by
 rw [List.take_succ_eq_append_getElem h]; simp [List.getD, h]
theorem take_all' {α : Type} (l : List α) (k : Nat) (h : l.length ≤ k) : l.take k = l := List.take_of_length_le h
theorem ld_sq1 {α : Type} (enc : α → List PV) (hk : ∀ x, (enc x).length = 1) (d : α) {l : List α} {i : Nat} (h : i < l.length) : (l.flatMap enc)[i]? = (enc (l.getD i d))[0]? := by
 have h1 := flatMap_drop enc 1 hk i l
 rw [Nat.mul_one] at h1
 have h2 : (l.flatMap enc)[i]? = ((l.flatMap enc).drop i)[0]? := by rw [List.getElem?_drop]; simp
 rw [h2, h1, List.drop_eq_getElem_cons h, List.flatMap_cons]
 have e : l.getD i d = l[i] := by simp [List.getD, h]
 rw [e, List.getElem?_append_left (by rw [hk]; omega)]
theorem ld_byte {t : TD} (ht : t.agg = false) {l : List UInt8} {i : Nat} (h : i < l.length) : loadPV t (l.flatMap cByte) i = some (.val (.int .u8 ((l.getD i 0).toNat : Int))) := by
 unfold loadPV
 rw [ht]
 exact ld_sq1 cByte (fun _ => rfl) 0 h
theorem splice_sq {α : Type} (enc : α → List PV) (k : Nat) (hk : ∀ x, (enc x).length = k) {l : List α} {i : Nat} (h : i < l.length) (x : α) : splice (l.flatMap enc) (i * k) (enc x) = (l.set i x).flatMap enc := by
 unfold splice
 rw [flatMap_take enc k hk, hk, ← Nat.succ_mul, flatMap_drop enc k hk]
 rw [List.set_eq_take_append_cons_drop, if_pos h, List.flatMap_append, List.flatMap_cons, List.append_assoc]
theorem splice_byte {l : List UInt8} {i : Nat} (h : i < l.length) (x : UInt8) : splice (l.flatMap cByte) i [.val (.int .u8 (x.toNat : Int))] = (l.set i x).flatMap cByte := by
 have := splice_sq cByte 1 (fun _ => rfl) h x
 rw [Nat.mul_one] at this
 exact this
theorem str_len (l : Str) : PV.val (.int .i64 ((⟨l.toArray⟩ : ByteArray).size : Int)) = .val (.int .i64 (l.length : Int)) := by rw [str_size]
theorem str_of (s : ByteArray) : PV.val (.string s) = str s.data.toList := by unfold str; cases s; simp
theorem nums_str (l : List UInt8) : strOfNums (l.map fun b => (b.toNat : Int)) = ⟨l.toArray⟩ := by
 apply bytes_ext
 rw [strOfNums_data]
 simp only [List.map_map]
 induction l with
 | nil => rfl
 | cons x l ih =>
  simp only [List.map_cons, List.toList_toArray, List.cons.injEq, Function.comp]
  refine ⟨?_, by simpa using ih⟩
  rw [← UInt8.toNat_inj, UInt8.toNat_ofNat']
  have := x.toNat_lt
  omega
theorem cByte_map (l : List UInt8) : l.flatMap cByte = (l.map fun b => (b.toNat : Int)).map byteP := by
 induction l with
 | nil => rfl
 | cons x l ih => rw [List.flatMap_cons, ih]; rfl
theorem does_bytes_str {P : Program} {B : Nat → Nat → Prop} {o : Oper} {T : Nat → PV} {H : List Ob} {src dst e : TypeId} {ds dd de : TD} {x : Operand} {l : List UInt8} {s : SK} (f : TyFacts P src ds) (hs : ds.sh = .slice e) (fe : TyFacts P e de) (he : de.sh = .int .u8) (g : TyFacts P dst dd) (hd : dd.sh = .str) (ho : o.op = .convert src dst x) (hx : opv T x = .seq l.length (l.flatMap cByte) s) :
  Does P B o T H (str l) H := by
 rw [cByte_map] at hx
 have := does_convert_bytes (B := B) (H := H) (s := s) f hs fe he g hd ho hx (by simp)
 rw [nums_str] at this
 exact this
theorem does_arw_str {P : Program} {B : Nat → Nat → Prop} {o : Oper} {T : Nat → PV} {H : List Ob} {src dst e et : TypeId} {ds dd de : TD} {x : Operand} {l : List UInt8} {i n : Nat} (f : TyFacts P src ds) (hs : ds.sh = .slice e) (fe : TyFacts P e de) (he : de.sh = .int .u8) (g : TyFacts P dst dd) (hd : dd.sh = .str) (ho : o.op = .convert src dst x) (hx : opv T x = .arw i 0 n) (hi : H[i]? = some (.cells (l.flatMap cByte) et)) (hn : l.length = n) :
  Does P B o T H (str l) H := by
 have := does_convert_arw (B := B) (zs := l.map fun b => (b.toNat : Int)) f hs fe he g hd ho hx hi (by
  rw [List.drop_zero, cByte_map, List.take_of_length_le (by simp; omega)]) (by simpa using hn)
 rw [nums_str] at this
 exact this
section
variable {P : Program} {B : Nat → Nat → Prop} {n : Nat} {T : Nat → PV} {H : List Ob} {o : Oper} {l : List Oper} {x y : PV} {H' : List Ob} {p : Prop} {G : List (Nat × TD)} {all : Array Oper}
theorem Does.imp (h : Does P B o T H x H') (hi : Imp x y) : Does P B o T H y H' := by
 intro σ w a s k
 obtain ⟨v, w', σ', h1, h2, h3, h4⟩ := h σ w a s k
 exact ⟨v, w', σ', h1, hi _ _ h2, h3, h4⟩
theorem DoesC.imp (h : DoesC P B o T H x H') (hi : Imp x y) : DoesC P B o T H y H' := by
 intro σ w a s k
 obtain ⟨f, args, h1, h2⟩ := h σ w a s k
 refine ⟨f, args, h1, Calls.mono h2 ?_⟩
 rintro e w' ⟨v, σ', he, h3, h4⟩
 exact ⟨v, σ', he, hi _ _ h3, h4⟩
theorem Wv {K : (Nat → PV) → List Ob → Prop} {d : Option Tmp} (hG : tysOk P G = true) (hd : nfD n o.dst = some d) (hw : wantedA all T o = some true) (h : evN G T H o.type o.op = some (x, H', p)) (hp : p) (hi : Imp x y) (k : WO P B n all l (updD d y T) H' K) : WO P B n all (o :: l) T H K :=
 Wd hd hw ((evOp_ok hG rfl (evN_ok h) hp).imp hi) k
end
end Go.Proofs.Ytlponhgbbfgkgaa
namespace Go.Proofs.Ytlponhgbbfgkgaa
open Go.RowKit
def St : List (Nat × PV) → Nat → PV
 | [], _ => .any
 | (i, x) :: l, j => match Nat.beq j i with
  | true => x
  | false => St l j
def nm (b : Nat) (is : List Nat) (t : Nat) : Nat := match Nat.blt t b with
 | true => t
 | false => is.getD (t - b) 0
def unre1 (b : Nat) (is : List Nat) : PV → PV
 | .ptr i off => .ptr (nm b is i) off
 | x => x
def unre (b : Nat) (is : List Nat) : PV → PV
 | .ptr i off => .ptr (nm b is i) off
 | .arr i off n cap => .arr (nm b is i) off n cap
 | .arw i off n => .arw (nm b is i) off n
 | .seq n xs (.own t k) => .seq n xs (.own (nm b is t) k)
 | .fn f a c => .fn f (a.map (unre1 b is)) (c.map (unre1 b is))
 | x => x
def NL1 (N : Nat) : PV → Prop
 | .ptr i _ => i < N
 | x => Flat x
def NL1L (N : Nat) : List PV → Prop
 | [] => True
 | x :: xs => NL1 N x ∧ NL1L N xs
def NL (N : Nat) : PV → Prop
 | .ptr i _ => i < N
 | .arr i _ _ _ => i < N
 | .arw i _ _ => i < N
 | .seq _ xs (.own t _) => t < N ∧ FlatL xs
 | .fn _ a c => NL1L N a ∧ NL1L N c
 | x => Flat x
def NLs (N : Nat) : List (Nat × PV) → Prop
 | [] => True
 | (_, x) :: l => NL N x ∧ NLs N l
def NLo (b : Nat) : List Ob → Prop
 | [] => True
 | .cells xs _ :: l => NL1L b xs ∧ NLo b l
 | .smap _ xs :: l => NL1L b xs ∧ NLo b l
 | _ :: l => NLo b l
def ReBase : List Ob → List Ob → Prop
 | _, [] => True
 | [], _ :: _ => False
 | o :: H, o' :: Hb => (o' = o ∨ o' = .dead) ∧ ReBase H Hb
def ReX (H : List Ob) : List Nat → List Ob → Prop
 | [], [] => True
 | k :: is, o :: Hx => H[k]? = some o ∧ ReX H is Hx
 | _, _ => False
def Moved (Hb : List Ob) (b : Nat) : List Nat → Prop
 | [] => True
 | k :: is => (b ≤ k ∨ Hb[k]? = some .dead) ∧ Moved Hb b is
def SubL (b : Nat) (is : List Nat) (T : Nat → PV) : List (Nat × PV) → Prop
 | [] => True
 | (i, x) :: l => Imp (T i) (unre b is x) ∧ SubL b is T l
def reσ (b : Nat) (is : List Nat) (σ : Nat → Option Nat) : Nat → Option Nat := fun i => match Nat.blt i b with
 | true => σ i
 | false => match is[i - b]? with
  | some k => σ k
  | none => none
structure Re (H Hb Hx : List Ob) (is : List Nat) : Prop where
 base : ReBase H Hb
 extra : ReX H is Hx
 nodup : is.Nodup
 moved : Moved Hb Hb.length is
 cont : NLo Hb.length (Hb ++ Hx)
section
variable {P : Program} {B : Nat → Nat → Prop} {T : Nat → PV} {H Hb Hx : List Ob} {is : List Nat} {σ : Nat → Option Nat} {w : World}
theorem ReBase.get : ∀ {H Hb : List Ob} (_ : ReBase H Hb) {i : Nat} {o : Ob}, Hb[i]? = some o → H[i]? = some o ∨ o = .dead
 | _, [], _, i, o, h => by simp at h
 | [], _ :: _, r, _, _, _ => r.elim
 | x :: H, y :: Hb, r, 0, o, h => by
  simp at h; subst h
  rcases r.1 with h | h
  ·exact .inl (by simp [h])
  ·exact .inr h
 | x :: H, y :: Hb, r, i + 1, o, h => by simpa using ReBase.get r.2 (by simpa using h)
theorem ReBase.le : ∀ {H Hb : List Ob} (_ : ReBase H Hb), Hb.length ≤ H.length
 | _, [], _ => by simp
 | [], _ :: _, r => r.elim
 | x :: H, y :: Hb, r => by simpa using ReBase.le r.2
theorem ReX.len : ∀ {is : List Nat} {Hx : List Ob} (_ : ReX H is Hx), Hx.length = is.length
 | [], [], _ => rfl
 | k :: is, o :: Hx, r => by simpa using ReX.len r.2
 | [], _ :: _, r => r.elim
 | _ :: _, [], r => r.elim
theorem ReX.get : ∀ {is : List Nat} {Hx : List Ob} (_ : ReX H is Hx) {j : Nat} {o : Ob}, Hx[j]? = some o → ∃ k, is[j]? = some k ∧ H[k]? = some o
 | [], [], _, j, o, h => by simp at h
 | k :: is, x :: Hx, r, 0, o, h => by simp at h; subst h; exact ⟨k, rfl, r.1⟩
 | k :: is, x :: Hx, r, j + 1, o, h => by simpa using ReX.get r.2 (by simpa using h)
 | [], _ :: _, r, _, _, _ => r.elim
 | _ :: _, [], r, _, _, _ => r.elim
theorem Moved.get : ∀ {is : List Nat} {b : Nat} (_ : Moved Hb b is) {k : Nat}, k ∈ is → b ≤ k ∨ Hb[k]? = some .dead
 | [], _, _, k, h => by simp at h
 | x :: is, b, r, k, h => by
  rcases List.mem_cons.1 h with rfl | h
  ·exact r.1
  ·exact Moved.get r.2 h
theorem reσ_lt {b i : Nat} (h : i < b) : reσ b is σ i = σ i := by unfold reσ; rw [show Nat.blt i b = true from by rw [Nat.blt_eq]; exact h]
theorem reσ_ge {b j : Nat} : reσ b is σ (b + j) = match is[j]? with | some k => σ k | none => none := by
 unfold reσ
 rw [show Nat.blt (b + j) b = false from by rw [← Bool.not_eq_true, Nat.blt_eq]; omega]
 simp
theorem re_old (r : Re H Hb Hx is) {i : Nat} {o : Ob} (h : (Hb ++ Hx)[i]? = some o) (hl : o.live = true) :
  ∃ k, H[k]? = some o ∧ reσ Hb.length is σ i = σ k ∧ ((i < Hb.length ∧ k = i) ∨ ∃ j, i = Hb.length + j ∧ is[j]? = some k) := by
 rcases Nat.lt_or_ge i Hb.length with h1 | h1
 ·rw [List.getElem?_append_left h1] at h
  rcases r.base.get h with h2 | rfl
  ·exact ⟨i, h2, reσ_lt h1, .inl ⟨h1, rfl⟩⟩
  ·cases hl
 ·obtain ⟨j, rfl⟩ : ∃ j, i = Hb.length + j := ⟨i - Hb.length, by omega⟩
  rw [List.getElem?_append_right h1, Nat.add_sub_cancel_left] at h
  obtain ⟨k, h2, h3⟩ := r.extra.get h
  exact ⟨k, h3, by rw [reσ_ge, h2], .inr ⟨j, rfl, h2⟩⟩
theorem re_wr (r : Re H Hb Hx is) {b' off : Nat} (h : OwnWr (reσ Hb.length is σ) (Hb ++ Hx) b' off) : OwnWr σ H b' off := by
 obtain ⟨i, oi, h1, h2, h3⟩ := h
 have hl : oi.live = true := by cases oi <;> first | rfl | cases h3
 obtain ⟨k, h4, h5, _⟩ := re_old (σ := σ) r h1 hl
 exact ⟨k, oi, h4, by rw [← h5]; exact h2, h3⟩
theorem re_wrC (r : Re H Hb Hx is) : ∀ b' off, (cx B (Hb ++ Hx) (reσ Hb.length is σ) w).Wr b' off → (cx B H σ w).Wr b' off
 | _, _, .inl h => .inl h
 | _, _, .inr h => .inr (re_wr r h)
theorem re_name (r : Re H Hb Hx is) {i : Nat} (hi : i < (Hb ++ Hx).length) : reσ Hb.length is σ i = σ (nm Hb.length is i) := by
 unfold nm
 rcases Nat.lt_or_ge i Hb.length with h1 | h1
 ·rw [reσ_lt h1, show Nat.blt i Hb.length = true from by rw [Nat.blt_eq]; exact h1]
 ·obtain ⟨j, rfl⟩ : ∃ j, i = Hb.length + j := ⟨i - Hb.length, by omega⟩
  rw [reσ_ge, show Nat.blt (Hb.length + j) Hb.length = false from by rw [← Bool.not_eq_true, Nat.blt_eq]; omega]
  have hj : j < is.length := by rw [List.length_append, r.extra.len] at hi; omega
  simp [List.getD, hj]
theorem rep_re (r : Re H Hb Hx is) {x : PV} {v : Value} (hn : NL (Hb ++ Hx).length x) (h : Rep (cx B H σ w) (unre Hb.length is x) v) : Rep (cx B (Hb ++ Hx) (reσ Hb.length is σ) w) x v := by
 have flat : ∀ {x v}, Flat x → Rep (cx B H σ w) x v → Rep (cx B (Hb ++ Hx) (reσ Hb.length is σ) w) x v := fun hf hr => rep_flat (c := cx B H σ w) (c' := cx B (Hb ++ Hx) (reσ Hb.length is σ) w) rfl (re_wrC r) hf hr
 have ptr : ∀ {i off v}, i < (Hb ++ Hx).length → Rep (cx B H σ w) (.ptr (nm Hb.length is i) off) v → Rep (cx B (Hb ++ Hx) (reσ Hb.length is σ) w) (.ptr i off) v := by
  intro i off v hi hr
  unfold Rep at hr ⊢
  obtain ⟨_, b, h1, h2⟩ := hr
  exact ⟨hi, b, (re_name r hi).trans h1, h2⟩
 have one : ∀ {x v}, NL1 (Hb ++ Hx).length x → Rep (cx B H σ w) (unre1 Hb.length is x) v → Rep (cx B (Hb ++ Hx) (reσ Hb.length is σ) w) x v := by
  intro x v h1 h2
  cases x <;> first | exact ptr h1 h2 | exact flat h1 h2
 have oneL : ∀ {xs : List PV} {vs : List Value}, NL1L (Hb ++ Hx).length xs → RepL (cx B H σ w) (xs.map (unre1 Hb.length is)) vs → RepL (cx B (Hb ++ Hx) (reσ Hb.length is σ) w) xs vs := by
  intro xs
  induction xs with
  | nil => intro vs _ h2; rw [List.map_nil, repL_nil] at h2; exact repL_nil.2 h2
  | cons x xs ih =>
   intro vs h1 h2
   cases vs with
   | nil => rw [List.map_cons] at h2; unfold RepL at h2; obtain ⟨u, us, h3, _⟩ := h2; cases h3
   | cons v vs => rw [List.map_cons, repL_cons] at h2; exact repL_cons.2 ⟨one h1.1 h2.1, ih h1.2 h2.2⟩
 cases x with
 | ptr i off => exact ptr hn h
 | arr i off n cap =>
  unfold unre Rep at h
  unfold Rep
  obtain ⟨_, b, h1, h2⟩ := h
  exact ⟨hn, b, (re_name r hn).trans h1, h2⟩
 | arw i off n =>
  unfold unre Rep at h
  unfold Rep
  obtain ⟨_, b, cap, h1, h2⟩ := h
  exact ⟨hn, b, cap, (re_name r hn).trans h1, h2⟩
 | seq n xs s =>
  cases s with
  | own t k =>
   unfold unre Rep at h
   unfold Rep
   obtain ⟨a, cap, vs, h1, h2, h3, h4, h5, h6, h7, h8⟩ := h
   refine ⟨a, cap, vs, h1, h2, h3, repL_flat (c := cx B H σ w) (c' := cx B (Hb ++ Hx) (reσ Hb.length is σ) w) rfl (re_wrC r) hn.2 h4, fun b hb => (h5 b hb).imp (fun hl => ⟨hl.1, fun j u hj => ⟨(hl.2 j u hj).1, fun hw => (hl.2 j u hj).2 (re_wrC r _ _ hw)⟩⟩) id, hn.1, h7, ?_⟩
   rcases h8 with h8 | ⟨b, cs, e, h9, h10, h11⟩
   ·exact .inl h8
   ·exact .inr ⟨b, cs, e, (re_name r hn.1).trans h9, h10, h11⟩
  | any => exact flat hn h
  | clip => exact flat hn h
 | fn f a c =>
  unfold unre Rep at h
  unfold Rep
  obtain ⟨fs, cs, h1, h2, h3⟩ := h
  exact ⟨fs, cs, h1, oneL hn.1 h2, oneL hn.2 h3⟩
 | _ => exact flat hn h
theorem nlo_get : ∀ {l : List Ob} {b : Nat} (_ : NLo b l) {i : Nat} {xs : List PV} {e : TypeId}, l[i]? = some (.cells xs e) → NL1L b xs
 | [], _, _, i, xs, e, h => by simp at h
 | o :: l, b, hn, 0, xs, e, h => by simp at h; subst h; exact hn.1
 | .cells _ _ :: l, b, hn, i + 1, xs, e, h => nlo_get (l := l) hn.2 (by simpa using h)
 | .smap _ _ :: l, b, hn, i + 1, xs, e, h => nlo_get (l := l) hn.2 (by simpa using h)
 | .iter _ _ :: l, b, hn, i + 1, xs, e, h => nlo_get (l := l) hn (by simpa using h)
 | .free _ :: l, b, hn, i + 1, xs, e, h => nlo_get (l := l) hn (by simpa using h)
 | .dead :: l, b, hn, i + 1, xs, e, h => nlo_get (l := l) hn (by simpa using h)
 | .glob _ _ :: l, b, hn, i + 1, xs, e, h => nlo_get (l := l) hn (by simpa using h)
theorem nlo_getM : ∀ {l : List Ob} {b : Nat} (_ : NLo b l) {i : Nat} {ks : List MKey} {xs : List PV}, l[i]? = some (.smap ks xs) → NL1L b xs
 | [], _, _, i, xs, e, h => by simp at h
 | o :: l, b, hn, 0, xs, e, h => by simp at h; subst h; exact hn.1
 | .cells _ _ :: l, b, hn, i + 1, xs, e, h => nlo_getM (l := l) hn.2 (by simpa using h)
 | .smap _ _ :: l, b, hn, i + 1, xs, e, h => nlo_getM (l := l) hn.2 (by simpa using h)
 | .iter _ _ :: l, b, hn, i + 1, xs, e, h => nlo_getM (l := l) hn (by simpa using h)
 | .free _ :: l, b, hn, i + 1, xs, e, h => nlo_getM (l := l) hn (by simpa using h)
 | .dead :: l, b, hn, i + 1, xs, e, h => nlo_getM (l := l) hn (by simpa using h)
 | .glob _ _ :: l, b, hn, i + 1, xs, e, h => nlo_getM (l := l) hn (by simpa using h)
theorem unre1_low {b : Nat} : ∀ {xs : List PV}, NL1L b xs → xs.map (unre1 b is) = xs
 | [], _ => rfl
 | x :: xs, h => by
  rw [List.map_cons, unre1_low h.2]
  congr 1
  have h1 := h.1
  cases x <;> first | rfl | skip
  simp only [NL1] at h1
  simp only [unre1, nm]
  rw [show Nat.blt _ b = true from by rw [Nat.blt_eq]; exact h1]
theorem repL_re (r : Re H Hb Hx is) {xs : List PV} {vs : List Value} (hn : NL1L Hb.length xs) (h : RepL (cx B H σ w) xs vs) : RepL (cx B (Hb ++ Hx) (reσ Hb.length is σ) w) xs vs := by
 have h1 := unre1_low (is := is) hn
 have h2 : RepL (cx B H σ w) (xs.map (unre1 Hb.length is)) vs := by rw [h1]; exact h
 clear h h1
 induction xs generalizing vs with
 | nil => rw [List.map_nil, repL_nil] at h2; exact repL_nil.2 h2
 | cons x xs ih =>
  cases vs with
  | nil => rw [List.map_cons] at h2; unfold RepL at h2; obtain ⟨u, us, h3, _⟩ := h2; cases h3
  | cons v vs =>
   rw [List.map_cons, repL_cons] at h2
   refine repL_cons.2 ⟨?_, ih hn.2 h2.2⟩
   have hx := hn.1
   cases x <;> first
    | (refine rep_re (x := .ptr _ _) r ?_ h2.1; show _ < _; simp only [NL1] at hx; rw [List.length_append]; omega)
    | exact rep_flat (c := cx B H σ w) (c' := cx B (Hb ++ Hx) (reσ Hb.length is σ) w) rfl (re_wrC r) hx h2.1
theorem sim_re (r : Re H Hb Hx is) (s : Sim B H σ w) : Sim B (Hb ++ Hx) (reσ Hb.length is σ) w := by
 refine ⟨?_, ?_, s.base, ?_⟩
 ·intro i j b oi oj h1 h2 l1 l2 e1 e2
  obtain ⟨k, g1, g2, g3⟩ := re_old (σ := σ) r h1 l1
  obtain ⟨k', g1', g2', g3'⟩ := re_old (σ := σ) r h2 l2
  have hk := s.inj k k' b oi oj g1 g1' l1 l2 (g2 ▸ e1) (g2' ▸ e2)
  subst hk
  rcases g3 with ⟨g3, rfl⟩ | ⟨q, rfl, g3⟩ <;> rcases g3' with ⟨g3', rfl⟩ | ⟨q', rfl, g3'⟩
  ·rfl
  ·rcases r.moved.get (List.mem_of_getElem? g3') with g4 | g4
   ·omega
   ·rw [List.getElem?_append_left g3] at h1; rw [h1] at g4; cases g4; cases l1
  ·rcases r.moved.get (List.mem_of_getElem? g3) with g4 | g4
   ·omega
   ·rw [List.getElem?_append_left g3'] at h2; rw [h2] at g4; cases g4; cases l2
  ·have : q = q' := by
    have hq := (List.getElem?_eq_some_iff.1 g3).1
    exact (List.getElem?_inj hq r.nodup).1 (g3.trans g3'.symm)
   rw [this]
 ·intro i b oi h1 l1 e1 off
  obtain ⟨k, g1, g2, _⟩ := re_old (σ := σ) r h1 l1
  exact s.sep k b oi g1 l1 (g2 ▸ e1) off
 ·intro i oi h1
  cases oi with
  | dead => trivial
  | glob g u =>
   have key : ∃ k : Nat, H[k]? = some (Ob.glob g u) := by
    rcases Nat.lt_or_ge i Hb.length with h2 | h2
    ·rw [List.getElem?_append_left h2] at h1
     rcases r.base.get h1 with h3 | h3
     ·exact ⟨i, h3⟩
     ·cases h3
    ·rw [List.getElem?_append_right h2] at h1
     obtain ⟨k, _, h3⟩ := r.extra.get h1
     exact ⟨k, h3⟩
   obtain ⟨k, hk⟩ := key
   obtain ⟨q1, q2⟩ := s.holds k _ hk
   exact ⟨q1, fun q => q2 (re_wrC r _ _ q)⟩
  | cells xs e =>
   obtain ⟨k, g1, g2, _⟩ := re_old (σ := σ) r h1 rfl
   obtain ⟨b, vs, fr, h3, h4, h5, p, q, hpq, h6⟩ := s.holds k _ g1
   exact ⟨b, vs, fr, g2.trans h3, h4, h5, p, q, hpq, repL_re r (nlo_get r.cont h1) h6⟩
  | iter s2 pos =>
   obtain ⟨k, g1, g2, _⟩ := re_old (σ := σ) r h1 rfl
   obtain ⟨b, h3, h4⟩ := s.holds k _ g1
   exact ⟨b, g2.trans h3, h4⟩
  | smap ks ms =>
   obtain ⟨k, g1, g2, _⟩ := re_old (σ := σ) r h1 rfl
   obtain ⟨b, es, clk, h3, h4, h5, h6⟩ := s.holds k _ g1
   exact ⟨b, es, clk, g2.trans h3, h4, h5, repL_re r (nlo_getM r.cont h1) h6⟩
  | free m =>
   obtain ⟨k, g1, g2, _⟩ := re_old (σ := σ) r h1 rfl
   intro b hb
   exact s.holds k _ g1 b (by show σ k = some b; rw [← g2]; exact hb)
theorem step_re {H0 : List Ob} {σ0 : Nat → Option Nat} {w0 : World} (r : Re H Hb Hx is) (hb : H0.length = Hb.length) (st : Step B H0 σ0 w0 H σ w) : Step B H0 σ0 w0 (Hb ++ Hx) (reσ Hb.length is σ) w := by
 refine ⟨⟨by simp [cx]; omega, fun i hi => ?_, fun b off u h1 h2 => ?_, fun b es clk h1 h2 => ?_, st.le.shape⟩, st.os, st.tape, st.output, st.size, fun i oi b h1 h2 h3 => ?_, st.block⟩
 ·simp only [cx] at hi ⊢
  rw [reσ_lt (by omega)]
  exact st.le.σ i hi
 ·have := st.le.cell b off u h1 h2
  exact ⟨this.1, fun h => this.2 (re_wrC r _ _ h)⟩
 ·have := st.le.mapo b es clk h1 h2
  exact ⟨this.1, fun h => this.2 (re_wrC r _ _ h)⟩
 ·obtain ⟨k, g1, g2, _⟩ := re_old (σ := σ) r h1 h2
  exact st.new k oi b g1 h2 (g2 ▸ h3)
theorem st_rep (r : Re H Hb Hx is) {a : Act} (h : RepT (cx B H σ w) T a) : ∀ {l : List (Nat × PV)}, SubL Hb.length is T l → NLs (Hb ++ Hx).length l → RepT (cx B (Hb ++ Hx) (reσ Hb.length is σ) w) (St l) a
 | [], _, _ => fun i => by unfold St Rep; trivial
 | (i, x) :: l, hs, hn => fun j => by
  unfold St
  by_cases hj : j = i
  ·subst hj
   rw [show Nat.beq j j = true from Nat.beq_refl j]
   exact rep_re r hn.1 (hs.1 _ _ (h j))
  ·rw [show Nat.beq j i = false from by rw [← Bool.not_eq_true, Nat.beq_eq]; exact hj]
   exact st_rep r h hs.2 hn.2 j
variable {n : Nat} {Q : Exit → (Nat → PV) → List Ob → Prop}
structure Fits (b : Nat) (L : List (Nat × PV)) (Hb Hx : List Ob) (T : Nat → PV) (H : List Ob) (is : List Nat) : Prop where
 len : b = Hb.length
 re : Re H Hb Hx is
 sub : SubL Hb.length is T L
 low : NLs (Hb ++ Hx).length L
theorem W_loopS {α : Type} {c : Code} (L : α → List (Nat × PV)) (Hb Hx : α → List Ob) (Inv : α → Prop) (μ : α → Nat) (s0 : α) (i0 : Inv s0) (is0 : List Nat) (h0 : Fits H.length (L s0) (Hb s0) (Hx s0) T H is0)
  (round : ∀ s, Inv s → W P B n c (St (L s)) (Hb s ++ Hx s) (thenQ (fun T' H' => ∃ s' is, Inv s' ∧ μ s' < μ s ∧ Fits H.length (L s') (Hb s') (Hx s') T' H' is) Q)) : W P B n (.loop c) T H Q := by
 intro σ w a g
 have st0 : Step B H σ w (Hb s0 ++ Hx s0) (reσ (Hb s0).length is0 σ) w := step_re h0.re h0.len (Step.refl B H σ w)
 refine wp_loop_ix (fun m a' w' => ∃ s σ', Inv s ∧ μ s = m ∧ Good B n (St (L s)) (Hb s ++ Hx s) σ' w' a' ∧ Step B H σ w (Hb s ++ Hx s) σ' w') ?_ (μ s0) a w ⟨s0, _, i0, rfl, ⟨sim_re h0.re g.sim, st_rep h0.re g.rep h0.sub h0.low, g.size, g.defers⟩, st0⟩
 rintro m a' w' ⟨s, σ', hi, rfl, hg, hst⟩
 refine wp_mono (round s hi σ' w' a' hg) ?_
 rintro e a2 w2 ⟨T2, H2, σ2, k1, k2, k3⟩
 have k4 := hst.trans k3
 cases e with
 | normal =>
  obtain ⟨s', is, h1, h2, h3⟩ := k1
  exact ⟨μ s', h2, s', _, h1, rfl, ⟨sim_re h3.re k2.sim, st_rep h3.re k2.rep h3.sub h3.low, k2.size, k2.defers⟩, step_re h3.re h3.len k4⟩
 | exit id => exact ⟨T2, H2, σ2, k1, k2, k4⟩
 | goto l => exact ⟨T2, H2, σ2, k1, k2, k4⟩
 | ret => exact ⟨T2, H2, σ2, k1, k2, k4⟩
 | panic c => exact ⟨T2, H2, σ2, k1, k2, k4⟩
 | outgrown => exact ⟨T2, H2, σ2, k1, k2, k4⟩
theorem reBase_nil : ReBase H [] := by cases H <;> exact trivial
theorem rB {o o' : Ob} (h : o' = o ∨ o' = .dead) (k : ReBase H Hb) : ReBase (o :: H) (o' :: Hb) := ⟨h, k⟩
theorem reX_nil : ReX H [] [] := trivial
theorem rX {k : Nat} {o : Ob} (h : H[k]? = some o) (r : ReX H is Hx) : ReX H (k :: is) (o :: Hx) := ⟨h, r⟩
theorem moved_nil {b : Nat} : Moved Hb b [] := trivial
theorem mC {b k : Nat} (h : b ≤ k ∨ Hb[k]? = some .dead) (r : Moved Hb b is) : Moved Hb b (k :: is) := ⟨h, r⟩
theorem nlo_nil {b : Nat} : NLo b [] := trivial
theorem nlo_cells {b : Nat} {xs : List PV} {e : TypeId} {l : List Ob} (h : NL1L b xs) (k : NLo b l) : NLo b (.cells xs e :: l) := ⟨h, k⟩
theorem nlo_smap {b : Nat} {ks : List MKey} {xs : List PV} {l : List Ob} (h : NL1L b xs) (k : NLo b l) : NLo b (.smap ks xs :: l) := ⟨h, k⟩
theorem nO {b m : Nat} {l : List Ob} (k : NLo b l) : NLo b (.free m :: l) := k
theorem nlo_dead {b : Nat} {l : List Ob} (k : NLo b l) : NLo b (.dead :: l) := k
theorem subL_nil {b : Nat} : SubL b is T [] := trivial
theorem subL_cons {b i : Nat} {x : PV} {l : List (Nat × PV)} (h : Imp (T i) (unre b is x)) (k : SubL b is T l) : SubL b is T ((i, x) :: l) := ⟨h, k⟩
theorem nls_nil {N : Nat} : NLs N [] := trivial
theorem nls_cons {N i : Nat} {x : PV} {l : List (Nat × PV)} (h : NL N x) (k : NLs N l) : NLs N ((i, x) :: l) := ⟨h, k⟩
theorem fitT {b : Nat} {L : List (Nat × PV)} (sub : SubL Hb.length is T L := by repeat (first | exact subL_nil | refine subL_cons (by first | exact imp_of rfl | exact imp_seq _ _ _ | exact imp_of (congrArg i64 (by first | (rw [i64w]; unfold wrap64; omega) | omega | (simp; done)))) ?_)) (len : b = Hb.length := by exact rfl)
  (base : ReBase H Hb := by repeat (first | exact reBase_nil | refine rB (.inl rfl) ?_ | refine rB (.inr rfl) ?_)) (extra : ReX H is Hx := by repeat (first | exact reX_nil | refine rX rfl ?_ | refine rX (by refine congrArg (fun q => some (Ob.free q)) ?_; simp <;> omega) ?_)) (nodup : is.Nodup := by decide)
  (moved : Moved Hb Hb.length is := by repeat (first | exact moved_nil | refine mC (.inl (Nat.le_of_ble_eq_true rfl)) ?_ | refine mC (.inr rfl) ?_))
  (cont : NLo Hb.length (Hb ++ Hx) := by repeat (first | exact nlo_nil | exact nO nlo_nil | refine nlo_cells (by first | (refine nl1L_flat ?_; simp; done) | (refine nl1L_flat (flatL_map' ?_ _); intro x; simp; done) | (simp [NL1L, NL1]; done)) ?_ | refine nO ?_ | refine nlo_dead ?_ | refine nlo_iter ?_ | refine nlo_smap (by first | (refine nl1L_flat ?_; simp; done) | (refine nl1L_flat (flatL_map' ?_ _); intro x; simp; done) | (simp [NL1L, NL1]; done)) ?_))
  (low : NLs (Hb ++ Hx).length L := by repeat (first | exact nls_nil | refine nls_cons (by first | (refine nl_flat ?_; simp; done) | (show _ < _; first | decide | (simp; done)) | (refine ⟨?_, flatL_map' ?_ _⟩ <;> first | decide | (intro x; simp; done) | (simp; done)) | (refine ⟨?_, ?_⟩ <;> first | decide | (simp; done)) | (simp [NL, NL1L, NL1]; done)) ?_)) : Fits b L Hb Hx T H is :=
 ⟨len, ⟨base, extra, nodup, moved, cont⟩, sub, low⟩
theorem nl1_flat {N : Nat} {x : PV} (h : Flat x) : NL1 N x := by cases x <;> first | exact h | (unfold Flat at h; exact h.elim)
theorem nl_flat {N : Nat} {x : PV} (h : Flat x) : NL N x := by
 cases x <;> first | exact h | skip
 ·unfold Flat at h; exact h.elim
 ·rename_i n xs s
  cases s <;> first | exact h | (unfold Flat at h; rcases h.2 with h | h <;> cases h)
 ·unfold Flat at h; exact h.elim
 ·rename_i f a b
  unfold Flat at h
  have one : ∀ l : List PV, FlatL l → NL1L N l := by
   intro l
   induction l with
   | nil => intro _; exact trivial
   | cons x l ih => intro hl; unfold FlatL at hl; exact ⟨nl1_flat hl.1, ih hl.2⟩
  exact ⟨one _ h.1, one _ h.2⟩
 ·unfold Flat at h; exact h.elim
theorem nl1L_flat {N : Nat} : ∀ {l : List PV}, FlatL l → NL1L N l
 | [], _ => trivial
 | x :: l, h => by unfold FlatL at h; exact ⟨nl1_flat h.1, nl1L_flat h.2⟩
theorem flatL_map' {α : Type} {enc : α → List PV} (h : ∀ x, FlatL (enc x)) (l : List α) : FlatL (l.flatMap enc) := by
 have := flat_sq h l
 unfold sq at this
 unfold Flat at this
 exact this.1
theorem W_meet {x y : Code} (L : List (Nat × PV)) (Hb Hx : List Ob) (hx : W P B n x T H (thenQ (fun T1 H1 => ∃ is, Fits H.length L Hb Hx T1 H1 is) Q)) (hy : W P B n y (St L) (Hb ++ Hx) Q) : W P B n (x.seq y) T H Q := by
 intro σ w a g
 refine wp_seq (wp_mono (hx σ w a g) ?_)
 rintro e a' w' ⟨T', H', σ', h1, h2, h3⟩
 cases e with
 | normal =>
  obtain ⟨is, hf⟩ := h1
  exact wp_mono (hy _ w' a' ⟨sim_re hf.re h2.sim, st_rep hf.re h2.rep hf.sub hf.low, h2.size, h2.defers⟩) fun _ _ _ k => post_mono (step_re hf.re hf.len h3) (fun _ _ _ h => h) k
 | exit id => exact ⟨T', H', σ', h1, h2, h3⟩
 | goto l => exact ⟨T', H', σ', h1, h2, h3⟩
 | ret => exact ⟨T', H', σ', h1, h2, h3⟩
 | panic c => exact ⟨T', H', σ', h1, h2, h3⟩
 | outgrown => exact ⟨T', H', σ', h1, h2, h3⟩
end
end Go.Proofs.Ytlponhgbbfgkgaa
namespace Go.Proofs.Ytlponhgbbfgkgaa
open Go.RowKit
def MKey.like : MKey → MKey → Bool
 | .s _, .s _ => true
 | .n _, .n _ => true
 | _, _ => false
def MKey.kind : MKey → TypeDesc
 | .s _ => .string
 | .n _ => .int .i64
def keyPV : MKey → PV
 | .s k => .val (.string ⟨k.toArray⟩)
 | .n i => .val (.int .i64 i)
def mapOk (P : Program) (t e : TypeId) (key : MKey) : Bool := match P.underlying t with
 | some (.map k e') => match P.underlying k, key with
  | some .string, .s _ => Nat.beq e' e
  | some (.int .i64), .n _ => Nat.beq e' e
  | _, _ => false
 | _ => false
theorem mapOk_spec {P : Program} {t e : TypeId} {key : MKey} (h : mapOk P t e key = true) : ∃ k, P.underlying t = some (.map k e) ∧ P.underlying k = some key.kind := by
 unfold mapOk at h
 split at h
 ·rename_i k e' h1
  split at h
  ·rename_i h2
   rw [Nat.beq_eq] at h; subst h
   exact ⟨k, h1, h2⟩
  ·rename_i h2
   rw [Nat.beq_eq] at h; subst h
   exact ⟨k, h1, h2⟩
  ·cases h
 ·cases h
def lkPV : List MKey → List PV → MKey → PV → PV × Bool
 | k :: ks, x :: xs, key, z => if k = key then (x, true) else lkPV ks xs key z
 | _, _, _, z => (z, false)
theorem same_now {k key : MKey} (h : key.like k = true) : Instr.sameNow key.kind (keyV key) (keyV k) = some (decide (k = key)) := by
 cases key <;> cases k <;> cases h
 ·rename_i a b
  simp only [MKey.kind, keyV, Instr.sameNow, Option.some.injEq, MKey.s.injEq]
  by_cases hab : b = a
  ·subst hab
   have : ((⟨b.toArray⟩ : ByteArray) == ⟨b.toArray⟩) = true := by show (b.toArray == b.toArray) = true; simp
   simp [this]
  ·have : ((⟨a.toArray⟩ : ByteArray) == ⟨b.toArray⟩) = false := by
    show (a.toArray == b.toArray) = false
    rw [beq_eq_false_iff_ne]
    intro he
    exact hab (by simpa using he.symm)
   simp [hab, this]
 ·rename_i a b
  simp only [MKey.kind, keyV, Instr.sameNow, if_true, Option.some.injEq, MKey.n.injEq]
  by_cases hab : b = a
  ·subst hab; simp
  ·have : ¬ a = b := fun h => hab h.symm
   simp [hab, this]
def zeroOk (P : Program) (e : TypeId) (agg : Bool) : Bool := match (P.info? e).bind (·.zero) with
 | some (.agg _) => agg
 | some _ => !agg
 | none => false
def zeroPV (d : TD) : Option PV := match d.agg with
 | true => some (.agg d.zero)
 | false => d.zero[0]?
section
variable {P : Program} {B : Nat → Nat → Prop} {n : Nat} {o : Oper} {T : Nat → PV} {H : List Ob} {G : List (Nat × TD)} {all : Array Oper} {K : (Nat → PV) → List Ob → Prop} {Q : Exit → (Nat → PV) → List Ob → Prop}
theorem does_makeMap {t : TypeId} (ho : o.op = .makeMap t none) : Does P B o T H (.mapv H.length) (H ++ [.smap [] []]) := by
 intro σ w a s h
 have gr : Grows w (w.alloc (.map #[] 0)) := Grows.alloc _ _
 obtain ⟨s', st⟩ := grow_name s gr (.smap [] []) (some w.heap.size) (fun b hb => by cases hb; exact Nat.le_refl _) ⟨w.heap.size, #[], 0, by simp only [cx]; rw [ext_new], by show (w.heap.push _)[w.heap.size]? = _; simp, rfl, repL_nil.2 rfl⟩
 refine ⟨.map (some w.heap.size), _, _, .inl ?_, ?_, s', st⟩
 ·simp [execOp, ho, run_makeMap]
 ·unfold Rep; exact ⟨by simp [cx], w.heap.size, by simp only [cx]; rw [ext_new], rfl⟩
theorem findNow_keys {ks : List MKey} {key : MKey} : ∀ {es : List MapEntry} {i : Nat}, es.map (·.key) = ks.map keyV → ks.all key.like = true → key ∉ ks → Instr.findNow key.kind (keyV key) es i = some none := by
 induction ks with
 | nil => intro es i h _ _; cases es with
  | nil => rfl
  | cons e es => simp at h
 | cons k ks ih =>
  intro es i h hl hn
  cases es with
  | nil => simp at h
  | cons e es =>
   simp only [List.map_cons, List.cons.injEq] at h
   simp only [List.all_cons, Bool.and_eq_true] at hl
   have h1 : Instr.sameNow key.kind (keyV key) e.key = some false := by
    rw [h.1, same_now hl.1]
    simp only [Option.some.injEq, decide_eq_false_iff_not]
    rintro rfl; exact hn (by simp)
   simp only [Instr.findNow, h1]
   exact ih h.2 hl.2 (fun hk => hn (List.mem_cons_of_mem _ hk))
theorem findNow_lk {c : Cx} {key : MKey} {z : PV} : ∀ {ks : List MKey} {xs : List PV} {es : List MapEntry} {i : Nat}, es.map (·.key) = ks.map keyV → ks.all key.like = true → RepL c xs (es.map (·.val)) →
  (∃ j v, Instr.findNow key.kind (keyV key) es i = some (some (j, v)) ∧ (lkPV ks xs key z).2 = true ∧ Rep c (lkPV ks xs key z).1 v) ∨ (Instr.findNow key.kind (keyV key) es i = some none ∧ lkPV ks xs key z = (z, false))
 | [], xs, es, i, h1, _, h2 => by
  cases es with
  | nil => exact .inr ⟨rfl, by unfold lkPV; rfl⟩
  | cons e es => simp at h1
 | k :: ks, xs, [], i, h1, _, h2 => by simp at h1
 | k :: ks, [], e :: es, i, h1, _, h2 => by rw [List.map_cons] at h2; rw [repL_nil] at h2; cases h2
 | k :: ks, x :: xs, e :: es, i, h1, hl, h2 => by
  simp only [List.map_cons, List.cons.injEq] at h1
  simp only [List.all_cons, Bool.and_eq_true] at hl
  rw [List.map_cons, repL_cons] at h2
  have hs : Instr.sameNow key.kind (keyV key) e.key = some (decide (k = key)) := by rw [h1.1]; exact same_now hl.1
  by_cases hk : k = key
  ·refine .inl ⟨i, e.val, ?_, by simp [lkPV, hk], by simpa [lkPV, hk] using h2.1⟩
   rw [decide_eq_true hk] at hs
   simp only [Instr.findNow, hs]
  ·rw [decide_eq_false hk] at hs
   have e1 : Instr.findNow key.kind (keyV key) (e :: es) i = Instr.findNow key.kind (keyV key) es (i + 1) := by
    simp only [Instr.findNow, hs]
   rw [e1]
   simp only [lkPV, if_neg hk]
   exact findNow_lk h1.2 hl.2 h2.2
theorem run_checkKey' (n : Nat) (key : MKey) {kt : TypeId} (h : P.underlying kt = some key.kind) (b : Bool) (w : World) : (Instr.checkKey b (n + 1) kt (keyV key)).run P w = .ok () w := by
 cases key <;> simp [Instr.checkKey, run_underlying h, MKey.kind, keyV]
theorem run_checkKey (key : MKey) {kt : TypeId} (h : P.underlying kt = some key.kind) (b : Bool) (w : World) : (Instr.checkKey b 10000 kt (keyV key)).run P w = .ok () w := run_checkKey' 9999 key h b w
theorem set_map {σ : Nat → Option Nat} {w : World} (s : Sim B H σ w) {i b : Nat} {ks ks' : List MKey} {xs xs' : List PV} (hi : H[i]? = some (.smap ks xs)) (hb : σ i = some b) {es es' : Array MapEntry} {clk clk' : Nat} (hv : w.heap[b]? = some (Obj.map es clk))
  (hk : es'.toList.map (·.key) = ks'.map keyV) (hr : RepL (cx B H σ w) xs' (es'.toList.map (·.val))) :
  Sim B (H.set i (.smap ks' xs')) σ { w with heap := w.heap.setIfInBounds b (.map es' clk') } ∧ Step B H σ w (H.set i (.smap ks' xs')) σ { w with heap := w.heap.setIfInBounds b (.map es' clk') } := by
 have hlen := lt_of_get hi
 have hbl := (Array.getElem?_eq_some_iff.1 hv).1
 have other : ∀ x, x ≠ b → (w.heap.setIfInBounds b (.map es' clk'))[x]? = w.heap[x]? := fun x hx => Array.getElem?_setIfInBounds_ne (Ne.symm hx)
 have same : (w.heap.setIfInBounds b (.map es' clk'))[b]? = some (.map es' clk') := by simp [hbl]
 have get : ∀ j o, (H.set i (.smap ks' xs'))[j]? = some o → (j = i ∧ o = .smap ks' xs') ∨ (j ≠ i ∧ H[j]? = some o) := fun j o h => get_set hlen h
 have own : ∀ x off, OwnWr σ (H.set i (.smap ks' xs')) x off → OwnWr σ H x off := by
  rintro x off ⟨j, o, h1, h2, h3⟩
  rcases get j o h1 with ⟨rfl, rfl⟩ | ⟨_, h4⟩
  ·exact ⟨j, _, hi, h2, trivial⟩
  ·exact ⟨j, o, h4, h2, h3⟩
 have wr : ∀ off, OwnWr σ H b off := fun off => ⟨i, _, hi, hb, trivial⟩
 have le : (cx B H σ w).Le (cx B (H.set i (.smap ks' xs')) σ { w with heap := w.heap.setIfInBounds b (.map es' clk') }) := by
  refine ⟨by simp [cx], fun _ _ => rfl, fun x off u h1 h2 => ⟨?_, fun h => h1 (h.imp id (own x off))⟩, fun x e2 c2 h1 h2 => ⟨?_, fun h => h1 (h.imp id (own x 0))⟩, fun x cs t fr h1 => ⟨cs, ?_, rfl⟩⟩
  ·have hx : x ≠ b := fun hx => h1 (.inr (hx ▸ wr off))
   exact (World.cell?_of_block (w := w) (w' := { w with heap := w.heap.setIfInBounds b (.map es' clk') }) (a := ⟨x, off, none⟩) (other x hx)).trans h2
  ·have hx : x ≠ b := fun hx => h1 (.inr (hx ▸ wr 0))
   exact (other x hx).trans h2
  ·have hx : x ≠ b := by rintro rfl; simp only [cx] at h1; rw [hv] at h1; cases h1
   exact (other x hx).trans h1
 refine ⟨⟨?_, ?_, fun x off h => by simpa using s.base x off h, ?_⟩, ⟨le, rfl, rfl, rfl, by simp, ?_, ?_⟩⟩
 ·intro j k x oj ok h1 h2 l1 l2 e1 e2
  rcases get j oj h1 with ⟨rfl, rfl⟩ | ⟨_, h3⟩ <;> rcases get k ok h2 with ⟨rfl, rfl⟩ | ⟨_, h4⟩
  ·rfl
  ·exact s.inj _ _ x _ _ hi h4 rfl l2 e1 e2
  ·exact s.inj _ _ x _ _ h3 hi l1 rfl e1 e2
  ·exact s.inj _ _ x _ _ h3 h4 l1 l2 e1 e2
 ·intro j x oj h1 l1 e1 off
  rcases get j oj h1 with ⟨rfl, rfl⟩ | ⟨_, h3⟩
  ·exact s.sep _ x _ hi rfl e1 off
  ·exact s.sep _ x _ h3 l1 e1 off
 ·intro j oj h1
  rcases get j oj h1 with ⟨rfl, rfl⟩ | ⟨hj, h3⟩
  ·exact ⟨b, es', clk', hb, same, hk, RepL.mono le hr⟩
  ·have k := s.holds j oj h3
   cases oj with
   | cells zs t =>
    obtain ⟨x, ws, fr', h5, h6, hf, h7⟩ := k
    have hx : x ≠ b := fun hx => hj (s.inj j i b _ _ h3 hi rfl rfl (hx ▸ h5) hb)
    exact ⟨x, ws, fr', h5, (other x hx).trans h6, hf, h7.mono le⟩
   | iter s2 pos =>
    obtain ⟨x, h5, h6⟩ := k
    have hx : x ≠ b := fun hx => hj (s.inj j i b _ _ h3 hi rfl rfl (hx ▸ h5) hb)
    exact ⟨x, h5, (other x hx).trans h6⟩
   | smap ks2 ms =>
    obtain ⟨x, e2, c2, h5, h6, h7, h8⟩ := k
    have hx : x ≠ b := fun hx => hj (s.inj j i b _ _ h3 hi rfl rfl (hx ▸ h5) hb)
    exact ⟨x, e2, c2, h5, (other x hx).trans h6, h7, RepL.mono le h8⟩
   | free m =>
    intro x hx
    obtain ⟨cs, t, h5, h6⟩ := k x hx
    have hne : x ≠ b := fun h => hj (s.inj j i b _ _ h3 hi rfl rfl (h ▸ hx) hb)
    exact ⟨cs, t, (other x hne).trans h5, h6⟩
   | dead => trivial
   | glob g u => obtain ⟨q1, q2⟩ := k; exact le.cell g 0 u q2 q1
 ·intro j oj x h1 h2 h3
  rcases get j oj h1 with ⟨rfl, rfl⟩ | ⟨_, h4⟩
  ·exact .inr ⟨_, _, hi, rfl, h3⟩
  ·exact .inr ⟨j, oj, h4, h2, h3⟩
 ·intro x hx hn
  exact other x (fun h => hn i _ hi rfl (h ▸ hb))
theorem dI {t e : TypeId} {m k x : Operand} {i : Nat} {ks : List MKey} {xs : List PV} {key : MKey} (ht : mapOk P t e key = true) (ho : o.op = .insert t m k x) (hm : opv T m = .mapv i) (hi : H[i]? = some (.smap ks xs)) (hk : opv T k = keyPV key) (hn : (ks.all key.like && !(ks.contains key)) = true) :
  Does P B o T H (.val undef) (H.set i (.smap (ks ++ [key]) (xs ++ [opv T x]))) := by
 intro σ w a s h
 obtain ⟨kt, h1, h2⟩ := mapOk_spec ht
 have k1 := h m (by simp [ho, Op.operands])
 have k2 := h k (by simp [ho, Op.operands])
 have k3 := h x (by simp [ho, Op.operands])
 rw [hm] at k1
 rw [hk] at k2
 unfold Rep at k1
 have k2 : a.eval k = keyV key := by cases key <;> (unfold keyPV Rep at k2; exact k2)
 obtain ⟨_, b, hb, hv⟩ := k1
 obtain ⟨b', es, clk, hb', hg, hks, hxs⟩ := s.holds i _ hi
 simp only [cx] at hb hb' hg
 rw [hb] at hb'
 cases hb'
 simp only [Bool.and_eq_true, Bool.not_eq_true', List.contains_eq_mem, decide_eq_false_iff_not] at hn
 have hf := findNow_keys (i := 0) hks hn.1 hn.2
 obtain ⟨s', st⟩ := set_map s (es' := es.push { key := keyV key, val := a.eval x, born := clk }) (clk' := clk + 1) hi hb hg (ks' := ks ++ [key]) (xs' := xs ++ [opv T x]) (by simp [hks]) (by
  rw [Array.toList_push, List.map_append]
  exact hxs.append (repL_cons.2 ⟨k3, repL_nil.2 rfl⟩))
 refine ⟨undef, _, σ, .inr ⟨?_, rfl⟩, rep_val _ _, s', st⟩
 simp only [execOp, ho, hv, k2]
 simp [Instr.mapUpdate, run_underlying h1, run_checkKey key h2, run_underlying h2, Instr.findKey, hf, getObj, setObj, Sem.run, hg]
theorem does_lookup {t e : TypeId} {de : TD} {m k : Operand} {b : Bool} {ks : List MKey} {xs : List PV} {key : MKey} {z y : PV} {q : Bool} (ht : mapOk P t e key = true) (fe : TyFacts P e de) (hzo : zeroOk P e de.agg = true) (hz : zeroPV de = some z) (ho : o.op = .lookup t m k b) (hm : opv T m = .smap ks xs) (hk : opv T k = keyPV key) (hkl : ks.all key.like = true) (hl : lkPV ks xs key z = (y, q)) :
  Does P B o T H (match b with | true => .tup [y, .val (.bool q)] | false => y) H :=
 does_pure fun σ w a s h => by
  obtain ⟨kt, h1, h2⟩ := mapOk_spec ht
  have k1 := h m (by simp [ho, Op.operands])
  have k2 := h k (by simp [ho, Op.operands])
  rw [hm] at k1
  rw [hk] at k2
  unfold Rep at k1
  have k2 : a.eval k = keyV key := by cases key <;> (unfold keyPV Rep at k2; exact k2)
  obtain ⟨r, es, clk, hv, hg, _, hks, hxs⟩ := k1
  simp only [cx] at hg
  obtain ⟨i, zv, hi, _, _, hzv, hzr⟩ := fe.info
  have zrep : Rep (cx B H σ w) z zv := by
   have hz1 := hzr (cx B H σ w)
   have hz2 : (P.info? e).bind (·.zero) = some zv := by rw [hi]; exact hzv
   unfold zeroOk at hzo
   rw [hz2] at hzo
   unfold zeroPV at hz
   cases hag : de.agg with
   | true =>
    rw [hag] at hz hzo
    simp only [Option.some.injEq] at hz
    subst hz
    cases zv <;> first | (simp at hzo; done) | skip
    rename_i cs
    unfold Rep
    exact ⟨cs.toList, by simp, by simpa [Value.cells] using hz1⟩
   | false =>
    rw [hag] at hz hzo
    simp only at hz
    cases zv <;> first | (simp at hzo; done) | (
     simp only [Value.cells] at hz1
     obtain ⟨u, hu, hr⟩ := hz1.get hz
     simp only [List.getElem?_cons_zero, Option.some.injEq] at hu
     subst hu
     exact hr)
  have fin : ∀ v, Rep (cx B H σ w) y v → Rep (cx B H σ w) (match b with | true => .tup [y, .val (.bool q)] | false => y) (if b then .tuple #[v, .bool q] else v) := by
   intro v hv
   cases b with
   | true => show Rep _ (.tup _) _; unfold Rep; exact ⟨[v, .bool q], rfl, repL_cons.2 ⟨hv, repL_cons.2 ⟨rep_val _ _, repL_nil.2 rfl⟩⟩⟩
   | false => exact hv
  rcases findNow_lk (i := 0) (z := z) (key := key) hks hkl hxs with ⟨j, v, h3, h4, h5⟩ | ⟨h3, h4⟩
  ·rw [hl] at h4 h5
   simp only at h4 h5
   subst h4
   refine ⟨_, ?_, fin v h5⟩
   simp only [execOp, ho, hv, k2]
   simp [Instr.lookup, run_underlying h1, run_checkKey key h2, run_underlying h2, Instr.findKey, h3, getObj, Sem.run, hg]
  ·rw [hl] at h4
   cases h4
   refine ⟨_, ?_, fin zv zrep⟩
   simp only [execOp, ho, hv, k2]
   simp [Instr.lookup, run_underlying h1, run_checkKey key h2, run_underlying h2, Instr.findKey, h3, getObj, Sem.run, hg, zeroValue, typeInfo, hi, hzv]
theorem freezeP_good {σ : Nat → Option Nat} {w : World} {a : Act} (g : Good B n T H σ w a) {d i : Nat} {xs : List PV} {e : TypeId} (hT : T d = .ptr i 0) (hi : H[i]? = some (.cells xs e)) :
  Good B n (upd d (.row xs) T) (H.set i .dead) σ w a ∧ Step B H σ w (H.set i .dead) σ w := by
 obtain ⟨s', st⟩ := drop_name g.sim hi
 refine ⟨⟨s', fun j => ?_, g.size, g.defers⟩, st⟩
 by_cases hj : j = d
 ·subst hj
  rw [upd_same]
  have h1 := g.rep j
  rw [hT] at h1
  unfold Rep at h1
  obtain ⟨_, b, hb, hv⟩ := h1
  obtain ⟨b', vs, fr, hb', hg, _, p, q, rfl, hp⟩ := g.sim.holds i _ hi
  simp only [cx] at hb hb' hg
  rw [hb] at hb'
  cases hb'
  rw [hv]
  unfold Rep
  refine ⟨_, p, rfl, RepL.mono st.le hp, rfl, fun j' u hu => ⟨?_, ?_⟩⟩
  ·show w.cell? ⟨b, 0 + j', none⟩ = some u
   rw [Nat.zero_add, cell_of_heap hg]; exact get_left hu
  ·rintro (h2 | ⟨k, ok, h2, h3, h4⟩)
   ·exact g.sim.sep i b _ hi rfl hb _ h2
   ·have hlk : ok.live = true := by cases ok <;> first | rfl | cases h4
    by_cases hki : k = i
    ·subst hki
     rw [List.getElem?_set_self (lt_of_get hi)] at h2; cases h2; cases h4
    ·rw [List.getElem?_set_ne (Ne.symm hki)] at h2
     exact hki (g.sim.inj k i b _ _ h2 hi hlk rfl h3 hb)
 ·rw [upd_other _ _ _ _ hj]; exact (g.rep j).mono st.le
theorem freezeM_good {σ : Nat → Option Nat} {w : World} {a : Act} (g : Good B n T H σ w a) {d i : Nat} {ks : List MKey} {xs : List PV} (hT : T d = .mapv i) (hi : H[i]? = some (.smap ks xs)) :
  Good B n (upd d (.smap ks xs) T) (H.set i .dead) σ w a ∧ Step B H σ w (H.set i .dead) σ w := by
 obtain ⟨s', st⟩ := drop_name g.sim hi
 refine ⟨⟨s', fun j => ?_, g.size, g.defers⟩, st⟩
 by_cases hj : j = d
 ·subst hj
  rw [upd_same]
  have h1 := g.rep j
  rw [hT] at h1
  unfold Rep at h1
  obtain ⟨_, b, hb, hv⟩ := h1
  obtain ⟨b', es, clk, hb', hg, hk, hp⟩ := g.sim.holds i _ hi
  simp only [cx] at hb hb' hg
  rw [hb] at hb'
  cases hb'
  rw [hv]
  unfold Rep
  refine ⟨b, es, clk, rfl, hg, ?_, hk, RepL.mono st.le hp⟩
  rintro (h2 | ⟨k, ok, h2, h3, h4⟩)
  ·exact g.sim.sep i b _ hi rfl hb _ h2
  ·have hlk : ok.live = true := by cases ok <;> first | rfl | cases h4
   by_cases hki : k = i
   ·subst hki
    rw [List.getElem?_set_self (lt_of_get hi)] at h2; cases h2; cases h4
   ·rw [List.getElem?_set_ne (Ne.symm hki)] at h2
    exact hki (g.sim.inj k i b _ _ h2 hi hlk rfl h3 hb)
 ·rw [upd_other _ _ _ _ hj]; exact (g.rep j).mono st.le
theorem WO_freezeP {l : List Oper} (d i : Nat) {xs : List PV} {e : TypeId} {H' : List Ob} (hT : T d = .ptr i 0) (hi : H[i]? = some (.cells xs e)) (hH : nfH (H.set i .dead) = some H') (h1 : WO P B n all l (upd d (.row xs) T) H' K) : WO P B n all l T H K := by
 rw [nfH_eq hH] at h1
 intro hall σ w a g
 obtain ⟨g', st⟩ := freezeP_good g hT hi
 exact wpL_mono (fun _ _ _ h => post_mono st (fun _ _ _ h => h) h) _ _ _ (h1 hall σ w a g')
theorem WO_freezeM {l : List Oper} (d i : Nat) {ks : List MKey} {xs : List PV} {H' : List Ob} (hT : T d = .mapv i) (hi : H[i]? = some (.smap ks xs)) (hH : nfH (H.set i .dead) = some H') (h1 : WO P B n all l (upd d (.smap ks xs) T) H' K) : WO P B n all l T H K := by
 rw [nfH_eq hH] at h1
 intro hall σ w a g
 obtain ⟨g', st⟩ := freezeM_good g hT hi
 exact wpL_mono (fun _ _ _ h => post_mono st (fun _ _ _ h => h) h) _ _ _ (h1 hall σ w a g')
def Callable (P : Program) (f : FuncId) (args : List PV) (H : List Ob) (res : PV) (H' : List Ob) : Prop :=
 (∃ fn, P.funcs[f]? = some fn ∧ fn.body.isNone = false ∧ (fn.name == "runtime.NumGoroutine") = false) ∧ HC P f args H res H'
theorem doesCWs {f : FuncId} {x : Operand} {first cap : List PV} {args : Array Operand} {ats : Array TypeId} {res : PV} {H' : List Ob} (ho : o.op = .call { callee := .value x, args := args, argTypes := ats }) (hx : opv T x = .fn (.func f) first cap)
  (h : Callable P f (first ++ (args.toList.map fun y => wk (opv T y)) ++ cap) H res H') : DoesC P B o T H res H' := by
 obtain ⟨⟨fn, h1, h2, h3⟩, h4⟩ := h
 exact doesCWv ho hx h1 h2 h3 h4
end
end Go.Proofs.Ytlponhgbbfgkgaa
namespace Go.Proofs.Ytlponhgbbfgkgaa
open Go.RowKit
section
variable {P : Program} {B : Nat → Nat → Prop} {n : Nat} {H : List Ob} {md : Region.Mode} {ops : Array Oper} {k : Nat}
theorem zip_get {α : Type} {l : List α} {j : Nat} {x : α} (h : l[j]? = some x) : (x, j) ∈ l.zipIdx := by
 rw [List.mem_zipIdx_iff_getElem?]; exact h
variable {T : Nat → PV} {Q : Exit → (Nat → PV) → List Ob → Prop}
end
section
variable {P : Program} {B : Nat → Nat → Prop} {n : Nat} {all : Array Oper} {K : (Nat → PV) → List Ob → Prop} {H : List Ob} {T : Nat → PV} {o : Oper}
def sqc {α : Type} (enc : α → List PV) (l : List α) : PV := .seq l.length (l.flatMap enc) .clip
theorem flat_sqc {α : Type} {enc : α → List PV} (h : ∀ x, FlatL (enc x)) (l : List α) : Flat (sqc enc l) := by
 have := flat_sq h l
 unfold sq Flat at this
 unfold sqc Flat
 exact ⟨this.1, .inr rfl⟩
theorem imp_arr_arw {i off m cap : Nat} (h : m ≤ cap) : Imp (.arr i off m cap) (.arw i off m) := by
 intro c v hr
 unfold Rep at hr ⊢
 obtain ⟨h1, b, h2, h3⟩ := hr
 exact ⟨h1, b, cap, h2, h, h3⟩
end
@[simp] theorem flat_clip0 : Flat (.seq 0 [] .clip) := by unfold Flat; exact ⟨trivial, .inr rfl⟩
theorem bsL {α : Type} (enc : α → List PV) (l : List α) {n : Nat} {xs : List PV} (h : xs = l.flatMap enc) (hn : n = l.length) : PV.seq n xs .clip = .seq l.length (l.flatMap enc) .clip := by rw [h, hn]
theorem flatL_app : ∀ {a b : List PV}, FlatL a → FlatL b → FlatL (a ++ b)
 | [], _, _, h => h
 | _ :: _, _, h, k => by unfold FlatL at h; exact ⟨h.1, flatL_app h.2 k⟩
section
variable {P : Program} {H : List Ob} {T : Nat → PV}
theorem leafPx {G : List (Nat × TD)} {rs : List ResultVar} {x res : PV} (h : resX G T H rs = some x) (h2 : x = res) : RetP' G rs res .ret T H := by
 subst h2; exact ⟨_, h, Imp.refl _⟩
end
end Go.Proofs.Ytlponhgbbfgkgaa
namespace Go.Proofs.Ytlponhgbbfgkgaa
open Go.RowKit
section
variable {P : Program} {B : Nat → Nat → Prop} {n : Nat} {all : Array Oper} {K : (Nat → PV) → List Ob → Prop} {H : List Ob} {T : Nat → PV} {o : Oper}
theorem own_good {σ : Nat → Option Nat} {w : World} {a : Act} (g : Good B n T H σ w a) {d q k : Nat} {xs : List PV} (hT : T d = .seq q xs .clip) (hl : xs.length = q * k) :
  Good B n (upd d (.seq q xs (.own H.length k)) T) (H ++ [.free (q * k)]) (ext σ H.length none) w a ∧ Step B H σ w (H ++ [.free (q * k)]) (ext σ H.length none) w := by
 obtain ⟨s', st⟩ := grow_name g.sim (Grows.refl w) (.free (q * k)) none (fun b hb => by cases hb) (fun b hb => by simp only [cx] at hb; rw [ext_new] at hb; cases hb)
 refine ⟨⟨s', fun i => ?_, g.size, g.defers⟩, st⟩
 by_cases hi : i = d
 ·subst hi
  rw [upd_same]
  have h0 := g.rep i
  rw [hT] at h0
  obtain ⟨ad, cap, vs, hv, hle, hnil, hrl, hlies, hk⟩ := rep_seq h0
  have hcap : cap = q := hk
  unfold Rep
  exact ⟨ad, cap, vs, hv, hle, hnil, RepL.mono st.le hrl, fun b hb => (hlies b hb).imp (·.mono st.le) id, by simp [cx], hl, .inl hcap⟩
 ·rw [upd_other _ _ _ _ hi]; exact (g.rep i).mono st.le
theorem WO_own {l : List Oper} (d q k : Nat) {xs : List PV} (hT : T d = .seq q xs .clip) (hl : xs.length = q * k) (h1 : WO P B n all l (upd d (.seq q xs (.own H.length k)) T) (H ++ [.free (q * k)]) K) : WO P B n all l T H K := by
 intro hall σ w a g
 obtain ⟨g', st⟩ := own_good g hT hl
 exact wpL_mono (fun _ _ _ h => post_mono st (fun _ _ _ h => h) h) _ _ _ (h1 hall _ w a g')
end
end Go.Proofs.Ytlponhgbbfgkgaa
namespace Go.Proofs.Ytlponhgbbfgkgaa
open Go.RowKit
section
variable {P : Program} {B : Nat → Nat → Prop} {n : Nat} {md : Region.Mode} {ops : Array Oper} {cl : Nat → Nat}
def YU (P : Program) (B : Nat → Nat → Prop) (ops : Array Oper) (o : Oper) (T : Nat → PV) (H : List Ob) (x : PV) (H' : List Ob) : Prop :=
 (wantedA ops T o = some true ∧ (Does P B o T H x H' ∨ DoesC P B o T H x H')) ∨ (wantedA ops T o = some false ∧ x = .val undef ∧ H' = H)
def Rk (H H2 : List Ob) : Prop := ∀ xs e, H[0]? = some (Ob.cells xs e) → ∃ ys, H2[0]? = some (Ob.cells ys e) ∧ ys.take 27 = xs.take 27
theorem Rk.refl (H : List Ob) : Rk H H := fun xs e h => ⟨xs, h, rfl⟩
def FU (P : Program) (B : Nat → Nat → Prop) (ops : Array Oper) (c : Nat) (o : Oper) (T : Nat → PV) (H : List Ob) (x : PV) (H' : List Ob) : Prop :=
 match c with
 | 0 => H' = H ∧ ∀ H2, YU P B ops o T H2 x H2
 | 1 => H' = H ∧ ∀ E, YU P B ops o T (H ++ E) x (H ++ E)
 | 2 => ∃ E, H' = H ++ E
 | 4 => H' = H ∧ ∀ H2, Rk H H2 → YU P B ops o T H2 x H2
 | 5 => Rk H H'
 | _ => True
def compatU (a b : Nat) : Bool := Nat.beq a 0 || Nat.beq b 0 || (Nat.beq a 1 && Nat.ble b 2) || (Nat.beq a 4 && (Nat.beq b 5 || Nat.beq b 1))
theorem YU.congr {o : Oper} {T T' : Nat → PV} {H H' : List Ob} {x : PV} (h : ∀ t ∈ o.looksAt ops, T' t = T t) (y : YU P B ops o T H x H') : YU P B ops o T' H x H' := by
 have hw : wantedA ops T' o = wantedA ops T o := by
  unfold wantedA
  cases hg : o.guard with
  | none => rfl
  | some q =>
   obtain ⟨g, b⟩ := q
   simp only
   cases hd : (ops[g]?).bind (·.dst) with
   | none => rfl
   | some d => simp only; rw [h d (looks_guard hg hd)]
 have ho : ∀ z ∈ o.op.operands.toList, opv T' z = opv T z := fun z hz => opv_congr fun t ht => h t (looks_op (by rw [← ht]; exact hz))
 rcases y with ⟨h1, h2 | h2⟩ | ⟨h1, h2⟩
 ·exact .inl ⟨by rw [hw]; exact h1, .inl fun σ w a s k => h2 σ w a s (fun z hz => by rw [← ho z hz]; exact k z hz)⟩
 ·exact .inl ⟨by rw [hw]; exact h1, .inr fun σ w a s k => h2 σ w a s (fun z hz => by rw [← ho z hz]; exact k z hz)⟩
 ·exact .inr ⟨by rw [hw]; exact h1, h2⟩
theorem FU.congr {c : Nat} {o : Oper} {T T' : Nat → PV} {H H' : List Ob} {x : PV} (h : ∀ t ∈ o.looksAt ops, T' t = T t) (y : FU P B ops c o T H x H') : FU P B ops c o T' H x H' := by
 match c, y with
 | 0, y => exact ⟨y.1, fun H2 => (y.2 H2).congr h⟩
 | 1, y => exact ⟨y.1, fun E => (y.2 E).congr h⟩
 | 2, y => exact y
 | 3, _ => trivial
 | 4, y => exact ⟨y.1, fun H2 h2 => (y.2 H2 h2).congr h⟩
 | 5, y => exact y
 | c + 6, _ => trivial
def qU (P : Program) (B : Nat → Nat → Prop) (ops : Array Oper) (cl : Nat → Nat) (i : Nat) (K : (Nat → PV) → List Ob → Prop) (T : Nat → PV) (H : List Ob) : Prop :=
 match ops[i]? with
 | none => K T H
 | some o => ∃ x H', YU P B ops o T H x H' ∧ FU P B ops (cl i) o T H x H' ∧ K (updD o.dst x T) H'
def anyU (P : Program) (B : Nat → Nat → Prop) (md : Region.Mode) (ops : Array Oper) (cl : Nat → Nat) (Q : (Nat → PV) → List Ob → Prop) : Nat → Array Bool → (Nat → PV) → List Ob → Prop
 | 0, listed, T, H => Region.ready md ops listed = [] ∧ Q T H
 | fuel + 1, listed, T, H => (Region.ready md ops listed = [] → Q T H) ∧ ∀ i ∈ Region.ready md ops listed, qU P B ops cl i (anyU P B md ops cl Q fuel (listed.setIfInBounds i true)) T H
theorem anyU_sound (hall : dstsOk n ops = true) {Q' : Exit → Act → World → Prop} {Q : (Nat → PV) → List Ob → Prop} {H0 : List Ob} {σ0 : Nat → Option Nat} {w0 : World} (hQ : ∀ T H σ w a, Good B n T H σ w a → Step B H0 σ0 w0 H σ w → Q T H → Q' .normal a w) :
  ∀ (fuel : Nat) (listed : Array Bool) (T : Nat → PV) (H : List Ob) (σ : Nat → Option Nat) (w : World) (a : Act), Good B n T H σ w a → Step B H0 σ0 w0 H σ w → anyU P B md ops cl Q fuel listed T H → wpAny P md ops Q' fuel listed a w
 | 0, _, _, _, _, _, _, g, st, h => ⟨h.1, hQ _ _ _ _ _ g st h.2⟩
 | fuel + 1, listed, T, H, σ, w, a, g, st, h => by
  refine ⟨fun h0 => hQ _ _ _ _ _ g st (h.1 h0), fun i hi => ?_⟩
  have h1 := h.2 i hi
  unfold qU at h1
  unfold wpOp
  cases ho : ops[i]? with
  | none => simp only [ho] at h1 ⊢; exact anyU_sound hall hQ fuel _ T H σ w a g st h1
  | some o =>
   simp only [ho] at h1 ⊢
   obtain ⟨x, H', hy, _, hk⟩ := h1
   have hd : ∀ j, o.dst = some j → Nat.blt j n = true := fun j hj => dstsOk_spec hall i j (by rw [ho]; exact hj)
   have hgd : ∀ q, wantedA ops T o = some q → Region.wanted o (yielded ops a.tmps) = q := fun q hq => guard_ok (dstsOk_spec hall) g hq
   rcases hy with ⟨hw, hdo | hdo⟩ | ⟨hw, rfl, rfl⟩
   ·rw [if_pos (hgd true hw)]
    refine .inl ?_
    obtain ⟨v, w', σ', h2, h3, h4, h5⟩ := hdo σ w a g.sim (fun y _ => rep_opv g.rep y)
    have k := anyU_sound hall hQ fuel _ _ _ σ' w' _ (good_put hd g h3 h4 h5) (st.trans h5) hk
    unfold Oper.wp
    rcases h2 with h2 | ⟨h2, rfl⟩
    ·rw [h2]; exact k
    ·rw [h2]; exact k
   ·rw [if_pos (hgd true hw)]
    refine .inl ?_
    obtain ⟨f, args, h2, hc⟩ := hdo σ w a g.sim (fun y _ => rep_opv g.rep y)
    unfold Oper.wp
    rw [h2]
    refine Calls.mono hc ?_
    rintro e w' ⟨v, σ', rfl, h3, h4, h5⟩
    exact anyU_sound hall hQ fuel _ _ _ σ' w' _ (good_put hd g h3 h4 h5) (st.trans h5) hk
   ·rw [if_neg (by rw [hgd false hw]; simp)]
    exact anyU_sound hall hQ fuel _ _ _ σ w _ (good_put hd g (rep_val _ _) g.sim (Step.refl _ _ _ _)) st hk
theorem swapU {ci cj : Nat} {oi oj : Oper} {T : Nat → PV} {H Hi Hj : List Ob} {x y : PV} (hc : compatU ci cj = true) (h1 : ∀ t ∈ oj.looksAt ops, updD oi.dst x T t = T t) (h2 : ∀ t ∈ oi.looksAt ops, updD oj.dst y T t = T t)
  (yi : YU P B ops oi T H x Hi) (fi : FU P B ops ci oi T H x Hi) (yj : YU P B ops oj (updD oi.dst x T) Hi y Hj) (fj : FU P B ops cj oj (updD oi.dst x T) Hi y Hj) :
  ∃ H', YU P B ops oj T H y H' ∧ FU P B ops cj oj T H y H' ∧ YU P B ops oi (updD oj.dst y T) H' x Hj ∧ FU P B ops ci oi (updD oj.dst y T) H' x Hj := by
 have b1 : ∀ t ∈ oj.looksAt ops, T t = updD oi.dst x T t := fun t ht => (h1 t ht).symm
 have yj' := yj.congr b1
 have fj' := fj.congr b1
 simp only [compatU, Bool.or_eq_true, Bool.and_eq_true, Nat.beq_eq, Nat.ble_eq] at hc
 rcases hc with ((rfl | rfl) | ⟨rfl, hj⟩) | ⟨rfl, hj⟩
 ·obtain ⟨rfl, hl⟩ := fi
  exact ⟨Hj, yj', fj', (hl Hj).congr h2, rfl, fun H2 => (hl H2).congr h2⟩
 ·obtain ⟨rfl, hl⟩ := fj'
  exact ⟨H, hl H, ⟨rfl, hl⟩, yi.congr h2, fi.congr h2⟩
 ·obtain ⟨rfl, hl⟩ := fi
  have : ∃ E, Hj = Hi ++ E := by
   match cj, hj, fj' with
   | 0, _, fj' => exact ⟨[], by rw [fj'.1]; simp⟩
   | 1, _, fj' => exact ⟨[], by rw [fj'.1]; simp⟩
   | 2, _, fj' => exact fj'
   | c + 3, hj, _ => omega
  obtain ⟨E, rfl⟩ := this
  exact ⟨Hi ++ E, yj', fj', (hl E).congr h2, rfl, fun E2 => by rw [List.append_assoc]; exact (hl (E ++ E2)).congr h2⟩
 ·obtain ⟨rfl, hl⟩ := fi
  have hr : Rk Hi Hj := by
   rcases hj with rfl | rfl
   ·exact fj'
   ·rw [fj'.1]; exact Rk.refl _
  exact ⟨Hj, yj', fj', (hl Hj hr).congr h2, rfl, fun H2 h3 => (hl H2 (fun xs e h4 => by
   obtain ⟨ys, h5, h6⟩ := hr xs e h4
   obtain ⟨zs, h7, h8⟩ := h3 ys e h5
   exact ⟨zs, h7, h8.trans h6⟩)).congr h2⟩
theorem anyU_first {Q : (Nat → PV) → List Ob → Prop} {i : Nat} {oi : Oper} {x : PV} (hi : ops[i]? = some oi) : ∀ (fuel : Nat) (listed : Array Bool) (T : Nat → PV) (H Hi : List Ob),
  (∀ j oj, ops[j]? = some oj → j ≠ i → listed.getD j true = false → (∀ e ∈ oj.after, Region.binds md e = true → e.on ≠ i) → oi.apart ops oj = true ∧ compatU (cl i) (cl j) = true) →
  i ∈ Region.ready md ops listed → YU P B ops oi T H x Hi → FU P B ops (cl i) oi T H x Hi → anyU P B md ops cl Q fuel (listed.setIfInBounds i true) (updD oi.dst x T) Hi → anyU P B md ops cl Q (fuel + 1) listed T H := by
 intro fuel
 have self : ∀ (fuel : Nat) (listed : Array Bool) (T : Nat → PV) (H Hi : List Ob), YU P B ops oi T H x Hi → FU P B ops (cl i) oi T H x Hi → anyU P B md ops cl Q fuel (listed.setIfInBounds i true) (updD oi.dst x T) Hi → qU P B ops cl i (anyU P B md ops cl Q fuel (listed.setIfInBounds i true)) T H := by
  intro fuel listed T H Hi hy hf h
  unfold qU
  simp only [hi]
  exact ⟨x, Hi, hy, hf, h⟩
 induction fuel with
 | zero =>
  intro listed T H Hi _ hr hy hf h
  refine ⟨fun h0 => (by rw [h0] at hr; cases hr), fun j hj => ?_⟩
  by_cases hji : j = i
  ·subst hji; exact self 0 listed T H Hi hy hf h
  ·have := ready_mono hj hji
   rw [h.1] at this
   cases this
 | succ fuel ih =>
  intro listed T H Hi hfree hr hy hf h
  refine ⟨fun h0 => (by rw [h0] at hr; cases hr), fun j hj => ?_⟩
  by_cases hji : j = i
  ·subst hji; exact self (fuel + 1) listed T H Hi hy hf h
  ·have h1 := h.2 j (ready_mono hj hji)
   obtain ⟨hjun, oj, hoj, hall⟩ := mem_ready.1 hj
   have hnot : ∀ e ∈ oj.after, Region.binds md e = true → e.on ≠ i := fun e he hb heq => by
    have a1 := hall e he hb
    have a0 := (mem_ready.1 hr).1
    rw [heq] at a1
    rcases Nat.lt_or_ge i listed.size with h' | h'
    ·simp [h'] at a0 a1; rw [a0] at a1; cases a1
    ·simp [Array.getElem?_eq_none h'] at a1
   obtain ⟨hap, hcp⟩ := hfree j oj hoj hji hjun hnot
   obtain ⟨l1, l2, l3⟩ := apart_looks hap
   unfold qU at h1 ⊢
   simp only [hoj] at h1 ⊢
   obtain ⟨y, Hj, hyj, hfj, hk⟩ := h1
   obtain ⟨H', k1, k2, k3, k4⟩ := swapU hcp (fun t ht => updD_look (l1 t ht)) (fun t ht => updD_look (l2 t ht)) hy hf hyj hfj
   refine ⟨y, H', k1, k2, ih (listed.setIfInBounds j true) _ H' Hj (fun k ok hk hki hun hno => ?_) (ready_mono hr (Ne.symm hji)) k3 k4 ?_⟩
   ·refine hfree k ok hk hki ?_ hno
    by_cases hjk : j = k
    ·subst hjk; exact hjun
    ·rw [getD_set_ne true hjk] at hun; exact hun
   ·rw [Array.setIfInBounds_comm _ _ hji, updD_comm _ _ _ l3]
    exact hk
def freeU (md : Region.Mode) (ops : Array Oper) (cl : Nat → Nat) (listed : Array Bool) (i : Nat) (oi : Oper) : Bool :=
 ops.toList.zipIdx.all fun q => Nat.beq q.2 i || listed.getD q.2 true || (q.1.after.any fun e => Region.binds md e && Nat.beq e.on i) || (oi.apart ops q.1 && compatU (cl i) (cl q.2))
def lexU (md : Region.Mode) (ops : Array Oper) (cl : Nat → Nat) : List Nat → Array Bool → Bool
 | [], listed => (Region.ready md ops listed).isEmpty
 | i :: l, listed => (Region.ready md ops listed).contains i && (match ops[i]? with | some oi => freeU md ops cl listed i oi | none => false) && lexU md ops cl l (listed.setIfInBounds i true)
theorem freeU_spec {listed : Array Bool} {i : Nat} {oi : Oper} (h : freeU md ops cl listed i oi = true) : ∀ j oj, ops[j]? = some oj → j ≠ i → listed.getD j true = false → (∀ e ∈ oj.after, Region.binds md e = true → e.on ≠ i) → oi.apart ops oj = true ∧ compatU (cl i) (cl j) = true := by
 intro j oj hj hji hun hno
 have h1 := List.all_eq_true.1 h (oj, j) (zip_get (by rw [Array.getElem?_toList]; exact hj))
 simp only [Bool.or_eq_true, Bool.and_eq_true, Nat.beq_eq] at h1
 rcases h1 with ((h1 | h1) | h1) | h1
 ·exact absurd h1 hji
 ·rw [hun] at h1; cases h1
 ·obtain ⟨e, he, h3⟩ := Array.any_eq_true'.1 h1
  simp only [Bool.and_eq_true, Nat.beq_eq] at h3
  exact absurd h3.2 (hno e he h3.1)
 ·exact h1
def WU (P : Program) (B : Nat → Nat → Prop) (n : Nat) (ops : Array Oper) (cl : Nat → Nat) : List Nat → (Nat → PV) → List Ob → ((Nat → PV) → List Ob → Prop) → Prop
 | [], T, H, K => K T H
 | i :: l, T, H, K => ∃ o, ops[i]? = some o ∧ ∃ x H', YU P B ops o T H x H' ∧ FU P B ops (cl i) o T H x H' ∧ WU P B n ops cl l (updD o.dst x T) H' K
theorem anyU_lex {Q : (Nat → PV) → List Ob → Prop} : ∀ (l : List Nat) (listed : Array Bool) (T : Nat → PV) (H : List Ob), lexU md ops cl l listed = true → WU P B n ops cl l T H Q → anyU P B md ops cl Q l.length listed T H
 | [], listed, T, H, hB, h => ⟨by simpa [lexU] using hB, h⟩
 | i :: l, listed, T, H, hB, h => by
  simp only [lexU, Bool.and_eq_true] at hB
  obtain ⟨⟨hr, hf⟩, hB'⟩ := hB
  obtain ⟨o, ho, x, H', hy, hfu, hK⟩ := h
  rw [ho] at hf
  exact anyU_first ho l.length listed T H H' (freeU_spec hf) (by simpa using hr) hy hfu (anyU_lex l _ _ _ hB' hK)
def clOf (l : List Nat) (i : Nat) : Nat := l.getD i 3
def lexUB (md : Region.Mode) (ops : Array Oper) (cl : List Nat) (ord : List Nat) : Bool := Nat.beq ord.length ops.size && lexU md ops (clOf cl) ord (Array.replicate ops.size false)
variable {T : Nat → PV} {H : List Ob} {Q : Exit → (Nat → PV) → List Ob → Prop}
theorem W_drawU {id : Nat} (cl ord : List Nat) (hm : P.follows .mixedOrders = true) (hall : dstsOk n ops = true) (hB : lexUB .any ops cl ord = true) (h : WU P B n ops (clOf cl) ord T H (fun T' H' => Q .normal T' H')) : W P B n (.region id ops true) T H Q := by
 intro σ w a g
 simp only [lexUB, Bool.and_eq_true, Nat.beq_eq] at hB
 refine wp_region_any hm ?_
 have hd : Grows w { w with drawn := w.drawn + 1 } := Grows.drew w
 obtain ⟨s', st⟩ := grow_sim g.sim hd
 have hA := anyU_lex (P := P) (B := B) (n := n) (md := .any) ord (Array.replicate ops.size false) T H hB.2 h
 rw [hB.1] at hA
 exact anyU_sound (P := P) (md := .any) hall (H0 := H) (σ0 := σ) (w0 := w) (Q' := Post B n H σ w Q) (fun T' H' σ' w' a' g' st' hq => ⟨T', H', σ', hq, g', st'⟩) ops.size _ T H σ _ a ⟨s', fun i => (g.rep i).mono st.le, g.size, g.defers⟩ st hA
variable {o : Oper} {l : List Nat} {i : Nat} {K : (Nat → PV) → List Ob → Prop} {x : PV} {H' : List Ob} {G : List (Nat × TD)} {p : Prop} {d : Option Tmp}
theorem WU_nil (h : K T H) : WU P B n ops cl [] T H K := h
theorem WU_does0 (h0 : ops[i]? = some o) (hc : cl i = 0) (hd : nfD n o.dst = some d) (hw : wantedA ops T o = some true) (h : ∀ H2, Does P B o T H2 x H2) (k : WU P B n ops cl l (updD d x T) H K) : WU P B n ops cl (i :: l) T H K :=
 ⟨o, h0, x, H, .inl ⟨hw, .inl (h H)⟩, by rw [hc]; exact ⟨rfl, fun H2 => .inl ⟨hw, .inl (h H2)⟩⟩, (nfD_eq hd).1 ▸ k⟩
theorem Xc (h0 : ops[i]? = some o) (hc : cl i = 0) (hd : nfD n o.dst = some d) (hw : wantedA ops T o = some true) (h : ∀ H2, DoesC P B o T H2 x H2) (k : WU P B n ops cl l (updD d x T) H K) : WU P B n ops cl (i :: l) T H K :=
 ⟨o, h0, x, H, .inl ⟨hw, .inr (h H)⟩, by rw [hc]; exact ⟨rfl, fun H2 => .inl ⟨hw, .inr (h H2)⟩⟩, (nfD_eq hd).1 ▸ k⟩
theorem Xe (hG : tysOk P G = true) (h0 : ops[i]? = some o) (hc : cl i = 0) (hd : nfD n o.dst = some d) (hw : wantedA ops T o = some true) (h : ∀ H2, evS G T H2 o.type o.op = some (x, H2, p)) (hp : p) (k : WU P B n ops cl l (updD d x T) H K) : WU P B n ops cl (i :: l) T H K :=
 WU_does0 h0 hc hd hw (fun H2 => evOp_ok hG rfl (evS_ok (h H2)) hp) k
theorem Xi {y : PV} (hG : tysOk P G = true) (h0 : ops[i]? = some o) (hc : cl i = 0) (hd : nfD n o.dst = some d) (hw : wantedA ops T o = some true) (h : ∀ H2, evS G T H2 o.type o.op = some (x, H2, p)) (hp : p) (hi : Imp x y) (k : WU P B n ops cl l (updD d y T) H K) : WU P B n ops cl (i :: l) T H K :=
 WU_does0 h0 hc hd hw (fun H2 => (evOp_ok hG rfl (evS_ok (h H2)) hp).imp hi) k
theorem WU_skip (h0 : ops[i]? = some o) (hc : Nat.ble (cl i) 3 = true) (hd : nfD n o.dst = some d) (hw : wantedA ops T o = some false) (k : WU P B n ops cl l (updD d (.val undef) T) H K) : WU P B n ops cl (i :: l) T H K := by
 refine ⟨o, h0, _, H, .inr ⟨hw, rfl, rfl⟩, ?_, (nfD_eq hd).1 ▸ k⟩
 match cl i with
 | 0 => exact ⟨rfl, fun H2 => .inr ⟨hw, rfl, rfl⟩⟩
 | 1 => exact ⟨rfl, fun E => .inr ⟨hw, rfl, rfl⟩⟩
 | 2 => exact ⟨[], by simp⟩
 | 3 => trivial
 | 4 => exact ⟨rfl, fun H2 _ => .inr ⟨hw, rfl, rfl⟩⟩
 | 5 => exact Rk.refl _
 | c + 6 => trivial
theorem Xf (hG : tysOk P G = true) (h0 : ops[i]? = some o) (hc : cl i = 1) (hd : nfD n o.dst = some d) (hw : wantedA ops T o = some true) (h : ∀ E, evS G T (H ++ E) o.type o.op = some (x, H ++ E, p)) (hp : p) (k : WU P B n ops cl l (updD d x T) H K) : WU P B n ops cl (i :: l) T H K :=
 ⟨o, h0, x, H, .inl ⟨hw, .inl (by have := evOp_ok (P := P) (B := B) (o := o) hG rfl (evS_ok (h [])) hp; rwa [List.append_nil] at this)⟩, by rw [hc]; exact ⟨rfl, fun E => .inl ⟨hw, .inl (evOp_ok hG rfl (evS_ok (h E)) hp)⟩⟩, (nfD_eq hd).1 ▸ k⟩
theorem WU_does3 (h0 : ops[i]? = some o) (hc : cl i = 3) (hd : nfD n o.dst = some d) (hw : wantedA ops T o = some true) (h : Does P B o T H x H') (k : WU P B n ops cl l (updD d x T) H' K) : WU P B n ops cl (i :: l) T H K :=
 ⟨o, h0, x, H', .inl ⟨hw, .inl h⟩, by rw [hc]; trivial, (nfD_eq hd).1 ▸ k⟩
theorem WU_split (d : Nat) {b : Bool} (hT : T d = .val (.bool b)) (h1 : b = true → WU P B n ops cl l (upd d (.val (.bool true)) T) H K) (h2 : b = false → WU P B n ops cl l (upd d (.val (.bool false)) T) H K) : WU P B n ops cl l T H K := by
 have e : ∀ q, b = q → upd d (.val (.bool q)) T = T := by
  rintro q rfl
  funext i
  by_cases hi : i = d
  ·subst hi; rw [upd_same, hT]
  ·rw [upd_other _ _ _ _ hi]
 cases hb : b with
 | true => have := h1 hb; rwa [e true hb] at this
 | false => have := h2 hb; rwa [e false hb] at this
theorem WU_true (d : Nat) {b : Bool} (hT : T d = .val (.bool b)) (hb : b = true) (h1 : WU P B n ops cl l (upd d (.val (.bool true)) T) H K) : WU P B n ops cl l T H K :=
 WU_split d hT (fun _ => h1) (fun h => by rw [hb] at h; cases h)
theorem WU_false (d : Nat) {b : Bool} (hT : T d = .val (.bool b)) (hb : b = false) (h1 : WU P B n ops cl l (upd d (.val (.bool false)) T) H K) : WU P B n ops cl l T H K :=
 WU_split d hT (fun h => by rw [hb] at h; cases h) (fun _ => h1)
theorem Xa (d : Nat) {x y : PV} (hT : T d = x) (hxy : x = y) (h1 : WU P B n ops cl l (upd d y T) H K) : WU P B n ops cl l T H K := by
 have e : upd d y T = T := by
  funext i
  by_cases hi : i = d
  ·subst hi; rw [upd_same, hT, hxy]
  ·rw [upd_other _ _ _ _ hi]
 rwa [e] at h1
end
theorem dnL : (∀ (p : Prop) [Decidable p], (decide p = true) = p) ∧ (∀ (p : Prop) [Decidable p], (decide p = false) = ¬ p) ∧ (∀ b : Bool, ((!b) = true) = (b = false)) ∧ (∀ b : Bool, ((!b) = false) = (b = true)) ∧
  (∀ a b : Bool, ((a && b) = true) = (a = true ∧ b = true)) ∧ (∀ a b : Bool, ((a || b) = true) = (a = true ∨ b = true)) ∧ (∀ a b : Bool, ((a && b) = false) = (a = false ∨ b = false)) ∧ (∀ a b : Bool, ((a || b) = false) = (a = false ∧ b = false)) ∧
  (∀ b : Bool, (¬ (b = true)) = (b = false)) ∧ (∀ (α : Type) [BEq α] [LawfulBEq α] (a b : α), ((a == b) = true) = (a = b)) ∧ (∀ (α : Type) [BEq α] [LawfulBEq α] (a b : α), ((a == b) = false) = (a ≠ b)) ∧
  (∀ (α : Type) [BEq α] [LawfulBEq α] (a b : α), ((a != b) = true) = (a ≠ b)) ∧ (∀ (α : Type) (a b : α), (a ≠ b) = ¬ (a = b)) ∧ (∀ (α : Type) [BEq α] [LawfulBEq α] (a b : α), ((a != b) = false) = (a = b)) ∧ ((false = true) = False) ∧ ((true = false) = False) ∧
  (∀ p : Prop, (False ↔ p) = ¬ p) ∧ (∀ p : Prop, (True ↔ p) = p) ∧ (∀ p : Prop, (p ↔ False) = ¬ p) ∧ (∀ p : Prop, (p ↔ True) = p) := by
 refine ⟨?_, ?_, ?_, ?_, ?_, ?_, ?_, ?_, ?_, ?_, ?_, ?_, ?_, ?_, ?_, ?_, ?_, ?_, ?_, ?_⟩ <;> intros <;> first | (simp; done) | (rw [Bool.and_eq_false_iff]; done)
end Go.Proofs.Ytlponhgbbfgkgaa
namespace Go.Proofs.Ytlponhgbbfgkgaa
open Go.RowKit
def nF : TD := ⟨1, 8, [.val .nilFunc], .other⟩
def tys : List (Nat × TD) := [
 (1, nF),  (2, ⟨1, 8, [.val (.int .i64 0)], .int .i64⟩),
 (3, ⟨1, 8, [.val (.int .i64 0)], .int .i64⟩),
 (4, ⟨1, 1, [.val (.bool false)], .bool⟩),
 (5, ⟨1, 1, [.val (.int .u8 0)], .int .u8⟩),
 (6, ⟨1, 1, [.val (.int .u8 0)], .int .u8⟩),
 (7, ⟨4, 24, [.val (.int .i64 0), .val (.int .i64 0), .val (.bool false), .val (.int .u8 0)], .struct [(0, 1, false), (1, 1, false), (2, 1, false), (3, 1, false)]⟩),
 (8, ⟨4, 24, [.val (.int .i64 0), .val (.int .i64 0), .val (.bool false), .val (.int .u8 0)], .struct [(0, 1, false), (1, 1, false), (2, 1, false), (3, 1, false)]⟩),
 (9, ⟨1, 16, [.val (.string ⟨#[]⟩)], .str⟩),
 (10, ⟨1, 16, [.val (.string ⟨#[]⟩)], .str⟩),
 (11, ⟨1, 16, [.val (.string ⟨#[]⟩)], .str⟩),
 (12, ⟨1, 8, [.val (.int .u64 0)], .int .u64⟩),
 (13, ⟨2, 24, [.val (.string ⟨#[]⟩), .val (.int .u64 0)], .struct [(0, 1, false), (1, 1, false)]⟩),
 (14, ⟨2, 24, [.val (.string ⟨#[]⟩), .val (.int .u64 0)], .struct [(0, 1, false), (1, 1, false)]⟩),
 (15, ⟨1, 8, [.val (.pointer none)], .other⟩),  (16, ⟨1, 8, [.val (.pointer none)], .other⟩),  (17, ⟨1, 8, [.val (.pointer none)], .other⟩),  (18, ⟨1, 8, [.val (.pointer none)], .struct [(0, 1, false)]⟩),
 (19, ⟨1, 8, [.val (.pointer none)], .struct [(0, 1, false)]⟩),
 (20, ⟨1, 16, [.val .nilIface], .other⟩),  (21, ⟨1, 4, [.val (.int .i32 0)], .int .i32⟩),
 (22, ⟨5, 40, [.val (.int .i64 0), .val (.int .i64 0), .val (.int .i64 0), .val (.int .i64 0), .val (.int .i64 0)], .struct [(0, 1, false), (1, 1, false), (2, 1, false), (3, 1, false), (4, 1, false)]⟩),
 (23, ⟨5, 40, [.val (.int .i64 0), .val (.int .i64 0), .val (.int .i64 0), .val (.int .i64 0), .val (.int .i64 0)], .struct [(0, 1, false), (1, 1, false), (2, 1, false), (3, 1, false), (4, 1, false)]⟩),
 (24, ⟨1, 24, [.seq 0 [] .clip], .slice 5⟩),
 (25, ⟨1, 24, [.seq 0 [] .clip], .slice 113⟩),
 (26, ⟨2, 48, [.seq 0 [] .clip, .seq 0 [] .clip], .struct [(0, 1, false), (1, 1, false)]⟩),
 (27, ⟨2, 48, [.seq 0 [] .clip, .seq 0 [] .clip], .struct [(0, 1, false), (1, 1, false)]⟩),
 (28, ⟨1, 24, [.seq 0 [] .clip], .slice 3⟩),
 (29, ⟨1, 24, [.seq 0 [] .clip], .slice 87⟩),
 (30, ⟨1, 24, [.seq 0 [] .clip], .slice 111⟩),
 (31, ⟨2, 32, [.seq 0 [] .clip, .val (.bool false)], .struct [(0, 1, false), (1, 1, false)]⟩),
 (32, ⟨2, 32, [.seq 0 [] .clip, .val (.bool false)], .struct [(0, 1, false), (1, 1, false)]⟩),
 (33, ⟨1, 24, [.seq 0 [] .clip], .slice 171⟩),
 (34, ⟨1, 24, [.seq 0 [] .clip], .slice 89⟩),
 (35, ⟨23, 344, [.val (.int .i64 0), .val (.int .i64 0), .val (.int .i64 0), .val (.int .i64 0), .val (.int .i64 0), .seq 0 [] .clip, .seq 0 [] .clip, .val (.int .i64 0), .seq 0 [] .clip, .seq 0 [] .clip, .seq 0 [] .clip, .seq 0 [] .clip, .val (.int .i64 0), .seq 0 [] .clip, .seq 0 [] .clip, .val (.bool false), .seq 0 [] .clip, .val (.int .i64 0), .val (.int .i64 0), .val (.int .i64 0), .val (.int .i64 0), .val (.int .i64 0), .seq 0 [] .clip], .struct [(0, 5, true), (5, 2, true), (7, 1, false), (8, 1, false), (9, 1, false), (10, 1, false), (11, 1, false), (12, 1, false), (13, 1, false), (14, 2, true), (16, 1, false), (17, 1, false), (18, 1, false), (19, 1, false), (20, 1, false), (21, 1, false), (22, 1, false)]⟩),
 (36, ⟨23, 344, [.val (.int .i64 0), .val (.int .i64 0), .val (.int .i64 0), .val (.int .i64 0), .val (.int .i64 0), .seq 0 [] .clip, .seq 0 [] .clip, .val (.int .i64 0), .seq 0 [] .clip, .seq 0 [] .clip, .seq 0 [] .clip, .seq 0 [] .clip, .val (.int .i64 0), .seq 0 [] .clip, .seq 0 [] .clip, .val (.bool false), .seq 0 [] .clip, .val (.int .i64 0), .val (.int .i64 0), .val (.int .i64 0), .val (.int .i64 0), .val (.int .i64 0), .seq 0 [] .clip], .struct [(0, 5, true), (5, 2, true), (7, 1, false), (8, 1, false), (9, 1, false), (10, 1, false), (11, 1, false), (12, 1, false), (13, 1, false), (14, 2, true), (16, 1, false), (17, 1, false), (18, 1, false), (19, 1, false), (20, 1, false), (21, 1, false), (22, 1, false)]⟩),
 (37, ⟨1, 24, [.seq 0 [] .clip], .slice 9⟩),
 (38, ⟨1, 24, [.seq 0 [] .clip], .slice 62⟩),
 (39, ⟨26, 416, [.val (.int .i64 0), .val (.int .i64 0), .val (.int .i64 0), .val (.int .i64 0), .val (.int .i64 0), .seq 0 [] .clip, .seq 0 [] .clip, .val (.int .i64 0), .seq 0 [] .clip, .seq 0 [] .clip, .seq 0 [] .clip, .seq 0 [] .clip, .val (.int .i64 0), .seq 0 [] .clip, .seq 0 [] .clip, .val (.bool false), .seq 0 [] .clip, .val (.int .i64 0), .val (.int .i64 0), .val (.int .i64 0), .val (.int .i64 0), .val (.int .i64 0), .seq 0 [] .clip, .seq 0 [] .clip, .seq 0 [] .clip, .seq 0 [] .clip], .struct [(0, 23, true), (23, 1, false), (24, 1, false), (25, 1, false)]⟩),
 (40, ⟨26, 416, [.val (.int .i64 0), .val (.int .i64 0), .val (.int .i64 0), .val (.int .i64 0), .val (.int .i64 0), .seq 0 [] .clip, .seq 0 [] .clip, .val (.int .i64 0), .seq 0 [] .clip, .seq 0 [] .clip, .seq 0 [] .clip, .seq 0 [] .clip, .val (.int .i64 0), .seq 0 [] .clip, .seq 0 [] .clip, .val (.bool false), .seq 0 [] .clip, .val (.int .i64 0), .val (.int .i64 0), .val (.int .i64 0), .val (.int .i64 0), .val (.int .i64 0), .seq 0 [] .clip, .seq 0 [] .clip, .seq 0 [] .clip, .seq 0 [] .clip], .struct [(0, 23, true), (23, 1, false), (24, 1, false), (25, 1, false)]⟩),
 (41, nF),  (42, nF),  (43, nF),  (44, nF),  (45, ⟨1, 8, [.val (.int .i64 0)], .int .i64⟩),
 (47, nF),  (49, nF),  (50, nF),  (51, nF),  (52, ⟨26, 400, [.val (.int .i64 0), .val (.int .i64 0), .val (.int .i64 0), .val (.int .i64 0), .val (.int .i64 0), .seq 0 [] .clip, .seq 0 [] .clip, .val (.int .i64 0), .seq 0 [] .clip, .seq 0 [] .clip, .seq 0 [] .clip, .seq 0 [] .clip, .val (.int .i64 0), .seq 0 [] .clip, .seq 0 [] .clip, .val (.bool false), .seq 0 [] .clip, .val (.int .i64 0), .val (.int .i64 0), .val (.int .i64 0), .val (.int .i64 0), .val (.int .i64 0), .seq 0 [] .clip, .seq 0 [] .clip, .seq 0 [] .clip, .val (.int .u8 0)], .struct [(0, 23, true), (23, 1, false), (24, 1, false), (25, 1, false)]⟩),
 (53, ⟨26, 400, [.val (.int .i64 0), .val (.int .i64 0), .val (.int .i64 0), .val (.int .i64 0), .val (.int .i64 0), .seq 0 [] .clip, .seq 0 [] .clip, .val (.int .i64 0), .seq 0 [] .clip, .seq 0 [] .clip, .seq 0 [] .clip, .seq 0 [] .clip, .val (.int .i64 0), .seq 0 [] .clip, .seq 0 [] .clip, .val (.bool false), .seq 0 [] .clip, .val (.int .i64 0), .val (.int .i64 0), .val (.int .i64 0), .val (.int .i64 0), .val (.int .i64 0), .seq 0 [] .clip, .seq 0 [] .clip, .seq 0 [] .clip, .val (.int .u8 0)], .struct [(0, 23, true), (23, 1, false), (24, 1, false), (25, 1, false)]⟩),
 (54, nF),  (55, ⟨1, 24, [.seq 0 [] .clip], .slice 173⟩),
 (56, ⟨7, 72, [.val (.int .i64 0), .seq 0 [] .clip, .val (.int .i64 0), .val (.int .i64 0), .val (.int .i64 0), .val (.bool false), .val (.int .i64 0)], .struct [(0, 1, false), (1, 1, false), (2, 1, false), (3, 1, false), (4, 1, false), (5, 1, false), (6, 1, false)]⟩),
 (57, ⟨7, 72, [.val (.int .i64 0), .seq 0 [] .clip, .val (.int .i64 0), .val (.int .i64 0), .val (.int .i64 0), .val (.bool false), .val (.int .i64 0)], .struct [(0, 1, false), (1, 1, false), (2, 1, false), (3, 1, false), (4, 1, false), (5, 1, false), (6, 1, false)]⟩),
 (58, ⟨30, 416, [.val (.int .i64 0), .val (.int .i64 0), .val (.int .i64 0), .val (.int .i64 0), .val (.int .i64 0), .seq 0 [] .clip, .seq 0 [] .clip, .val (.int .i64 0), .seq 0 [] .clip, .seq 0 [] .clip, .seq 0 [] .clip, .seq 0 [] .clip, .val (.int .i64 0), .seq 0 [] .clip, .seq 0 [] .clip, .val (.bool false), .seq 0 [] .clip, .val (.int .i64 0), .val (.int .i64 0), .val (.int .i64 0), .val (.int .i64 0), .val (.int .i64 0), .seq 0 [] .clip, .val (.int .i64 0), .seq 0 [] .clip, .val (.int .i64 0), .val (.int .i64 0), .val (.int .i64 0), .val (.bool false), .val (.int .i64 0)], .struct [(0, 23, true), (23, 7, true)]⟩),
 (59, ⟨30, 416, [.val (.int .i64 0), .val (.int .i64 0), .val (.int .i64 0), .val (.int .i64 0), .val (.int .i64 0), .seq 0 [] .clip, .seq 0 [] .clip, .val (.int .i64 0), .seq 0 [] .clip, .seq 0 [] .clip, .seq 0 [] .clip, .seq 0 [] .clip, .val (.int .i64 0), .seq 0 [] .clip, .seq 0 [] .clip, .val (.bool false), .seq 0 [] .clip, .val (.int .i64 0), .val (.int .i64 0), .val (.int .i64 0), .val (.int .i64 0), .val (.int .i64 0), .seq 0 [] .clip, .val (.int .i64 0), .seq 0 [] .clip, .val (.int .i64 0), .val (.int .i64 0), .val (.int .i64 0), .val (.bool false), .val (.int .i64 0)], .struct [(0, 23, true), (23, 7, true)]⟩),
 (60, nF),  (61, ⟨4, 64, [.val (.int .i64 0), .val (.int .i64 0), .seq 0 [] .clip, .seq 0 [] .clip], .struct [(0, 1, false), (1, 1, false), (2, 1, false), (3, 1, false)]⟩),
 (62, ⟨4, 64, [.val (.int .i64 0), .val (.int .i64 0), .seq 0 [] .clip, .seq 0 [] .clip], .struct [(0, 1, false), (1, 1, false), (2, 1, false), (3, 1, false)]⟩),
 (63, nF),  (64, ⟨1, 8, [.val (.pointer none)], .other⟩),  (65, ⟨28, 400, [.val (.int .i64 0), .val (.int .i64 0), .val (.int .i64 0), .val (.int .i64 0), .val (.int .i64 0), .seq 0 [] .clip, .seq 0 [] .clip, .val (.int .i64 0), .seq 0 [] .clip, .seq 0 [] .clip, .seq 0 [] .clip, .seq 0 [] .clip, .val (.int .i64 0), .seq 0 [] .clip, .seq 0 [] .clip, .val (.bool false), .seq 0 [] .clip, .val (.int .i64 0), .val (.int .i64 0), .val (.int .i64 0), .val (.int .i64 0), .val (.int .i64 0), .seq 0 [] .clip, .seq 0 [] .clip, .val (.int .i64 0), .val (.int .i64 0), .val (.int .i64 0), .val (.int .i64 0)], .struct [(0, 23, true), (23, 1, false), (24, 1, false), (25, 1, false), (26, 1, false), (27, 1, false)]⟩),
 (66, ⟨28, 400, [.val (.int .i64 0), .val (.int .i64 0), .val (.int .i64 0), .val (.int .i64 0), .val (.int .i64 0), .seq 0 [] .clip, .seq 0 [] .clip, .val (.int .i64 0), .seq 0 [] .clip, .seq 0 [] .clip, .seq 0 [] .clip, .seq 0 [] .clip, .val (.int .i64 0), .seq 0 [] .clip, .seq 0 [] .clip, .val (.bool false), .seq 0 [] .clip, .val (.int .i64 0), .val (.int .i64 0), .val (.int .i64 0), .val (.int .i64 0), .val (.int .i64 0), .seq 0 [] .clip, .seq 0 [] .clip, .val (.int .i64 0), .val (.int .i64 0), .val (.int .i64 0), .val (.int .i64 0)], .struct [(0, 23, true), (23, 1, false), (24, 1, false), (25, 1, false), (26, 1, false), (27, 1, false)]⟩),
 (68, nF),  (69, nF),  (70, ⟨26, 384, [.val (.int .i64 0), .val (.int .i64 0), .val (.int .i64 0), .val (.int .i64 0), .val (.int .i64 0), .seq 0 [] .clip, .seq 0 [] .clip, .val (.int .i64 0), .seq 0 [] .clip, .seq 0 [] .clip, .seq 0 [] .clip, .seq 0 [] .clip, .val (.int .i64 0), .seq 0 [] .clip, .seq 0 [] .clip, .val (.bool false), .seq 0 [] .clip, .val (.int .i64 0), .val (.int .i64 0), .val (.int .i64 0), .val (.int .i64 0), .val (.int .i64 0), .seq 0 [] .clip, .seq 0 [] .clip, .val (.int .i64 0), .val (.int .i64 0)], .struct [(0, 23, true), (23, 1, false), (24, 1, false), (25, 1, false)]⟩),
 (71, ⟨26, 384, [.val (.int .i64 0), .val (.int .i64 0), .val (.int .i64 0), .val (.int .i64 0), .val (.int .i64 0), .seq 0 [] .clip, .seq 0 [] .clip, .val (.int .i64 0), .seq 0 [] .clip, .seq 0 [] .clip, .seq 0 [] .clip, .seq 0 [] .clip, .val (.int .i64 0), .seq 0 [] .clip, .seq 0 [] .clip, .val (.bool false), .seq 0 [] .clip, .val (.int .i64 0), .val (.int .i64 0), .val (.int .i64 0), .val (.int .i64 0), .val (.int .i64 0), .seq 0 [] .clip, .seq 0 [] .clip, .val (.int .i64 0), .val (.int .i64 0)], .struct [(0, 23, true), (23, 1, false), (24, 1, false), (25, 1, false)]⟩),
 (72, nF),  (73, nF),  (74, nF),  (75, nF),  (76, nF),  (77, nF),  (79, nF),  (80, nF),  (81, nF),  (82, nF),  (83, nF),  (84, nF),  (85, nF),  (86, ⟨3, 24, [.val (.int .i64 0), .val (.int .i64 0), .val (.int .i64 0)], .struct [(0, 1, false), (1, 1, false), (2, 1, false)]⟩),
 (87, ⟨3, 24, [.val (.int .i64 0), .val (.int .i64 0), .val (.int .i64 0)], .struct [(0, 1, false), (1, 1, false), (2, 1, false)]⟩),
 (88, ⟨4, 32, [.val (.int .i64 0), .val (.int .i64 0), .val (.int .i64 0), .val (.bool false)], .struct [(0, 1, false), (1, 1, false), (2, 1, false), (3, 1, false)]⟩),
 (89, ⟨4, 32, [.val (.int .i64 0), .val (.int .i64 0), .val (.int .i64 0), .val (.bool false)], .struct [(0, 1, false), (1, 1, false), (2, 1, false), (3, 1, false)]⟩),
 (91, nF),  (92, ⟨5, 80, [.val (.string ⟨#[]⟩), .val (.int .i64 0), .val (.int .i64 0), .seq 0 [] .clip, .seq 0 [] .clip], .struct [(0, 1, false), (1, 4, true)]⟩),
 (93, ⟨5, 80, [.val (.string ⟨#[]⟩), .val (.int .i64 0), .val (.int .i64 0), .seq 0 [] .clip, .seq 0 [] .clip], .struct [(0, 1, false), (1, 4, true)]⟩),
 (94, nF),  (95, nF),  (97, ⟨1, 8, [.val (.map none)], .other⟩),  (98, nF),  (99, nF),  (100, ⟨1, 8, [.val (.pointer none)], .other⟩),  (101, nF),  (102, nF),  (104, nF),  (105, nF),  (106, ⟨1, 24, [.seq 0 [] .clip], .slice 4⟩),
 (107, nF),  (108, nF),  (109, nF),  (110, ⟨3, 32, [.val (.string ⟨#[]⟩), .val (.int .i64 0), .val (.int .i64 0)], .struct [(0, 1, false), (1, 1, false), (2, 1, false)]⟩),
 (111, ⟨3, 32, [.val (.string ⟨#[]⟩), .val (.int .i64 0), .val (.int .i64 0)], .struct [(0, 1, false), (1, 1, false), (2, 1, false)]⟩),
 (112, ⟨2, 32, [.val (.int .i64 0), .seq 0 [] .clip], .struct [(0, 1, false), (1, 1, false)]⟩),
 (113, ⟨2, 32, [.val (.int .i64 0), .seq 0 [] .clip], .struct [(0, 1, false), (1, 1, false)]⟩),
 (114, nF),  (115, nF),  (117, nF),  (119, nF),  (121, nF),  (122, nF),  (123, nF),  (125, nF),  (126, nF),  (127, nF),  (128, nF),  (129, nF),  (130, nF),  (131, nF),  (132, nF),  (133, nF),  (134, nF),  (136, nF),  (137, nF),  (138, nF),  (139, nF),  (140, nF),  (141, nF),  (142, nF),  (143, nF),  (144, nF),  (145, nF),  (146, nF),  (147, nF),  (148, nF),  (149, ⟨1, 8, [.val (.int .u64 0)], .int .u64⟩),
 (150, nF),  (151, nF),  (152, nF),  (153, ⟨1, 8, [.val (.pointer none)], .other⟩),  (154, nF),  (155, nF),  (156, ⟨4, 40, [.val (.pointer none), .val (.pointer none), .val (.pointer none), .val (.string ⟨#[]⟩)], .struct [(0, 1, false), (1, 1, false), (2, 1, false), (3, 1, false)]⟩),
 (157, ⟨4, 40, [.val (.pointer none), .val (.pointer none), .val (.pointer none), .val (.string ⟨#[]⟩)], .struct [(0, 1, false), (1, 1, false), (2, 1, false), (3, 1, false)]⟩),
 (161, nF),  (162, ⟨1, 4, [.val (.int .u32 0)], .int .u32⟩),
 (163, ⟨1, 1, [.val (.int .u8 0)], .int .u8⟩),
 (164, ⟨1, 1, [.val (.int .u8 0)], .int .u8⟩),
 (165, nF),  (166, ⟨1, 4, [.val (.int .i32 0)], .int .i32⟩),
 (167, ⟨1, 4, [.val (.int .i32 0)], .int .i32⟩),
 (168, ⟨11, 48, [.val (.int .u64 0), .val (.int .u64 0), .val (.int .u32 0), .val (.int .u8 0), .val (.int .u8 0), .val (.int .u8 0), .val (.int .u8 0), .val .nilFunc, .val (.pointer none), .val (.int .i32 0), .val (.int .i32 0)], .struct [(0, 1, false), (1, 1, false), (2, 1, false), (3, 1, false), (4, 1, false), (5, 1, false), (6, 1, false), (7, 1, false), (8, 1, false), (9, 1, false), (10, 1, false)]⟩),
 (169, ⟨11, 48, [.val (.int .u64 0), .val (.int .u64 0), .val (.int .u32 0), .val (.int .u8 0), .val (.int .u8 0), .val (.int .u8 0), .val (.int .u8 0), .val .nilFunc, .val (.pointer none), .val (.int .i32 0), .val (.int .i32 0)], .struct [(0, 1, false), (1, 1, false), (2, 1, false), (3, 1, false), (4, 1, false), (5, 1, false), (6, 1, false), (7, 1, false), (8, 1, false), (9, 1, false), (10, 1, false)]⟩),
 (170, ⟨6, 48, [.val (.int .i64 0), .val (.int .i64 0), .val (.int .i64 0), .val (.int .i64 0), .val (.int .i64 0), .val (.int .i64 0)], .struct [(0, 1, false), (1, 1, false), (2, 1, false), (3, 1, false), (4, 1, false), (5, 1, false)]⟩),
 (171, ⟨6, 48, [.val (.int .i64 0), .val (.int .i64 0), .val (.int .i64 0), .val (.int .i64 0), .val (.int .i64 0), .val (.int .i64 0)], .struct [(0, 1, false), (1, 1, false), (2, 1, false), (3, 1, false), (4, 1, false), (5, 1, false)]⟩),
 (172, ⟨3, 40, [.val (.int .i64 0), .val (.int .i64 0), .seq 0 [] .clip], .struct [(0, 1, false), (1, 1, false), (2, 1, false)]⟩),
 (173, ⟨3, 40, [.val (.int .i64 0), .val (.int .i64 0), .seq 0 [] .clip], .struct [(0, 1, false), (1, 1, false), (2, 1, false)]⟩),
 (174, ⟨1, 8, [.val (.pointer none)], .other⟩)]
theorem tG : tysOk Try.prog tys = true := by kernel_rfl
theorem mG : Try.prog.follows .mixedOrders = true := by kernel_rfl
section
variable {B : Nat → Nat → Prop} {n : Nat} {all ops : Array Oper} {cl : Nat → Nat} {i : Nat} {li : List Nat} {T : Nat → PV} {H H' : List Ob} {K : (Nat → PV) → List Ob → Prop} {Q : Exit → (Nat → PV) → List Ob → Prop} {l : List Oper} {o : Oper} {x : PV} {d : Option Tmp} {p : Prop}
theorem z1 (k : WO Try.prog B n all l (updD d x T) H' K) (hw : wantedA all T o = some true := by exact rfl) (hd : nfD n o.dst = some d := by exact rfl) (h : evN tys T H o.type o.op = some (x, H', True) := by exact rfl) : WO Try.prog B n all (o :: l) T H K :=
 We tG hw hd h trivial k
theorem z2 (k : WO Try.prog B n all l (updD d x T) H' K) (hw : wantedA all T o = some true := by exact rfl) (hd : nfD n o.dst = some d := by exact rfl) (h : evN tys T H o.type o.op = some (x, H', p) := by exact rfl) (q : p) : WO Try.prog B n all (o :: l) T H K :=
 We tG hw hd h q k
theorem z6 (k : WO Try.prog B n all l (updD d (.val undef) T) H K) (hd : nfD n o.dst = some d := by exact rfl) (hw : wantedA all T o = some false := by exact rfl) : WO Try.prog B n all (o :: l) T H K :=
 Wk hd hw k
theorem z8 {id : Nat} {y : Code} (h : WO Try.prog B n l.toArray l T H (fun T' H' => thenQ (fun T2 H2 => W Try.prog B n y T2 H2 Q) Q .normal T' H')) (hall : dstsOk n l.toArray = true := by exact rfl) : W Try.prog B n ((Code.region id l.toArray false).seq y) T H Q :=
 Ws (W_region hall h)
theorem z3 (k : WU Try.prog B n ops cl li (updD d x T) H K) (h0 : ops[i]? = some o := by exact rfl) (hc : cl i = 0 := by exact rfl) (hd : nfD n o.dst = some d := by exact rfl) (hw : wantedA ops T o = some true := by exact rfl) (h : ∀ H2, evS tys T H2 o.type o.op = some (x, H2, True) := by exact fun _ => rfl) : WU Try.prog B n ops cl (i :: li) T H K :=
 Xe tG h0 hc hd hw h trivial k
theorem zc {f : FuncId} {fn : Func} {args : Array Operand} {ats : Array TypeId} {res : PV} (ho : o.op = .call { callee := .value (.func f), args := args, argTypes := ats }) (hf : Try.prog.funcs[f]? = some fn) (h : HC Try.prog f (args.toList.map fun y => wk (opv T y)) H res H') (k : WO Try.prog B n all l (updD d res T) H' K) (hd : nfD n o.dst = some d := by exact rfl) (hw : wantedA all T o = some true := by exact rfl) (hb : fn.body.isNone = false := by exact rfl) (hn : (fn.name == "runtime.NumGoroutine") = false := by exact rfl) : WO Try.prog B n all (o :: l) T H K :=
 Wc hd hw (dC ho hf hb hn h) k
theorem zq {a b : Str} (dd : Nat) (k : WO Try.prog B n all l (upd dd (.val (.bool (decide (a = b)))) T) H K) (hT : T dd = PV.val (.bool (strEq ⟨a.toArray⟩ ⟨b.toArray⟩)) := by exact rfl) : WO Try.prog B n all l T H K :=
 Wa dd hT (str_eql a b) k
theorem z4 (k : WU Try.prog B n ops cl li (updD d x T) H K) (h0 : ops[i]? = some o := by exact rfl) (hc : cl i = 0 := by exact rfl) (hd : nfD n o.dst = some d := by exact rfl) (hw : wantedA ops T o = some true := by exact rfl) (h : ∀ H2, evS tys T H2 o.type o.op = some (x, H2, p) := by exact fun _ => rfl) (q : p) : WU Try.prog B n ops cl (i :: li) T H K :=
 Xe tG h0 hc hd hw h q k
theorem z5 (k : WU Try.prog B n ops cl li (updD d x T) H K) (h0 : ops[i]? = some o := by exact rfl) (hc : cl i = 1 := by exact rfl) (hd : nfD n o.dst = some d := by exact rfl) (hw : wantedA ops T o = some true := by exact rfl) (h : ∀ E, evS tys T (H ++ E) o.type o.op = some (x, H ++ E, True) := by exact fun _ => rfl) : WU Try.prog B n ops cl (i :: li) T H K :=
 Xf tG h0 hc hd hw h trivial k
theorem z7 (k : WU Try.prog B n ops cl li (updD d (.val undef) T) H K) (h0 : ops[i]? = some o := by exact rfl) (hc : Nat.ble (cl i) 3 = true := by exact rfl) (hd : nfD n o.dst = some d := by exact rfl) (hw : wantedA ops T o = some false := by exact rfl) : WU Try.prog B n ops cl (i :: li) T H K :=
 WU_skip h0 hc hd hw k
theorem z0 {id : Nat} {y : Code} {Q2 : Exit → (Nat → PV) → List Ob → Prop} (h : WO Try.prog B n l.toArray l T H (fun T' H' => thenQ (fun T2 H2 => W Try.prog B n y T2 H2 Q) Q .normal T' H')) (hall : dstsOk n l.toArray = true := by exact rfl) : WO Try.prog B n all [] T H (fun T' H' => thenQ (fun T2 H2 => W Try.prog B n ((Code.region id l.toArray false).seq y) T2 H2 Q) Q2 .normal T' H') :=
 Wn (Ws (W_region hall h))
theorem zR {rs : List ResultVar} {res : PV} (e : x = res) (hq : RetP' tys rs res .ret T H → Q .ret T H := by exact id) (h : resN tys T H rs = some x := by exact rfl) : W Try.prog B n .ret T H Q :=
 Wq (hq (lP h e))
theorem oF {q : Prop} [Decidable q] (h : decide q = false) : ¬ q := of_decide_eq_false h
theorem oT {q : Prop} [Decidable q] (h : decide q = true) : q := of_decide_eq_true h
variable {o1 o2 o3 o4 o5 : Oper} {x1 x2 x3 x4 x5 : PV} {d1 d2 d3 d4 d5 : Option Tmp} {H1 H2 H3 H4 H5 : List Ob} {id : Nat} {y : Code}
theorem zs1 (k : K (updD d1 x1 T) H1) (w1 : wantedA all T o1 = some true := by exact rfl) (e1 : nfD n o1.dst = some d1 := by exact rfl) (h1 : evN tys T H o1.type o1.op = some (x1, H1, True) := by exact rfl) : WO Try.prog B n all (o1 :: []) T H K := (z1 (Wn k) w1 e1 h1)
theorem zp1 (k : WO Try.prog B n (o1 :: l).toArray l (updD d1 x1 T) H1 (fun T' H' => thenQ (fun T2 H2 => W Try.prog B n y T2 H2 Q) Q .normal T' H')) (hall : dstsOk n (o1 :: l).toArray = true := by exact rfl) (w1 : wantedA (o1 :: l).toArray T o1 = some true := by exact rfl) (e1 : nfD n o1.dst = some d1 := by exact rfl) (h1 : evN tys T H o1.type o1.op = some (x1, H1, True) := by exact rfl) : W Try.prog B n ((Code.region id (o1 :: l).toArray false).seq y) T H Q := z8 (z1 k w1 e1 h1) hall
theorem zu1 (k : W Try.prog B n y (updD d1 x1 T) H1 Q) (hall : dstsOk n (o1 :: []).toArray = true := by exact rfl) (w1 : wantedA (o1 :: []).toArray T o1 = some true := by exact rfl) (e1 : nfD n o1.dst = some d1 := by exact rfl) (h1 : evN tys T H o1.type o1.op = some (x1, H1, True) := by exact rfl) : W Try.prog B n ((Code.region id (o1 :: []).toArray false).seq y) T H Q := z8 (z1 (Wn k) w1 e1 h1) hall
theorem zy2 (k : WO Try.prog B n all l (updD d2 x2 (updD d1 x1 T)) H2 K) (w1 : wantedA all T o1 = some true := by exact rfl) (e1 : nfD n o1.dst = some d1 := by exact rfl) (h1 : evN tys T H o1.type o1.op = some (x1, H1, True) := by exact rfl) (w2 : wantedA all (updD d1 x1 T) o2 = some true := by exact rfl) (e2 : nfD n o2.dst = some d2 := by exact rfl) (h2 : evN tys (updD d1 x1 T) H1 o2.type o2.op = some (x2, H2, True) := by exact rfl) : WO Try.prog B n all (o1 :: o2 :: l) T H K := (z1 (z1 k w2 e2 h2) w1 e1 h1)
theorem zs2 (k : K (updD d2 x2 (updD d1 x1 T)) H2) (w1 : wantedA all T o1 = some true := by exact rfl) (e1 : nfD n o1.dst = some d1 := by exact rfl) (h1 : evN tys T H o1.type o1.op = some (x1, H1, True) := by exact rfl) (w2 : wantedA all (updD d1 x1 T) o2 = some true := by exact rfl) (e2 : nfD n o2.dst = some d2 := by exact rfl) (h2 : evN tys (updD d1 x1 T) H1 o2.type o2.op = some (x2, H2, True) := by exact rfl) : WO Try.prog B n all (o1 :: o2 :: []) T H K := (z1 (z1 (Wn k) w2 e2 h2) w1 e1 h1)
theorem zp2 (k : WO Try.prog B n (o1 :: o2 :: l).toArray l (updD d2 x2 (updD d1 x1 T)) H2 (fun T' H' => thenQ (fun T2 H2 => W Try.prog B n y T2 H2 Q) Q .normal T' H')) (hall : dstsOk n (o1 :: o2 :: l).toArray = true := by exact rfl) (w1 : wantedA (o1 :: o2 :: l).toArray T o1 = some true := by exact rfl) (e1 : nfD n o1.dst = some d1 := by exact rfl) (h1 : evN tys T H o1.type o1.op = some (x1, H1, True) := by exact rfl) (w2 : wantedA (o1 :: o2 :: l).toArray (updD d1 x1 T) o2 = some true := by exact rfl) (e2 : nfD n o2.dst = some d2 := by exact rfl) (h2 : evN tys (updD d1 x1 T) H1 o2.type o2.op = some (x2, H2, True) := by exact rfl) : W Try.prog B n ((Code.region id (o1 :: o2 :: l).toArray false).seq y) T H Q := z8 (z1 (z1 k w2 e2 h2) w1 e1 h1) hall
theorem zu2 (k : W Try.prog B n y (updD d2 x2 (updD d1 x1 T)) H2 Q) (hall : dstsOk n (o1 :: o2 :: []).toArray = true := by exact rfl) (w1 : wantedA (o1 :: o2 :: []).toArray T o1 = some true := by exact rfl) (e1 : nfD n o1.dst = some d1 := by exact rfl) (h1 : evN tys T H o1.type o1.op = some (x1, H1, True) := by exact rfl) (w2 : wantedA (o1 :: o2 :: []).toArray (updD d1 x1 T) o2 = some true := by exact rfl) (e2 : nfD n o2.dst = some d2 := by exact rfl) (h2 : evN tys (updD d1 x1 T) H1 o2.type o2.op = some (x2, H2, True) := by exact rfl) : W Try.prog B n ((Code.region id (o1 :: o2 :: []).toArray false).seq y) T H Q := z8 (z1 (z1 (Wn k) w2 e2 h2) w1 e1 h1) hall
theorem zy3 (k : WO Try.prog B n all l (updD d3 x3 (updD d2 x2 (updD d1 x1 T))) H3 K) (w1 : wantedA all T o1 = some true := by exact rfl) (e1 : nfD n o1.dst = some d1 := by exact rfl) (h1 : evN tys T H o1.type o1.op = some (x1, H1, True) := by exact rfl) (w2 : wantedA all (updD d1 x1 T) o2 = some true := by exact rfl) (e2 : nfD n o2.dst = some d2 := by exact rfl) (h2 : evN tys (updD d1 x1 T) H1 o2.type o2.op = some (x2, H2, True) := by exact rfl) (w3 : wantedA all (updD d2 x2 (updD d1 x1 T)) o3 = some true := by exact rfl) (e3 : nfD n o3.dst = some d3 := by exact rfl) (h3 : evN tys (updD d2 x2 (updD d1 x1 T)) H2 o3.type o3.op = some (x3, H3, True) := by exact rfl) : WO Try.prog B n all (o1 :: o2 :: o3 :: l) T H K := (z1 (z1 (z1 k w3 e3 h3) w2 e2 h2) w1 e1 h1)
theorem zs3 (k : K (updD d3 x3 (updD d2 x2 (updD d1 x1 T))) H3) (w1 : wantedA all T o1 = some true := by exact rfl) (e1 : nfD n o1.dst = some d1 := by exact rfl) (h1 : evN tys T H o1.type o1.op = some (x1, H1, True) := by exact rfl) (w2 : wantedA all (updD d1 x1 T) o2 = some true := by exact rfl) (e2 : nfD n o2.dst = some d2 := by exact rfl) (h2 : evN tys (updD d1 x1 T) H1 o2.type o2.op = some (x2, H2, True) := by exact rfl) (w3 : wantedA all (updD d2 x2 (updD d1 x1 T)) o3 = some true := by exact rfl) (e3 : nfD n o3.dst = some d3 := by exact rfl) (h3 : evN tys (updD d2 x2 (updD d1 x1 T)) H2 o3.type o3.op = some (x3, H3, True) := by exact rfl) : WO Try.prog B n all (o1 :: o2 :: o3 :: []) T H K := (z1 (z1 (z1 (Wn k) w3 e3 h3) w2 e2 h2) w1 e1 h1)
theorem zp3 (k : WO Try.prog B n (o1 :: o2 :: o3 :: l).toArray l (updD d3 x3 (updD d2 x2 (updD d1 x1 T))) H3 (fun T' H' => thenQ (fun T2 H2 => W Try.prog B n y T2 H2 Q) Q .normal T' H')) (hall : dstsOk n (o1 :: o2 :: o3 :: l).toArray = true := by exact rfl) (w1 : wantedA (o1 :: o2 :: o3 :: l).toArray T o1 = some true := by exact rfl) (e1 : nfD n o1.dst = some d1 := by exact rfl) (h1 : evN tys T H o1.type o1.op = some (x1, H1, True) := by exact rfl) (w2 : wantedA (o1 :: o2 :: o3 :: l).toArray (updD d1 x1 T) o2 = some true := by exact rfl) (e2 : nfD n o2.dst = some d2 := by exact rfl) (h2 : evN tys (updD d1 x1 T) H1 o2.type o2.op = some (x2, H2, True) := by exact rfl) (w3 : wantedA (o1 :: o2 :: o3 :: l).toArray (updD d2 x2 (updD d1 x1 T)) o3 = some true := by exact rfl) (e3 : nfD n o3.dst = some d3 := by exact rfl) (h3 : evN tys (updD d2 x2 (updD d1 x1 T)) H2 o3.type o3.op = some (x3, H3, True) := by exact rfl) : W Try.prog B n ((Code.region id (o1 :: o2 :: o3 :: l).toArray false).seq y) T H Q := z8 (z1 (z1 (z1 k w3 e3 h3) w2 e2 h2) w1 e1 h1) hall
theorem zu3 (k : W Try.prog B n y (updD d3 x3 (updD d2 x2 (updD d1 x1 T))) H3 Q) (hall : dstsOk n (o1 :: o2 :: o3 :: []).toArray = true := by exact rfl) (w1 : wantedA (o1 :: o2 :: o3 :: []).toArray T o1 = some true := by exact rfl) (e1 : nfD n o1.dst = some d1 := by exact rfl) (h1 : evN tys T H o1.type o1.op = some (x1, H1, True) := by exact rfl) (w2 : wantedA (o1 :: o2 :: o3 :: []).toArray (updD d1 x1 T) o2 = some true := by exact rfl) (e2 : nfD n o2.dst = some d2 := by exact rfl) (h2 : evN tys (updD d1 x1 T) H1 o2.type o2.op = some (x2, H2, True) := by exact rfl) (w3 : wantedA (o1 :: o2 :: o3 :: []).toArray (updD d2 x2 (updD d1 x1 T)) o3 = some true := by exact rfl) (e3 : nfD n o3.dst = some d3 := by exact rfl) (h3 : evN tys (updD d2 x2 (updD d1 x1 T)) H2 o3.type o3.op = some (x3, H3, True) := by exact rfl) : W Try.prog B n ((Code.region id (o1 :: o2 :: o3 :: []).toArray false).seq y) T H Q := z8 (z1 (z1 (z1 (Wn k) w3 e3 h3) w2 e2 h2) w1 e1 h1) hall
theorem zy4 (k : WO Try.prog B n all l (updD d4 x4 (updD d3 x3 (updD d2 x2 (updD d1 x1 T)))) H4 K) (w1 : wantedA all T o1 = some true := by exact rfl) (e1 : nfD n o1.dst = some d1 := by exact rfl) (h1 : evN tys T H o1.type o1.op = some (x1, H1, True) := by exact rfl) (w2 : wantedA all (updD d1 x1 T) o2 = some true := by exact rfl) (e2 : nfD n o2.dst = some d2 := by exact rfl) (h2 : evN tys (updD d1 x1 T) H1 o2.type o2.op = some (x2, H2, True) := by exact rfl) (w3 : wantedA all (updD d2 x2 (updD d1 x1 T)) o3 = some true := by exact rfl) (e3 : nfD n o3.dst = some d3 := by exact rfl) (h3 : evN tys (updD d2 x2 (updD d1 x1 T)) H2 o3.type o3.op = some (x3, H3, True) := by exact rfl) (w4 : wantedA all (updD d3 x3 (updD d2 x2 (updD d1 x1 T))) o4 = some true := by exact rfl) (e4 : nfD n o4.dst = some d4 := by exact rfl) (h4 : evN tys (updD d3 x3 (updD d2 x2 (updD d1 x1 T))) H3 o4.type o4.op = some (x4, H4, True) := by exact rfl) : WO Try.prog B n all (o1 :: o2 :: o3 :: o4 :: l) T H K := (z1 (z1 (z1 (z1 k w4 e4 h4) w3 e3 h3) w2 e2 h2) w1 e1 h1)
theorem zs4 (k : K (updD d4 x4 (updD d3 x3 (updD d2 x2 (updD d1 x1 T)))) H4) (w1 : wantedA all T o1 = some true := by exact rfl) (e1 : nfD n o1.dst = some d1 := by exact rfl) (h1 : evN tys T H o1.type o1.op = some (x1, H1, True) := by exact rfl) (w2 : wantedA all (updD d1 x1 T) o2 = some true := by exact rfl) (e2 : nfD n o2.dst = some d2 := by exact rfl) (h2 : evN tys (updD d1 x1 T) H1 o2.type o2.op = some (x2, H2, True) := by exact rfl) (w3 : wantedA all (updD d2 x2 (updD d1 x1 T)) o3 = some true := by exact rfl) (e3 : nfD n o3.dst = some d3 := by exact rfl) (h3 : evN tys (updD d2 x2 (updD d1 x1 T)) H2 o3.type o3.op = some (x3, H3, True) := by exact rfl) (w4 : wantedA all (updD d3 x3 (updD d2 x2 (updD d1 x1 T))) o4 = some true := by exact rfl) (e4 : nfD n o4.dst = some d4 := by exact rfl) (h4 : evN tys (updD d3 x3 (updD d2 x2 (updD d1 x1 T))) H3 o4.type o4.op = some (x4, H4, True) := by exact rfl) : WO Try.prog B n all (o1 :: o2 :: o3 :: o4 :: []) T H K := (z1 (z1 (z1 (z1 (Wn k) w4 e4 h4) w3 e3 h3) w2 e2 h2) w1 e1 h1)
theorem zp4 (k : WO Try.prog B n (o1 :: o2 :: o3 :: o4 :: l).toArray l (updD d4 x4 (updD d3 x3 (updD d2 x2 (updD d1 x1 T)))) H4 (fun T' H' => thenQ (fun T2 H2 => W Try.prog B n y T2 H2 Q) Q .normal T' H')) (hall : dstsOk n (o1 :: o2 :: o3 :: o4 :: l).toArray = true := by exact rfl) (w1 : wantedA (o1 :: o2 :: o3 :: o4 :: l).toArray T o1 = some true := by exact rfl) (e1 : nfD n o1.dst = some d1 := by exact rfl) (h1 : evN tys T H o1.type o1.op = some (x1, H1, True) := by exact rfl) (w2 : wantedA (o1 :: o2 :: o3 :: o4 :: l).toArray (updD d1 x1 T) o2 = some true := by exact rfl) (e2 : nfD n o2.dst = some d2 := by exact rfl) (h2 : evN tys (updD d1 x1 T) H1 o2.type o2.op = some (x2, H2, True) := by exact rfl) (w3 : wantedA (o1 :: o2 :: o3 :: o4 :: l).toArray (updD d2 x2 (updD d1 x1 T)) o3 = some true := by exact rfl) (e3 : nfD n o3.dst = some d3 := by exact rfl) (h3 : evN tys (updD d2 x2 (updD d1 x1 T)) H2 o3.type o3.op = some (x3, H3, True) := by exact rfl) (w4 : wantedA (o1 :: o2 :: o3 :: o4 :: l).toArray (updD d3 x3 (updD d2 x2 (updD d1 x1 T))) o4 = some true := by exact rfl) (e4 : nfD n o4.dst = some d4 := by exact rfl) (h4 : evN tys (updD d3 x3 (updD d2 x2 (updD d1 x1 T))) H3 o4.type o4.op = some (x4, H4, True) := by exact rfl) : W Try.prog B n ((Code.region id (o1 :: o2 :: o3 :: o4 :: l).toArray false).seq y) T H Q := z8 (z1 (z1 (z1 (z1 k w4 e4 h4) w3 e3 h3) w2 e2 h2) w1 e1 h1) hall
theorem zu4 (k : W Try.prog B n y (updD d4 x4 (updD d3 x3 (updD d2 x2 (updD d1 x1 T)))) H4 Q) (hall : dstsOk n (o1 :: o2 :: o3 :: o4 :: []).toArray = true := by exact rfl) (w1 : wantedA (o1 :: o2 :: o3 :: o4 :: []).toArray T o1 = some true := by exact rfl) (e1 : nfD n o1.dst = some d1 := by exact rfl) (h1 : evN tys T H o1.type o1.op = some (x1, H1, True) := by exact rfl) (w2 : wantedA (o1 :: o2 :: o3 :: o4 :: []).toArray (updD d1 x1 T) o2 = some true := by exact rfl) (e2 : nfD n o2.dst = some d2 := by exact rfl) (h2 : evN tys (updD d1 x1 T) H1 o2.type o2.op = some (x2, H2, True) := by exact rfl) (w3 : wantedA (o1 :: o2 :: o3 :: o4 :: []).toArray (updD d2 x2 (updD d1 x1 T)) o3 = some true := by exact rfl) (e3 : nfD n o3.dst = some d3 := by exact rfl) (h3 : evN tys (updD d2 x2 (updD d1 x1 T)) H2 o3.type o3.op = some (x3, H3, True) := by exact rfl) (w4 : wantedA (o1 :: o2 :: o3 :: o4 :: []).toArray (updD d3 x3 (updD d2 x2 (updD d1 x1 T))) o4 = some true := by exact rfl) (e4 : nfD n o4.dst = some d4 := by exact rfl) (h4 : evN tys (updD d3 x3 (updD d2 x2 (updD d1 x1 T))) H3 o4.type o4.op = some (x4, H4, True) := by exact rfl) : W Try.prog B n ((Code.region id (o1 :: o2 :: o3 :: o4 :: []).toArray false).seq y) T H Q := z8 (z1 (z1 (z1 (z1 (Wn k) w4 e4 h4) w3 e3 h3) w2 e2 h2) w1 e1 h1) hall
theorem zy5 (k : WO Try.prog B n all l (updD d5 x5 (updD d4 x4 (updD d3 x3 (updD d2 x2 (updD d1 x1 T))))) H5 K) (w1 : wantedA all T o1 = some true := by exact rfl) (e1 : nfD n o1.dst = some d1 := by exact rfl) (h1 : evN tys T H o1.type o1.op = some (x1, H1, True) := by exact rfl) (w2 : wantedA all (updD d1 x1 T) o2 = some true := by exact rfl) (e2 : nfD n o2.dst = some d2 := by exact rfl) (h2 : evN tys (updD d1 x1 T) H1 o2.type o2.op = some (x2, H2, True) := by exact rfl) (w3 : wantedA all (updD d2 x2 (updD d1 x1 T)) o3 = some true := by exact rfl) (e3 : nfD n o3.dst = some d3 := by exact rfl) (h3 : evN tys (updD d2 x2 (updD d1 x1 T)) H2 o3.type o3.op = some (x3, H3, True) := by exact rfl) (w4 : wantedA all (updD d3 x3 (updD d2 x2 (updD d1 x1 T))) o4 = some true := by exact rfl) (e4 : nfD n o4.dst = some d4 := by exact rfl) (h4 : evN tys (updD d3 x3 (updD d2 x2 (updD d1 x1 T))) H3 o4.type o4.op = some (x4, H4, True) := by exact rfl) (w5 : wantedA all (updD d4 x4 (updD d3 x3 (updD d2 x2 (updD d1 x1 T)))) o5 = some true := by exact rfl) (e5 : nfD n o5.dst = some d5 := by exact rfl) (h5 : evN tys (updD d4 x4 (updD d3 x3 (updD d2 x2 (updD d1 x1 T)))) H4 o5.type o5.op = some (x5, H5, True) := by exact rfl) : WO Try.prog B n all (o1 :: o2 :: o3 :: o4 :: o5 :: l) T H K := (z1 (z1 (z1 (z1 (z1 k w5 e5 h5) w4 e4 h4) w3 e3 h3) w2 e2 h2) w1 e1 h1)
theorem zs5 (k : K (updD d5 x5 (updD d4 x4 (updD d3 x3 (updD d2 x2 (updD d1 x1 T))))) H5) (w1 : wantedA all T o1 = some true := by exact rfl) (e1 : nfD n o1.dst = some d1 := by exact rfl) (h1 : evN tys T H o1.type o1.op = some (x1, H1, True) := by exact rfl) (w2 : wantedA all (updD d1 x1 T) o2 = some true := by exact rfl) (e2 : nfD n o2.dst = some d2 := by exact rfl) (h2 : evN tys (updD d1 x1 T) H1 o2.type o2.op = some (x2, H2, True) := by exact rfl) (w3 : wantedA all (updD d2 x2 (updD d1 x1 T)) o3 = some true := by exact rfl) (e3 : nfD n o3.dst = some d3 := by exact rfl) (h3 : evN tys (updD d2 x2 (updD d1 x1 T)) H2 o3.type o3.op = some (x3, H3, True) := by exact rfl) (w4 : wantedA all (updD d3 x3 (updD d2 x2 (updD d1 x1 T))) o4 = some true := by exact rfl) (e4 : nfD n o4.dst = some d4 := by exact rfl) (h4 : evN tys (updD d3 x3 (updD d2 x2 (updD d1 x1 T))) H3 o4.type o4.op = some (x4, H4, True) := by exact rfl) (w5 : wantedA all (updD d4 x4 (updD d3 x3 (updD d2 x2 (updD d1 x1 T)))) o5 = some true := by exact rfl) (e5 : nfD n o5.dst = some d5 := by exact rfl) (h5 : evN tys (updD d4 x4 (updD d3 x3 (updD d2 x2 (updD d1 x1 T)))) H4 o5.type o5.op = some (x5, H5, True) := by exact rfl) : WO Try.prog B n all (o1 :: o2 :: o3 :: o4 :: o5 :: []) T H K := (z1 (z1 (z1 (z1 (z1 (Wn k) w5 e5 h5) w4 e4 h4) w3 e3 h3) w2 e2 h2) w1 e1 h1)
theorem zp5 (k : WO Try.prog B n (o1 :: o2 :: o3 :: o4 :: o5 :: l).toArray l (updD d5 x5 (updD d4 x4 (updD d3 x3 (updD d2 x2 (updD d1 x1 T))))) H5 (fun T' H' => thenQ (fun T2 H2 => W Try.prog B n y T2 H2 Q) Q .normal T' H')) (hall : dstsOk n (o1 :: o2 :: o3 :: o4 :: o5 :: l).toArray = true := by exact rfl) (w1 : wantedA (o1 :: o2 :: o3 :: o4 :: o5 :: l).toArray T o1 = some true := by exact rfl) (e1 : nfD n o1.dst = some d1 := by exact rfl) (h1 : evN tys T H o1.type o1.op = some (x1, H1, True) := by exact rfl) (w2 : wantedA (o1 :: o2 :: o3 :: o4 :: o5 :: l).toArray (updD d1 x1 T) o2 = some true := by exact rfl) (e2 : nfD n o2.dst = some d2 := by exact rfl) (h2 : evN tys (updD d1 x1 T) H1 o2.type o2.op = some (x2, H2, True) := by exact rfl) (w3 : wantedA (o1 :: o2 :: o3 :: o4 :: o5 :: l).toArray (updD d2 x2 (updD d1 x1 T)) o3 = some true := by exact rfl) (e3 : nfD n o3.dst = some d3 := by exact rfl) (h3 : evN tys (updD d2 x2 (updD d1 x1 T)) H2 o3.type o3.op = some (x3, H3, True) := by exact rfl) (w4 : wantedA (o1 :: o2 :: o3 :: o4 :: o5 :: l).toArray (updD d3 x3 (updD d2 x2 (updD d1 x1 T))) o4 = some true := by exact rfl) (e4 : nfD n o4.dst = some d4 := by exact rfl) (h4 : evN tys (updD d3 x3 (updD d2 x2 (updD d1 x1 T))) H3 o4.type o4.op = some (x4, H4, True) := by exact rfl) (w5 : wantedA (o1 :: o2 :: o3 :: o4 :: o5 :: l).toArray (updD d4 x4 (updD d3 x3 (updD d2 x2 (updD d1 x1 T)))) o5 = some true := by exact rfl) (e5 : nfD n o5.dst = some d5 := by exact rfl) (h5 : evN tys (updD d4 x4 (updD d3 x3 (updD d2 x2 (updD d1 x1 T)))) H4 o5.type o5.op = some (x5, H5, True) := by exact rfl) : W Try.prog B n ((Code.region id (o1 :: o2 :: o3 :: o4 :: o5 :: l).toArray false).seq y) T H Q := z8 (z1 (z1 (z1 (z1 (z1 k w5 e5 h5) w4 e4 h4) w3 e3 h3) w2 e2 h2) w1 e1 h1) hall
theorem zu5 (k : W Try.prog B n y (updD d5 x5 (updD d4 x4 (updD d3 x3 (updD d2 x2 (updD d1 x1 T))))) H5 Q) (hall : dstsOk n (o1 :: o2 :: o3 :: o4 :: o5 :: []).toArray = true := by exact rfl) (w1 : wantedA (o1 :: o2 :: o3 :: o4 :: o5 :: []).toArray T o1 = some true := by exact rfl) (e1 : nfD n o1.dst = some d1 := by exact rfl) (h1 : evN tys T H o1.type o1.op = some (x1, H1, True) := by exact rfl) (w2 : wantedA (o1 :: o2 :: o3 :: o4 :: o5 :: []).toArray (updD d1 x1 T) o2 = some true := by exact rfl) (e2 : nfD n o2.dst = some d2 := by exact rfl) (h2 : evN tys (updD d1 x1 T) H1 o2.type o2.op = some (x2, H2, True) := by exact rfl) (w3 : wantedA (o1 :: o2 :: o3 :: o4 :: o5 :: []).toArray (updD d2 x2 (updD d1 x1 T)) o3 = some true := by exact rfl) (e3 : nfD n o3.dst = some d3 := by exact rfl) (h3 : evN tys (updD d2 x2 (updD d1 x1 T)) H2 o3.type o3.op = some (x3, H3, True) := by exact rfl) (w4 : wantedA (o1 :: o2 :: o3 :: o4 :: o5 :: []).toArray (updD d3 x3 (updD d2 x2 (updD d1 x1 T))) o4 = some true := by exact rfl) (e4 : nfD n o4.dst = some d4 := by exact rfl) (h4 : evN tys (updD d3 x3 (updD d2 x2 (updD d1 x1 T))) H3 o4.type o4.op = some (x4, H4, True) := by exact rfl) (w5 : wantedA (o1 :: o2 :: o3 :: o4 :: o5 :: []).toArray (updD d4 x4 (updD d3 x3 (updD d2 x2 (updD d1 x1 T)))) o5 = some true := by exact rfl) (e5 : nfD n o5.dst = some d5 := by exact rfl) (h5 : evN tys (updD d4 x4 (updD d3 x3 (updD d2 x2 (updD d1 x1 T)))) H4 o5.type o5.op = some (x5, H5, True) := by exact rfl) : W Try.prog B n ((Code.region id (o1 :: o2 :: o3 :: o4 :: o5 :: []).toArray false).seq y) T H Q := z8 (z1 (z1 (z1 (z1 (z1 (Wn k) w5 e5 h5) w4 e4 h4) w3 e3 h3) w2 e2 h2) w1 e1 h1) hall
end
end Go.Proofs.Ytlponhgbbfgkgaa
namespace Go.Proofs.Ytlponhgbbfgkgaa
open Go.RowKit
structure VConf where
 mem : Int
 data : Int
 ret : Int
 words : Int
 out : Int
 deriving DecidableEq, Inhabited
def cConf (x : VConf) : List PV := [i64 x.mem, i64 x.data, i64 x.ret, i64 x.words, i64 x.out]
@[simp] theorem flat_cConf (x : VConf) : FlatL (cConf x) := by simp [cConf]
def eConf (x : VConf) : PV := .agg (cConf x)
@[simp] theorem flat_eConf (x : VConf) : Flat (eConf x) := by unfold eConf Flat; exact flat_cConf x
@[simp] theorem flat_sConf (l : List VConf) : Flat (sq cConf l) := flat_sq flat_cConf l
structure VPatch where
 place : Int
 old : List UInt8
 deriving DecidableEq, Inhabited
def cPatch (x : VPatch) : List PV := [i64 x.place, sq cByte x.old]
@[simp] theorem flat_cPatch (x : VPatch) : FlatL (cPatch x) := by simp [cPatch]
@[simp] theorem flat_sPatch (l : List VPatch) : Flat (sq cPatch l) := flat_sq flat_cPatch l
structure VMem where
 b : List UInt8
 old : List VPatch
 deriving DecidableEq, Inhabited
def cMem (x : VMem) : List PV := [sq cByte x.b, sq cPatch x.old]
@[simp] theorem flat_cMem (x : VMem) : FlatL (cMem x) := by simp [cMem]
def eMem (x : VMem) : PV := .agg (cMem x)
@[simp] theorem flat_eMem (x : VMem) : Flat (eMem x) := by unfold eMem Flat; exact flat_cMem x
@[simp] theorem flat_sMem (l : List VMem) : Flat (sq cMem l) := flat_sq flat_cMem l
structure VPic where
 b : List UInt8
 on : Bool
 deriving DecidableEq, Inhabited
def cPic (x : VPic) : List PV := [sq cByte x.b, boo x.on]
@[simp] theorem flat_cPic (x : VPic) : FlatL (cPic x) := by simp [cPic]
def ePic (x : VPic) : PV := .agg (cPic x)
@[simp] theorem flat_ePic (x : VPic) : Flat (ePic x) := by unfold ePic Flat; exact flat_cPic x
@[simp] theorem flat_sPic (l : List VPic) : Flat (sq cPic l) := flat_sq flat_cPic l
structure VWord where
 name : Str
 xt : Int
 flags : Int
 deriving DecidableEq, Inhabited
def cWord (x : VWord) : List PV := [str x.name, i64 x.xt, i64 x.flags]
@[simp] theorem flat_cWord (x : VWord) : FlatL (cWord x) := by simp [cWord]
def eWord (x : VWord) : PV := .agg (cWord x)
@[simp] theorem flat_eWord (x : VWord) : Flat (eWord x) := by unfold eWord Flat; exact flat_cWord x
@[simp] theorem flat_sWord (l : List VWord) : Flat (sq cWord l) := flat_sq flat_cWord l
structure VFrame where
 d : Int
 r : Int
 ip : Int
 deriving DecidableEq, Inhabited
def cFrame (x : VFrame) : List PV := [i64 x.d, i64 x.r, i64 x.ip]
@[simp] theorem flat_cFrame (x : VFrame) : FlatL (cFrame x) := by simp [cFrame]
@[simp] theorem flat_sFrame (l : List VFrame) : Flat (sq cFrame l) := flat_sq flat_cFrame l
structure VReq where
 kind : Int
 arg : Int
 hand : Int
 rank : Int
 delay : Int
 id : Int
 deriving DecidableEq, Inhabited
def cReq (x : VReq) : List PV := [i64 x.kind, i64 x.arg, i64 x.hand, i64 x.rank, i64 x.delay, i64 x.id]
@[simp] theorem flat_cReq (x : VReq) : FlatL (cReq x) := by simp [cReq]
@[simp] theorem flat_sReq (l : List VReq) : Flat (sq cReq l) := flat_sq flat_cReq l
structure VHand where
 xt : Int
 fuel : Int
 strikes : Int
 out : Bool
 deriving DecidableEq, Inhabited
def cHand (x : VHand) : List PV := [i64 x.xt, i64 x.fuel, i64 x.strikes, boo x.out]
@[simp] theorem flat_cHand (x : VHand) : FlatL (cHand x) := by simp [cHand]
@[simp] theorem flat_sHand (l : List VHand) : Flat (sq cHand l) := flat_sq flat_cHand l
structure VVm where
 conf : VConf
 mem : VMem
 here : Int
 d : List Int
 r : List Int
 f : List VFrame
 dict : List VWord
 last : Int
 out : List UInt8
 pic : VPic
 req : List VReq
 free : Int
 next : Int
 arg : Int
 self : Int
 now : Int
 hand : List VHand
 deriving DecidableEq, Inhabited
def cVm (x : VVm) : List PV := [i64 x.conf.mem, i64 x.conf.data, i64 x.conf.ret, i64 x.conf.words, i64 x.conf.out, sq cByte x.mem.b, sq cPatch x.mem.old, i64 x.here, sq cInt x.d, sq cInt x.r, sq cFrame x.f, sq cWord x.dict, i64 x.last, sq cByte x.out, sq cByte x.pic.b, boo x.pic.on, sq cReq x.req, i64 x.free, i64 x.next, i64 x.arg, i64 x.self, i64 x.now, sq cHand x.hand]
@[simp] theorem flat_cVm (x : VVm) : FlatL (cVm x) := by simp [cVm]
def eVm (x : VVm) : PV := .agg (cVm x)
@[simp] theorem flat_eVm (x : VVm) : Flat (eVm x) := by unfold eVm Flat; exact flat_cVm x
@[simp] theorem flat_sVm (l : List VVm) : Flat (sq cVm l) := flat_sq flat_cVm l
def tup2 (x y : PV) : PV := .tup [x, y]
def tup3 (x y z : PV) : PV := .tup [x, y, z]
def tup4 (x y z u : PV) : PV := .tup [x, y, z, u]
@[simp] theorem flat_tup2 {x y : PV} : Flat (tup2 x y) ↔ Flat x ∧ Flat y := by simp [tup2]
@[simp] theorem flat_tup3 {x y z : PV} : Flat (tup3 x y z) ↔ Flat x ∧ Flat y ∧ Flat z := by simp [tup3]
@[simp] theorem flat_tup4 {x y z u : PV} : Flat (tup4 x y z u) ↔ Flat x ∧ Flat y ∧ Flat z ∧ Flat u := by simp [tup4]
end Go.Proofs.Ytlponhgbbfgkgaa
namespace Go.Proofs.Ytlponhgbbfgkgaa
def names : List Str := [[40, 101, 120, 105, 116, 41], [40, 108, 105, 116, 41], [40, 98, 114, 97, 110, 99, 104, 41], [40, 48, 98, 114, 97, 110, 99, 104, 41], [40, 100, 111, 41], [40, 63, 100, 111, 41], [40, 108, 111, 111, 112, 41], [40, 43, 108, 111, 111, 112, 41], [40, 104, 97, 108, 116, 41], [40, 99, 97, 117, 103, 104, 116, 41], [40, 100, 111, 101, 115, 41], [40, 115, 116, 114, 41], [69, 88, 69, 67, 85, 84, 69], [67, 65, 84, 67, 72], [84, 72, 82, 79, 87], [73], [74], [85, 78, 76, 79, 79, 80], [62, 82], [82, 62], [82, 64], [50, 62, 82], [50, 82, 62], [68, 85, 80], [68, 82, 79, 80], [83, 87, 65, 80], [79, 86, 69, 82], [82, 79, 84], [45, 82, 79, 84], [78, 73, 80], [84, 85, 67, 75], [63, 68, 85, 80], [50, 68, 85, 80], [50, 68, 82, 79, 80], [50, 83, 87, 65, 80], [50, 79, 86, 69, 82], [80, 73, 67, 75], [82, 79, 76, 76], [68, 69, 80, 84, 72], [43], [45], [42], [47], [77, 79, 68], [65, 78, 68], [79, 82], [88, 79, 82], [76, 83, 72, 73, 70, 84], [82, 83, 72, 73, 70, 84], [77, 73, 78], [77, 65, 88], [61], [60, 62], [60], [62], [60, 61], [62, 61], [85, 60], [85, 62], [78, 69, 71, 65, 84, 69], [65, 66, 83], [73, 78, 86, 69, 82, 84], [49, 43], [49, 45], [50, 42], [50, 47], [48, 61], [48, 60], [48, 60, 62], [48, 62], [67, 69, 76, 76, 83], [67, 69, 76, 76, 43], [65, 76, 73, 71, 78, 69, 68], [47, 77, 79, 68], [42, 47], [42, 47, 77, 79, 68], [85, 77, 42], [85, 77, 47, 77, 79, 68], [77, 42], [83, 77, 47, 82, 69, 77], [70, 77, 47, 77, 79, 68], [83, 62, 68], [87, 73, 84, 72, 73, 78], [64], [33], [43, 33], [67, 64], [67, 33], [50, 64], [50, 33], [70, 73, 76, 76], [77, 79, 86, 69], [67, 79, 85, 78, 84], [72, 69, 82, 69], [65, 76, 76, 79, 84], [44], [67, 44], [65, 76, 73, 71, 78], [66, 65, 83, 69], [83, 84, 65, 84, 69], [84, 82, 85, 69], [70, 65, 76, 83, 69], [66, 76], [68, 69, 67, 73, 77, 65, 76], [72, 69, 88], [69, 77, 73, 84], [67, 82], [83, 80, 65, 67, 69], [83, 80, 65, 67, 69, 83], [84, 89, 80, 69], [46], [85, 46], [60, 35], [35], [35, 83], [72, 79, 76, 68], [83, 73, 71, 78], [35, 62], [62, 66, 79, 68, 89], [65, 66, 79, 82, 84], [80, 79, 83, 84], [65, 70, 84, 69, 82], [69, 86, 69, 82, 89], [67, 65, 78, 67, 69, 76], [65, 82, 71], [83, 69, 76, 70], [78, 79, 87], [83, 69, 84, 45, 83, 84, 65, 84, 69], [65, 84, 45, 83, 84, 65, 84, 69], [71, 69, 84, 45, 83, 84, 65, 84, 69]]
def specials : List Str := [[58], [59], [67, 82, 69, 65, 84, 69], [68, 79, 69, 83, 62], [86, 65, 82, 73, 65, 66, 76, 69], [67, 79, 78, 83, 84, 65, 78, 84], [73, 77, 77, 69, 68, 73, 65, 84, 69], [39], [91, 39, 93], [67, 72, 65, 82], [91, 67, 72, 65, 82, 93], [76, 73, 84, 69, 82, 65, 76], [80, 79, 83, 84, 80, 79, 78, 69], [82, 69, 67, 85, 82, 83, 69], [73, 70], [69, 76, 83, 69], [84, 72, 69, 78], [66, 69, 71, 73, 78], [87, 72, 73, 76, 69], [82, 69, 80, 69, 65, 84], [85, 78, 84, 73, 76], [65, 71, 65, 73, 78], [68, 79], [63, 68, 79], [76, 79, 79, 80], [43, 76, 79, 79, 80], [76, 69, 65, 86, 69], [83, 34], [46, 34], [40], [92], [91], [93], [70, 79, 82, 71, 69, 84], [77, 65, 67, 72, 73, 78, 69], [79, 78, 58], [69, 88, 73, 84]]
theorem names_len : names.length = 130 := by decide +kernel
theorem specials_len : specials.length = 37 := by decide +kernel
end Go.Proofs.Ytlponhgbbfgkgaa
