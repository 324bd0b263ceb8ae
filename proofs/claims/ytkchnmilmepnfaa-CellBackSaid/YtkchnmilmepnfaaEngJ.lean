/- The engine, part J: statements whose order is open, over values without addresses. No condition. -/
import Derived.Test.YtkchnmilmepnfaaEngI
import Derived.Still
namespace Go.Proofs.Ytkchnmilmepnfaa
open Go.RowKit
set_option linter.unusedVariables false

section
variable {P : Program} {B : Nat → Nat → Prop} {n : Nat} {H : List Ob} {md : Region.Mode} {ops : Array Oper}
theorem upd_comm (i j : Nat) (x y : PV) (T : Nat → PV) (h : i ≠ j) : upd i x (upd j y T) = upd j y (upd i x T) := by
  funext k
  by_cases h1 : k = i
  · subst h1; rw [upd_same, upd_other _ _ _ _ h, upd_same]
  · rw [upd_other _ _ _ _ h1]
    by_cases h2 : k = j
    · subst h2; rw [upd_same, upd_same]
    · rw [upd_other _ _ _ _ h2, upd_other _ _ _ _ h2, upd_other _ _ _ _ h1]
theorem updD_comm {a b : Option Tmp} (x y : PV) (T : Nat → PV) (h : ∀ d, a = some d → b ≠ some d) : updD a x (updD b y T) = updD b y (updD a x T) := by
  cases a with
  | none => rfl
  | some i =>
    cases b with
    | none => rfl
    | some j => exact upd_comm i j x y T (fun e => h i rfl (by rw [e]))
theorem updD_look {d : Option Tmp} {x : PV} {T : Nat → PV} {t : Nat} (h : ∀ i, d = some i → t ≠ i) : updD d x T t = T t := by
  cases d with
  | none => rfl
  | some i => exact upd_other _ _ _ _ (h i rfl)

/-- An operation of a region that leaves the named blocks alone. -/
def Yld (P : Program) (B : Nat → Nat → Prop) (ops : Array Oper) (H : List Ob) (o : Oper) (T : Nat → PV) (x : PV) : Prop :=
  (wantedA ops T o = some true ∧ (Does P B o T H x H ∨ DoesC P B o T H x H)) ∨ (wantedA ops T o = some false ∧ x = .val undef)
theorem opv_congr {T T' : Nat → PV} {y : Operand} (h : ∀ t, y = .tmp t → T' t = T t) : opv T' y = opv T y := by
  cases y with
  | tmp t => exact h t rfl
  | const v => rfl
  | global g => rfl
  | func f => rfl
theorem looks_op {o : Oper} {t : Nat} (h : Operand.tmp t ∈ o.op.operands.toList) : t ∈ o.looksAt ops := by
  unfold Oper.looksAt
  rw [List.mem_append]
  exact .inl (List.mem_filterMap.2 ⟨_, h, rfl⟩)
theorem looks_guard {o : Oper} {g d : Nat} {b : Bool} (h : o.guard = some (g, b)) (hd : (ops[g]?).bind (·.dst) = some d) : d ∈ o.looksAt ops := by
  unfold Oper.looksAt
  rw [List.mem_append]
  refine .inr ?_
  rw [h]
  simp [hd]
theorem Yld.congr {o : Oper} {T T' : Nat → PV} {x : PV} (h : ∀ t ∈ o.looksAt ops, T' t = T t) (y : Yld P B ops H o T x) : Yld P B ops H o T' x := by
  have hw : wantedA ops T' o = wantedA ops T o := by
    unfold wantedA
    cases hg : o.guard with
    | none => rfl
    | some q =>
      obtain ⟨g, b⟩ := q
      simp only
      cases hd : (ops[g]?).bind (·.dst) with
      | none => rfl
      | some d => simp only; rw [h d (looks_guard hg hd)]
  have ho : ∀ z ∈ o.op.operands.toList, opv T' z = opv T z := fun z hz => opv_congr fun t ht => h t (looks_op (by rw [← ht]; exact hz))
  rcases y with ⟨h1, h2 | h2⟩ | ⟨h1, h2⟩
  · exact .inl ⟨by rw [hw]; exact h1, .inl fun σ w a s k => h2 σ w a s (fun z hz => by rw [← ho z hz]; exact k z hz)⟩
  · exact .inl ⟨by rw [hw]; exact h1, .inr fun σ w a s k => h2 σ w a s (fun z hz => by rw [← ho z hz]; exact k z hz)⟩
  · exact .inr ⟨by rw [hw]; exact h1, h2⟩

def qA (P : Program) (B : Nat → Nat → Prop) (ops : Array Oper) (H : List Ob) (i : Nat) (K : (Nat → PV) → Prop) (T : Nat → PV) : Prop :=
  match ops[i]? with
  | none => K T
  | some o => ∃ x, Yld P B ops H o T x ∧ K (updD o.dst x T)
theorem qA_mono {i : Nat} {T : Nat → PV} {K K' : (Nat → PV) → Prop} (h : ∀ T, K T → K' T) (k : qA P B ops H i K T) : qA P B ops H i K' T := by
  unfold qA at *
  split
  · rename_i ho; simp only [ho] at k; exact h _ k
  · rename_i o ho; simp only [ho] at k; obtain ⟨x, h1, h2⟩ := k; exact ⟨x, h1, h _ h2⟩
/-- Whatever order is picked. -/
def anyA (P : Program) (B : Nat → Nat → Prop) (md : Region.Mode) (ops : Array Oper) (H : List Ob) (Q : (Nat → PV) → Prop) : Nat → Array Bool → (Nat → PV) → Prop
  | 0, listed, T => Region.ready md ops listed = [] ∧ Q T
  | fuel + 1, listed, T => (Region.ready md ops listed = [] → Q T) ∧ ∀ i ∈ Region.ready md ops listed, qA P B ops H i (anyA P B md ops H Q fuel (listed.setIfInBounds i true)) T
theorem anyA_sound (hall : dstsOk n ops = true) {Q' : Exit → Act → World → Prop} {Q : (Nat → PV) → Prop} {σ0 : Nat → Option Nat} {w0 : World} (hQ : ∀ T σ w a, Good B n T H σ w a → Step B H σ0 w0 H σ w → Q T → Q' .normal a w) :
    ∀ (fuel : Nat) (listed : Array Bool) (T : Nat → PV) (σ : Nat → Option Nat) (w : World) (a : Act), Good B n T H σ w a → Step B H σ0 w0 H σ w → anyA P B md ops H Q fuel listed T → wpAny P md ops Q' fuel listed a w
  | 0, _, _, _, _, _, g, st, h => ⟨h.1, hQ _ _ _ _ g st h.2⟩
  | fuel + 1, listed, T, σ, w, a, g, st, h => by
    refine ⟨fun h0 => hQ _ _ _ _ g st (h.1 h0), fun i hi => ?_⟩
    have h1 := h.2 i hi
    unfold qA at h1
    unfold wpOp
    cases ho : ops[i]? with
    | none => simp only [ho] at h1 ⊢; exact anyA_sound hall hQ fuel _ T σ w a g st h1
    | some o =>
      simp only [ho] at h1 ⊢
      obtain ⟨x, hy, hk⟩ := h1
      have hd : ∀ j, o.dst = some j → Nat.blt j n = true := fun j hj => dstsOk_spec hall i j (by rw [ho]; exact hj)
      have hgd : ∀ q, wantedA ops T o = some q → Region.wanted o (yielded ops a.tmps) = q := fun q hq => guard_ok (dstsOk_spec hall) g hq
      rcases hy with ⟨hw, hdo | hdo⟩ | ⟨hw, rfl⟩
      · rw [if_pos (hgd true hw)]
        refine .inl ?_
        obtain ⟨v, w', σ', h2, h3, h4, h5⟩ := hdo σ w a g.sim (fun y _ => rep_opv g.rep y)
        have k := anyA_sound hall hQ fuel _ _ σ' w' _ (good_put hd g h3 h4 h5) (st.trans h5) hk
        unfold Oper.wp
        rcases h2 with h2 | ⟨h2, rfl⟩
        · rw [h2]; exact k
        · rw [h2]; exact k
      · rw [if_pos (hgd true hw)]
        refine .inl ?_
        obtain ⟨f, args, h2, hc⟩ := hdo σ w a g.sim (fun y _ => rep_opv g.rep y)
        unfold Oper.wp
        rw [h2]
        refine Calls.mono hc ?_
        rintro e w' ⟨v, σ', rfl, h3, h4, h5⟩
        exact anyA_sound hall hQ fuel _ _ σ' w' _ (good_put hd g h3 h4 h5) (st.trans h5) hk
      · rw [if_neg (by rw [hgd false hw]; simp)]
        exact anyA_sound hall hQ fuel _ _ σ w _ (good_put hd g (rep_val _ _) g.sim (Step.refl _ _ _ _)) st hk
theorem apart_looks {x y : Oper} (h : x.apart ops y = true) : (∀ t ∈ y.looksAt ops, ∀ i, x.dst = some i → t ≠ i) ∧ (∀ t ∈ x.looksAt ops, ∀ i, y.dst = some i → t ≠ i) ∧ (∀ d, x.dst = some d → y.dst ≠ some d) := by
  obtain ⟨h1, h2, h3⟩ := Oper.apart_spec h
  exact ⟨fun t ht i hi e => h1 i hi (e ▸ ht), fun t ht i hi e => h3 i hi (e ▸ ht), h2⟩
theorem qA_put {j : Nat} {oi oj : Oper} {x : PV} (hj : ops[j]? = some oj) (hap : oi.apart ops oj = true) {K : (Nat → PV) → Prop} {T : Nat → PV} (hy : Yld P B ops H oi T x) (h : qA P B ops H j K (updD oi.dst x T)) :
    qA P B ops H j (fun T' => Yld P B ops H oi T' x ∧ K (updD oi.dst x T')) T := by
  obtain ⟨h1, h2, h3⟩ := apart_looks hap
  unfold qA at *
  simp only [hj] at *
  obtain ⟨u, hu, hK⟩ := h
  refine ⟨u, hu.congr (fun t ht => (updD_look (h1 t ht)).symm), hy.congr (fun t ht => updD_look (h2 t ht)), ?_⟩
  rw [updD_comm _ _ _ h3]; exact hK
theorem anyA_first {Q : (Nat → PV) → Prop} {i : Nat} {oi : Oper} {x : PV} (hi : ops[i]? = some oi) : ∀ (fuel : Nat) (listed : Array Bool) (T : Nat → PV),
    (∀ j oj, ops[j]? = some oj → j ≠ i → listed.getD j true = false → (∀ e ∈ oj.after, Region.binds md e = true → e.on ≠ i) → oi.apart ops oj = true) →
    i ∈ Region.ready md ops listed → Yld P B ops H oi T x → anyA P B md ops H Q fuel (listed.setIfInBounds i true) (updD oi.dst x T) → anyA P B md ops H Q (fuel + 1) listed T := by
  intro fuel
  have self : ∀ (fuel : Nat) (listed : Array Bool) (T : Nat → PV), Yld P B ops H oi T x → anyA P B md ops H Q fuel (listed.setIfInBounds i true) (updD oi.dst x T) → qA P B ops H i (anyA P B md ops H Q fuel (listed.setIfInBounds i true)) T := by
    intro fuel listed T hy h
    unfold qA
    simp only [hi]
    exact ⟨x, hy, h⟩
  induction fuel with
  | zero =>
    intro listed T _ hr hy h
    refine ⟨fun h0 => (by rw [h0] at hr; cases hr), fun j hj => ?_⟩
    by_cases hji : j = i
    · subst hji; exact self 0 listed T hy h
    · have := ready_mono hj hji
      rw [h.1] at this
      cases this
  | succ fuel ih =>
    intro listed T hfree hr hy h
    refine ⟨fun h0 => (by rw [h0] at hr; cases hr), fun j hj => ?_⟩
    by_cases hji : j = i
    · subst hji; exact self (fuel + 1) listed T hy h
    · have h1 := h.2 j (ready_mono hj hji)
      obtain ⟨hjun, oj, hoj, hall⟩ := mem_ready.1 hj
      have hnot : ∀ e ∈ oj.after, Region.binds md e = true → e.on ≠ i := fun e he hb heq => by
        have a1 := hall e he hb
        have a0 := (mem_ready.1 hr).1
        rw [heq] at a1
        rcases Nat.lt_or_ge i listed.size with h' | h'
        · simp [h'] at a0 a1; rw [a0] at a1; cases a1
        · simp [Array.getElem?_eq_none h'] at a1
      have h2 := qA_put hoj (hfree j oj hoj hji hjun hnot) hy h1
      have hfree' : ∀ k ok, ops[k]? = some ok → k ≠ i → (listed.setIfInBounds j true).getD k true = false → (∀ e ∈ ok.after, Region.binds md e = true → e.on ≠ i) → oi.apart ops ok = true := fun k ok hk hki hun hno => by
        refine hfree k ok hk hki ?_ hno
        by_cases hjk : j = k
        · subst hjk; exact hjun
        · rw [getD_set_ne true hjk] at hun; exact hun
      refine qA_mono (fun T' h3 => ih (listed.setIfInBounds j true) T' hfree' (ready_mono hr (Ne.symm hji)) h3.1 ?_) h2
      rw [Array.setIfInBounds_comm _ _ hji]
      exact h3.2

/-- The lexical order. -/
def WD (P : Program) (B : Nat → Nat → Prop) (n : Nat) (ops : Array Oper) (H : List Ob) : List Oper → (Nat → PV) → ((Nat → PV) → Prop) → Prop
  | [], T, K => K T
  | o :: l, T, K => ∃ x, Yld P B ops H o T x ∧ WD P B n ops H l (updD o.dst x T) K
theorem anyA_lex {Q : (Nat → PV) → Prop} : ∀ (l : List Oper) (k : Nat) (listed : Array Bool) (T : Nat → PV), (∀ j, l[j]? = ops[k + j]?) → Region.lexFrom md ops l.length k listed = true → WD P B n ops H l T Q → anyA P B md ops H Q l.length listed T
  | [], _, _, _, _, hB, h => ⟨by simpa [Region.lexFrom] using hB, h⟩
  | o :: l, k, listed, T, hl, hB, h => by
    have h0 : ops[k]? = some o := by simpa using (hl 0).symm
    simp only [List.length_cons, Region.lexFrom, Bool.and_eq_true] at hB
    obtain ⟨⟨hr, hf⟩, hB'⟩ := hB
    obtain ⟨x, hy, hK⟩ := h
    exact anyA_first h0 l.length listed T (Region.free_spec h0 hf) (by simpa using hr) hy
      (anyA_lex l (k + 1) _ _ (fun j => by have := hl (j + 1); simpa [Nat.add_assoc, Nat.add_comm 1 j] using this) hB' hK)
variable {T : Nat → PV} {Q : Exit → (Nat → PV) → List Ob → Prop}
theorem W_draw {id : Nat} {l : List Oper} (hm : P.follows .mixedOrders = true) (hall : dstsOk n l.toArray = true) (hB : Region.lexB .any l.toArray = true) (h : WD P B n l.toArray H l T (fun T' => Q .normal T' H)) : W P B n (.region id l.toArray true) T H Q := by
  intro σ w a g
  simp only [Region.lexB, Bool.and_eq_true] at hB
  refine wp_region_any hm ?_
  have hd : Grows w { w with drawn := w.drawn + 1 } := Grows.drew w
  obtain ⟨s', st⟩ := grow_sim g.sim hd
  have hA := anyA_lex (P := P) (B := B) (n := n) (H := H) (md := .any) l 0 (Array.replicate l.toArray.size false) T (by simp) (by simpa using hB.2) h
  have := anyA_sound (P := P) (md := .any) hall (σ0 := σ) (w0 := w) (Q' := Post B n H σ w Q) (fun T' σ' w' a' g' st' hq => ⟨T', H, σ', hq, g', st'⟩) l.length (Array.replicate l.toArray.size false) T σ _ a ⟨s', fun i => (g.rep i).mono st.le, g.size, g.defers⟩ st hA
  simpa using this

variable {o : Oper} {l : List Oper} {K : (Nat → PV) → Prop} {x : PV} {G : List (Nat × TD)} {p : Prop}
theorem WD_nil (h : K T) : WD P B n ops H [] T K := h
theorem WD_does {d : Option Tmp} (hd : nfD n o.dst = some d) (hw : wantedA ops T o = some true) (h : Does P B o T H x H) (k : WD P B n ops H l (updD d x T) K) : WD P B n ops H (o :: l) T K := ⟨x, .inl ⟨hw, .inl h⟩, (nfD_eq hd).1 ▸ k⟩
theorem WD_call {d : Option Tmp} (hd : nfD n o.dst = some d) (hw : wantedA ops T o = some true) (h : DoesC P B o T H x H) (k : WD P B n ops H l (updD d x T) K) : WD P B n ops H (o :: l) T K := ⟨x, .inl ⟨hw, .inr h⟩, (nfD_eq hd).1 ▸ k⟩
theorem WD_skip {d : Option Tmp} (hd : nfD n o.dst = some d) (hw : wantedA ops T o = some false) (k : WD P B n ops H l (updD d (.val undef) T) K) : WD P B n ops H (o :: l) T K := ⟨_, .inr ⟨hw, rfl⟩, (nfD_eq hd).1 ▸ k⟩
theorem WD_ev {d : Option Tmp} (hG : tysOk P G = true) (hd : nfD n o.dst = some d) (hw : wantedA ops T o = some true) (h : evS G T H o.type o.op = some (x, H, p)) (hp : p) (k : WD P B n ops H l (updD d x T) K) : WD P B n ops H (o :: l) T K :=
  WD_does hd hw (evOp_ok hG rfl (evS_ok h) hp) k

theorem WD_congr : ∀ {l : List Oper} {T T' : Nat → PV}, T = T' → WD P B n ops H l T K → WD P B n ops H l T' K := by rintro l T _ rfl h; exact h
theorem WD_split (d : Nat) {b : Bool} (hT : T d = .val (.bool b)) (h1 : b = true → WD P B n ops H l (upd d (.val (.bool true)) T) K) (h2 : b = false → WD P B n ops H l (upd d (.val (.bool false)) T) K) : WD P B n ops H l T K := by
  have e : ∀ q, b = q → upd d (.val (.bool q)) T = T := by
    rintro q rfl
    funext i
    by_cases hi : i = d
    · subst hi; rw [upd_same, hT]
    · rw [upd_other _ _ _ _ hi]
  cases hb : b with
  | true => have := h1 hb; rwa [e true hb] at this
  | false => have := h2 hb; rwa [e false hb] at this
theorem WD_true (d : Nat) {b : Bool} (hT : T d = .val (.bool b)) (hb : b = true) (h1 : WD P B n ops H l (upd d (.val (.bool true)) T) K) : WD P B n ops H l T K :=
  WD_split d hT (fun _ => h1) (fun h => by rw [hb] at h; cases h)
theorem WD_as (d : Nat) {x y : PV} (hT : T d = x) (hxy : x = y) (h1 : WD P B n ops H l (upd d y T) K) : WD P B n ops H l T K := by
  have e : upd d y T = T := by
    funext i
    by_cases hi : i = d
    · subst hi; rw [upd_same, hT, hxy]
    · rw [upd_other _ _ _ _ hi]
  rwa [e] at h1
theorem does_append_drawn {t tx e : TypeId} {d de dx : TD} {a b : Operand} {k m : Nat} {xs ys : List PV} (f : TyFacts P t d) (hd : d.sh = .slice e) (fe : TyFacts P e de) (fx : TyFacts P tx dx)
    (ho : o.op = .call { callee := .builtin .append, args := #[a, b], argTypes := #[t, tx] }) (hx : opv T a = .seq k xs .clip) (ht : SrcTy dx (opv T b)) (hy : SrcPV de.size (opv T b) m ys) (hl : xs.length = k * de.size)
    (hb : (k + m) * de.bytes ≤ 140737488355328) (h63 : k + m ≤ 9223372036854775807) (hf : FlatL (xs ++ ys)) :
    Does P B o T H (.seq (k + m) (xs ++ ys) .any) H := by
  intro σ w ac s h
  have k1 := h a (by simp [ho, Op.operands, Call.operands])
  have k2 := h b (by simp [ho, Op.operands, Call.operands])
  rw [hx] at k1
  obtain ⟨ad, cap, vs, hv, hle, hnil, hrl, hlies, hk⟩ := rep_seq k1
  have hcap : cap = k := hk
  subst hcap
  obtain ⟨news, hnr, hsrc⟩ := src_ty fx ht hy k2
  obtain ⟨v', w', σ', h1, h2, h3, h4, h5⟩ := append_core (ty := o.type) s f hd fe hle hnil hrl hlies hl hnr hsrc hb h63 (by omega)
  obtain ⟨s', st⟩ := grow_sim s h5
  refine ⟨v', w', σ, .inl (append_op ho hv h1), ?_, s', st⟩
  refine rep_flat (c := cx B (H ++ [.free ((cap + m) * de.size)]) σ' w') (c' := cx B H σ w') rfl (fun b off hw => ?_) (by unfold Flat; exact ⟨hf, .inl rfl⟩) (imp_seq _ _ _ _ _ h2)
  rcases hw with hw | ⟨i, oi, h6, h7, h8⟩
  · exact .inl hw
  · have hlt := lt_of_get h6
    exact .inr ⟨i, oi, by rw [List.getElem?_append_left hlt]; exact h6, (h4.le.σ i hlt).trans h7, h8⟩
end
end Go.Proofs.Ytkchnmilmepnfaa
