/- The engine, part F: append, make, copy, composite values, and calls. No condition. -/
import Derived.Test.YtkchnmilmepnfaaEngE
namespace Go.Proofs.Ytkchnmilmepnfaa
open Go.RowKit
set_option linter.unusedVariables false

section
variable {P : Program} {B : Nat → Nat → Prop} {o : Oper} {T : Nat → PV} {H : List Ob}
/-- What is appended. -/
def SrcPV (k : Nat) : PV → Nat → List PV → Prop
  | .seq m ys _, n, zs => n = m ∧ zs = ys ∧ ys.length = m * k ∧ ∀ y ∈ ys, okC y = true
  | .val (.string s), n, zs => n = s.size ∧ k = 1 ∧ zs = s.data.toList.map fun b => byteP b.toNat
  | _, _, _ => False
theorem okC_repL' {c : Cx} : ∀ {xs : List PV} {vs : List Value}, (∀ x ∈ xs, okC x = true) → RepL c xs vs → ∀ v ∈ vs, v.oneCell' = true
  | [], vs, _, h, v, hv => by rw [repL_nil] at h; subst h; cases hv
  | x :: xs, [], _, h, v, hv => by cases hv
  | x :: xs, u :: us, ho, h, v, hv => by
    rw [repL_cons] at h
    cases hv with
    | head => exact okC_rep (ho x (by simp)) h.1
    | tail _ hv => exact okC_repL' (fun y hy => ho y (by simp [hy])) h.2 v hv
theorem repL_string {c : Cx} (l : List UInt8) : RepL c (l.map fun b => byteP b.toNat) (l.map fun b => Value.int .u8 b.toNat) := by
  induction l with
  | nil => exact repL_nil.2 rfl
  | cons x l ih => exact repL_cons.2 ⟨rep_val _ _, ih⟩
theorem src_of {c : Cx} {k m : Nat} {x : PV} {v : Value} {ys : List PV} {tx : TypeId} (h : SrcPV k x m ys) (hr : Rep c x v) (hk : (∃ e', P.underlying tx = some (.slice e')) ∨ P.underlying tx = some .string) (hs : ∀ s, x = .val (.string s) → P.underlying tx = some .string) (hq : ∀ n zs s, x = .seq n zs s → ∃ e', P.underlying tx = some (.slice e')) :
    ∃ news : List Value, RepL c ys news ∧ Src P k tx v m news c.w := by
  cases x with
  | seq m' ys' s =>
    obtain ⟨rfl, rfl, hl, hok⟩ := h
    obtain ⟨a, cap, vs, rfl, hle, hnil, hrl, hlies, _⟩ := rep_seq hr
    obtain ⟨e', he⟩ := hq _ _ _ rfl
    cases a with
    | none =>
      obtain ⟨rfl, rfl, rfl⟩ := hnil rfl
      exact ⟨[], hrl, Src.ofNil c.w he 0⟩
    | some b =>
      refine ⟨vs, hrl, Src.ofSlice c.w he b m cap vs (by rw [RepL.length hrl]; exact hl) (fun j u hj => ?_) (okC_repL' hok hrl)⟩
      have hl2 := (hlies b rfl).resolve_right (by rintro ⟨_, h3⟩; rw [h3] at hj; simp at hj)
      rw [lies_addr hl2, Addr.add_lit]; exact (hl2.2 j u hj).1
  | val u =>
    cases u <;> first | exact h.elim | skip
    obtain ⟨rfl, rfl, rfl⟩ := h
    unfold Rep at hr
    subst hr
    exact ⟨_, repL_string _, Src.ofString c.w (hs _ rfl) _⟩
  | _ => exact h.elim

theorem append_room_row {w : World} (t tx ty e : TypeId) (i : TypeInfo) (ht : P.underlying t = some (.slice e)) (hi : P.info? e = some i) (g sLen sCap : Nat) (cur : Array Value) (hg : w.heap[g]? = some (.cells cur e (0, 0)))
    (x : Value) (m : Nat) (news : List Value) (hs : Src P i.size tx x m news w) (hroom : sLen + m ≤ sCap) (hfit : sLen * i.size + news.length ≤ cur.size) {et : TypeId} (het : et = e) :
    (Builtin.append_ #[t, tx] ty #[.slice (some ⟨g, 0, none⟩) sLen sCap, x]).run P w = .ok (.slice (some ⟨g, 0, none⟩) (sLen + m) sCap) (w.setRow g (cur.toList.take (sLen * i.size) ++ news ++ cur.toList.drop (sLen * i.size + news.length)).toArray) := by
  have hst := run_storeCells_at P g (sLen * i.size) e news 0 cur w hg (by simpa using hfit) hs.one
  simp only [Nat.add_zero] at hst
  rcases hs.kind with ⟨e', hk⟩ | hk <;> simp [Builtin.append_, run_underlying ht, run_underlying hk, sizeOf, typeInfo, hi, hs.len, hroom, hs.cells, Addr.add_lit, hst]
theorem append_nop {w : World} (t tx ty e : TypeId) (i : TypeInfo) (ht : P.underlying t = some (.slice e)) (hi : P.info? e = some i) (a : Option Addr) (sLen sCap : Nat) (x : Value) (hs : Src P i.size tx x 0 [] w) (hroom : sLen ≤ sCap) :
    (Builtin.append_ #[t, tx] ty #[.slice a sLen sCap, x]).run P w = .ok (.slice a sLen sCap) w := by
  rcases hs.kind with ⟨e', hk⟩ | hk <;> cases a <;> simp [Builtin.append_, run_underlying ht, run_underlying hk, sizeOf, typeInfo, hi, hs.len, hroom, hs.cells, storeCells]
theorem append_new {w : World} (t tx ty e : TypeId) (i : TypeInfo) (z : Value) (ht : P.underlying t = some (.slice e)) (hi : P.info? e = some i) (hz : i.zero = some z) (a : Option Addr) (sLen sCap : Nat) (olds : List Value) (hlo : olds.length = sLen * i.size) (hnil : a = none → sLen = 0)
    (hold : ∀ b, a = some b → ∀ j v, olds[j]? = some v → w.cell? (b.add j) = some v) (x : Value) (m : Nat) (news : List Value) (hs : Src P i.size tx x m news w) (hg : sCap < sLen + m) (hb : (sLen + m) * i.bytes ≤ 140737488355328) (h63 : sLen + m ≤ 9223372036854775807) :
    (Builtin.append_ #[t, tx] ty #[.slice a sLen sCap, x]).run P w = .ok (.slice (some ⟨w.heap.size, 0, none⟩) (sLen + m) (grownCap w (sLen + m) sCap e))
      (w.drew.alloc (.cells ((olds ++ news).toArray ++ Builtin.zeroCells z.cells (grownCap w (sLen + m) sCap e - (sLen + m))) e)) := by
  refine run_append_grow_src w t tx ty e i z ht hi hz a sLen sCap olds ?_ x m news hs hg (by omega) (growslice_fits (by omega) hb)
  cases a with
  | none =>
    have := hnil rfl
    subst this
    have : olds = [] := List.eq_nil_of_length_eq_zero (by simpa using hlo)
    subst this
    exact run_firstCells_none w.drew i.size 0 0 sCap
  | some b => exact run_firstCells_some w.drew i.size sLen b sLen sCap olds hlo (by simpa using hold b rfl)

/-- In the room behind a row of the call's own. -/
theorem free_row {σ : Nat → Option Nat} {w : World} (s : Sim B H σ w) {t b m m' : Nat} (ht : H[t]? = some (.free m)) (hb : σ t = some b) {cur : Array Value} {e : TypeId} (hg : w.heap[b]? = some (Obj.cells cur e (0, 0))) {us : List Value} (hl : us.length = cur.size) (hkeep : ∀ j, j < m → us[j]? = cur[j]?) (hm : m ≤ m') (hm' : m' ≤ cur.size) :
    Sim B (H.set t .dead ++ [.free m']) (ext σ H.length (some b)) (w.setRow b us.toArray) ∧ Step B H σ w (H.set t .dead ++ [.free m']) (ext σ H.length (some b)) (w.setRow b us.toArray) := by
  have hlen := lt_of_get ht
  have get : ∀ j o, (H.set t .dead ++ [.free m'])[j]? = some o → (j = H.length ∧ o = .free m') ∨ (j = t ∧ o = .dead) ∨ (j < H.length ∧ j ≠ t ∧ H[j]? = some o) := by
    intro j o h
    rcases get_snoc h with ⟨h1, h2⟩ | ⟨rfl, rfl⟩
    · rw [List.length_set] at h1
      by_cases hj : j = t
      · subst hj; rw [List.getElem?_set_self hlen] at h2; cases h2; exact .inr (.inl ⟨rfl, rfl⟩)
      · rw [List.getElem?_set_ne (Ne.symm hj)] at h2; exact .inr (.inr ⟨h1, hj, h2⟩)
    · rw [List.length_set]; exact .inl ⟨rfl, rfl⟩
  have own : ∀ x off, OwnWr (ext σ H.length (some b)) (H.set t .dead ++ [.free m']) x off → OwnWr σ H x off := by
    rintro x off ⟨j, oj, h1, h2, h3⟩
    rcases get j oj h1 with ⟨rfl, rfl⟩ | ⟨rfl, rfl⟩ | ⟨h4, h5, h6⟩
    · rw [ext_new] at h2; cases h2
      exact ⟨t, _, ht, hb, Nat.le_trans hm h3⟩
    · cases h3
    · rw [ext_old h4] at h2; exact ⟨j, oj, h6, h2, h3⟩
  have le : (cx B H σ w).Le (cx B (H.set t .dead ++ [.free m']) (ext σ H.length (some b)) (w.setRow b us.toArray)) := by
    refine ⟨by simp [cx], fun i hi => ext_old hi, fun x off u h1 h2 => ⟨?_, fun h => h1 (h.imp id (own x off))⟩, fun x cs t' fr h1 => ?_⟩
    · by_cases hx : x = b
      · subst hx
        have hoff : off < m := by
          rcases Nat.lt_or_ge off m with h3 | h3
          · exact h3
          · exact absurd (.inr ⟨t, _, ht, hb, h3⟩) h1
        have h3 : w.cell? ⟨x, off, none⟩ = cur[off]? := by simp [World.cell?, hg]
        have h4 : (w.setRow x us.toArray).cell? ⟨x, off, none⟩ = us[off]? := by simp [World.cell?, heap_setRow_same hg]
        show (w.setRow x us.toArray).cell? ⟨x, off, none⟩ = some u
        rw [h4, hkeep off hoff, ← h3]; exact h2
      · exact (cell_setRow_other w b _ x off hx).trans h2
    · by_cases hx : x = b
      · subst hx
        simp only [cx] at h1
        rw [hg] at h1; cases h1
        exact ⟨_, heap_setRow_same hg, by simpa using hl⟩
      · exact ⟨cs, (heap_setRow w b _ x hx).trans h1, rfl⟩
  refine ⟨⟨?_, ?_, fun x off h => by rw [size_setRow]; exact s.base x off h, ?_⟩, ⟨le, rfl, rfl, rfl, by rw [size_setRow]; exact Nat.le_refl _, ?_, ?_⟩⟩
  · intro j k x oj ok h1 h2 l1 l2 e1 e2
    rcases get j oj h1 with ⟨rfl, rfl⟩ | ⟨rfl, rfl⟩ | ⟨a4, a5, a6⟩ <;> rcases get k ok h2 with ⟨rfl, rfl⟩ | ⟨rfl, rfl⟩ | ⟨b4, b5, b6⟩ <;> first | rfl | (cases l1; done) | (cases l2; done) | skip
    · rw [ext_new] at e1; cases e1
      rw [ext_old b4] at e2
      exact absurd (s.inj k t b ok _ b6 ht l2 rfl e2 hb) b5
    · rw [ext_new] at e2; cases e2
      rw [ext_old a4] at e1
      exact absurd (s.inj j t b oj _ a6 ht l1 rfl e1 hb) a5
    · rw [ext_old a4] at e1
      rw [ext_old b4] at e2
      exact s.inj j k x oj ok a6 b6 l1 l2 e1 e2
  · intro j x oj h1 l1 e1 off
    rcases get j oj h1 with ⟨rfl, rfl⟩ | ⟨rfl, rfl⟩ | ⟨a4, a5, a6⟩
    · rw [ext_new] at e1; cases e1; exact s.sep t b _ ht rfl hb off
    · cases l1
    · rw [ext_old a4] at e1; exact s.sep j x oj a6 l1 e1 off
  · intro j oj h1
    rcases get j oj h1 with ⟨rfl, rfl⟩ | ⟨rfl, rfl⟩ | ⟨a4, a5, a6⟩
    · intro x hx
      simp only [cx] at hx
      rw [ext_new] at hx; cases hx
      exact ⟨_, e, heap_setRow_same hg, by simpa [hl] using hm'⟩
    · trivial
    · have k := s.holds j oj a6
      cases oj with
      | cells zs t' =>
        obtain ⟨x, ws, h5, h6, h7⟩ := k
        have hx : x ≠ b := fun hx => a5 (s.inj j t b _ _ a6 ht rfl rfl (hx ▸ h5) hb)
        exact ⟨x, ws, (ext_old a4).trans h5, (heap_setRow w b _ x hx).trans h6, RepL.mono le h7⟩
      | free m2 =>
        intro x hx
        obtain ⟨cs, t', h5, h6⟩ := k x ((ext_old a4).symm.trans hx)
        have hne : x ≠ b := fun h => a5 (s.inj j t b _ _ a6 ht rfl rfl (h ▸ ((ext_old a4).symm.trans hx)) hb)
        exact ⟨cs, t', (heap_setRow w b _ x hne).trans h5, h6⟩
      | dead => trivial
  · intro j oj x h1 h2 h3
    rcases get j oj h1 with ⟨rfl, rfl⟩ | ⟨rfl, rfl⟩ | ⟨a4, a5, a6⟩
    · rw [ext_new] at h3; cases h3; exact .inr ⟨t, _, ht, rfl, hb⟩
    · cases h2
    · rw [ext_old a4] at h3; exact .inr ⟨j, oj, a6, h2, h3⟩
  · intro x hx hn
    exact heap_setRow w b _ x (fun h => hn t _ ht rfl (h ▸ hb))
/-- A name is given up. -/
theorem drop_name {σ : Nat → Option Nat} {w : World} (s : Sim B H σ w) {t : Nat} {ob : Ob} (ht : H[t]? = some ob) : Sim B (H.set t .dead) σ w ∧ Step B H σ w (H.set t .dead) σ w := by
  have hlen := lt_of_get ht
  have get : ∀ j o, (H.set t .dead)[j]? = some o → (j = t ∧ o = .dead) ∨ (j ≠ t ∧ H[j]? = some o) := by
    intro j o h
    by_cases hj : j = t
    · subst hj; rw [List.getElem?_set_self hlen] at h; cases h; exact .inl ⟨rfl, rfl⟩
    · rw [List.getElem?_set_ne (Ne.symm hj)] at h; exact .inr ⟨hj, h⟩
  have own : ∀ x off, OwnWr σ (H.set t .dead) x off → OwnWr σ H x off := by
    rintro x off ⟨j, o, h1, h2, h3⟩
    rcases get j o h1 with ⟨rfl, rfl⟩ | ⟨_, h4⟩
    · cases h3
    · exact ⟨j, o, h4, h2, h3⟩
  have le : (cx B H σ w).Le (cx B (H.set t .dead) σ w) := ⟨by simp [cx], fun _ _ => rfl, fun x off u h1 h2 => ⟨h2, fun h => h1 (h.imp id (own x off))⟩, fun x cs e fr h1 => ⟨cs, h1, rfl⟩⟩
  refine ⟨⟨?_, ?_, s.base, ?_⟩, ⟨le, rfl, rfl, rfl, Nat.le_refl _, ?_, fun _ _ _ => rfl⟩⟩
  · intro j k x oj ok h1 h2 l1 l2 e1 e2
    rcases get j oj h1 with ⟨rfl, rfl⟩ | ⟨_, h3⟩
    · cases l1
    · rcases get k ok h2 with ⟨rfl, rfl⟩ | ⟨_, h4⟩
      · cases l2
      · exact s.inj j k x oj ok h3 h4 l1 l2 e1 e2
  · intro j x oj h1 l1 e1
    rcases get j oj h1 with ⟨rfl, rfl⟩ | ⟨_, h3⟩
    · cases l1
    · exact s.sep j x oj h3 l1 e1
  · intro j oj h1
    rcases get j oj h1 with ⟨rfl, rfl⟩ | ⟨_, h3⟩
    · trivial
    · have k := s.holds j oj h3
      cases oj with
      | cells zs t' => obtain ⟨x, ws, h5, h6, h7⟩ := k; exact ⟨x, ws, h5, h6, RepL.mono le h7⟩
      | free m2 => exact k
      | dead => trivial
  · intro j oj x h1 h2 h3
    rcases get j oj h1 with ⟨rfl, rfl⟩ | ⟨_, h4⟩
    · cases h2
    · exact .inr ⟨j, oj, h4, h2, h3⟩

theorem rep_own_new {w w' : World} {H' : List Ob} {σ' : Nat → Option Nat} {n k cap : Nat} {xs : List PV} {vs : List Value} {cs : Array Value} {e : TypeId} {t : Nat} (hr : RepL (cx B H' σ' w') xs vs) (ht : t < H'.length) (hσ : σ' t = some w.heap.size) (hg : w'.heap[w.heap.size]? = some (Obj.cells cs e (0, 0))) (hl : xs.length = n * k) (hn : n ≤ cap) (hc : cap * k ≤ cs.size)
    (hcs : ∀ j, j < vs.length → cs[j]? = vs[j]?) (hw : ∀ off, off < vs.length → ¬ (cx B H' σ' w').Wr w.heap.size off) : Rep (cx B H' σ' w') (.seq n xs (.own t k)) (.slice (some ⟨w.heap.size, 0, none⟩) n cap) := by
  unfold Rep
  refine ⟨_, cap, vs, rfl, hn, (fun h => by cases h), hr, fun b hb => ?_, ht, hl, .inr ⟨_, cs, e, hσ, rfl, hg, hc⟩⟩
  cases hb
  refine .inl ⟨rfl, fun j u hj => ?_⟩
  have hjl := lt_of_get hj
  refine ⟨?_, by rw [Nat.zero_add]; exact hw j hjl⟩
  show w'.cell? ⟨w.heap.size, 0 + j, none⟩ = some u
  rw [Nat.zero_add]
  simp only [World.cell?, hg, Option.isSome_none, Bool.false_eq_true, if_false]
  rw [hcs j hjl]; exact hj

/-- append to a row that is as long as its block's room, or that has too little. -/
theorem append_core {σ : Nat → Option Nat} {w : World} (s : Sim B H σ w) {t tx ty e : TypeId} {d de : TD} (f : TyFacts P t d) (hd : d.sh = .slice e) (fe : TyFacts P e de) {n m cap : Nat} {xs ys : List PV} {ad : Option Addr} {vs news : List Value} {x : Value}
    (hle : n ≤ cap) (hnil : ad = none → n = 0 ∧ cap = 0 ∧ vs = []) (hrl : RepL (cx B H σ w) xs vs) (hlies : ∀ b, ad = some b → Lies (cx B H σ w) b vs ∨ (cap = 0 ∧ vs = [])) (hl : xs.length = n * de.size) (hnr : RepL (cx B H σ w) ys news) (hsrc : Src P de.size tx x m news w)
    (hb : (n + m) * de.bytes ≤ 140737488355328) (h63 : n + m ≤ 9223372036854775807) (hc : (m = 0 ∧ cap = n) ∨ cap < n + m) :
    ∃ v' w' σ', (Builtin.append_ #[t, tx] ty #[.slice ad n cap, x]).run P w = .ok v' w' ∧ Rep (cx B (H ++ [.free ((n + m) * de.size)]) σ' w') (.seq (n + m) (xs ++ ys) (.own H.length de.size)) v' ∧ Sim B (H ++ [.free ((n + m) * de.size)]) σ' w' ∧ Step B H σ w (H ++ [.free ((n + m) * de.size)]) σ' w' ∧ Grows w w' := by
  obtain ⟨i, z, hi, hsz, hby, hz, hzr⟩ := fe.info
  rw [← hsz] at hsrc
  have hnl : news.length = m * i.size := hsrc.newsLen
  rcases hc with ⟨rfl, rfl⟩ | hc
  · have hn0 : news = [] := List.eq_nil_of_length_eq_zero (by simpa using hnl)
    subst hn0
    have hr := append_nop (P := P) (w := w) t tx ty e i (f.slice hd) hi ad cap cap _ hsrc (Nat.le_refl _)
    obtain ⟨s', st⟩ := grow_name s (Grows.refl w) (.free ((cap + 0) * de.size)) none (fun b hb => by cases hb) (fun b hb => by simp only [cx] at hb; rw [ext_new] at hb; cases hb)
    have hy0 : ys = [] := List.eq_nil_of_length_eq_zero (by have := RepL.length hnr; simpa using this.symm)
    subst hy0
    refine ⟨_, w, _, hr, ?_, s', st, Grows.refl w⟩
    unfold Rep
    exact ⟨ad, cap, vs, rfl, by omega, (fun h0 => by have := hnil h0; exact ⟨by omega, this.2⟩), by rw [List.append_nil]; exact RepL.mono st.le hrl, fun b hb => (hlies b hb).imp (·.mono st.le) id, by simp [cx], by simpa using hl, .inl (by omega)⟩
  · have hvl : vs.length = n * i.size := by rw [RepL.length hrl, hsz]; exact hl
    have hr := append_new (P := P) (w := w) t tx ty e i z (f.slice hd) hi hz ad n cap vs hvl (fun h0 => (hnil h0).1) (fun b hb j v hj => by
      have hl2 := (hlies b hb).resolve_right (by rintro ⟨_, h3⟩; rw [h3] at hj; simp at hj)
      rw [lies_addr hl2, Addr.add_lit]; exact (hl2.2 j v hj).1) _ m news hsrc hc (by rw [hby]; exact hb) h63
    have hzl : z.cells.size = de.size := by have := RepL.length (hzr (cx B H σ w)); rw [Array.length_toList] at this; rw [this]; exact fe.zlen
    have hge := grownCap_ge w (n + m) cap e
    have hsize : ((vs ++ news).toArray ++ Builtin.zeroCells z.cells (grownCap w (n + m) cap e - (n + m))).size = grownCap w (n + m) cap e * de.size := by
      rw [Array.size_append, size_zeroCells, hzl, List.size_toArray, List.length_append, hvl, hnl, hsz, ← Nat.add_mul, ← Nat.add_mul]
      congr 1; omega
    have gr : Grows w (w.drew.alloc (.cells ((vs ++ news).toArray ++ Builtin.zeroCells z.cells (grownCap w (n + m) cap e - (n + m))) e)) := (Grows.drew w).trans (Grows.alloc _ _)
    have hheap : (w.drew.alloc (.cells ((vs ++ news).toArray ++ Builtin.zeroCells z.cells (grownCap w (n + m) cap e - (n + m))) e)).heap[w.heap.size]? = some (Obj.cells ((vs ++ news).toArray ++ Builtin.zeroCells z.cells (grownCap w (n + m) cap e - (n + m))) e (0, 0)) := by
      show (w.heap.push _)[w.heap.size]? = _; simp
    obtain ⟨s', st⟩ := grow_name s gr (.free ((n + m) * de.size)) (some w.heap.size) (fun b hb => by cases hb; exact Nat.le_refl _) (fun b hb => by
      simp only [cx] at hb; rw [ext_new] at hb; cases hb
      exact ⟨_, e, hheap, by rw [hsize]; exact Nat.mul_le_mul_right _ hge⟩)
    refine ⟨_, _, _, hr, ?_, s', st, gr⟩
    refine rep_own_new (vs := vs ++ news) ((RepL.mono st.le hrl).append (RepL.mono st.le hnr)) (by simp) (ext_new _ _ _) hheap ?_ hge (by rw [hsize]; exact Nat.le_refl _) (fun j hj => ?_) (fun off hoff => ?_)
    · rw [List.length_append, hl, ← RepL.length hnr, hnl, hsz, ← Nat.add_mul]
    · rw [Array.getElem?_append_left (by simpa using hj)]; simp
    · have hoff' : off < (n + m) * de.size := by rw [List.length_append, hvl, hnl, hsz, ← Nat.add_mul] at hoff; exact hoff
      rintro (h | ⟨j, oj, h1, h2, h3⟩)
      · exact absurd (s.base _ _ h) (by simp)
      · rcases get_snoc h1 with ⟨h4, h5⟩ | ⟨rfl, rfl⟩
        · rw [ext_old h4] at h2
          have hlv : oj.live = true := by cases oj <;> first | rfl | cases h3
          have := (s.holds j oj h5).lt hlv h2
          simp [cx] at this
        · simp only [Ob.wr] at h3; omega

theorem append_op {w : World} {a : Act} {x y : Operand} {t tx : TypeId} {v v' : Value} {w' : World} (ho : o.op = .call { callee := .builtin .append, args := #[x, y], argTypes := #[t, tx] }) (hv : a.eval x = v) (hr : (Builtin.append_ #[t, tx] o.type #[v, a.eval y]).run P w = .ok v' w') : (execOp a.eval o).run P w = .ok (.value v') w' := by
  unfold execOp
  simp only [ho, resolve, invoke, builtin, Sem.run_bind, Sem.run_pure, Result.andThen_ok, List.map_toArray, List.map_cons, List.map_nil, hv, hr]
/-- What the second argument's type must be. -/
def SrcTy (dx : TD) : PV → Prop
  | .seq _ _ _ => ∃ e', dx.sh = .slice e'
  | .val (.string _) => dx.sh = .str
  | _ => False
theorem src_ty {tx : TypeId} {dx : TD} {c : Cx} {k m : Nat} {x : PV} {v : Value} {ys : List PV} (fx : TyFacts P tx dx) (ht : SrcTy dx x) (h : SrcPV k x m ys) (hr : Rep c x v) : ∃ news : List Value, RepL c ys news ∧ Src P k tx v m news c.w := by
  refine src_of h hr ?_ (fun s hs => ?_) (fun n zs s hs => ?_)
  · cases x with
    | seq n zs s => obtain ⟨e', h1⟩ := ht; exact .inl ⟨e', fx.slice h1⟩
    | val u => cases u <;> first | exact ht.elim | exact .inr (fx.str ht)
    | _ => exact ht.elim
  · subst hs; exact fx.str ht
  · subst hs; obtain ⟨e', h1⟩ := ht; exact ⟨e', fx.slice h1⟩

/-- append, where nothing lies behind the row. -/
theorem does_append_clip {t tx e : TypeId} {d de dx : TD} {x y : Operand} {n m : Nat} {xs ys : List PV} (f : TyFacts P t d) (hd : d.sh = .slice e) (fe : TyFacts P e de) (fx : TyFacts P tx dx)
    (ho : o.op = .call { callee := .builtin .append, args := #[x, y], argTypes := #[t, tx] }) (hx : opv T x = .seq n xs .clip) (ht : SrcTy dx (opv T y)) (hy : SrcPV de.size (opv T y) m ys) (hl : xs.length = n * de.size)
    (hb : (n + m) * de.bytes ≤ 140737488355328) (h63 : n + m ≤ 9223372036854775807) :
    Does P B o T H (.seq (n + m) (xs ++ ys) (.own H.length de.size)) (H ++ [.free ((n + m) * de.size)]) := by
  intro σ w a s h
  have k1 := h x (by simp [ho, Op.operands, Call.operands])
  have k2 := h y (by simp [ho, Op.operands, Call.operands])
  rw [hx] at k1
  obtain ⟨ad, cap, vs, hv, hle, hnil, hrl, hlies, hk⟩ := rep_seq k1
  have hcap : cap = n := hk
  subst hcap
  obtain ⟨news, hnr, hsrc⟩ := src_ty fx ht hy k2
  obtain ⟨v', w', σ', h1, h2, h3, h4, _⟩ := append_core (ty := o.type) s f hd fe hle hnil hrl hlies hl hnr hsrc hb h63 (by omega)
  exact ⟨v', w', σ', .inl (append_op ho hv h1), h2, h3, h4⟩
/-- append to a row of the call's own. -/
theorem does_append_own {t tx e : TypeId} {d de dx : TD} {x y : Operand} {n m k q mt : Nat} {xs ys : List PV} (f : TyFacts P t d) (hd : d.sh = .slice e) (fe : TyFacts P e de) (fx : TyFacts P tx dx)
    (ho : o.op = .call { callee := .builtin .append, args := #[x, y], argTypes := #[t, tx] }) (hx : opv T x = .seq n xs (.own q k)) (hq : H[q]? = some (.free mt)) (hk : k = de.size) (hmt : mt ≤ n * k) (ht : SrcTy dx (opv T y)) (hy : SrcPV de.size (opv T y) m ys)
    (hb : (n + m) * de.bytes ≤ 140737488355328) (h63 : n + m ≤ 9223372036854775807) :
    Does P B o T H (.seq (n + m) (xs ++ ys) (.own H.length de.size)) (H.set q .dead ++ [.free ((n + m) * de.size)]) := by
  intro σ w a s h
  subst hk
  have k1 := h x (by simp [ho, Op.operands, Call.operands])
  have k2 := h y (by simp [ho, Op.operands, Call.operands])
  rw [hx] at k1
  obtain ⟨ad, cap, vs, hv, hle, hnil, hrl, hlies, hqN, hl, hown⟩ := rep_seq k1
  obtain ⟨news, hnr, hsrc0⟩ := src_ty fx ht hy k2
  have hsrc : Src P de.size tx (a.eval y) m news w := hsrc0
  clear hsrc0
  have viaNew : ((m = 0 ∧ cap = n) ∨ cap < n + m) → ∃ v' w' σ', ((execOp a.eval o).run P w = .ok (.value v') w' ∨ (execOp a.eval o).run P w = .ok .skip w' ∧ v' = undef) ∧ Rep (cx B (H.set q .dead ++ [.free ((n + m) * de.size)]) σ' w') (.seq (n + m) (xs ++ ys) (.own H.length de.size)) v' ∧ Sim B (H.set q .dead ++ [.free ((n + m) * de.size)]) σ' w' ∧ Step B H σ w (H.set q .dead ++ [.free ((n + m) * de.size)]) σ' w' := by
    intro hc
    obtain ⟨s1, st1⟩ := drop_name s hq
    obtain ⟨v', w', σ', h1, h2, h3, h4, _⟩ := append_core (ty := o.type) s1 f hd fe hle hnil (RepL.mono st1.le hrl) (fun b hb => (hlies b hb).imp (·.mono st1.le) id) hl (RepL.mono st1.le hnr) hsrc hb h63 hc
    rw [List.length_set] at h2
    exact ⟨v', w', σ', .inl (append_op ho hv h1), h2, h3, st1.trans h4⟩
  rcases hown with hcap | ⟨b, cs, e', hσ, rfl, hg, hcs⟩
  · exact viaNew (by omega)
  · simp only [cx] at hσ hg
    by_cases hroom : n + m ≤ cap
    · obtain ⟨i, z, hi, hsz, hby, hz, hzr⟩ := fe.info
      rw [← hsz] at hsrc
      have hnl : news.length = m * de.size := by rw [hsrc.newsLen, hsz]
      have hvl : vs.length = n * de.size := by rw [RepL.length hrl]; exact hl
      have hfit : (n + m) * de.size ≤ cs.size := Nat.le_trans (Nat.mul_le_mul_right _ hroom) hcs
      have hfit' : n * de.size + news.length ≤ cs.size := by rw [hnl, ← Nat.add_mul]; exact hfit
      have hst := run_storeCells_at P b (n * de.size) e' news 0 cs w hg (by simpa using hfit') hsrc.one
      simp only [Nat.add_zero] at hst
      have hr : (Builtin.append_ #[t, tx] o.type #[.slice (some ⟨b, 0, none⟩) n cap, a.eval y]).run P w = .ok (.slice (some ⟨b, 0, none⟩) (n + m) cap) (w.setRow b (cs.toList.take (n * de.size) ++ news ++ cs.toList.drop (n * de.size + news.length)).toArray) := by
        have hcl := hsrc.cells
        rw [hsz] at hcl
        rw [List.append_assoc] at hst ⊢
        rcases hsrc.kind with ⟨e2, hk⟩ | hk <;> simp [Builtin.append_, run_underlying (f.slice hd), run_underlying hk, sizeOf, typeInfo, hi, hsrc.len, hroom, hcl, Addr.add_lit, hsz, hst]
      have hul : (cs.toList.take (n * de.size) ++ news ++ cs.toList.drop (n * de.size + news.length)).length = cs.size := by
        simp only [List.length_append, List.length_take, List.length_drop, Array.length_toList]; omega
      obtain ⟨s', st⟩ := free_row s (m' := (n + m) * de.size) hq hσ hg hul (fun j hj => by
        rw [List.append_assoc, List.getElem?_append_left (by simp only [List.length_take, Array.length_toList]; omega), List.getElem?_take, if_pos (by omega)]; simp) (Nat.le_trans hmt (Nat.mul_le_mul_right _ (by omega))) hfit
      refine ⟨_, _, _, .inl (append_op ho hv hr), ?_, s', st⟩
      have hl2 : ∀ j u, vs[j]? = some u → (cx B H σ w).w.cell? ⟨b, 0 + j, none⟩ = some u ∧ ¬ (cx B H σ w).Wr b (0 + j) := fun j u hj => ((hlies _ rfl).resolve_right (by rintro ⟨_, h3⟩; rw [h3] at hj; simp at hj)).2 j u hj
      have hheap := heap_setRow_same (cs' := (cs.toList.take (n * de.size) ++ news ++ cs.toList.drop (n * de.size + news.length)).toArray) hg
      have hvs : ∀ j, j < vs.length → cs[j]? = vs[j]? := fun j hj => by
        have h1 := (hl2 j vs[j] (List.getElem?_eq_getElem hj)).1
        simp only [cx, World.cell?, Nat.zero_add, hg, Option.isSome_none, Bool.false_eq_true, if_false] at h1
        rw [h1, List.getElem?_eq_getElem hj]
      unfold Rep
      refine ⟨_, cap, vs ++ news, rfl, hroom, (fun h => by cases h), (RepL.mono st.le hrl).append (RepL.mono st.le hnr), fun b1 hb1 => ?_, by simp [cx], ?_, .inr ⟨b, _, e', by simp only [cx]; exact ext_new _ _ _, rfl, hheap, by rw [List.size_toArray, hul]; exact hcs⟩⟩
      · cases hb1
        refine .inl ⟨rfl, fun j u hj => ?_⟩
        have hjl := lt_of_get hj
        rw [List.length_append, hvl, hnl, ← Nat.add_mul] at hjl
        refine ⟨?_, ?_⟩
        · show (w.setRow b _).cell? ⟨b, 0 + j, none⟩ = some u
          rw [Nat.zero_add]
          simp only [World.cell?, hheap, Option.isSome_none, Bool.false_eq_true, if_false]
          rw [List.getElem?_toArray, List.append_assoc]
          by_cases hjn : j < n * de.size
          · rw [List.getElem?_append_left (by simp only [List.length_take, Array.length_toList]; omega), List.getElem?_take, if_pos hjn]
            rw [List.getElem?_append_left (by omega)] at hj
            rw [Array.getElem?_toList, hvs j (by omega)]; exact hj
          · rw [List.getElem?_append_right (by omega)] at hj
            rw [List.getElem?_append_right (by simp only [List.length_take, Array.length_toList]; omega)]
            have e1 : j - (cs.toList.take (n * de.size)).length = j - vs.length := by simp only [List.length_take, Array.length_toList]; omega
            have hjl' : j < n * de.size + m * de.size := by rw [← Nat.add_mul]; exact hjl
            rw [e1, List.getElem?_append_left (by rw [hnl, hvl]; omega)]
            exact hj
        · rintro (h' | ⟨j', oj, h1, h2, h3⟩)
          · exact s.sep q b _ hq rfl hσ _ h'
          · rcases get_snoc h1 with ⟨h4, h5⟩ | ⟨rfl, rfl⟩
            · rw [List.length_set] at h4
              by_cases hj' : j' = q
              · subst hj'
                rw [List.getElem?_set_self h4] at h5; cases h5; cases h3
              · rw [List.getElem?_set_ne (Ne.symm hj')] at h5
                rw [ext_old h4] at h2
                have hlv : oj.live = true := by cases oj <;> first | rfl | cases h3
                exact hj' (s.inj j' q b oj _ h5 hq hlv rfl h2 hσ)
            · simp only [Ob.wr, Nat.zero_add] at h3; omega
      · rw [List.length_append, hl, ← RepL.length hnr, hnl, ← Nat.add_mul]
    · exact viaNew (by omega)
end
end Go.Proofs.Ytkchnmilmepnfaa
