/- The statement that all digits are one digit and all of what is left: its walk. -/
import Derived.Test.YtpjhgokdkgnbdaaPicS
namespace Go.Proofs.Ytpjhgokdkgnbdaa
open Go.RowKit Go.ChangeShapes

theorem keptB {w w' : World} {B : Nat} {o : Obj} {x y : Value} {u : TypeId} (h : Below B ((w.alloc o).alloc (.cells #[x, y] u)) w') (hB : w.heap.size + 2 ≤ B) :
    w'.cell? ⟨w.heap.size + 1, 0, none⟩ = some x ∧ w'.cell? ⟨w.heap.size + 1, 1, none⟩ = some y ∧ w.heap.size + 1 < w'.heap.size := by
  have := kept h (by simp; omega)
  simpa using this
theorem cellsOf_steps : Try.prog.cellsOf 57 = 5 := by kernel_rfl
theorem reads_steps {w : World} {v : Value} (h : Reads w 57 v) : ∃ (a : Option Addr) (cap : Nat) (p : PicL) (lo hi b : Int), v = .agg #[.slice a p.1.length cap, .bool p.2, .int .i64 lo, .int .i64 hi, .int .i64 b] ∧ Hid (BytesAt w (.slice a p.1.length cap) p.1) ∧ Fit lo ∧ Fit hi ∧ Fit b := by
  obtain ⟨cs, rfl, hl, hr⟩ := reads_struct Try.underlying57 h
  rw [cellsOf_steps] at hl
  obtain ⟨x1, x2, x3, x4, x5, hcs⟩ := five_list hl
  rw [hcs] at hr
  have f0 : Rd w 24 (([x1, x2, x3, x4, x5].drop 0).take (Try.prog.cellsOf 24)) := rd_field Try.underlying57 hr 0 _ rfl
  have f1 := rd_field1 Try.underlying57 hr 1 _ rfl cellsOf_int x3 rfl
  have f2 := rd_field1 Try.underlying57 hr 2 _ rfl cellsOf_int x4 rfl
  have f3 := rd_field1 Try.underlying57 hr 3 _ rfl cellsOf_int x5 rfl
  rw [cellsOf_pic] at f0
  obtain ⟨a, cap, p, h1, h2, _⟩ := rd_pic f0
  simp only [List.drop_zero, List.take_succ_cons, List.take_zero, List.cons.injEq, and_true] at h1
  obtain ⟨rfl, rfl⟩ := h1
  obtain ⟨lo, e1, g1⟩ := rd_int Try.underlying3 f1
  obtain ⟨hi, e2, g2⟩ := rd_int Try.underlying3 f2
  obtain ⟨b, e3, g3⟩ := rd_int Try.underlying3 f3
  cases e1; cases e2; cases e3
  exact ⟨a, cap, p, lo, hi, b, by rw [agg_list hcs], Lib.hid h2, fit_wf g1, fit_wf g2, fit_wf g3⟩

/-- A round more changes nothing. -/
theorem allG_fuel {B : Nat} (h2 : 2 ≤ B) : ∀ (r : Nat) (p : PicL) (P : Nat), P < 2 ^ (r + 1) → allG B (r + 1) p P = allG B (r + 2) p P
  | 0, p, P, h => by
    have hz : P / B = 0 := Nat.div_eq_of_lt (by simp at h; omega)
    unfold allG
    simp only [hz, if_true]
  | r + 1, p, P, h => by
    have ih := fun q => allG_fuel h2 r q (P / B) (pow_half h h2)
    conv => lhs; unfold allG
    conv => rhs; unfold allG
    by_cases hp : p.2 = true ∧ p.1.length < 130
    · by_cases hz : P / B = 0
      · simp only [hp, hz, if_true]
      · rw [if_pos hp, if_neg hz, if_pos hp, if_neg hz]; exact ih _
    · rw [if_neg hp, if_neg hp]
/-- What one digit and all of what is left come to. -/
theorem steps_law (p : PicL) (lo hi : Int) (B : Nat) (hb : isB (B : Int) = true) (h2 : 2 ≤ B) :
    (digitS p lo hi B = (p, lo, hi, -17) ∧ allS p lo hi B = (p, -17)) ∨ (∃ q, digitS p lo hi B = (q, 0, 0, 0) ∧ allS p lo hi B = (q, 0)) ∨
    ∃ q l h, digitS p lo hi B = (q, l, h, 0) ∧ ¬ (l = 0 ∧ h = 0) ∧ Fit l ∧ Fit h ∧ ((∃ y, allS p lo hi B = (y, 0) ∧ allS q l h B = (y, 0)) ∨ (allS p lo hi B = (p, -17) ∧ allS q l h B = (q, -17))) := by
  have h0 := (all0_start B p (PU lo hi)).out
  by_cases hp : p.2 = true ∧ p.1.length < 130
  · have hpq := pair_quot lo hi B h2
    obtain ⟨FL, FH⟩ := quot_fit lo hi B
    have hz0 := pair_zero _ _ FL FH
    by_cases hz : PU lo hi / B = 0
    · obtain ⟨e1, e2⟩ := hz0.1 (hpq.trans hz)
      refine .inr (.inl ⟨_, ?_, allS_some p _ lo hi B hb (h0.symm.trans (allG_end rfl hp hz))⟩)
      rw [digitS_ok p lo hi B hb hp, e1, e2]
    · refine .inr (.inr ⟨_, _, _, digitS_ok p lo hi B hb hp, fun e => hz (hpq.symm.trans (hz0.2 e)), FL, FH, ?_⟩)
      have hm := (allG_more (r := 127) rfl hp hz)
      have hf := allG_fuel h2 126 (p.1 ++ [digS ((PU lo hi % B : Nat) : Int)], true) (PU lo hi / B) (pow_half (pair_128 lo hi) h2)
      have key : all0 B (p.1 ++ [digS ((PU lo hi % B : Nat) : Int)], true) (PU (loQ lo hi B) (hiQ lo hi B)) = all0 B p (PU lo hi) := by
        rw [hpq, ← h0, ← (all0_start _ _ _).out]
        exact hf.symm.trans hm
      cases hx : all0 B p (PU lo hi) with
      | some y => exact .inl ⟨y, allS_some p y lo hi B hb hx, allS_some _ y _ _ B hb (key.trans hx)⟩
      | none => exact .inr ⟨allS_none p lo hi B hb hx, allS_none _ _ _ B hb (key.trans hx)⟩
  · exact .inl ⟨digitS_full p lo hi B hb hp, allS_none p lo hi B hb (h0.symm.trans (allG_no rfl hp))⟩
end Go.Proofs.Ytpjhgokdkgnbdaa
