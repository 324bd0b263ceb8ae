/- The walks of layer 7 (pic), part A: texts under way: begun, right, the same; a sign more. By the program and by the document's answer. -/
import Derived.Test.YtpjhgokdkgnbdaaRow
import Derived.Test.YtpjhgokdkgnbdaaNumS
namespace Go.Proofs.Ytpjhgokdkgnbdaa
open Go.RowKit

/-- A number under way: its signs so far, and whether it was begun. -/
abbrev PicL := List Int × Bool
/-- A value that reads as a number under way. -/
def PicAt (w : World) (v : Value) (p : PicL) : Prop := ∃ sl, v = .agg #[sl, .bool p.2] ∧ BytesAt w sl p.1
theorem picAt_below {w w' : World} {v : Value} {p : PicL} (h : PicAt w v p) (hb : Below w.heap.size w w') : PicAt w' v p := by
  obtain ⟨sl, rfl, hs⟩ := h; exact ⟨sl, rfl, bytesAt_below hs hb⟩

theorem picAt_form {w : World} {v : Value} {p : PicL} (h : PicAt w v p) : ∃ a cap, v = .agg #[.slice a p.1.length cap, .bool p.2] ∧ BytesAt w (.slice a p.1.length cap) p.1 := by
  obtain ⟨sl, rfl, hs⟩ := h
  obtain ⟨a, cap, rfl, _, _⟩ := bytesAt_size hs
  exact ⟨a, cap, rfl, hs⟩

def beginS : PicL := ([], true)
def rightS (p : PicL) : Bool := decide (p.1.length ≤ 130) && (p.2 || decide (p.1 = []))
def holdS (p : PicL) (c : Int) : PicL × Int := if p.2 = true ∧ p.1.length < 130 then ((p.1 ++ [c % 256], true), 0) else (p, -17)

theorem pic_Begin (w : World) : Calls Try.prog 28 #[] w fun e w' => (∃ v, e = .returned v ∧ PicAt w' v beginS) ∧ Below w.heap.size w w' := by
  go_enter Try.func28, Try.ntmps28
  go_wp2
  refine bodyPost_ret (v := .agg #[.slice none 0 0, .bool true]) (by simp [results, Try.results28, go_sem]) rfl ⟨⟨_, rfl, _, rfl, bytesAt_nil _⟩, ?_⟩
  exact (Below.refl _ _).alloc (Nat.le_refl _) _
theorem ref_Begin (w : World) : Calls Try.prog 29 #[] w fun e w' => (∃ v, e = .returned v ∧ PicAt w' v beginS) ∧ Below w.heap.size w w' := by
  go_enter Try.func29, Try.ntmps29
  go_wp2
  refine bodyPost_ret (v := .agg #[.slice none 0 0, .bool true]) (by simp [results, Try.results29, go_sem]) rfl ⟨⟨_, rfl, _, rfl, bytesAt_nil _⟩, ?_⟩
  exact (Below.refl _ _).alloc (Nat.le_refl _) _

theorem rightS_is (p : PicL) : rightS p = true ↔ p.1.length ≤ 130 ∧ (p.2 = true ∨ p.1.length = 0) := by
  unfold rightS; simp
theorem right_eq {p : PicL} {x : Bool} (h : x = true ↔ p.1.length ≤ 130 ∧ (p.2 = true ∨ p.1.length = 0)) : Ending.returned (.bool x) = .returned (.bool (rightS p)) := by
  congr 2; rw [Bool.eq_iff_iff, rightS_is]; exact h

theorem pic_Right (v : Value) (p : PicL) (w : World) (h : PicAt w v p) : Calls Try.prog 25 #[v] w fun e w' => e = .returned (.bool (rightS p)) ∧ Below w.heap.size w w' := by
  obtain ⟨sl, rfl, hs⟩ := h
  obtain ⟨a, cap, rfl, _, _⟩ := bytesAt_size hs
  have b0 := fun o => (Below.refl w.heap.size w).alloc (Nat.le_refl _) o
  obtain ⟨xs, on⟩ := p
  cases on with
  | true =>
    go_enter Try.func25, Try.ntmps25
    go_wp2
    all_goals go_ret
    all_goals exact ⟨right_eq (by simp <;> omega), b0 _⟩
  | false =>
    go_enter Try.func25, Try.ntmps25
    go_wp2
    all_goals go_ret
    all_goals exact ⟨right_eq (by simp <;> omega), b0 _⟩
theorem ref_Right (v : Value) (p : PicL) (w : World) (h : PicAt w v p) : Calls Try.prog 24 #[v] w fun e w' => e = .returned (.bool (rightS p)) ∧ Below w.heap.size w w' := by
  obtain ⟨sl, rfl, hs⟩ := h
  obtain ⟨a, cap, rfl, _, _⟩ := bytesAt_size hs
  have b0 := fun o => (Below.refl w.heap.size w).alloc (Nat.le_refl _) o
  obtain ⟨xs, on⟩ := p
  cases on with
  | true =>
    go_enter Try.func24, Try.ntmps24
    go_wp2
    all_goals go_ret
    all_goals exact ⟨right_eq (by simp <;> omega), b0 _⟩
  | false =>
    go_enter Try.func24, Try.ntmps24
    go_wp2
    all_goals go_ret
    all_goals exact ⟨right_eq (by simp <;> omega), b0 _⟩
end Go.Proofs.Ytpjhgokdkgnbdaa
