/- Rows of bytes that a call owns: turned round, and as texts. -/
import Derived.Test.YtpjhgokdkgnbdaaCellA
import Derived.Test.YtpjhgokdkgnbdaaShelfB
import Derived.Handy
import Derived.Laws.AppendOwn
import Derived.Laws.BytesArg
import Derived.Lib.OwnBridge
import Derived.Maps.AppendAt
namespace Go.Proofs.Ytpjhgokdkgnbdaa
open Go.RowKit

theorem info8 : (Try.prog.info? 5).map (fun i => (i.zero, i.size, i.bytes)) = some (some (.int .u8 0), 1, 1) := by kernel_rfl

theorem own_drewN {w w1 : World} {B e s n : Nat} {v : Value} {xs : List Value} {q : Nat} (h : w.ownsRow B e s v n xs) (hw : w1 = w.drewN q) : w1.ownsRow B e s v n xs := by rw [hw]; exact h
theorem bel_drewN {w0 w w1 : World} {B q : Nat} (h : Below B w0 w) (hw : w1 = w.drewN q) : Below B w0 w1 := by rw [hw]; exact below_drewN h q
theorem own_low {w : World} {B e s n : Nat} {v : Value} {xs : List Value} (h : w.ownsRow B e s v n xs) : ∀ k, v.ownBlock = some k → B ≤ k := by
  intro k hk
  rcases h.2 with ⟨rfl, _⟩ | ⟨g, cap, cur, rfl, hb, _⟩
  · simp [Value.ownBlock] at hk
  · simp [Value.ownBlock] at hk; omega

theorem own_base {w : World} {B B' e s n : Nat} {v : Value} {xs : List Value} (h : w.ownsRow B e s v n xs) (hB : B' ≤ B) : w.ownsRow B' e s v n xs := by
  refine ⟨h.1, ?_⟩
  rcases h.2 with h1 | ⟨g, cap, cur, e1, hb, h2⟩
  · exact .inl h1
  · exact .inr ⟨g, cap, cur, e1, by omega, h2⟩

/-- slices.Reverse of a row of bytes that the call owns. -/
theorem rev_own (w : World) (B : Nat) (v : Value) (n : Nat) (zs : List Int) (h : w.ownsRow B 5 1 v n (zs.map (Value.int .u8))) (hn : n ≤ 9223372036854775807) :
    Calls Try.prog 72 #[v] w fun e w' => e = .returned (.tuple #[]) ∧ w'.ownsRow B 5 1 v n (zs.reverse.map (Value.int .u8)) ∧ ∀ w0, Below B w0 w → Below B w0 w' := by
  by_cases hv : v = .slice none 0 0
  · have h0 : n = 0 := by
      rcases h.2 with ⟨_, h⟩ | ⟨g, cap, cur, h, _⟩
      · exact h
      · rw [h] at hv; cases hv
    have hz : zs = [] := List.eq_nil_of_length_eq_zero (by have := h.1; simp at this; omega)
    subst hz hv
    refine (AnyE.slices_Reverse_empty Try.lReverse none 0 w).mono ?_
    rintro e w' ⟨rfl, rfl⟩
    exact ⟨rfl, h, fun _ hb => hb⟩
  · obtain ⟨g, cap, rfl, hb, _, _, _, hl, hH⟩ := Lib.holds_of_ownsRow h hv
    subst hl
    refine (AnyE.slices_Reverse Try.lReverse (Value.int .u8) (fun _ => rfl) g 0 cap zs w hH hn).mono ?_
    rintro e w' ⟨rfl, q, rfl⟩
    refine ⟨rfl, ?_, fun w0 hw => Lib.below_putRow hw hb⟩
    have := Lib.ownsRow_putRow (q := q) h (ys := zs.reverse) (by simp) (Nat.le_refl _)
    rw [List.take_of_length_le (by simp)] at this
    exact this

/-- A row of bytes that the call owns, as a text. -/
theorem text_own {w : World} {B n : Nat} {v : Value} {zs : List Int} (h : w.ownsRow B 5 1 v n (zs.map (Value.int .u8))) :
    (convert 22 9 v).run Try.prog w = .ok (.string (strOfNums zs)) w := by
  by_cases hv : v = .slice none 0 0
  · have h0 : n = 0 := by
      rcases h.2 with ⟨_, h⟩ | ⟨g, cap, cur, h, _⟩
      · exact h
      · rw [h] at hv; cases hv
    have hz : zs = [] := List.eq_nil_of_length_eq_zero (by have := h.1; simp at this; omega)
    subst hz hv
    exact run_convert_bytes_nil (w := w) 22 5 Try.underlying22 Try.underlying5 0 0 9 Try.underlying9
  · obtain ⟨g, cap, rfl, hb, _, _, _, hl, hH⟩ := Lib.holds_of_ownsRow h hv
    subst hl
    refine run_convert_bytes_arg w 22 5 Try.underlying22 Try.underlying5 g 0 zs.length cap zs rfl (fun i hi => ?_) 9 Try.underlying9
    rw [(hH i (by simpa using hi)).1]
    simp [List.getD, hi]
end Go.Proofs.Ytpjhgokdkgnbdaa
