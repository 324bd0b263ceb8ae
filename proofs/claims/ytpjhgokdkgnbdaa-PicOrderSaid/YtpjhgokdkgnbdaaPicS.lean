/- Arguments of layer 7's statements; what is carried from call to call. -/
import Derived.Test.YtpjhgokdkgnbdaaPicL
import Derived.Test.YtpjhgokdkgnbdaaOpen
namespace Go.Proofs.Ytpjhgokdkgnbdaa
open Go.RowKit Go.ChangeShapes

theorem cellsOf_pic : Try.prog.cellsOf 24 = 2 := by kernel_rfl
theorem cellsOf_bytes : Try.prog.cellsOf 22 = 1 := by kernel_rfl
theorem rd_pic {w : World} {cs : List Value} (h : Rd w 24 cs) : ∃ (a : Option Addr) (cap : Nat) (p : PicL), cs = [.slice a p.1.length cap, .bool p.2] ∧ BytesAt w (.slice a p.1.length cap) p.1 ∧ p.1.length ≤ 9223372036854775807 := by
  have hl := rd_len Try.underlying24 h
  rw [cellsOf_pic] at hl
  obtain ⟨a, b, rfl⟩ := two_list hl
  have f0 := rd_field1 Try.underlying24 h 0 _ rfl cellsOf_bytes a rfl
  have f1 := rd_field1 Try.underlying24 h 1 _ rfl cellsOf_bool b rfl
  obtain ⟨on, h1⟩ := rd_bool Try.underlying4 f1
  cases h1
  have hm : ∃ x len cap, a = .slice x len cap ∧ len ≤ 9223372036854775807 := by
    rcases rd_slice Try.underlying22 f0 with h0 | ⟨x, len, cap, h0, h2, h3, _⟩
    · cases h0; exact ⟨_, _, _, rfl, by omega⟩
    · cases h0; exact ⟨_, _, _, rfl, max_len (Nat.le_trans h2 h3)⟩
  obtain ⟨x, len, cap, rfl, hlen⟩ := hm
  obtain ⟨zs, hz⟩ := rd_ints Try.underlying22 Try.underlying5 cellsOf_uint8 f0
  obtain ⟨xs, rfl, hx⟩ := ints_bytes hz
  exact ⟨x, cap, (xs, on), rfl, hx, hlen⟩
theorem reads_pic {w : World} {v : Value} (h : Reads w 24 v) : ∃ (a : Option Addr) (cap : Nat) (p : PicL), v = .agg #[.slice a p.1.length cap, .bool p.2] ∧ BytesAt w (.slice a p.1.length cap) p.1 ∧ p.1.length ≤ 9223372036854775807 := by
  obtain ⟨cs, rfl, _, hr⟩ := reads_struct Try.underlying24 h
  obtain ⟨a, cap, p, h1, h2, h3⟩ := rd_pic hr
  exact ⟨a, cap, p, by rw [agg_list h1], h2, h3⟩

theorem picAt_hid {w : World} {v : Value} {p : PicL} (h : PicAt w v p) : ∃ a cap, v = .agg #[.slice a p.1.length cap, .bool p.2] ∧ Hid (BytesAt w (.slice a p.1.length cap) p.1) := by
  obtain ⟨a, cap, h1, h2⟩ := picAt_form h
  exact ⟨a, cap, h1, Lib.hid h2⟩
theorem hid_drew {w : World} {sl : Value} {xs : List Int} (h : Hid (BytesAt w sl xs)) : Hid (BytesAt w.drew sl xs) := hid_below h (Below.refl _ _).drew
theorem keptDrew {w : World} {b : Nat} {x y : Value} (k : w.cell? ⟨b, 0, none⟩ = some x ∧ w.cell? ⟨b, 1, none⟩ = some y ∧ b < w.heap.size) : w.drew.cell? ⟨b, 0, none⟩ = some x ∧ w.drew.cell? ⟨b, 1, none⟩ = some y ∧ b < w.drew.heap.size := k
theorem hidAt {w : World} {a : Option Addr} {cap : Nat} {p : PicL} (h : Hid (BytesAt w (.slice a p.1.length cap) p.1)) : PicAt w (.agg #[.slice a p.1.length cap, .bool p.2]) p := ⟨_, rfl, h.out⟩
/-- Two variables that hold a text each, behind a call. -/
theorem kept2 {w w' : World} {B : Nat} {x y x' y' : Value} {t u : TypeId} (h : Below B ((w.alloc (.cells #[x, y] t)).alloc (.cells #[x', y'] u)) w') (hB : w.heap.size + 2 ≤ B) :
    (w'.cell? ⟨w.heap.size, 0, none⟩ = some x ∧ w'.cell? ⟨w.heap.size, 1, none⟩ = some y ∧ w.heap.size < w'.heap.size) ∧ w'.cell? ⟨w.heap.size + 1, 0, none⟩ = some x' ∧ w'.cell? ⟨w.heap.size + 1, 1, none⟩ = some y' ∧ w.heap.size + 1 < w'.heap.size := by
  obtain ⟨k0, k1, k2, k3, k4, k5, k6, k7, k8⟩ := two_blocks (h.mono hB)
  exact ⟨⟨k0, k1, by omega⟩, k4, k5, k8⟩
theorem rightS_len {p : PicL} (h : rightS p = true) : p.1.length ≤ 130 := by
  unfold rightS at h; simp only [Bool.and_eq_true, decide_eq_true_eq] at h; exact h.1
end Go.Proofs.Ytpjhgokdkgnbdaa
