/- The walks of layer 7 (pic), part D: a sign more, by the program and by the document's answer. -/
import Derived.Test.YtpjhgokdkgnbdaaPicC
namespace Go.Proofs.Ytpjhgokdkgnbdaa
open Go.RowKit

/-- What a call leaves that hands back a text under way and a number. -/
def GivesPic (w : World) (r : PicL × Int) (e : Ending) (w' : World) : Prop := (∃ v, e = .returned (.tuple #[v, .int .i64 r.2]) ∧ PicAt w' v r.1) ∧ Below w.heap.size w w'

theorem holdS_no {p : PicL} {c : Int} (h : p.2 = false ∨ 130 ≤ p.1.length) : holdS p c = (p, -17) := by
  unfold holdS; rw [if_neg]; rintro ⟨h1, h2⟩; rcases h with h | h
  · rw [h1] at h; cases h
  · omega
theorem holdS_yes {p : PicL} {c : Int} (h : p.2 = true) (h1 : p.1.length < 130) : holdS p c = ((p.1 ++ [c % 256], true), 0) := by unfold holdS; rw [if_pos ⟨h, h1⟩]
theorem u8_wrap (c : Int) : IntKind.u8.wrap c = c % 256 := by simp [IntKind.wrap, IntKind.bits, IntKind.signed]

theorem rowAt_holds {w : World} {size n cap : Nat} {a : Option Addr} {xs : List Value} (h : RowAt w size (.slice a n cap) n xs) : ∀ b, a = some b → ∀ (j : Nat) (u : Value), xs[j]? = some u → w.cell? (b.add j) = some u := by
  obtain ⟨_, a', cap', e, _, _, hx⟩ := h
  cases e
  exact hx

/-- The facts on two blocks that were laid, in each world above. -/
theorem two_blocks {w w2 : World} {a b c d : Value} {t u : TypeId} (h : Below (w.heap.size + 2) ((w.alloc (.cells #[a, b] t)).alloc (.cells #[c, d] u)) w2) :
    w2.cell? ⟨w.heap.size, 0, none⟩ = some a ∧ w2.cell? ⟨w.heap.size, 1, none⟩ = some b ∧ w2.frozen? ⟨w.heap.size, 0, none⟩ = false ∧ w2.frozen? ⟨w.heap.size, 1, none⟩ = false ∧
    w2.cell? ⟨w.heap.size + 1, 0, none⟩ = some c ∧ w2.cell? ⟨w.heap.size + 1, 1, none⟩ = some d ∧ w2.frozen? ⟨w.heap.size + 1, 0, none⟩ = false ∧ w2.frozen? ⟨w.heap.size + 1, 1, none⟩ = false ∧ w.heap.size + 1 < w2.heap.size := by
  have hs := h.size
  simp at hs
  have k : ∀ i j, i < w.heap.size + 2 → w2.cell? ⟨i, j, none⟩ = ((w.alloc (.cells #[a, b] t)).alloc (.cells #[c, d] u)).cell? ⟨i, j, none⟩ := fun i j hi => h.cell (p := ⟨i, j, none⟩) hi
  have f : ∀ i j, i < w.heap.size + 2 → w2.frozen? ⟨i, j, none⟩ = ((w.alloc (.cells #[a, b] t)).alloc (.cells #[c, d] u)).frozen? ⟨i, j, none⟩ := fun i j hi => h.frozen (p := ⟨i, j, none⟩) hi
  refine ⟨?_, ?_, ?_, ?_, ?_, ?_, ?_, ?_, by omega⟩
  · rw [k _ _ (by omega), World.cell?_alloc_past _ _ _ (by simp), World.cell?_alloc_at _ _ _ _ rfl]; rfl
  · rw [k _ _ (by omega), World.cell?_alloc_past _ _ _ (by simp), World.cell?_alloc_at _ _ _ _ rfl]; rfl
  · rw [f _ _ (by omega), World.frozen?_alloc_past _ _ _ (by simp), World.frozen?_alloc_at _ _ _ _ rfl]
  · rw [f _ _ (by omega), World.frozen?_alloc_past _ _ _ (by simp), World.frozen?_alloc_at _ _ _ _ rfl]
  · rw [k _ _ (by omega), World.cell?_alloc_at _ _ _ _ (by simp)]; rfl
  · rw [k _ _ (by omega), World.cell?_alloc_at _ _ _ _ (by simp)]; rfl
  · rw [f _ _ (by omega), World.frozen?_alloc_at _ _ _ _ (by simp)]
  · rw [f _ _ (by omega), World.frozen?_alloc_at _ _ _ _ (by simp)]

/-- A text under way is stored into a variable of its kind. -/
theorem bytesAt_stored {w : World} {sl : Value} {xs : List Int} (h : BytesAt w sl xs) {b : Nat} {s0 : Value} {o0 : Bool} (h0 : w.cell? ⟨b, 0, none⟩ = some s0) (h1 : w.cell? ⟨b, 1, none⟩ = some (.bool o0)) (hs : ∀ x, s0 ≠ .int .u8 x) (x y : Value) :
    BytesAt ((w.setCell ⟨b, 0, none⟩ x).setCell ⟨b, 1, none⟩ y) sl xs :=
  bytesAt_setCell (bytesAt_setCell h h0 hs x) (u := .bool o0) (by rw [World.cell?_setCell_other (h := by simp)]; exact h1) (fun x hx => by cases hx) y

set_option maxRecDepth 100000 in
theorem pic_Hold (v : Value) (p : PicL) (c : Int) (w : World) (h : PicAt w v p) : Calls Try.prog 32 #[v, .int .i64 c] w (GivesPic w (holdS p c)) := by
  obtain ⟨sl, rfl, hs⟩ := h
  obtain ⟨xs, on⟩ := p
  have b0 := fun o1 o2 => ((Below.refl w.heap.size w).alloc (Nat.le_refl _) o1).alloc (by simp) o2
  obtain ⟨a, cap, rfl, hnone, hcap⟩ := bytesAt_size hs
  have HS := Lib.hid hs
  clear hs
  cases on with
  | false =>
    have E := Lib.hid (holdS_no (p := (xs, false)) (c := c) (.inl rfl))
    go_enter Try.func32, Try.ntmps32
    go_wp2
    refine bodyPost_ret (v := .tuple #[.agg #[.slice a xs.length cap, .bool false], .int .i64 (-17)]) (by simp [results, Try.results32, go_sem]) rfl ?_
    rw [E.out]
    exact ⟨⟨_, rfl, _, rfl, bytesAt_below HS.out (b0 _ _)⟩, b0 _ _⟩
  | true =>
    by_cases hf : 130 ≤ xs.length
    · have E := Lib.hid (holdS_no (p := (xs, true)) (c := c) (.inr hf))
      have t : decide ((130 : Int) ≤ (xs.length : Int)) = true := by simp; omega
      clear hf
      go_enter Try.func32, Try.ntmps32
      go_wp2
      refine bodyPost_ret (v := .tuple #[.agg #[.slice a xs.length cap, .bool true], .int .i64 (-17)]) (by simp [results, Try.results32, go_sem]) rfl ?_
      rw [E.out]
      exact ⟨⟨_, rfl, _, rfl, bytesAt_below HS.out (b0 _ _)⟩, b0 _ _⟩
    · have E := Lib.hid (holdS_yes (p := (xs, true)) (c := c) rfl (by simpa using hf))
      obtain ⟨i0, hi, hz0, hz1, hz2⟩ := info_parts info8
      have hlt : (xs.length : Int) ≤ 129 := by omega
      have t : decide ((130 : Int) ≤ (xs.length : Int)) = false := by simp; omega
      have HCW := Lib.hid (u8_wrap c)
      have HN := Lib.hid hnone
      clear hf hnone
      go_enter Try.func32, Try.ntmps32
      go_wp2_with (at_builtin; refine wpList_append_grows _ rfl _ _ 22 rfl 5 i0 (.int .u8 0) 1 1 Try.underlying22 hi hz0 hz1 hz2 rfl (by decide) a xs.length xs.length (xs.map (Value.int .u8)) rfl ?h1 ?h2 ?h3 ⟨w.heap.size + 1 + 1, 0, none⟩ 1 1 [.int .u8 (c % 256)] rfl rfl ?h4 ?h5 ?h6 ?h7 ?h8 ?_)
      case h1 => intro h; first | exact (HN.out h).1 | exact List.eq_nil_of_length_eq_zero (HN.out h).1
      case h3 => intro b hb j u hj; exact rowAt_holds (rowAt_below HS.out.1 ((b0 _ _).alloc (by simp; omega) _)) b hb j _ (by rw [List.getElem?_map, hj]; rfl)
      case h5 => simp [Value.oneCell']
      case h7 => unfold maxLen; omega
      case h8 => omega
      intro v' w2 hown hgrow
      have hbel : Below (w.heap.size + 2) ((w.alloc (.cells #[.slice a xs.length cap, .bool true] 24)).alloc (.cells #[.slice none 0 0, .bool false] 24)) w2 := ((Below.refl _ _).alloc (by simp) _).grown hgrow (by simp) (fun k hk => by cases hk)
      have hown2 : w2.ownsRow (w.heap.size + 2) 5 1 v' (xs ++ [c % 256]).length ((xs ++ [c % 256]).map (Value.int .u8)) := by
        rw [List.map_append, List.length_append]; exact own_base hown (by simp)
      have hrng : ∀ x ∈ xs ++ [c % 256], 0 ≤ x ∧ x < 256 := fun x hx => by
        rcases List.mem_append.1 hx with h | h
        · exact HS.out.2 x h
        · simp at h; omega
      obtain ⟨k0, k1, k2, k3, k4, k5, k6, k7, k8⟩ := two_blocks hbel
      obtain ⟨a2, cap2, hv, _, _⟩ := bytesAt_size ⟨own_rowAt hown2, hrng⟩
      obtain ⟨n2, hn2⟩ : ∃ n2, (xs ++ [c % 256]).length = n2 := ⟨_, rfl⟩
      rw [hn2] at hv
      rw [hv] at hown2 ⊢
      have HN2 := Lib.hid hn2
      clear hv hn2
      have HO := Lib.hid hown2
      have HR := Lib.hid hrng
      have HBL := Lib.hid hbel
      clear hown hown2 hgrow hrng hbel
      go_wp2
      refine bodyPost_ret (v := .tuple #[.agg #[.slice a2 n2 cap2, .bool true], .int .i64 0]) (by simp [results, Try.results32, go_sem, k4, k5]) rfl ?_
      rw [E.out]
      have o3 := ownsRow_setCell_below (ownsRow_setCell_below (ownsRow_setCell_below HO.out (a := ⟨w.heap.size, 0, none⟩) (by simp) (.slice a2 n2 cap2)) (a := ⟨w.heap.size + 1, 0, none⟩) (by simp) (.slice a2 n2 cap2)) (a := ⟨w.heap.size + 1, 1, none⟩) (by simp) (.bool true)
      have r3 := own_rowAt o3
      rw [HN2.out] at r3
      refine ⟨⟨_, rfl, _, rfl, by rw [← HN2.out] at r3 ⊢; exact r3, HR.out⟩, ?_⟩
      exact ((((b0 _ _).trans (HBL.out.mono (by omega))).setCell (by simp) _).setCell (by simp) _).setCell (by simp) _
end Go.Proofs.Ytpjhgokdkgnbdaa
