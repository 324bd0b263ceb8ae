/- The walks of layer 7 (pic), part E: a sign more, by the document's answer; a minus more. -/
import Derived.Test.YtpjhgokdkgnbdaaPicD
import Derived.Laws.AppendOwnNone
namespace Go.Proofs.Ytpjhgokdkgnbdaa
open Go.RowKit

/-- An empty row that was just made, behind two blocks. -/
theorem made2 (w : World) (o1 o2 : Obj) : (((w.alloc o1).alloc o2).alloc (.cells #[] 5)).ownsRow (w.heap.size + 2) 5 1 (.slice (some ⟨w.heap.size + 1 + 1, 0, none⟩) 0 0) 0 [] := by
  have := World.ownsRow_made (base := w.heap.size + 2) (e := 5) (size := 1) ((w.alloc o1).alloc o2) #[] 0 (by simp) (Nat.zero_le _) rfl
  simpa using this

set_option maxRecDepth 100000 in
set_option maxHeartbeats 1000000 in
theorem ref_Hold (v : Value) (p : PicL) (c : Int) (w : World) (h : PicAt w v p) : Calls Try.prog 33 #[v, .int .i64 c] w (GivesPic w (holdS p c)) := by
  obtain ⟨sl, rfl, hs⟩ := h
  obtain ⟨xs, on⟩ := p
  have b0 := fun o1 o2 => ((Below.refl w.heap.size w).alloc (Nat.le_refl _) o1).alloc (by simp) o2
  obtain ⟨a, cap, rfl, hnone, hcap⟩ := bytesAt_size hs
  have HS := Lib.hid hs
  clear hs
  cases on with
  | false =>
    have E := Lib.hid (holdS_no (p := (xs, false)) (c := c) (.inl rfl))
    go_enter Try.func33, Try.ntmps33
    go_wp2
    refine bodyPost_ret (v := .tuple #[.agg #[.slice a xs.length cap, .bool false], .int .i64 (-17)]) (by simp [results, Try.results33, go_sem]) rfl ?_
    rw [E.out]
    exact ⟨⟨_, rfl, _, rfl, bytesAt_below HS.out (b0 _ _)⟩, b0 _ _⟩
  | true =>
    by_cases hf : 130 ≤ xs.length
    · have E := Lib.hid (holdS_no (p := (xs, true)) (c := c) (.inr hf))
      have t : decide ((130 : Int) ≤ (xs.length : Int)) = true := by simp; omega
      clear hf
      go_enter Try.func33, Try.ntmps33
      go_wp2
      refine bodyPost_ret (v := .tuple #[.agg #[.slice a xs.length cap, .bool true], .int .i64 (-17)]) (by simp [results, Try.results33, go_sem]) rfl ?_
      rw [E.out]
      exact ⟨⟨_, rfl, _, rfl, bytesAt_below HS.out (b0 _ _)⟩, b0 _ _⟩
    · have E := Lib.hid (holdS_yes (p := (xs, true)) (c := c) rfl (by simpa using hf))
      obtain ⟨i0, hi, hz0, hz1, hz2⟩ := info_parts info8
      have hlt : (xs.length : Int) ≤ 129 := by omega
      have t : decide ((130 : Int) ≤ (xs.length : Int)) = false := by simp; omega
      clear hf
      match a with
      | none =>
        obtain ⟨hx0, rfl⟩ := hnone rfl
        obtain rfl : xs = [] := List.eq_nil_of_length_eq_zero hx0
        clear hnone hx0
        simp only [List.length_nil, List.nil_append] at *
        have hmade := made2 w (.cells #[.slice none 0 0, .bool true] 24) (.cells #[.slice none 0 0, .bool false] 24)
        go_enter Try.func33, Try.ntmps33
        go_wp2_with (first
          | (at_builtin; refine wpList_append_own_none rfl _ _ 22 rfl (w.heap.size + 2) 5 i0 1 Try.underlying22 hi _ 0 [] rfl hmade rfl ?_)
          | (at_builtin; refine wpList_append_own _ rfl _ _ 22 rfl (w.heap.size + 2) 5 i0 (.int .u8 0) 1 1 Try.underlying22 hi hz0 hz1 hz2 rfl (by decide) _ _ _ rfl (hmade.alloc _) ⟨w.heap.size + 1 + 1 + 1, 0, none⟩ 1 1 [.int .u8 (c % 256)] rfl rfl ?h1 ?h2 ?h3 ?h4 ?h5 ?_))
        case h1 =>
          rw [show w.heap.size + 1 + 1 + 1 = (((w.alloc (.cells #[.slice none 0 0, .bool true] 24)).alloc (.cells #[.slice none 0 0, .bool false] 24)).alloc (.cells #[] 5)).heap.size from by simp]
          exact cell_one_new _ _ _
        case h2 => simp [Value.oneCell']
        case h3 => unfold maxLen; omega
        case h4 => omega
        case h5 => simp
        intro v' w2 hown hgrow _
        have hbel : Below (w.heap.size + 2) ((w.alloc (.cells #[.slice none 0 0, .bool true] 24)).alloc (.cells #[.slice none 0 0, .bool false] 24)) w2 := (((Below.refl _ _).alloc (by simp) _).alloc (by simp) _).grown hgrow (by simp) (fun k hk => by simp [Value.ownBlock] at hk; omega)
        have hown2 : w2.ownsRow (w.heap.size + 2) 5 1 v' ([] ++ [c % 256]).length (([] ++ [c % 256]).map (Value.int .u8)) := hown
        have hrng : ∀ x ∈ [] ++ [c % 256], 0 ≤ x ∧ x < 256 := fun x hx => by simp at hx; omega
        obtain ⟨k0, k1, k2, k3, k4, k5, k6, k7, k8⟩ := two_blocks hbel
        obtain ⟨a2, cap2, hv, _, _⟩ := bytesAt_size ⟨own_rowAt hown2, hrng⟩
        obtain ⟨n2, hn2⟩ : ∃ n2, (([] : List Int) ++ [c % 256]).length = n2 := ⟨_, rfl⟩
        rw [hn2] at hv
        rw [hv] at hown2 ⊢
        have HN2 := Lib.hid hn2
        clear hv hn2
        have HO := Lib.hid hown2
        have HR := Lib.hid hrng
        have HBL := Lib.hid hbel
        clear hown hown2 hgrow hrng hbel
        go_wp2
        refine bodyPost_ret (v := .tuple #[.agg #[.slice a2 n2 cap2, .bool true], .int .i64 0]) (by simp [results, Try.results33, go_sem, k4, k5]) rfl ?_
        rw [E.out]
        have o3 := ownsRow_setCell_below (ownsRow_setCell_below HO.out (a := ⟨w.heap.size + 1, 0, none⟩) (by simp) (.slice a2 n2 cap2)) (a := ⟨w.heap.size + 1, 1, none⟩) (by simp) (.bool true)
        have r3 := own_rowAt o3
        rw [HN2.out] at r3
        refine ⟨⟨_, rfl, _, rfl, by rw [← HN2.out] at r3 ⊢; exact r3, HR.out⟩, ?_⟩
        exact (((b0 _ _).trans (HBL.out.mono (by omega))).setCell (by simp) _).setCell (by simp) _
      | some ad =>
        clear hnone
        have hmade := made2 w (.cells #[.slice (some ad) xs.length cap, .bool true] 24) (.cells #[.slice none 0 0, .bool false] 24)
        have hsrc := rowAt_holds (rowAt_below HS.out.1 ((b0 (.cells #[.slice (some ad) xs.length cap, .bool true] 24) (.cells #[.slice none 0 0, .bool false] 24)).alloc (by simp; omega) (.cells #[] 5))) ad rfl
        have HSR := Lib.hid hsrc
        clear hsrc
        go_enter Try.func33, Try.ntmps33
        go_wp2_with (at_builtin; refine wpList_append_own _ rfl _ _ 22 rfl (w.heap.size + 2) 5 i0 (.int .u8 0) 1 1 Try.underlying22 hi hz0 hz1 hz2 rfl (by decide) _ _ _ rfl hmade ad xs.length cap (xs.map (Value.int .u8)) rfl ?h1 ?h2 ?h3 ?h4 ?h5 ?h6 ?_)
        case h2 => intro j u hj; exact HSR.out j _ (by rw [List.getElem?_map, hj]; rfl)
        case h3 => simp [Value.oneCell']
        case h4 => unfold maxLen; omega
        case h5 => omega
        intro v1 w1 hown1 hgrow1 _
        have hbel1 : Below (w.heap.size + 2) ((w.alloc (.cells #[.slice (some ad) xs.length cap, .bool true] 24)).alloc (.cells #[.slice none 0 0, .bool false] 24)) w1 := ((Below.refl _ _).alloc (by simp) _).grown hgrow1 (by simp) (fun k hk => by simp [Value.ownBlock] at hk; omega)
        clear hgrow1 hmade
        go_wp2_with (at_builtin; refine wpList_append_own _ rfl _ _ 22 rfl (w.heap.size + 2) 5 i0 (.int .u8 0) 1 1 Try.underlying22 hi hz0 hz1 hz2 rfl (by decide) _ _ _ rfl (hown1.alloc _) ⟨w1.heap.size, 0, none⟩ 1 1 [.int .u8 (c % 256)] rfl rfl ?g1 ?g2 ?g3 ?g4 ?g5 ?_)
        case g1 => exact cell_one_new _ _ _
        case g2 => simp [Value.oneCell']
        case g3 => unfold maxLen; omega
        case g4 => omega
        case g5 => have := hbel1.size; simp at this ⊢; omega
        intro v' w2 hown hgrow _
        have hbel : Below (w.heap.size + 2) ((w.alloc (.cells #[.slice (some ad) xs.length cap, .bool true] 24)).alloc (.cells #[.slice none 0 0, .bool false] 24)) w2 := (hbel1.alloc (by have := hbel1.size; simp at this; omega) _).grown hgrow (by have := hbel1.size; simp at this ⊢; omega) (own_low hown1)
        have hown2 : w2.ownsRow (w.heap.size + 2) 5 1 v' (xs ++ [c % 256]).length ((xs ++ [c % 256]).map (Value.int .u8)) := by
          rw [List.map_append, List.length_append]; exact hown
        have hrng : ∀ x ∈ xs ++ [c % 256], 0 ≤ x ∧ x < 256 := fun x hx => by
          rcases List.mem_append.1 hx with h | h
          · exact HS.out.2 x h
          · simp at h; omega
        obtain ⟨k0, k1, k2, k3, k4, k5, k6, k7, k8⟩ := two_blocks hbel
        obtain ⟨a2, cap2, hv, _, _⟩ := bytesAt_size ⟨own_rowAt hown2, hrng⟩
        obtain ⟨n2, hn2⟩ : ∃ n2, (xs ++ [c % 256]).length = n2 := ⟨_, rfl⟩
        rw [hn2] at hv
        rw [hv] at hown2 ⊢
        have HN2 := Lib.hid hn2
        clear hv hn2
        have HO := Lib.hid hown2
        have HR := Lib.hid hrng
        have HBL := Lib.hid hbel
        clear hown hown1 hown2 hbel1 hgrow hrng hbel
        go_wp2
        refine bodyPost_ret (v := .tuple #[.agg #[.slice a2 n2 cap2, .bool true], .int .i64 0]) (by simp [results, Try.results33, go_sem, k4, k5]) rfl ?_
        rw [E.out]
        have o3 := ownsRow_setCell_below (ownsRow_setCell_below HO.out (a := ⟨w.heap.size + 1, 0, none⟩) (by simp) (.slice a2 n2 cap2)) (a := ⟨w.heap.size + 1, 1, none⟩) (by simp) (.bool true)
        have r3 := own_rowAt o3
        rw [HN2.out] at r3
        refine ⟨⟨_, rfl, _, rfl, by rw [← HN2.out] at r3 ⊢; exact r3, HR.out⟩, ?_⟩
        exact (((b0 _ _).trans (HBL.out.mono (by omega))).setCell (by simp) _).setCell (by simp) _

def signP (p : PicL) (n : Int) : PicL × Int := if 0 ≤ n then (p, 0) else holdS p 45

theorem pic_Sign (v : Value) (p : PicL) (n : Int) (w : World) (h : PicAt w v p) : Calls Try.prog 38 #[v, .int .i64 n] w (GivesPic w (signP p n)) := by
  have b0 := fun o1 o2 => ((Below.refl w.heap.size w).alloc (Nat.le_refl _) o1).alloc (by simp) o2
  have hs := h
  obtain ⟨sl, rfl, hsl⟩ := h
  by_cases h0 : 0 ≤ n
  · have e : signP p n = (p, 0) := by unfold signP; rw [if_pos h0]
    have E := Lib.hid e
    have HS := Lib.hid hsl
    obtain ⟨a, cap, rfl, _, _⟩ := bytesAt_size hsl
    have t : decide (0 ≤ n) = true := by simp [h0]
    clear e hsl hs
    go_enter Try.func38, Try.ntmps38
    go_wp2
    refine bodyPost_ret (v := .tuple #[.agg #[.slice a p.1.length cap, .bool p.2], .int .i64 0]) (by simp [results, Try.results38, go_sem]) rfl ?_
    rw [E.out]
    exact ⟨⟨_, rfl, _, rfl, bytesAt_below HS.out (b0 _ _)⟩, b0 _ _⟩
  · have e : signP p n = holdS p 45 := by unfold signP; rw [if_neg h0]
    have E := Lib.hid e
    have HH := Lib.hid (fun o1 o2 => pic_Hold _ p 45 ((w.alloc o1).alloc o2) (picAt_below hs (b0 o1 o2)))
    have t : decide (0 ≤ n) = false := by simp; omega
    obtain ⟨q, k, hq⟩ : ∃ q k, holdS p 45 = (q, k) := ⟨_, _, rfl⟩
    rw [hq] at E HH
    clear e hsl hs hq
    go_enter Try.func38, Try.ntmps38
    go_wp2_with fail
    refine (HH.out _ _).mono ?_
    rintro e w1 ⟨⟨v1, rfl, hp1⟩, hb1⟩
    obtain ⟨a1, cap1, rfl, hs1⟩ := picAt_form hp1
    obtain ⟨k0, k1, k2, k3, k4, k5, k6, k7, k8⟩ := two_blocks (hb1.mono (by simp))
    have c1 := (b0 _ _).trans (hb1.mono (b0 _ _).size)
    have HS1 := Lib.hid hs1
    have HB1 := Lib.hid hb1
    clear hs1 hb1 b0 hp1
    go_wp2
    refine bodyPost_ret (v := .tuple #[.agg #[.slice a1 q.1.length cap1, .bool q.2], .int .i64 k]) (by simp [results, Try.results38, go_sem, k4, k5]) rfl ?_
    rw [E.out]
    exact ⟨⟨_, rfl, _, rfl, bytesAt_stored HS1.out k4 k5 (fun x hx => by cases hx) _ _⟩, (c1.setCell (by simp) _).setCell (by simp) _⟩

theorem ref_Sign (v : Value) (p : PicL) (n : Int) (w : World) (h : PicAt w v p) : Calls Try.prog 39 #[v, .int .i64 n] w (GivesPic w (signP p n)) := by
  have b0 := fun o1 o2 => ((Below.refl w.heap.size w).alloc (Nat.le_refl _) o1).alloc (by simp) o2
  have hs := h
  obtain ⟨sl, rfl, hsl⟩ := h
  by_cases h0 : 0 ≤ n
  · have e : signP p n = (p, 0) := by unfold signP; rw [if_pos h0]
    have E := Lib.hid e
    have HS := Lib.hid hsl
    obtain ⟨a, cap, rfl, _, _⟩ := bytesAt_size hsl
    have t : decide (0 ≤ n) = true := by simp [h0]
    clear e hsl hs
    go_enter Try.func39, Try.ntmps39
    go_wp2
    refine bodyPost_ret (v := .tuple #[.agg #[.slice a p.1.length cap, .bool p.2], .int .i64 0]) (by simp [results, Try.results39, go_sem]) rfl ?_
    rw [E.out]
    exact ⟨⟨_, rfl, _, rfl, bytesAt_below HS.out (b0 _ _)⟩, b0 _ _⟩
  · have e : signP p n = holdS p 45 := by unfold signP; rw [if_neg h0]
    have E := Lib.hid e
    have HH := Lib.hid (fun o1 o2 => ref_Hold _ p 45 ((w.alloc o1).alloc o2) (picAt_below hs (b0 o1 o2)))
    have t : decide (0 ≤ n) = false := by simp; omega
    obtain ⟨q, k, hq⟩ : ∃ q k, holdS p 45 = (q, k) := ⟨_, _, rfl⟩
    rw [hq] at E HH
    clear e hsl hs hq
    go_enter Try.func39, Try.ntmps39
    go_wp2_with fail
    refine (HH.out _ _).mono ?_
    rintro e w1 ⟨⟨v1, rfl, hp1⟩, hb1⟩
    obtain ⟨a1, cap1, rfl, hs1⟩ := picAt_form hp1
    obtain ⟨k0, k1, k2, k3, k4, k5, k6, k7, k8⟩ := two_blocks (hb1.mono (by simp))
    have c1 := (b0 _ _).trans (hb1.mono (b0 _ _).size)
    have HS1 := Lib.hid hs1
    have HB1 := Lib.hid hb1
    clear hs1 hb1 b0 hp1
    go_wp2
    refine bodyPost_ret (v := .tuple #[.agg #[.slice a1 q.1.length cap1, .bool q.2], .int .i64 k]) (by simp [results, Try.results39, go_sem, k4, k5]) rfl ?_
    rw [E.out]
    exact ⟨⟨_, rfl, _, rfl, bytesAt_stored HS1.out k4 k5 (fun x hx => by cases hx) _ _⟩, (c1.setCell (by simp) _).setCell (by simp) _⟩
end Go.Proofs.Ytpjhgokdkgnbdaa
