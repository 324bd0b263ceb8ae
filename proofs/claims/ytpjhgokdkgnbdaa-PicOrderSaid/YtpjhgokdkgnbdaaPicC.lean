/- The walks of layer 7 (pic), part C: a copy of bytes; a text's signs. By the program and by the document's answer. -/
import Derived.Test.YtpjhgokdkgnbdaaPicB
import Derived.Lib.SliceRun
namespace Go.Proofs.Ytpjhgokdkgnbdaa
open Go.RowKit

/-- slices.Clone of bytes, whoever made them. -/
theorem clone_at (w : World) (sl : Value) (xs : List Int) (h : BytesAt w sl xs) (hl : xs.length ≤ 140737488355328) :
    Calls Try.prog 71 #[sl] w fun e w' => ∃ v', e = .returned v' ∧ w'.ownsRow w.heap.size 5 1 v' xs.length (xs.map (Value.int .u8)) ∧ Below w.heap.size w w' := by
  obtain ⟨⟨hlen, a, cap, rfl, hn, hc, hx⟩, _⟩ := h
  match a with
  | none =>
    obtain ⟨h0, rfl⟩ := hn rfl
    refine (AnyE.slices_Clone_nil Try.lClone xs.length 0 w).mono ?_
    rintro e w' ⟨rfl, rfl⟩
    have hx0 : xs = [] := List.eq_nil_of_length_eq_zero h0
    subst hx0
    exact ⟨_, rfl, ⟨rfl, .inl ⟨rfl, rfl⟩⟩, Below.refl _ _⟩
  | some ad =>
    obtain ⟨i0, hi, hz0, hz1, hz2⟩ := info_parts info8
    have q22 : ∀ (w : World) (a : Option Addr) (n c n' c' : Nat), (binOp .eql 22 (.slice a n c) (.slice none n' c')).run Try.prog w = .ok (.bool a.isNone) w := fun w a n c n' c' => Lib.run_eql_slice_nil w _ _ a n c n' c' Try.underlying22
    have HX := Lib.hid (hx ad rfl)
    have HL := Lib.hid hlen
    clear hx hlen
    go_enter Try.func71, Try.ntmps71
    go_wp2_with (at_builtin; refine wpList_append_own _ rfl _ _ 22 rfl w.heap.size 5 i0 (.int .u8 0) 1 1 Try.underlying22 hi hz0 hz1 hz2 rfl (by decide) _ _ _ rfl (World.ownsRow_made w #[] 0 (Nat.le_refl _) (Nat.zero_le _) (by simp)) ad xs.length cap (xs.map (Value.int .u8)) rfl ?qc1 ?qc2 ?qc3 ?qc4 ?qc5 ?qc6 ?_)
    case qc1 => exact HL.out
    case qc2 => intro j u hj; exact Lib.cell?_alloc_some _ (HX.out j u hj)
    case qc3 => simp [Value.oneCell']
    case qc4 => unfold maxLen; omega
    case qc5 => omega
    case qc6 => simp
    intro v' w1 hown hgrow _
    go_wp2
    go_ret
    refine ⟨v', rfl, by simpa using hown, ?_⟩
    exact ((Below.refl _ w).alloc (Nat.le_refl _) _).grown hgrow (by simp) (by intro k hk; simp [Value.ownBlock] at hk; omega)

def endS (p : PicL) : List UInt8 × Int := if p.2 then ((p.1.map (fun n => UInt8.ofNat n.toNat)).reverse, 0) else ([], -17)
theorem end_text (xs : List Int) : strOfNums xs.reverse = ⟨((xs.map (fun n => UInt8.ofNat n.toNat)).reverse).toArray⟩ := by unfold strOfNums; rw [List.map_reverse]
theorem drop_rev (xs : List Int) (k : Nat) (h : k < xs.length) : (xs.drop k).reverse = (xs.drop (k + 1)).reverse ++ [xs.getD k 0] := by
  rw [List.drop_eq_getElem_cons h, List.reverse_cons]; simp [List.getD, h]

theorem pic_End (v : Value) (p : PicL) (w : World) (h : PicAt w v p) (hl : p.1.length ≤ 140737488355328) : Calls Try.prog 30 #[v] w fun e w' => e = .returned (.tuple #[.string ⟨(endS p).1.toArray⟩, .int .i64 (endS p).2]) ∧ Below w.heap.size w w' := by
  obtain ⟨sl, rfl, hs⟩ := h
  obtain ⟨xs, on⟩ := p
  have b0 := fun o => (Below.refl w.heap.size w).alloc (Nat.le_refl _) o
  cases on with
  | false =>
    go_enter Try.func30, Try.ntmps30
    go_wp2
    go_ret2
    exact ⟨rfl, b0 _⟩
  | true =>
    have hC := fun o => clone_at (w.alloc o) sl xs (bytesAt_below hs (b0 o)) hl
    have HC := Lib.hid hC
    have HL := Lib.hid hl
    clear hC hs hl
    go_enter Try.func30, Try.ntmps30
    go_wp2_with fail
    refine (HC.out _).mono ?_
    rintro e w1 ⟨v', rfl, hown, hb1⟩
    have c1 := (b0 _).trans (hb1.mono (b0 _).size)
    have hown1 := own_base hown (b0 _).size
    have HR := Lib.hid (rev_own w1 _ v' _ xs hown1 (Nat.le_trans HL.out (by omega)))
    clear hown hown1 hb1 b0
    go_wp2_with fail
    refine HR.out.mono ?_
    rintro e w2 ⟨rfl, hown2, hb2⟩
    have c2 := hb2 w c1
    have hcv := text_own hown2
    rw [end_text] at hcv
    clear hown2 hb2 c1 HR
    go_wp2
    go_ret2
    exact ⟨rfl, c2⟩

set_option maxHeartbeats 1000000 in
theorem ref_End (v : Value) (p : PicL) (w : World) (h : PicAt w v p) (hl : p.1.length ≤ 140737488355327) : Calls Try.prog 31 #[v] w fun e w' => e = .returned (.tuple #[.string ⟨(endS p).1.toArray⟩, .int .i64 (endS p).2]) ∧ Below w.heap.size w w' := by
  obtain ⟨sl, rfl, hs⟩ := h
  obtain ⟨xs, on⟩ := p
  have b0 := fun o => (Below.refl w.heap.size w).alloc (Nat.le_refl _) o
  cases on with
  | false =>
    go_enter Try.func31, Try.ntmps31
    go_wp2
    go_ret2
    exact ⟨rfl, b0 _⟩
  | true =>
    obtain ⟨i0, hi, hz0, hz1, hz2⟩ := info_parts info8
    by_cases h0 : xs = []
    · subst h0
      obtain ⟨a, cap, rfl, _, _⟩ := bytesAt_size hs
      simp only [List.length_nil] at hs ⊢
      clear hs hl
      go_enter Try.func31, Try.ntmps31
      go_wp2_with fail
      go_loopw [4, 5] (fun v i wr => v = .slice none 0 0 ∧ i = .int .i64 (-1) ∧ wr = w.alloc (.cells #[.slice a 0 cap, .bool true] 24)) (fun _ _ _ => 0)
      case atStart => exact ⟨rfl, rfl, rfl⟩
      case round =>
        obtain ⟨rfl, rfl, rfl⟩ := hrel
        have hcv := text_at (bytesAt_nil (w.alloc (.cells #[.slice a 0 cap, .bool true] 24)))
        rw [show strOfNums [] = ⟨#[]⟩ from rfl] at hcv
        go_wp2
        go_ret2
        exact ⟨rfl, b0 _⟩
    · obtain ⟨b, o, cap, rfl, hnc, hbl, hcell⟩ := rowAt_lit hs.1 (by simpa using h0)
      have hn0 : 0 < xs.length := by rcases Nat.eq_zero_or_pos xs.length with h | h
                                     · exact absurd (List.eq_nil_of_length_eq_zero h) h0
                                     · exact h
      have HC := Lib.hid hcell
      simp only at hl
      clear hcell hs h0
      have hb1 : Below (w.heap.size + 1) (w.alloc (.cells #[.slice (some ⟨b, o, none⟩) xs.length cap, .bool true] 24)) (w.alloc (.cells #[.slice (some ⟨b, o, none⟩) xs.length cap, .bool true] 24)) := Below.refl _ _
      have hbox : (w.alloc (.cells #[.slice (some ⟨b, o, none⟩) xs.length cap, .bool true] 24)).cell? ⟨w.heap.size, 0, none⟩ = some (.slice (some ⟨b, o, none⟩) xs.length cap) := World.cell?_alloc_at _ _ _ _ rfl
      have hcell2 : ∀ j, j < xs.length → (w.alloc (.cells #[.slice (some ⟨b, o, none⟩) xs.length cap, .bool true] 24)).cell? ⟨b, o + j, none⟩ = some (.int .u8 (xs.getD j 0)) := fun j hj => by
        rw [World.cell?_alloc_past _ _ _ hbl]; exact HC.out j _ (by simp [List.getD, hj])
      have HBX := Lib.hid hbox
      have HC2 := Lib.hid hcell2
      clear hbox hcell2
      go_enter Try.func31, Try.ntmps31
      go_wp2_with fail
      go_loopw [4, 5] (fun v i wr => ∃ k : Nat, k ≤ xs.length ∧ i = .int .i64 ((k : Int) - 1) ∧ wr.ownsRow (w.heap.size + 1) 5 1 v (xs.length - k) (((xs.drop k).reverse).map (Value.int .u8)) ∧
        Below (w.heap.size + 1) (w.alloc (.cells #[.slice (some ⟨b, o, none⟩) xs.length cap, .bool true] 24)) wr) (fun _ i _ => (intOf i + 1).toNat)
      case atStart => exact ⟨xs.length, Nat.le_refl _, rfl, by rw [Nat.sub_self, List.drop_length]; exact World.ownsRow_nil _ _ _ _, hb1⟩
      case round =>
        obtain ⟨k, hk, rfl, hown, hbel⟩ := hrel
        by_cases hk0 : k = 0
        · subst hk0
          rw [List.drop_zero, Nat.sub_zero] at hown
          have hcv := text_own hown
          rw [end_text] at hcv
          have c1 := (b0 _).trans (hbel.mono (Nat.le_succ _))
          clear hown
          go_wp2
          go_ret2
          exact ⟨rfl, c1⟩
        · obtain ⟨k, rfl⟩ : ∃ k', k = k' + 1 := ⟨k - 1, by omega⟩
          have hbox := (hbel.cell (p := ⟨w.heap.size, 0, none⟩) (by simp)).trans HBX.out
          have hel := (hbel.cell (p := ⟨b, o + k, none⟩) (by simp; omega)).trans (HC2.out k (by omega))
          have hi1 : (((k + 1 : Nat) : Int) - 1) = (k : Int) := by omega
          rw [hi1]
          have hdr := drop_rev xs k (by omega)
          have HD := Lib.hid hdr
          clear hi1 hdr hk0
          go_wp2_with (at_builtin; refine wpList_append_own _ rfl _ _ 22 rfl (w.heap.size + 1) 5 i0 (.int .u8 0) 1 1 Try.underlying22 hi hz0 hz1 hz2 rfl (by decide) _ _ _ rfl (hown.alloc _) ⟨wr.heap.size, 0, none⟩ 1 1 [.int .u8 (xs.getD k 0)] rfl rfl ?c1 ?c2 ?c3 ?c4 ?c5 ?_)
          case c1 => exact cell_one_new _ _ _
          case c2 => simp [Value.oneCell']
          case c3 => unfold maxLen; omega
          case c4 => omega
          case c5 => have := hbel.size; simp at this ⊢; omega
          intro v' w2 hown2 hgrow _
          have hown3 : w2.ownsRow (w.heap.size + 1) 5 1 v' (xs.length - k) (((xs.drop k).reverse).map (Value.int .u8)) := by
            rw [HD.out, List.map_append, List.map_reverse, List.map_drop, show xs.length - k = xs.length - (k + 1) + 1 from by omega]; exact hown2
          have hbel2 := (hbel.alloc (by have := hbel.size; simp at this; omega) _).grown hgrow (by have := hbel.size; simp at this ⊢; omega) (own_low hown)
          clear hown2 hown hgrow hbox hel
          go_wp2_with fail
          go_roundw
          case rel => exact ⟨k, by omega, rfl, hown3, hbel2⟩
          case measure => simp [intOf]
end Go.Proofs.Ytpjhgokdkgnbdaa
