/- The walks of layer 7 (pic), part B: texts that are the same; a text's signs. By the program and by the document's answer. -/
import Derived.Test.YtpjhgokdkgnbdaaPicA
import Derived.Test.YtpjhgokdkgnbdaaShelf
namespace Go.Proofs.Ytpjhgokdkgnbdaa
open Go.RowKit

theorem byte_inj {a b : Int} (ha : 0 ≤ a ∧ a < 256) (hb : 0 ≤ b ∧ b < 256) (h : UInt8.ofNat a.toNat = UInt8.ofNat b.toNat) : a = b := by
  have := congrArg UInt8.toNat h
  rw [UInt8.toNat_ofNat', UInt8.toNat_ofNat'] at this
  omega
theorem bytes_inj {xs ys : List Int} (hx : ∀ x ∈ xs, 0 ≤ x ∧ x < 256) (hy : ∀ x ∈ ys, 0 ≤ x ∧ x < 256) (h : xs.map (fun n => UInt8.ofNat n.toNat) = ys.map (fun n => UInt8.ofNat n.toNat)) : xs = ys := by
  induction xs generalizing ys with
  | nil => cases ys with
    | nil => rfl
    | cons y ys => simp at h
  | cons x xs ih => cases ys with
    | nil => simp at h
    | cons y ys =>
      simp only [List.map_cons, List.cons.injEq] at h
      rw [byte_inj (hx x (by simp)) (hy y (by simp)) h.1, ih (fun z hz => hx z (by simp [hz])) (fun z hz => hy z (by simp [hz])) h.2]
theorem text_same {xs ys : List Int} (hx : ∀ x ∈ xs, 0 ≤ x ∧ x < 256) (hy : ∀ x ∈ ys, 0 ≤ x ∧ x < 256) : ((strOfNums xs).toList == (strOfNums ys).toList) = decide (xs = ys) := by
  rw [ByteArray.toList_eq, ByteArray.toList_eq, strOfNums_data, strOfNums_data, Bool.eq_iff_iff, beq_iff_eq, decide_eq_true_iff]
  exact ⟨bytes_inj hx hy, fun h => by rw [h]⟩
/-- Are two texts under way the same? -/
def sameS (p q : PicL) : Bool := decide (p.2 = q.2) && decide (p.1 = q.1)
theorem sameS_iff (p q : PicL) : sameS p q = true ↔ p = q := by
  obtain ⟨a, b⟩ := p; obtain ⟨c, d⟩ := q
  unfold sameS
  simp
  exact And.comm
theorem sameS_self (p : PicL) : sameS p p = true := (sameS_iff p p).2 rfl

theorem pic_Same (v u : Value) (p q : PicL) (w : World) (h : PicAt w v p) (g : PicAt w u q) : Calls Try.prog 26 #[v, u] w fun e w' => e = .returned (.bool (sameS p q)) ∧ Below w.heap.size w w' := by
  obtain ⟨sl, rfl, hs⟩ := h
  obtain ⟨tl, rfl, ht⟩ := g
  obtain ⟨xs, on⟩ := p
  obtain ⟨ys, om⟩ := q
  have b0 := fun o1 o2 => ((Below.refl w.heap.size w).alloc (Nat.le_refl _) o1).alloc (by simp) o2
  have e1 := fun o1 o2 => text_at (bytesAt_below hs (b0 o1 o2))
  have e2 := fun o1 o2 => text_at (bytesAt_below ht (b0 o1 o2))
  have hE := fun o1 o2 => Try.bytes_Equal sl tl xs ys _ (e1 o1 o2) (e2 o1 o2)
  have hq : (Lib.bytesOf xs == Lib.bytesOf ys) = decide (xs = ys) := by
    rw [Bool.eq_iff_iff, beq_iff_eq, decide_eq_true_iff]
    exact ⟨fun h => bytes_inj hs.2 ht.2 h, fun h => by rw [h]⟩
  have HE := Lib.hid hE
  obtain ⟨r, hr⟩ : ∃ r, decide (xs = ys) = r := ⟨_, rfl⟩
  rw [hr] at hq
  have fin : ∀ x : Bool, x = (decide (on = om) && r) → Ending.returned (.bool x) = .returned (.bool (sameS (xs, on) (ys, om))) := fun x hx => by
    rw [hx, ← hr]; rfl
  have FIN := Lib.hid fin
  have HB := Lib.hid b0
  clear hs ht e1 e2 hE hr fin b0
  cases on <;> cases om
  · go_enter Try.func26, Try.ntmps26
    go_wp2_with (go_at_call 70; refine (HE.out _ _).mono ?_; rintro e w' ⟨rfl, rfl⟩)
    go_ret
    exact ⟨FIN.out _ (by simp), HB.out _ _⟩
  · go_enter Try.func26, Try.ntmps26
    go_wp2
    go_ret
    exact ⟨FIN.out _ (by simp), HB.out _ _⟩
  · go_enter Try.func26, Try.ntmps26
    go_wp2
    go_ret
    exact ⟨FIN.out _ (by simp), HB.out _ _⟩
  · go_enter Try.func26, Try.ntmps26
    go_wp2_with (go_at_call 70; refine (HE.out _ _).mono ?_; rintro e w' ⟨rfl, rfl⟩)
    go_ret
    exact ⟨FIN.out _ (by simp), HB.out _ _⟩

theorem ref_Same (v u : Value) (p q : PicL) (w : World) (h : PicAt w v p) (g : PicAt w u q) : Calls Try.prog 27 #[v, u] w fun e w' => e = .returned (.bool (sameS p q)) ∧ Below w.heap.size w w' := by
  obtain ⟨sl, rfl, hs⟩ := h
  obtain ⟨tl, rfl, ht⟩ := g
  obtain ⟨xs, on⟩ := p
  obtain ⟨ys, om⟩ := q
  have b0 := fun o1 o2 => ((Below.refl w.heap.size w).alloc (Nat.le_refl _) o1).alloc (by simp) o2
  have e1 := fun o1 o2 => text_at (bytesAt_below hs (b0 o1 o2))
  have e2 := fun o1 o2 => text_at (bytesAt_below ht (b0 o1 o2))
  have hq := text_same hs.2 ht.2
  obtain ⟨r, hr⟩ : ∃ r, decide (xs = ys) = r := ⟨_, rfl⟩
  rw [hr] at hq
  have fin : ∀ x : Bool, x = (decide (on = om) && r) → Ending.returned (.bool x) = .returned (.bool (sameS (xs, on) (ys, om))) := fun x hx => by
    rw [hx, ← hr]; rfl
  have FIN := Lib.hid fin
  have HB := Lib.hid b0
  obtain ⟨a1, c1, rfl, _, _⟩ := bytesAt_size hs
  obtain ⟨a2, c2, rfl, _, _⟩ := bytesAt_size ht
  generalize strOfNums xs = A at e1 hq
  generalize strOfNums ys = B at e2 hq
  clear hs ht hr fin b0
  cases on <;> cases om
  · go_enter Try.func27, Try.ntmps27
    go_wp2
    go_ret
    exact ⟨FIN.out _ (by simp), HB.out _ _⟩
  · go_enter Try.func27, Try.ntmps27
    go_wp2
    go_ret
    exact ⟨FIN.out _ (by simp), HB.out _ _⟩
  · go_enter Try.func27, Try.ntmps27
    go_wp2
    go_ret
    exact ⟨FIN.out _ (by simp), HB.out _ _⟩
  · go_enter Try.func27, Try.ntmps27
    go_wp2
    go_ret
    exact ⟨FIN.out _ (by simp), HB.out _ _⟩
end Go.Proofs.Ytpjhgokdkgnbdaa
