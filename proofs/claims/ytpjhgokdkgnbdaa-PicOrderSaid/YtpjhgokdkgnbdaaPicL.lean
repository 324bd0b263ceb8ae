/- The example at the head of layer 7's statements holds. -/
import Derived.Test.YtpjhgokdkgnbdaaPicK
import Derived.Test.YtpjhgokdkgnbdaaPicI
import Derived.Test.YtpjhgokdkgnbdaaPicE
import Derived.Test.YtpjhgokdkgnbdaaPicC
namespace Go.Proofs.Ytpjhgokdkgnbdaa
open Go.RowKit

/-- A variable that holds a text, behind a call. -/
theorem kept {w w' : World} {B : Nat} {x y : Value} {t : TypeId} (h : Below B (w.alloc (.cells #[x, y] t)) w') (hB : w.heap.size + 1 ≤ B) :
    w'.cell? ⟨w.heap.size, 0, none⟩ = some x ∧ w'.cell? ⟨w.heap.size, 1, none⟩ = some y ∧ w.heap.size < w'.heap.size := by
  have hs := h.size
  simp at hs
  refine ⟨?_, ?_, by omega⟩
  · rw [h.cell (p := ⟨w.heap.size, 0, none⟩) (by dsimp only; omega), World.cell?_alloc_at _ _ _ _ rfl]; rfl
  · rw [h.cell (p := ⟨w.heap.size, 1, none⟩) (by dsimp only; omega), World.cell?_alloc_at _ _ _ _ rfl]; rfl
theorem keptOn {w w' : World} {B b : Nat} {x y : Value} (k : w.cell? ⟨b, 0, none⟩ = some x ∧ w.cell? ⟨b, 1, none⟩ = some y ∧ b < w.heap.size) (h : Below B w w') (hB : b < B) : w'.cell? ⟨b, 0, none⟩ = some x ∧ w'.cell? ⟨b, 1, none⟩ = some y ∧ b < w'.heap.size :=
  ⟨(h.cell (p := ⟨b, 0, none⟩) hB).trans k.1, (h.cell (p := ⟨b, 1, none⟩) hB).trans k.2.1, Nat.lt_of_lt_of_le k.2.2 h.size⟩
theorem keptAlloc {w : World} {b : Nat} {x y : Value} (k : w.cell? ⟨b, 0, none⟩ = some x ∧ w.cell? ⟨b, 1, none⟩ = some y ∧ b < w.heap.size) (o : Obj) : (w.alloc o).cell? ⟨b, 0, none⟩ = some x ∧ (w.alloc o).cell? ⟨b, 1, none⟩ = some y ∧ b < (w.alloc o).heap.size :=
  keptOn k ((Below.refl _ _).alloc (Nat.le_refl _) o) k.2.2
/-- A text in a value, with its length by name. -/
theorem picAt_lit {w : World} {v : Value} {xs : List Int} {on : Bool} (h : PicAt w v (xs, on)) {n : Nat} (hn : xs.length = n) : ∃ a cap, v = .agg #[.slice a n cap, .bool on] ∧ Hid (BytesAt w (.slice a n cap) xs) := by
  obtain ⟨a, cap, h1, h2⟩ := picAt_form h
  subst hn
  exact ⟨a, cap, h1, Lib.hid h2⟩
theorem hid_below {w w' : World} {sl : Value} {xs : List Int} (h : Hid (BytesAt w sl xs)) (hb : Below w.heap.size w w') : Hid (BytesAt w' sl xs) := Lib.hid (bytesAt_below h.out hb)
theorem hid_alloc {w : World} {sl : Value} {xs : List Int} (h : Hid (BytesAt w sl xs)) (o : Obj) : Hid (BytesAt (w.alloc o) sl xs) := hid_below h ((Below.refl _ _).alloc (Nat.le_refl _) o)

theorem one_byte (w : World) (t : TypeId) : BytesAt (w.alloc (.cells #[.int .u8 1] t)) (.slice (some ⟨w.heap.size, 0, none⟩) 1 1) [1] := by
  refine ⟨⟨rfl, _, _, rfl, (fun h => by cases h), by decide, ?_⟩, (fun x hx => by simp at hx; omega)⟩
  rintro b rfl' j u hu
  cases rfl'
  match j, hu with
  | 0, hu =>
    cases hu
    show (w.alloc _).cell? ⟨w.heap.size, 0 + 0, none⟩ = _
    rw [World.cell?_alloc_at _ _ _ _ rfl]; rfl

set_option maxRecDepth 100000 in
set_option maxHeartbeats 2000000 in
theorem pic_shown (w : World) : Calls Try.prog 23 #[] w fun e w' => e = .returned (.bool true) ∧ Below w.heap.size w w' := by
  have p1 := fun v w h => pic_All v beginS 123 0 10 w h (by decide) (by decide)
  rw [show allS beginS 123 0 10 = (([51, 50, 49], true), 0) from by decide +kernel] at p1
  have p2 := fun v w h => pic_Sign v ([51, 50, 49], true) (-1) w h
  rw [show signP ([51, 50, 49], true) (-1) = (([51, 50, 49, 45], true), 0) from by decide +kernel] at p2
  have p3 := fun v w h => pic_End v ([51, 50, 49, 45], true) w h (by simp)
  rw [show endS ([51, 50, 49, 45], true) = ([45, 49, 50, 51], 0) from by decide +kernel] at p3
  have p4 := fun v w h => pic_Digit v beginS 0 1 16 w h
  rw [show digitS beginS 0 1 16 = (([48], true), 1152921504606846976, 0, 0) from by decide +kernel] at p4
  have p5 := fun v w h => pic_Hold v ([], false) 65 w h
  rw [show holdS ([], false) 65 = (([], false), -17) from by decide +kernel] at p5
  have p6 := fun v w h => pic_Right v ([51, 50, 49, 45], true) w h
  rw [show rightS ([51, 50, 49, 45], true) = true from by decide +kernel] at p6
  have p7 := fun v w h => pic_Right v ([1], false) w h
  rw [show rightS ([1], false) = false from by decide +kernel] at p7
  have p8 := fun v u w h g => pic_Same v u ([51, 50, 49], true) ([51, 50, 49], true) w h g
  rw [show sameS ([51, 50, 49], true) ([51, 50, 49], true) = true from by decide +kernel] at p8
  have p9 := fun v u w h g => pic_Same v u ([51, 50, 49], true) ([51, 50, 49, 45], true) w h g
  rw [show sameS ([51, 50, 49], true) ([51, 50, 49, 45], true) = false from by decide +kernel] at p9
  have P1 := Lib.hid p1
  have P2 := Lib.hid p2
  have P3 := Lib.hid p3
  have P4 := Lib.hid p4
  have P5 := Lib.hid p5
  have P6 := Lib.hid p6
  have P7 := Lib.hid p7
  have P8 := Lib.hid p8
  have P9 := Lib.hid p9
  clear p1 p2 p3 p4 p5 p6 p7 p8 p9
  go_enter Try.func23, Try.ntmps23
  go_wp2_with fail
  refine (pic_Begin _).mono ?_
  rintro e w1 ⟨⟨v1, rfl, hp1⟩, b1⟩
  go_wp2_with fail
  refine (P1.out _ _ hp1).mono ?_
  rintro e w2 ⟨⟨v2, rfl, hp2⟩, b2⟩
  have c2 := b1.trans (b2.mono b1.size)
  clear b1 b2 hp1
  obtain ⟨a2, cap2, rfl, s2⟩ := picAt_lit (n := 3) hp2 rfl
  clear hp2
  go_wp2_with fail
  refine (P2.out _ _ ⟨_, rfl, (hid_alloc s2 _).out⟩).mono ?_
  rintro e w3 ⟨⟨v3, rfl, hp3⟩, b3⟩
  have s3 := hid_below (hid_alloc s2 _) b3
  have c3 := (c2.alloc c2.size _).trans (b3.mono (by have := c2.size; simp; omega))
  obtain ⟨k1, k2, k3⟩ := kept b3 (by simp)
  obtain ⟨a3, cap3, rfl, t3⟩ := picAt_lit (n := 4) hp3 rfl
  clear c2 b3 hp3 s2
  go_wp2_with fail
  refine (P3.out _ _ ⟨_, rfl, (hid_alloc t3 _).out⟩).mono ?_
  rintro e w4 ⟨rfl, b4⟩
  have s4 := hid_below (hid_alloc s3 _) b4
  have t4 := hid_below (hid_alloc t3 _) b4
  have c4 := (c3.alloc c3.size _).trans (b4.mono (by have := c3.size; simp; omega))
  obtain ⟨k1, k2, k3⟩ := keptOn (keptAlloc ⟨k1, k2, k3⟩ _) b4 (by simp; omega)
  obtain ⟨q1, q2, q3⟩ := kept b4 (by simp)
  clear c3 b4 s3 t3
  go_wp2_with fail
  refine (pic_Begin _).mono ?_
  rintro e w5 ⟨⟨v5, rfl, hp5⟩, b5⟩
  have s5 := hid_below s4 b5
  have t5 := hid_below t4 b5
  have c5 := c4.trans (b5.mono c4.size)
  obtain ⟨k1, k2, k3⟩ := keptOn ⟨k1, k2, k3⟩ b5 k3
  obtain ⟨q1, q2, q3⟩ := keptOn ⟨q1, q2, q3⟩ b5 q3
  clear c4 b5 s4 t4
  go_wp2_with fail
  refine (P4.out _ _ hp5).mono ?_
  rintro e w6 ⟨⟨v6, rfl, hp6⟩, b6⟩
  have s6 := hid_below s5 b6
  have t6 := hid_below t5 b6
  have c6 := c5.trans (b6.mono c5.size)
  obtain ⟨k1, k2, k3⟩ := keptOn ⟨k1, k2, k3⟩ b6 k3
  obtain ⟨q1, q2, q3⟩ := keptOn ⟨q1, q2, q3⟩ b6 q3
  obtain ⟨a6, cap6, rfl, r6⟩ := picAt_lit (n := 1) hp6 rfl
  clear c5 b6 s5 t5 hp6 hp5
  go_wp2_with fail
  refine (P5.out _ _ ⟨_, rfl, bytesAt_nil _⟩).mono ?_
  rintro e w7 ⟨⟨v7, rfl, hp7⟩, b7⟩
  obtain ⟨a7, cap7, rfl, _⟩ := picAt_lit (n := 0) hp7 rfl
  have s7 := hid_below (hid_alloc s6 _) b7
  have t7 := hid_below (hid_alloc t6 _) b7
  have r7 := hid_below (hid_alloc r6 _) b7
  have c7 := (c6.alloc c6.size _).trans (b7.mono (by have := c6.size; simp; omega))
  obtain ⟨k1, k2, k3⟩ := keptOn (keptAlloc ⟨k1, k2, k3⟩ _) b7 (by simp; omega)
  obtain ⟨q1, q2, q3⟩ := keptOn (keptAlloc ⟨q1, q2, q3⟩ _) b7 (by simp; omega)
  obtain ⟨r1, r2, r3⟩ := kept b7 (by simp)
  have tx := fun o => text_at (hid_alloc r7 o).out
  rw [show strOfNums [48] = ⟨#[48]⟩ from by decide +kernel] at tx
  clear c6 b7 s6 t6 r6 r7 hp7
  go_wp2_with fail
  refine (P6.out _ _ ⟨_, rfl, (hid_alloc t7 _).out⟩).mono ?_
  rintro e w8 ⟨rfl, b8⟩
  have s8 := hid_below (hid_alloc s7 _) b8
  have t8 := hid_below (hid_alloc t7 _) b8
  have c8 := (c7.alloc c7.size _).trans (b8.mono (by have := c7.size; simp; omega))
  obtain ⟨k1, k2, k3⟩ := keptOn (keptAlloc ⟨k1, k2, k3⟩ _) b8 (by simp; omega)
  obtain ⟨q1, q2, q3⟩ := keptOn (keptAlloc ⟨q1, q2, q3⟩ _) b8 (by simp; omega)
  clear c7 b8 s7 t7 r1 r2 r3 tx
  go_wp2_with fail
  refine (P7.out _ _ ⟨_, rfl, one_byte _ _⟩).mono ?_
  rintro e w9 ⟨rfl, b9⟩
  have s9 := hid_below (hid_alloc s8 _) b9
  have t9 := hid_below (hid_alloc t8 _) b9
  have c9 := (c8.alloc c8.size _).trans (b9.mono (by have := c8.size; simp; omega))
  obtain ⟨k1, k2, k3⟩ := keptOn (keptAlloc ⟨k1, k2, k3⟩ _) b9 (by simp; omega)
  obtain ⟨q1, q2, q3⟩ := keptOn (keptAlloc ⟨q1, q2, q3⟩ _) b9 (by simp; omega)
  clear c8 b9 s8 t8
  go_wp2_with fail
  refine (P8.out _ _ _ ⟨_, rfl, s9.out⟩ ⟨_, rfl, s9.out⟩).mono ?_
  rintro e w10 ⟨rfl, b10⟩
  have s10 := hid_below s9 b10
  have t10 := hid_below t9 b10
  have c10 := c9.trans (b10.mono c9.size)
  obtain ⟨k1, k2, k3⟩ := keptOn ⟨k1, k2, k3⟩ b10 k3
  obtain ⟨q1, q2, q3⟩ := keptOn ⟨q1, q2, q3⟩ b10 q3
  clear c9 b10 s9 t9
  go_wp2_with fail
  refine (P9.out _ _ _ ⟨_, rfl, s10.out⟩ ⟨_, rfl, t10.out⟩).mono ?_
  rintro e w11 ⟨rfl, b11⟩
  have c11 := c10.trans (b11.mono c10.size)
  clear c10 b11 s10 t10
  go_wp2
  go_ret
  exact ⟨rfl, c11⟩
end Go.Proofs.Ytpjhgokdkgnbdaa
