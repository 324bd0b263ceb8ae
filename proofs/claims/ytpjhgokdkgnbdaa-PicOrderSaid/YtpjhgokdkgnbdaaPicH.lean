/- The walks of layer 7 (pic), part H: all digits of a pair more: one step of it. -/
import Derived.Test.YtpjhgokdkgnbdaaPicF
namespace Go.Proofs.Ytpjhgokdkgnbdaa
open Go.RowKit

/-- What a step leaves: the text, and the pair, in three variables; all else that was there as it was. -/
def StepEnd (w w' : World) (o l h : Nat) (q : PicL) (lo hi : Int) : Prop :=
  (∃ a cap, w'.cell? ⟨o, 0, none⟩ = some (.slice a q.1.length cap) ∧ w'.cell? ⟨o, 1, none⟩ = some (.bool q.2) ∧ BytesAt w' (.slice a q.1.length cap) q.1) ∧
  w'.cell? ⟨l, 0, none⟩ = some (.int .i64 lo) ∧ w'.cell? ⟨h, 0, none⟩ = some (.int .i64 hi) ∧
  (∀ a : Addr, a.block < w.heap.size → a.block ≠ o → a.block ≠ l → a.block ≠ h → w'.cell? a = w.cell? a) ∧
  (∀ a : Addr, a.block < w.heap.size → w'.frozen? a = w.frozen? a) ∧
  (∀ sl xs, BytesAt w sl xs → BytesAt w' sl xs) ∧ w.heap.size ≤ w'.heap.size ∧ ∀ B, B ≤ o → B ≤ l → B ≤ h → Below B w w'

theorem stepEnd_mk {w w1 : World} {o l h : Nat} {q : PicL} {lo hi : Int} {a a' : Option Addr} {n cap cap' : Nat} {on : Bool} {lo0 hi0 : Int} {x : TypeId} (hb : Below w.heap.size w w1) (hs : BytesAt w1 (.slice a q.1.length cap) q.1)
    (ho0 : w.cell? ⟨o, 0, none⟩ = some (.slice a' n cap')) (ho1 : w.cell? ⟨o, 1, none⟩ = some (.bool on)) (hl0 : w.cell? ⟨l, 0, none⟩ = some (.int .i64 lo0)) (hh0 : w.cell? ⟨h, 0, none⟩ = some (.int .i64 hi0)) (d1 : o ≠ l) (d2 : o ≠ h) (d3 : l ≠ h) :
    StepEnd w (((((w1.setCell ⟨o, 0, none⟩ (.slice a q.1.length cap)).setCell ⟨o, 1, none⟩ (.bool q.2)).setCell ⟨l, 0, none⟩ (.int .i64 lo)).setCell ⟨h, 0, none⟩ (.int .i64 hi)).alloc (.cells #[.slice a q.1.length cap, .bool q.2] x)) o l h q lo hi := by
  have lo_ := World.block_lt_of_cell? w _ ho0
  have ll_ := World.block_lt_of_cell? w _ hl0
  have lh_ := World.block_lt_of_cell? w _ hh0
  dsimp only at lo_ ll_ lh_
  have hsz := hb.size
  have g0 : w1.cell? ⟨o, 0, none⟩ = some (.slice a' n cap') := (hb.cell (p := ⟨o, 0, none⟩) lo_).trans ho0
  have g1 : w1.cell? ⟨o, 1, none⟩ = some (.bool on) := (hb.cell (p := ⟨o, 1, none⟩) lo_).trans ho1
  have g2 : w1.cell? ⟨l, 0, none⟩ = some (.int .i64 lo0) := (hb.cell (p := ⟨l, 0, none⟩) ll_).trans hl0
  have g3 : w1.cell? ⟨h, 0, none⟩ = some (.int .i64 hi0) := (hb.cell (p := ⟨h, 0, none⟩) lh_).trans hh0
  have ne1 : (⟨o, 0, none⟩ : Addr) ≠ ⟨o, 1, none⟩ := by simp
  have ne2 : (⟨o, 0, none⟩ : Addr) ≠ ⟨l, 0, none⟩ := fun e => d1 (by cases e; rfl)
  have ne3 : (⟨o, 0, none⟩ : Addr) ≠ ⟨h, 0, none⟩ := fun e => d2 (by cases e; rfl)
  have ne4 : (⟨o, 1, none⟩ : Addr) ≠ ⟨l, 0, none⟩ := by simp
  have ne5 : (⟨o, 1, none⟩ : Addr) ≠ ⟨h, 0, none⟩ := by simp
  have ne6 : (⟨l, 0, none⟩ : Addr) ≠ ⟨h, 0, none⟩ := fun e => d3 (by cases e; rfl)
  have s1 : (w1.setCell ⟨o, 0, none⟩ (.slice a q.1.length cap)).cell? ⟨o, 1, none⟩ = some (.bool on) := (World.cell?_setCell_other _ _ _ _ ne1).trans g1
  have s2 : ((w1.setCell ⟨o, 0, none⟩ (.slice a q.1.length cap)).setCell ⟨o, 1, none⟩ (.bool q.2)).cell? ⟨l, 0, none⟩ = some (.int .i64 lo0) :=
    (World.cell?_setCell_other _ _ _ _ ne4).trans ((World.cell?_setCell_other _ _ _ _ ne2).trans g2)
  have s3 : (((w1.setCell ⟨o, 0, none⟩ (.slice a q.1.length cap)).setCell ⟨o, 1, none⟩ (.bool q.2)).setCell ⟨l, 0, none⟩ (.int .i64 lo)).cell? ⟨h, 0, none⟩ = some (.int .i64 hi0) :=
    (World.cell?_setCell_other _ _ _ _ ne6).trans ((World.cell?_setCell_other _ _ _ _ ne5).trans ((World.cell?_setCell_other _ _ _ _ ne3).trans g3))
  have hby : ∀ sl xs, BytesAt w1 sl xs → BytesAt ((((w1.setCell ⟨o, 0, none⟩ (.slice a q.1.length cap)).setCell ⟨o, 1, none⟩ (.bool q.2)).setCell ⟨l, 0, none⟩ (.int .i64 lo)).setCell ⟨h, 0, none⟩ (.int .i64 hi)) sl xs := fun sl xs hx =>
    bytesAt_setCell (bytesAt_setCell (bytesAt_setCell (bytesAt_setCell hx g0 (fun y e => by cases e) _) s1 (fun y e => by cases e) _) s2 (fun y e => by cases e) _) s3 (fun y e => by cases e) _
  have r0 : ((((w1.setCell ⟨o, 0, none⟩ (.slice a q.1.length cap)).setCell ⟨o, 1, none⟩ (.bool q.2)).setCell ⟨l, 0, none⟩ (.int .i64 lo)).setCell ⟨h, 0, none⟩ (.int .i64 hi)).cell? ⟨o, 0, none⟩ = some (.slice a q.1.length cap) := by
    rw [World.cell?_setCell_other _ _ _ _ ne3.symm, World.cell?_setCell_other _ _ _ _ ne2.symm, World.cell?_setCell_other _ _ _ _ ne1.symm]; exact World.cell?_setCell_same _ _ _ g0
  have r1 : ((((w1.setCell ⟨o, 0, none⟩ (.slice a q.1.length cap)).setCell ⟨o, 1, none⟩ (.bool q.2)).setCell ⟨l, 0, none⟩ (.int .i64 lo)).setCell ⟨h, 0, none⟩ (.int .i64 hi)).cell? ⟨o, 1, none⟩ = some (.bool q.2) := by
    rw [World.cell?_setCell_other _ _ _ _ ne5.symm, World.cell?_setCell_other _ _ _ _ ne4.symm]; exact World.cell?_setCell_same _ _ _ s1
  have r2 : ((((w1.setCell ⟨o, 0, none⟩ (.slice a q.1.length cap)).setCell ⟨o, 1, none⟩ (.bool q.2)).setCell ⟨l, 0, none⟩ (.int .i64 lo)).setCell ⟨h, 0, none⟩ (.int .i64 hi)).cell? ⟨l, 0, none⟩ = some (.int .i64 lo) := by
    rw [World.cell?_setCell_other _ _ _ _ ne6.symm]; exact World.cell?_setCell_same _ _ _ s2
  have r3 : ((((w1.setCell ⟨o, 0, none⟩ (.slice a q.1.length cap)).setCell ⟨o, 1, none⟩ (.bool q.2)).setCell ⟨l, 0, none⟩ (.int .i64 lo)).setCell ⟨h, 0, none⟩ (.int .i64 hi)).cell? ⟨h, 0, none⟩ = some (.int .i64 hi) := World.cell?_setCell_same _ _ _ s3
  have r4 : ∀ b : Addr, b.block < w.heap.size → b.block ≠ o → b.block ≠ l → b.block ≠ h → ((((w1.setCell ⟨o, 0, none⟩ (.slice a q.1.length cap)).setCell ⟨o, 1, none⟩ (.bool q.2)).setCell ⟨l, 0, none⟩ (.int .i64 lo)).setCell ⟨h, 0, none⟩ (.int .i64 hi)).cell? b = w.cell? b := fun b hb1 hb2 hb3 hb4 => by
    rw [World.cell?_setCell_other _ _ _ _ (fun e => hb4 (by rw [← e])), World.cell?_setCell_other _ _ _ _ (fun e => hb3 (by rw [← e])), World.cell?_setCell_other _ _ _ _ (fun e => hb2 (by rw [← e])), World.cell?_setCell_other _ _ _ _ (fun e => hb2 (by rw [← e]))]
    exact hb.cell hb1
  have r5 : ∀ b : Addr, b.block < w.heap.size → ((((w1.setCell ⟨o, 0, none⟩ (.slice a q.1.length cap)).setCell ⟨o, 1, none⟩ (.bool q.2)).setCell ⟨l, 0, none⟩ (.int .i64 lo)).setCell ⟨h, 0, none⟩ (.int .i64 hi)).frozen? b = w.frozen? b := fun b hb1 => by
    have : w1.frozen? b = w.frozen? b := hb.frozen hb1
    rw [← this]
    simp only [World.frozen?_setCell]
  have r6 : ∀ B, B ≤ o → B ≤ l → B ≤ h → Below B w ((((w1.setCell ⟨o, 0, none⟩ (.slice a q.1.length cap)).setCell ⟨o, 1, none⟩ (.bool q.2)).setCell ⟨l, 0, none⟩ (.int .i64 lo)).setCell ⟨h, 0, none⟩ (.int .i64 hi)) := fun B h1 h2 h3 =>
    ((((hb.mono (by omega)).setCell h1 _).setCell h1 _).setCell h2 _).setCell h3 _
  have r7 : w1.heap.size = ((((w1.setCell ⟨o, 0, none⟩ (.slice a q.1.length cap)).setCell ⟨o, 1, none⟩ (.bool q.2)).setCell ⟨l, 0, none⟩ (.int .i64 lo)).setCell ⟨h, 0, none⟩ (.int .i64 hi)).heap.size := by simp
  have r8 := hby _ _ hs
  have r9 := fun sl xs (hx : BytesAt w sl xs) => hby sl xs (bytesAt_below hx hb)
  clear hby s1 s2 s3
  generalize ((((w1.setCell ⟨o, 0, none⟩ (.slice a q.1.length cap)).setCell ⟨o, 1, none⟩ (.bool q.2)).setCell ⟨l, 0, none⟩ (.int .i64 lo)).setCell ⟨h, 0, none⟩ (.int .i64 hi)) = V at *
  have bV : Below V.heap.size V (V.alloc (.cells #[.slice a q.1.length cap, .bool q.2] x)) := (Below.refl _ _).alloc (Nat.le_refl _) _
  refine ⟨⟨a, cap, ?_, ?_, bytesAt_below r8 bV⟩, ?_, ?_, fun b h1 h2 h3 h4 => ?_, fun b h1 => ?_, fun sl xs hx => bytesAt_below (r9 sl xs hx) bV, by simp; omega, fun B h1 h2 h3 => (r6 B h1 h2 h3).alloc (by omega) _⟩
  · exact (bV.cell (p := ⟨o, 0, none⟩) (by dsimp only; omega)).trans r0
  · exact (bV.cell (p := ⟨o, 1, none⟩) (by dsimp only; omega)).trans r1
  · exact (bV.cell (p := ⟨l, 0, none⟩) (by dsimp only; omega)).trans r2
  · exact (bV.cell (p := ⟨h, 0, none⟩) (by dsimp only; omega)).trans r3
  · exact (bV.cell (by omega)).trans (r4 b h1 h2 h3 h4)
  · exact (bV.frozen (by omega)).trans (r5 b h1)

set_option maxRecDepth 100000 in
set_option maxHeartbeats 2000000 in
/-- The step that pic.All takes: the digit of what three variables hold is laid there. -/
theorem all_step (w : World) (o l h b : Nat) (p : PicL) (lo hi base : Int) (a : Option Addr) (cap : Nat) (ho0 : w.cell? ⟨o, 0, none⟩ = some (.slice a p.1.length cap)) (ho1 : w.cell? ⟨o, 1, none⟩ = some (.bool p.2)) (hs : BytesAt w (.slice a p.1.length cap) p.1)
    (hl0 : w.cell? ⟨l, 0, none⟩ = some (.int .i64 lo)) (hh0 : w.cell? ⟨h, 0, none⟩ = some (.int .i64 hi)) (hb0 : w.cell? ⟨b, 0, none⟩ = some (.int .i64 base)) (d1 : o ≠ l) (d2 : o ≠ h) (d3 : l ≠ h)
    (fo0 : w.frozen? ⟨o, 0, none⟩ = false) (fo1 : w.frozen? ⟨o, 1, none⟩ = false) (fl : w.frozen? ⟨l, 0, none⟩ = false) (fh : w.frozen? ⟨h, 0, none⟩ = false) :
    Calls Try.prog 73 #[.pointer (some ⟨o, 0, none⟩), .pointer (some ⟨l, 0, none⟩), .pointer (some ⟨h, 0, none⟩), .pointer (some ⟨b, 0, none⟩)] w fun e w' =>
      e = .returned (.int .i64 (digitS p lo hi base).2.2.2) ∧ StepEnd w w' o l h (digitS p lo hi base).1 (digitS p lo hi base).2.1 (digitS p lo hi base).2.2.1 := by
  have hD := pic_Digit _ p lo hi base w ⟨_, rfl, hs⟩
  obtain ⟨q, lo', hi', k, hq⟩ : ∃ q lo' hi' k, digitS p lo hi base = (q, lo', hi', k) := ⟨_, _, _, _, rfl⟩
  rw [hq] at hD ⊢
  have lo_ := World.block_lt_of_cell? w _ ho0
  have ll_ := World.block_lt_of_cell? w _ hl0
  have lh_ := World.block_lt_of_cell? w _ hh0
  dsimp only at lo_ ll_ lh_
  have HD := Lib.hid hD
  have MK := Lib.hid (fun w1 a1 cap1 x (hb : Below w.heap.size w w1) hs1 => stepEnd_mk (q := q) (lo := lo') (hi := hi') (a := a1) (cap := cap1) (x := x) hb hs1 ho0 ho1 hl0 hh0 d1 d2 d3)
  clear hD hq hs
  go_enter Try.func73, Try.ntmps73
  go_wp2_with fail
  refine HD.out.mono ?_
  rintro e w1 ⟨⟨v1, rfl, hp1⟩, hb1⟩
  obtain ⟨a1, cap1, rfl, hs1⟩ := picAt_form hp1
  have k0 := (hb1.cell (p := ⟨o, 0, none⟩) lo_).trans ho0
  have k1 := (hb1.cell (p := ⟨o, 1, none⟩) lo_).trans ho1
  have k2 := (hb1.cell (p := ⟨l, 0, none⟩) ll_).trans hl0
  have k3 := (hb1.cell (p := ⟨h, 0, none⟩) lh_).trans hh0
  have k4 := (hb1.frozen (p := ⟨o, 0, none⟩) lo_).trans fo0
  have k5 := (hb1.frozen (p := ⟨o, 1, none⟩) lo_).trans fo1
  have k6 := (hb1.frozen (p := ⟨l, 0, none⟩) ll_).trans fl
  have k7 := (hb1.frozen (p := ⟨h, 0, none⟩) lh_).trans fh
  have k8 := hb1.size
  have k9 : o < w1.heap.size := Nat.lt_of_lt_of_le lo_ k8
  have k10 : l < w1.heap.size := Nat.lt_of_lt_of_le ll_ k8
  have k11 : h < w1.heap.size := Nat.lt_of_lt_of_le lh_ k8
  have FIN := Lib.hid (MK.out w1 a1 cap1 24 hb1 hs1)
  clear hb1 hs1 hp1 MK HD
  go_wp2
  go_ret
  exact ⟨rfl, FIN.out⟩
end Go.Proofs.Ytpjhgokdkgnbdaa
