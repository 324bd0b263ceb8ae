/- The walks of layer 7 (pic), part J: all digits of a pair more, by the document's answer. -/
import Derived.Test.YtpjhgokdkgnbdaaPicI
import Derived.Test.YtpjhgokdkgnbdaaPicG
namespace Go.Proofs.Ytpjhgokdkgnbdaa
open Go.RowKit

/-- How far the rounds have come. -/
def AllAt (p : PicL) (b : Int) (B : Nat) (R : PicL × Int) (x0 : Option PicL) (k : Nat) (q : PicL) (l h bad : Int) : Prop :=
  (bad = 0 ∧ l = 0 ∧ h = 0 ∧ R = (q, 0)) ∨ (bad = 0 ∧ isB b = true ∧ ¬ (l = 0 ∧ h = 0) ∧ ∃ r, k = r + 1 ∧ PU l h < 2 ^ (r + 1) ∧ Fit l ∧ Fit h ∧ allG B (r + 1) q (PU l h) = x0) ∨ (bad ≠ 0 ∧ R = (p, bad))
theorem allAt_step {p q : PicL} {lo hi l h : Int} {B r : Nat} {x0 : Option PicL} (hb : isB (B : Int) = true) (h2 : 2 ≤ B) (hx0 : all0 B p (PU lo hi) = x0) (hg : allG B (r + 1) q (PU l h) = x0) (hlt : PU l h < 2 ^ (r + 1)) :
    AllAt p B B (allS p lo hi B) x0 r (digitS q l h B).1 (digitS q l h B).2.1 (digitS q l h B).2.2.1 (digitS q l h B).2.2.2 := by
  by_cases hp : q.2 = true ∧ q.1.length < 130
  · rw [digitS_ok q l h B hb hp]
    have hpq := pair_quot l h B h2
    obtain ⟨FL, FH⟩ := quot_fit l h B
    have hz0 := pair_zero _ _ FL FH
    by_cases hz : PU l h / B = 0
    · obtain ⟨e1, e2⟩ := hz0.1 (hpq.trans hz)
      exact .inl ⟨rfl, e1, e2, allS_some p _ lo hi B hb (hx0.trans (allG_end hg hp hz))⟩
    · have hr1 := r_pos hz hlt h2
      obtain ⟨r', rfl⟩ : ∃ r', r = r' + 1 := ⟨r - 1, by omega⟩
      refine .inr (.inl ⟨rfl, hb, fun e => hz (hpq.symm.trans (hz0.2 e)), r', rfl, ?_, FL, FH, ?_⟩)
      · show PU (loQ l h B) (hiQ l h B) < _
        rw [hpq]; exact pow_half hlt h2
      · show allG B (r' + 1) _ (PU (loQ l h B) (hiQ l h B)) = x0
        rw [hpq]; exact allG_more hg hp hz
  · rw [digitS_full q l h B hb hp]
    exact .inr (.inr ⟨by simp, allS_none p lo hi B hb (hx0.trans (allG_no hg hp))⟩)

/-- The world at a round's head: the parameter's box, the result's variable, and a third one, X. -/
def RefSt (w wr : World) (X : Nat) (s0 : Value) (on0 : Bool) (q : PicL) : Prop :=
  (∃ a cap, wr.cell? ⟨X, 0, none⟩ = some (.slice a q.1.length cap) ∧ wr.cell? ⟨X, 1, none⟩ = some (.bool q.2) ∧ BytesAt wr (.slice a q.1.length cap) q.1) ∧
  wr.cell? ⟨w.heap.size, 0, none⟩ = some s0 ∧ wr.cell? ⟨w.heap.size, 1, none⟩ = some (.bool on0) ∧ wr.cell? ⟨w.heap.size + 1, 0, none⟩ = some (.slice none 0 0) ∧ wr.cell? ⟨w.heap.size + 1, 1, none⟩ = some (.bool false) ∧
  wr.frozen? ⟨w.heap.size + 1, 0, none⟩ = false ∧ wr.frozen? ⟨w.heap.size + 1, 1, none⟩ = false ∧ wr.frozen? ⟨X, 0, none⟩ = false ∧ wr.frozen? ⟨X, 1, none⟩ = false ∧
  w.heap.size + 1 < X ∧ X < wr.heap.size ∧ Below w.heap.size w wr
theorem refSt_start {w w1 : World} {s0 : Value} {on0 : Bool} {t u x : TypeId} {B : Nat} {a : Option Addr} {cap : Nat} {q : PicL} (h : Below B ((w.alloc (.cells #[s0, .bool on0] t)).alloc (.cells #[.slice none 0 0, .bool false] u)) w1) (hB : w.heap.size + 2 ≤ B) (hs : BytesAt w1 (.slice a q.1.length cap) q.1) :
    RefSt w (w1.alloc (.cells #[.slice a q.1.length cap, .bool q.2] x)) w1.heap.size s0 on0 q := by
  obtain ⟨k0, k1, k2, k3, k4, k5, k6, k7, k8⟩ := two_blocks (h.mono hB)
  have c1 : Below w.heap.size w w1 := (((Below.refl w.heap.size w).alloc (Nat.le_refl _) _).alloc (by simp) _).trans (h.mono (by omega))
  have bV : Below w1.heap.size w1 (w1.alloc (.cells #[.slice a q.1.length cap, .bool q.2] x)) := (Below.refl _ _).alloc (Nat.le_refl _) _
  refine ⟨⟨a, cap, ?_, ?_, bytesAt_below hs bV⟩, ?_, ?_, ?_, ?_, ?_, ?_, ?_, ?_, by omega, by simp, c1.trans (bV.mono c1.size)⟩
  · rw [World.cell?_alloc_at _ _ _ _ rfl]; rfl
  · rw [World.cell?_alloc_at _ _ _ _ rfl]; rfl
  · exact (bV.cell (p := ⟨w.heap.size, 0, none⟩) (by dsimp only; omega)).trans k0
  · exact (bV.cell (p := ⟨w.heap.size, 1, none⟩) (by dsimp only; omega)).trans k1
  · exact (bV.cell (p := ⟨w.heap.size + 1, 0, none⟩) (by dsimp only; omega)).trans k4
  · exact (bV.cell (p := ⟨w.heap.size + 1, 1, none⟩) (by dsimp only; omega)).trans k5
  · exact (bV.frozen (p := ⟨w.heap.size + 1, 0, none⟩) (by dsimp only; omega)).trans k6
  · exact (bV.frozen (p := ⟨w.heap.size + 1, 1, none⟩) (by dsimp only; omega)).trans k7
  · rw [World.frozen?_alloc_at _ _ _ _ rfl]
  · rw [World.frozen?_alloc_at _ _ _ _ rfl]
theorem refSt_step {w wr w1 : World} {X : Nat} {s0 : Value} {on0 : Bool} {p q : PicL} {a : Option Addr} {cap : Nat} {x : TypeId} (h : RefSt w wr X s0 on0 p) (hb : Below wr.heap.size wr w1) (hs : BytesAt w1 (.slice a q.1.length cap) q.1) :
    RefSt w (((w1.setCell ⟨X, 0, none⟩ (.slice a q.1.length cap)).setCell ⟨X, 1, none⟩ (.bool q.2)).alloc (.cells #[.slice a q.1.length cap, .bool q.2] x)) X s0 on0 q := by
  obtain ⟨⟨a0, cap0, m0, m1, _⟩, m2, m3, m4, m5, m6, m7, m8, m9, m10, m11, m12⟩ := h
  have hsz := hb.size
  have g0 : w1.cell? ⟨X, 0, none⟩ = some (.slice a0 p.1.length cap0) := (hb.cell (p := ⟨X, 0, none⟩) m11).trans m0
  have g1 : w1.cell? ⟨X, 1, none⟩ = some (.bool p.2) := (hb.cell (p := ⟨X, 1, none⟩) m11).trans m1
  have ne1 : (⟨X, 0, none⟩ : Addr) ≠ ⟨X, 1, none⟩ := by simp
  have s1 : (w1.setCell ⟨X, 0, none⟩ (.slice a q.1.length cap)).cell? ⟨X, 1, none⟩ = some (.bool p.2) := (World.cell?_setCell_other _ _ _ _ ne1).trans g1
  have r0 : ((w1.setCell ⟨X, 0, none⟩ (.slice a q.1.length cap)).setCell ⟨X, 1, none⟩ (.bool q.2)).cell? ⟨X, 0, none⟩ = some (.slice a q.1.length cap) := by
    rw [World.cell?_setCell_other _ _ _ _ ne1.symm]; exact World.cell?_setCell_same _ _ _ g0
  have r1 : ((w1.setCell ⟨X, 0, none⟩ (.slice a q.1.length cap)).setCell ⟨X, 1, none⟩ (.bool q.2)).cell? ⟨X, 1, none⟩ = some (.bool q.2) := World.cell?_setCell_same _ _ _ s1
  have r2 : ∀ b : Addr, b.block < wr.heap.size → b.block ≠ X → ((w1.setCell ⟨X, 0, none⟩ (.slice a q.1.length cap)).setCell ⟨X, 1, none⟩ (.bool q.2)).cell? b = wr.cell? b := fun b hb1 hb2 => by
    rw [World.cell?_setCell_other _ _ _ _ (fun e => hb2 (by rw [← e])), World.cell?_setCell_other _ _ _ _ (fun e => hb2 (by rw [← e]))]
    exact hb.cell hb1
  have r3 : ∀ b : Addr, b.block < wr.heap.size → ((w1.setCell ⟨X, 0, none⟩ (.slice a q.1.length cap)).setCell ⟨X, 1, none⟩ (.bool q.2)).frozen? b = wr.frozen? b := fun b hb1 => by
    have : w1.frozen? b = wr.frozen? b := hb.frozen hb1
    rw [← this]
    simp only [World.frozen?_setCell]
  have r4 : Below w.heap.size w ((w1.setCell ⟨X, 0, none⟩ (.slice a q.1.length cap)).setCell ⟨X, 1, none⟩ (.bool q.2)) := (((m12.trans (hb.mono (by have := m12.size; omega)))).setCell (by dsimp only; omega) _).setCell (by dsimp only; omega) _
  have r5 : w1.heap.size = ((w1.setCell ⟨X, 0, none⟩ (.slice a q.1.length cap)).setCell ⟨X, 1, none⟩ (.bool q.2)).heap.size := by simp
  have r6 : BytesAt ((w1.setCell ⟨X, 0, none⟩ (.slice a q.1.length cap)).setCell ⟨X, 1, none⟩ (.bool q.2)) (.slice a q.1.length cap) q.1 := bytesAt_setCell (bytesAt_setCell hs g0 (fun y e => by cases e) _) s1 (fun y e => by cases e) _
  clear s1
  generalize ((w1.setCell ⟨X, 0, none⟩ (.slice a q.1.length cap)).setCell ⟨X, 1, none⟩ (.bool q.2)) = V at *
  have bV : Below V.heap.size V (V.alloc (.cells #[.slice a q.1.length cap, .bool q.2] x)) := (Below.refl _ _).alloc (Nat.le_refl _) _
  refine ⟨⟨a, cap, ?_, ?_, bytesAt_below r6 bV⟩, ?_, ?_, ?_, ?_, ?_, ?_, ?_, ?_, m10, by simp; omega, r4.alloc (by have := m12.size; omega) _⟩
  · exact (bV.cell (p := ⟨X, 0, none⟩) (by dsimp only; omega)).trans r0
  · exact (bV.cell (p := ⟨X, 1, none⟩) (by dsimp only; omega)).trans r1
  · exact (bV.cell (p := ⟨w.heap.size, 0, none⟩) (by dsimp only; omega)).trans ((r2 _ (by dsimp only; omega) (by dsimp only; omega)).trans m2)
  · exact (bV.cell (p := ⟨w.heap.size, 1, none⟩) (by dsimp only; omega)).trans ((r2 _ (by dsimp only; omega) (by dsimp only; omega)).trans m3)
  · exact (bV.cell (p := ⟨w.heap.size + 1, 0, none⟩) (by dsimp only; omega)).trans ((r2 _ (by dsimp only; omega) (by dsimp only; omega)).trans m4)
  · exact (bV.cell (p := ⟨w.heap.size + 1, 1, none⟩) (by dsimp only; omega)).trans ((r2 _ (by dsimp only; omega) (by dsimp only; omega)).trans m5)
  · exact (bV.frozen (p := ⟨w.heap.size + 1, 0, none⟩) (by dsimp only; omega)).trans ((r3 _ (by dsimp only; omega)).trans m6)
  · exact (bV.frozen (p := ⟨w.heap.size + 1, 1, none⟩) (by dsimp only; omega)).trans ((r3 _ (by dsimp only; omega)).trans m7)
  · exact (bV.frozen (p := ⟨X, 0, none⟩) (by dsimp only; omega)).trans ((r3 _ (by dsimp only; omega)).trans m8)
  · exact (bV.frozen (p := ⟨X, 1, none⟩) (by dsimp only; omega)).trans ((r3 _ (by dsimp only; omega)).trans m9)
end Go.Proofs.Ytpjhgokdkgnbdaa
