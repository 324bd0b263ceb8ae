/- The walks of layer 7 (pic), part K: all digits of a pair more, by the document's answer: the walk. -/
import Derived.Test.YtpjhgokdkgnbdaaPicJ
namespace Go.Proofs.Ytpjhgokdkgnbdaa
open Go.RowKit

set_option maxRecDepth 100000 in
set_option maxHeartbeats 4000000 in
theorem ref_All (v : Value) (p : PicL) (lo hi b : Int) (w : World) (h : PicAt w v p) : Calls Try.prog 37 #[v, .int .i64 lo, .int .i64 hi, .int .i64 b] w (GivesPic w (allS p lo hi b)) := by
  obtain ⟨a, cap, rfl, hs⟩ := picAt_form h
  have b0 := fun o1 o2 => ((Below.refl w.heap.size w).alloc (Nat.le_refl _) o1).alloc (by simp) o2
  have HS := Lib.hid hs
  have hD := fun o1 o2 => ref_PicDigit _ p lo hi b ((w.alloc o1).alloc o2) (picAt_below h (b0 o1 o2))
  -- what the first digit comes to
  obtain ⟨R, hR0⟩ : ∃ R, allS p lo hi b = R := ⟨_, rfl⟩
  have hR := Lib.hid hR0
  have key : ∃ (B : Nat) (x0 : Option PicL), (isB b = true → b = (B : Int) ∧ 2 ≤ B ∧ all0 B p (PU lo hi) = x0) ∧ AllAt p b B R x0 127 (digitS p lo hi b).1 (digitS p lo hi b).2.1 (digitS p lo hi b).2.2.1 (digitS p lo hi b).2.2.2 := by
    by_cases hb : isB b = true
    · obtain ⟨B, rfl, h2, h3⟩ := base_nat hb
      exact ⟨B, _, fun _ => ⟨rfl, h2, rfl⟩, by rw [← hR0]; exact allAt_step hb h2 rfl (all0_start B p (PU lo hi)).out (pair_128 lo hi)⟩
    · simp only [Bool.not_eq_true] at hb
      refine ⟨0, none, (fun h => by rw [h] at hb; cases hb), ?_⟩
      rw [digitS_bad p lo hi b hb, ← hR0, allS_bad p lo hi b hb]
      exact .inr (.inr ⟨by simp, rfl⟩)
  obtain ⟨B, x0, hB, hst⟩ := key
  obtain ⟨q, l, h', bad, hq⟩ : ∃ q l h' bad, digitS p lo hi b = (q, l, h', bad) := ⟨_, _, _, _, rfl⟩
  rw [hq] at hD hst
  have HD := Lib.hid hD
  have HST := Lib.hid hst
  have HBB := Lib.hid hB
  clear hD hst hq hR0 h hs hB
  go_enter Try.func37, Try.ntmps37
  go_wp2_with fail
  refine (HD.out _ _).mono ?_
  rintro e w1 ⟨⟨v1, rfl, hp1⟩, hb1⟩
  obtain ⟨a1, cap1, rfl, hs1⟩ := picAt_form hp1
  have RS := Lib.hid (refSt_start (x := 24) (q := q) hb1 (by simp) hs1)
  obtain ⟨k0, k1, k2, k3, k4, k5, k6, k7, k8⟩ := two_blocks (hb1.mono (by simp))
  clear hb1 hs1 hp1 b0
  go_wp2_with fail
  go_loopg [11, 12, 13] 127 (fun k s12 s13 s14 wr => ∃ (q' : PicL) (l2 h2 b2 : Int), s12 = .int .i64 l2 ∧ s13 = .int .i64 h2 ∧ s14 = .int .i64 b2 ∧ Hid (RefSt w wr w1.heap.size (.slice a p.1.length cap) p.2 q') ∧ Hid (AllAt p b B R x0 k q' l2 h2 b2))
  case atStart => exact ⟨q, l, h', bad, rfl, rfl, rfl, RS, HST⟩
  case round =>
    obtain ⟨q', l2, h2, b2, rfl, rfl, rfl, hst, hat⟩ := hrel
    obtain ⟨⟨a2, cap2, m0, m1, m2⟩, m3, m4, m5, m6, m7, m8, m9, m10, m11, m12, m13⟩ := hst.out
    have M2 := Lib.hid m2
    have M13 := Lib.hid m13
    rcases hat.out with ⟨rfl, rfl, rfl, e⟩ | ⟨rfl, hb, hz, r, hk, hlt, fl, fh, hg⟩ | ⟨hne, e⟩
    · have E := Lib.hid e
      clear e hat m2 m13 RS HST hst HBB HD
      go_wp2_with fail
      refine bodyPost_ret (v := .tuple #[.agg #[.slice a2 q'.1.length cap2, .bool q'.2], .int .i64 0]) (by simp [results, Try.results37, go_sem, m5, m6]) rfl ?_
      rw [hR.out, E.out]
      exact ⟨⟨_, rfl, _, rfl, bytesAt_stored M2.out m5 m6 (fun x hx => by cases hx) _ _⟩, (M13.out.setCell (by dsimp only; omega) _).setCell (by dsimp only; omega) _⟩
    · have D0 := ref_PicDigit _ q' l2 h2 b wr ⟨_, rfl, M2.out⟩
      obtain ⟨rfl, hB2, hx0⟩ := HBB.out hb
      have HR0 := allAt_step hb hB2 hx0 hg hlt
      rw [hR.out] at HR0
      obtain ⟨q3, l3, h3, b3, hq3⟩ : ∃ q3 l3 h3 b3, digitS q' l2 h2 B = (q3, l3, h3, b3) := ⟨_, _, _, _, rfl⟩
      rw [hq3] at D0 HR0
      have D := Lib.hid D0
      have HR := Lib.hid HR0
      clear D0 HR0 hq3
      have HK := Lib.hid hk
      have HST2 := Lib.hid (fun w1 q a cap x => @refSt_step _ _ w1 _ _ _ _ q a cap x hst.out)
      by_cases e1 : l2 = 0
      · have t2 : (h2 == 0) = false := by simp; exact fun h => hz ⟨e1, h⟩
        obtain rfl := e1
        clear hat m2 m13 RS HST hst HBB HD hz hlt hg hx0 hk hb
        go_wp2_with fail
        refine D.out.mono ?_
        rintro e w' ⟨⟨v', rfl, hp'⟩, hb'⟩
        obtain ⟨a', cap', rfl, hs'⟩ := picAt_form hp'
        have NXT := Lib.hid (HST2.out _ _ _ _ 24 hb' hs')
        have n0 := (hb'.cell (p := ⟨w1.heap.size, 0, none⟩) m12).trans m0
        have n1 := (hb'.cell (p := ⟨w1.heap.size, 1, none⟩) m12).trans m1
        have f0 := (hb'.frozen (p := ⟨w1.heap.size, 0, none⟩) m12).trans m9
        have f1 := (hb'.frozen (p := ⟨w1.heap.size, 1, none⟩) m12).trans m10
        have hsz := hb'.size
        have hX : w1.heap.size < w'.heap.size := by omega
        clear hb' hs' hp' D HST2 m0 m1
        go_wp2
        go_roundg r
        case measure => have := HK.out; omega
        case rel => exact ⟨_, _, _, _, rfl, rfl, rfl, NXT, HR⟩
      · have t1 : (l2 == 0) = false := by simp [e1]
        clear hat m2 m13 RS HST hst HBB HD hz hlt hg hx0 hk hb
        go_wp2_with fail
        refine D.out.mono ?_
        rintro e w' ⟨⟨v', rfl, hp'⟩, hb'⟩
        obtain ⟨a', cap', rfl, hs'⟩ := picAt_form hp'
        have NXT := Lib.hid (HST2.out _ _ _ _ 24 hb' hs')
        have n0 := (hb'.cell (p := ⟨w1.heap.size, 0, none⟩) m12).trans m0
        have n1 := (hb'.cell (p := ⟨w1.heap.size, 1, none⟩) m12).trans m1
        have f0 := (hb'.frozen (p := ⟨w1.heap.size, 0, none⟩) m12).trans m9
        have f1 := (hb'.frozen (p := ⟨w1.heap.size, 1, none⟩) m12).trans m10
        have hsz := hb'.size
        have hX : w1.heap.size < w'.heap.size := by omega
        clear hb' hs' hp' D HST2 m0 m1
        go_wp2
        go_roundg r
        case measure => have := HK.out; omega
        case rel => exact ⟨_, _, _, _, rfl, rfl, rfl, NXT, HR⟩
    · have E := Lib.hid e
      have t1 : (b2 == 0) = false := by simp [hne]
      clear e hat m2 m13 RS HST hst HBB HD
      go_wp2_with fail
      refine bodyPost_ret (v := .tuple #[.agg #[.slice a p.1.length cap, .bool p.2], .int .i64 b2]) (by simp [results, Try.results37, go_sem, m5, m6]) rfl ?_
      rw [hR.out, E.out]
      exact ⟨⟨_, rfl, _, rfl, bytesAt_stored (bytesAt_below HS.out M13.out) m5 m6 (fun x hx => by cases hx) _ _⟩, (M13.out.setCell (by dsimp only; omega) _).setCell (by dsimp only; omega) _⟩
end Go.Proofs.Ytpjhgokdkgnbdaa
