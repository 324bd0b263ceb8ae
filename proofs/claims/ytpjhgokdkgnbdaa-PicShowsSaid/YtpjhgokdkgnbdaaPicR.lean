/- The statement that a cell, put together whole, is its text: its walk. -/
import Derived.Test.YtpjhgokdkgnbdaaPicQ
namespace Go.Proofs.Ytpjhgokdkgnbdaa
open Go.RowKit Go.ChangeShapes

theorem keptF {w w' : World} {B : Nat} {x y : Value} {t : TypeId} (h : Below B (w.alloc (.cells #[x, y] t)) w') (hB : w.heap.size + 1 ≤ B) :
    w'.frozen? ⟨w.heap.size, 0, none⟩ = false ∧ w'.frozen? ⟨w.heap.size, 1, none⟩ = false := by
  constructor
  · rw [h.frozen (p := ⟨w.heap.size, 0, none⟩) (by dsimp only; omega), World.frozen?_alloc_at _ _ _ _ rfl]
  · rw [h.frozen (p := ⟨w.heap.size, 1, none⟩) (by dsimp only; omega), World.frozen?_alloc_at _ _ _ _ rfl]

set_option maxRecDepth 100000 in
set_option maxHeartbeats 8000000 in
theorem walk_PicShows (v0 v1 : Value) (w : World) (h0 : Reads w 3 v0) (h1 : Reads w 3 v1) : Calls Try.prog 5 #[v0, v1] w fun e w' => e = .returned (.bool true) ∧ Below w.heap.size w w' := by
  obtain ⟨n, rfl, hn0⟩ := reads_int Try.underlying3 h0
  obtain ⟨b, rfl, hb0⟩ := reads_int Try.underlying3 h1
  have hn := fit_wf hn0
  clear h0 h1 hn0 hb0
  have cc := Below.refl w.heap.size w
  have zf : Fit 0 := by decide
  have U0 := fun w => ref_UShow n b w
  have A0 := fun v w h => pic_All v beginS n 0 b w h hn zf
  by_cases hb : isB b = true
  · obtain ⟨B, rfl, h2, h3⟩ := base_nat hb
    obtain ⟨sz, p, q, r, l, m, s1, s2, e1, e2, e3, e4, e5, e6, e7, e8, e9⟩ := shows_law n B hb h2
    have E0 := fun v w h => pic_End v p w h (by omega)
    have N0 := fun v w h => pic_Sign v q n w h
    have F0 := fun v w h => pic_End v r w h (by omega)
    have V0 := fun w => ref_Show n B w hn
    obtain ⟨X1, hX1⟩ : ∃ A : ByteArray, (⟨l.toArray⟩ : ByteArray) = A := ⟨_, rfl⟩
    obtain ⟨X2, hX2⟩ : ∃ A : ByteArray, (⟨m.toArray⟩ : ByteArray) = A := ⟨_, rfl⟩
    rw [e1] at U0
    rw [e3] at A0
    rw [e4] at E0
    rw [e7] at N0
    rw [e8] at F0
    rw [e2] at V0
    dsimp only at U0 E0 F0 V0
    rw [hX1] at U0 E0
    rw [hX2] at F0 V0
    have G0 := fun v w h => pic_All v beginS sz 0 B w h
    rw [e6] at G0
    replace U0 := Lib.hid U0
    replace A0 := Lib.hid A0
    replace E0 := Lib.hid E0
    replace N0 := Lib.hid N0
    replace F0 := Lib.hid F0
    replace V0 := Lib.hid V0
    clear e1 e2 e3 e4 e5 e6 e7 e8 e9 hX1 hX2 hb h2 h3
    by_cases hneg : n < 0
    · have t1 : decide (n < 0) = true := by simp [hneg]
      obtain rfl := s2 hneg
      have G1 := Lib.hid (fun v w h => G0 v w h (wrap64_rng _) zf)
      clear s1 s2 G0 hneg
      go_enter Try.func5, Try.ntmps5
      go_wp2_with fail
      refine (pic_shown _).mono ?_
      rintro e wC ⟨rfl, bC⟩
      replace cc := cc.trans (bC.mono cc.size)
      clear bC
      go_wp2_with fail
      refine (U0.out _).mono ?_
      rintro e wC ⟨rfl, bC⟩
      replace cc := cc.trans (bC.mono cc.size)
      clear bC
      go_wp2_with fail
      refine (pic_Begin _).mono ?_
      rintro e wC ⟨⟨vC, rfl, hC⟩, bC⟩
      replace cc := cc.trans (bC.mono cc.size)
      (try dsimp only at hC)
      obtain ⟨aX, capX, rfl, X⟩ := picAt_hid hC
      clear hC
      clear bC
      go_wp2_with fail
      refine (A0.out _ _ (hidAt X)).mono ?_
      rintro e wC ⟨⟨vC, rfl, hC⟩, bC⟩
      replace cc := cc.trans (bC.mono cc.size)
      (try dsimp only at hC)
      obtain ⟨aP, capP, rfl, P⟩ := picAt_hid hC
      clear hC
      clear bC
      go_wp2_with fail
      refine (E0.out _ _ (hidAt (hid_alloc P _))).mono ?_
      rintro e wC ⟨rfl, bC⟩
      replace P := hid_below (hid_alloc P _) bC
      obtain ⟨kp0, kp1, kp2⟩ := kept bC (by simp)
      replace cc := (cc.alloc cc.size _).trans (bC.mono (cc.alloc cc.size _).size)
      clear bC
      go_wp2_with fail
      refine (pic_Begin _).mono ?_
      rintro e wC ⟨⟨vC, rfl, hC⟩, bC⟩
      replace P := hid_below P bC
      have kk := keptOn ⟨kp0, kp1, kp2⟩ bC (by first | exact kp2 | ((try simp only [World.size_alloc]); omega))
      clear kp0 kp1 kp2
      obtain ⟨kp0, kp1, kp2⟩ := kk
      replace cc := cc.trans (bC.mono cc.size)
      (try dsimp only at hC)
      obtain ⟨aX, capX, rfl, X⟩ := picAt_hid hC
      clear hC
      clear bC
      go_wp2_with fail
      refine (G1.out _ _ (hidAt X)).mono ?_
      rintro e wC ⟨⟨vC, rfl, hC⟩, bC⟩
      replace P := hid_below P bC
      have kk := keptOn ⟨kp0, kp1, kp2⟩ bC (by first | exact kp2 | ((try simp only [World.size_alloc]); omega))
      clear kp0 kp1 kp2
      obtain ⟨kp0, kp1, kp2⟩ := kk
      replace cc := cc.trans (bC.mono cc.size)
      (try dsimp only at hC)
      obtain ⟨aQ, capQ, rfl, Q⟩ := picAt_hid hC
      clear hC
      clear bC
      have hge := cc.size
      go_wp2_with fail
      refine (N0.out _ _ (hidAt (hid_alloc Q _))).mono ?_
      rintro e wD ⟨⟨vC, rfl, hC⟩, bC⟩
      obtain ⟨kq0, kq1, kq2⟩ := kept bC (by simp)
      obtain ⟨kq3, kq4⟩ := keptF bC (by simp)
      replace cc := (cc.alloc cc.size _).trans (bC.mono (cc.alloc cc.size _).size)
      try dsimp only at hC
      obtain ⟨aR, capR, rfl, R⟩ := picAt_hid hC
      clear hC bC kp0 kp1 kp2 P Q X
      have R2 := Lib.hid (bytesAt_stored R.out kq0 kq1 (fun x hx => by cases hx) (.slice aR r.1.length capR) (.bool r.2))
      have cc2 := (cc.setCell (p := ⟨_, 0, none⟩) hge (.slice aR r.1.length capR)).setCell (p := ⟨_, 1, none⟩) hge (.bool r.2)
      clear R cc
      go_wp2_with fail
      refine (F0.out _ _ (hidAt R2)).mono ?_
      rintro e wE ⟨rfl, bC⟩
      have cc := cc2.trans (bC.mono cc2.size)
      clear bC cc2 R2
      go_wp2_with fail
      refine (V0.out _).mono ?_
      rintro e wC ⟨rfl, bC⟩
      replace cc := cc.trans (bC.mono cc.size)
      clear bC
      go_wp2
      go_ret
      exact ⟨rfl, cc⟩
    · have t1 : decide (n < 0) = false := by simp; omega
      obtain rfl := s1 (by omega)
      have G1 := Lib.hid (fun v w h => G0 v w h hn zf)
      clear s1 s2 G0 hneg
      go_enter Try.func5, Try.ntmps5
      go_wp2_with fail
      refine (pic_shown _).mono ?_
      rintro e wC ⟨rfl, bC⟩
      replace cc := cc.trans (bC.mono cc.size)
      clear bC
      go_wp2_with fail
      refine (U0.out _).mono ?_
      rintro e wC ⟨rfl, bC⟩
      replace cc := cc.trans (bC.mono cc.size)
      clear bC
      go_wp2_with fail
      refine (pic_Begin _).mono ?_
      rintro e wC ⟨⟨vC, rfl, hC⟩, bC⟩
      replace cc := cc.trans (bC.mono cc.size)
      (try dsimp only at hC)
      obtain ⟨aX, capX, rfl, X⟩ := picAt_hid hC
      clear hC
      clear bC
      go_wp2_with fail
      refine (A0.out _ _ (hidAt X)).mono ?_
      rintro e wC ⟨⟨vC, rfl, hC⟩, bC⟩
      replace cc := cc.trans (bC.mono cc.size)
      (try dsimp only at hC)
      obtain ⟨aP, capP, rfl, P⟩ := picAt_hid hC
      clear hC
      clear bC
      go_wp2_with fail
      refine (E0.out _ _ (hidAt (hid_alloc P _))).mono ?_
      rintro e wC ⟨rfl, bC⟩
      replace P := hid_below (hid_alloc P _) bC
      obtain ⟨kp0, kp1, kp2⟩ := kept bC (by simp)
      replace cc := (cc.alloc cc.size _).trans (bC.mono (cc.alloc cc.size _).size)
      clear bC
      go_wp2_with fail
      refine (pic_Begin _).mono ?_
      rintro e wC ⟨⟨vC, rfl, hC⟩, bC⟩
      replace P := hid_below P bC
      have kk := keptOn ⟨kp0, kp1, kp2⟩ bC (by first | exact kp2 | ((try simp only [World.size_alloc]); omega))
      clear kp0 kp1 kp2
      obtain ⟨kp0, kp1, kp2⟩ := kk
      replace cc := cc.trans (bC.mono cc.size)
      (try dsimp only at hC)
      obtain ⟨aX, capX, rfl, X⟩ := picAt_hid hC
      clear hC
      clear bC
      go_wp2_with fail
      refine (G1.out _ _ (hidAt X)).mono ?_
      rintro e wC ⟨⟨vC, rfl, hC⟩, bC⟩
      replace P := hid_below P bC
      have kk := keptOn ⟨kp0, kp1, kp2⟩ bC (by first | exact kp2 | ((try simp only [World.size_alloc]); omega))
      clear kp0 kp1 kp2
      obtain ⟨kp0, kp1, kp2⟩ := kk
      replace cc := cc.trans (bC.mono cc.size)
      (try dsimp only at hC)
      obtain ⟨aQ, capQ, rfl, Q⟩ := picAt_hid hC
      clear hC
      clear bC
      have hge := cc.size
      go_wp2_with fail
      refine (N0.out _ _ (hidAt (hid_alloc Q _))).mono ?_
      rintro e wD ⟨⟨vC, rfl, hC⟩, bC⟩
      obtain ⟨kq0, kq1, kq2⟩ := kept bC (by simp)
      obtain ⟨kq3, kq4⟩ := keptF bC (by simp)
      replace cc := (cc.alloc cc.size _).trans (bC.mono (cc.alloc cc.size _).size)
      try dsimp only at hC
      obtain ⟨aR, capR, rfl, R⟩ := picAt_hid hC
      clear hC bC kp0 kp1 kp2 P Q X
      have R2 := Lib.hid (bytesAt_stored R.out kq0 kq1 (fun x hx => by cases hx) (.slice aR r.1.length capR) (.bool r.2))
      have cc2 := (cc.setCell (p := ⟨_, 0, none⟩) hge (.slice aR r.1.length capR)).setCell (p := ⟨_, 1, none⟩) hge (.bool r.2)
      clear R cc
      go_wp2_with fail
      refine (F0.out _ _ (hidAt R2)).mono ?_
      rintro e wE ⟨rfl, bC⟩
      have cc := cc2.trans (bC.mono cc2.size)
      clear bC cc2 R2
      go_wp2_with fail
      refine (V0.out _).mono ?_
      rintro e wC ⟨rfl, bC⟩
      replace cc := cc.trans (bC.mono cc.size)
      clear bC
      go_wp2
      go_ret
      exact ⟨rfl, cc⟩
  · have hb' : isB b = false := by simpa using hb
    have e1 : ushowS n b = ([], -24) := by unfold ushowS; rw [if_neg hb]
    have e2 := allS_bad beginS n 0 b hb'
    have e3 : endS beginS = ([], 0) := rfl
    have E0 := fun v w h => pic_End v beginS w h (by decide)
    rw [e1] at U0
    rw [e2] at A0
    rw [e3] at E0
    have S0 := fun v u w h g => ref_Same v u beginS beginS w h g
    rw [sameS_self] at S0
    replace U0 := Lib.hid U0
    replace A0 := Lib.hid A0
    replace E0 := Lib.hid E0
    replace S0 := Lib.hid S0
    clear e1 e2 e3 hb hb'
    go_enter Try.func5, Try.ntmps5
    go_wp2_with fail
    refine (pic_shown _).mono ?_
    rintro e wC ⟨rfl, bC⟩
    replace cc := cc.trans (bC.mono cc.size)
    clear bC
    go_wp2_with fail
    refine (U0.out _).mono ?_
    rintro e wC ⟨rfl, bC⟩
    replace cc := cc.trans (bC.mono cc.size)
    clear bC
    go_wp2_with fail
    refine (pic_Begin _).mono ?_
    rintro e wC ⟨⟨vC, rfl, hC⟩, bC⟩
    replace cc := cc.trans (bC.mono cc.size)
    (try dsimp only at hC)
    obtain ⟨aX, capX, rfl, X⟩ := picAt_hid hC
    clear hC
    clear bC
    go_wp2_with fail
    refine (A0.out _ _ (hidAt X)).mono ?_
    rintro e wC ⟨⟨vC, rfl, hC⟩, bC⟩
    replace cc := cc.trans (bC.mono cc.size)
    (try dsimp only at hC)
    obtain ⟨aP, capP, rfl, P⟩ := picAt_hid hC
    clear hC
    clear bC
    go_wp2_with fail
    refine (E0.out _ _ (hidAt (hid_alloc P _))).mono ?_
    rintro e wC ⟨rfl, bC⟩
    replace P := hid_below (hid_alloc P _) bC
    obtain ⟨kp0, kp1, kp2⟩ := kept bC (by simp)
    replace cc := (cc.alloc cc.size _).trans (bC.mono (cc.alloc cc.size _).size)
    clear bC
    go_wp2_with fail
    go_region_with (first
    | (go_at_call 28; (with_reducible refine (pic_Begin _).mono ?_); rintro e wC ⟨⟨vC, rfl, hC⟩, bC⟩; replace P := hid_below (hid_drew P) bC; have kk := keptOn (keptDrew ⟨kp0, kp1, kp2⟩) bC (by first | exact kp2 | ((try simp only [World.size_alloc]); omega)); clear kp0 kp1 kp2; obtain ⟨kp0, kp1, kp2⟩ := kk; replace cc := cc.drew.trans (bC.mono cc.drew.size); (try dsimp only at hC); obtain ⟨aY, capY, rfl, Y⟩ := picAt_hid hC; clear hC; clear bC)
    | (go_at_call 27; (with_reducible refine (S0.out _ _ _ (hidAt P) (hidAt Y)).mono ?_); rintro e wC ⟨rfl, bC⟩; replace P := hid_below P bC; have kk := keptOn ⟨kp0, kp1, kp2⟩ bC (by first | exact kp2 | ((try simp only [World.size_alloc]); omega)); clear kp0 kp1 kp2; obtain ⟨kp0, kp1, kp2⟩ := kk; replace cc := cc.trans (bC.mono cc.size); clear bC)
    )
    all_goals go_wp2
    all_goals go_ret
    all_goals exact ⟨rfl, cc⟩
end Go.Proofs.Ytpjhgokdkgnbdaa
