/- The statement that all digits are one digit and all of what is left: its walk. -/
import Derived.Test.YtpjhgokdkgnbdaaPicN
namespace Go.Proofs.Ytpjhgokdkgnbdaa
open Go.RowKit

set_option maxRecDepth 100000 in
set_option maxHeartbeats 8000000 in
theorem walk_PicSteps (v0 : Value) (w : World) (h0 : Reads w 57 v0) : Calls Try.prog 8 #[v0] w fun e w' => e = .returned (.bool true) ∧ Below w.heap.size w w' := by
  obtain ⟨a, cap, p, lo, hi, b, rfl, SP, hlo, hhi, _⟩ := reads_steps h0
  have cc := Below.refl w.heap.size w
  clear h0
  obtain ⟨r, hr⟩ : ∃ r, rightS p = r := ⟨_, rfl⟩
  have R2 := Lib.hid (fun v w h => ref_Right v p w h)
  rw [hr] at R2
  clear hr
  cases r with
  | false =>
    go_enter Try.func8, Try.ntmps8
    go_wp2_with fail
    refine (pic_shown _).mono ?_
    rintro e wC ⟨rfl, bC⟩
    obtain ⟨kp0, kp1, kp2⟩ := keptB bC (by simp)
    replace SP := hid_below (hid_alloc (hid_alloc SP _) _) bC
    replace cc := ((cc.alloc cc.size _).alloc (cc.alloc cc.size _).size _).trans (bC.mono ((cc.alloc cc.size _).alloc (cc.alloc cc.size _).size _).size)
    clear bC
    go_wp2_with fail
    refine (R2.out _ _ (hidAt SP)).mono ?_
    rintro e wC ⟨rfl, bC⟩
    replace SP := hid_below SP bC
    have kk := keptOn ⟨kp0, kp1, kp2⟩ bC (by first | exact kp2 | ((try simp only [World.size_alloc]); omega))
    clear kp0 kp1 kp2
    obtain ⟨kp0, kp1, kp2⟩ := kk
    replace cc := cc.trans (bC.mono cc.size)
    clear bC
    go_wp2
    go_ret
    exact ⟨rfl, cc⟩
  | true =>
    by_cases hb : isB b = true
    · obtain ⟨B, rfl, h2, h3⟩ := base_nat hb
      have t1 : decide ((B : Int) < 2) = false := by simp; omega
      have t2 : decide (36 < (B : Int)) = false := by simp; omega
      have A0 := fun v w h => pic_All v p lo hi B w h hlo hhi
      have D0 := fun v w h => pic_Digit v p lo hi B w h
      rcases steps_law p lo hi B hb h2 with ⟨e1, e2⟩ | ⟨q, e1, e2⟩ | ⟨q, l, h, e1, hz, fl, fh, e2⟩
      · rw [e1] at D0
        rw [e2] at A0
        have S0 := fun v u w h g => ref_Same v u p p w h g
        rw [sameS_self] at S0
        have D := Lib.hid D0
        have A := Lib.hid A0
        have SS := Lib.hid S0
        clear e1 e2 D0 A0 S0 hb h2 h3 hlo hhi
        go_enter Try.func8, Try.ntmps8
        go_wp2_with fail
        refine (pic_shown _).mono ?_
        rintro e wC ⟨rfl, bC⟩
        obtain ⟨kp0, kp1, kp2⟩ := keptB bC (by simp)
        replace SP := hid_below (hid_alloc (hid_alloc SP _) _) bC
        replace cc := ((cc.alloc cc.size _).alloc (cc.alloc cc.size _).size _).trans (bC.mono ((cc.alloc cc.size _).alloc (cc.alloc cc.size _).size _).size)
        clear bC
        go_wp2_with fail
        refine (R2.out _ _ (hidAt SP)).mono ?_
        rintro e wC ⟨rfl, bC⟩
        replace SP := hid_below SP bC
        have kk := keptOn ⟨kp0, kp1, kp2⟩ bC (by first | exact kp2 | ((try simp only [World.size_alloc]); omega))
        clear kp0 kp1 kp2
        obtain ⟨kp0, kp1, kp2⟩ := kk
        replace cc := cc.trans (bC.mono cc.size)
        clear bC
        go_wp2_with fail
        refine (D.out _ _ (hidAt SP)).mono ?_
        rintro e wC ⟨⟨vC, rfl, hC⟩, bC⟩
        replace SP := hid_below SP bC
        have kk := keptOn ⟨kp0, kp1, kp2⟩ bC (by first | exact kp2 | ((try simp only [World.size_alloc]); omega))
        clear kp0 kp1 kp2
        obtain ⟨kp0, kp1, kp2⟩ := kk
        replace cc := cc.trans (bC.mono cc.size)
        try dsimp only at hC
        obtain ⟨aX, capX, rfl, X⟩ := picAt_hid hC
        clear hC
        clear bC
        go_wp2_with fail
        refine (A.out _ _ (hidAt (hid_alloc SP _))).mono ?_
        rintro e wC ⟨⟨vC, rfl, hC⟩, bC⟩
        replace SP := hid_below (hid_alloc SP _) bC
        replace X := hid_below (hid_alloc X _) bC
        have kk := keptOn (keptAlloc ⟨kp0, kp1, kp2⟩ _) bC (by first | exact kp2 | ((try simp only [World.size_alloc]); omega))
        clear kp0 kp1 kp2
        obtain ⟨kp0, kp1, kp2⟩ := kk
        obtain ⟨kx0, kx1, kx2⟩ := kept bC (by simp)
        replace cc := (cc.alloc cc.size _).trans (bC.mono (cc.alloc cc.size _).size)
        try dsimp only at hC
        obtain ⟨aY, capY, rfl, Y⟩ := picAt_hid hC
        clear hC
        clear bC
        go_wp2_with fail
        refine (SS.out _ _ _ (hidAt (hid_alloc Y _)) (hidAt (hid_alloc SP _))).mono ?_
        rintro e wC ⟨rfl, bC⟩
        replace SP := hid_below (hid_alloc SP _) bC
        replace X := hid_below (hid_alloc X _) bC
        replace Y := hid_below (hid_alloc Y _) bC
        have kk := keptOn (keptAlloc ⟨kp0, kp1, kp2⟩ _) bC (by first | exact kp2 | ((try simp only [World.size_alloc]); omega))
        clear kp0 kp1 kp2
        obtain ⟨kp0, kp1, kp2⟩ := kk
        have kk := keptOn (keptAlloc ⟨kx0, kx1, kx2⟩ _) bC (by first | exact kx2 | ((try simp only [World.size_alloc]); omega))
        clear kx0 kx1 kx2
        obtain ⟨kx0, kx1, kx2⟩ := kk
        obtain ⟨ky0, ky1, ky2⟩ := kept bC (by simp)
        replace cc := (cc.alloc cc.size _).trans (bC.mono (cc.alloc cc.size _).size)
        clear bC
        go_wp2_with fail
        refine (SS.out _ _ _ (hidAt X) (hidAt SP)).mono ?_
        rintro e wC ⟨rfl, bC⟩
        replace SP := hid_below SP bC
        replace X := hid_below X bC
        replace Y := hid_below Y bC
        have kk := keptOn ⟨kp0, kp1, kp2⟩ bC (by first | exact kp2 | ((try simp only [World.size_alloc]); omega))
        clear kp0 kp1 kp2
        obtain ⟨kp0, kp1, kp2⟩ := kk
        have kk := keptOn ⟨kx0, kx1, kx2⟩ bC (by first | exact kx2 | ((try simp only [World.size_alloc]); omega))
        clear kx0 kx1 kx2
        obtain ⟨kx0, kx1, kx2⟩ := kk
        have kk := keptOn ⟨ky0, ky1, ky2⟩ bC (by first | exact ky2 | ((try simp only [World.size_alloc]); omega))
        clear ky0 ky1 ky2
        obtain ⟨ky0, ky1, ky2⟩ := kk
        replace cc := cc.trans (bC.mono cc.size)
        clear bC
        go_wp2
        go_ret
        exact ⟨rfl, cc⟩
      · rw [e1] at D0
        rw [e2] at A0
        have S0 := fun v u w h g => ref_Same v u q q w h g
        rw [sameS_self] at S0
        have D := Lib.hid D0
        have A := Lib.hid A0
        have SS := Lib.hid S0
        clear e1 e2 D0 A0 S0 hb h2 h3 hlo hhi
        go_enter Try.func8, Try.ntmps8
        go_wp2_with fail
        refine (pic_shown _).mono ?_
        rintro e wC ⟨rfl, bC⟩
        obtain ⟨kp0, kp1, kp2⟩ := keptB bC (by simp)
        replace SP := hid_below (hid_alloc (hid_alloc SP _) _) bC
        replace cc := ((cc.alloc cc.size _).alloc (cc.alloc cc.size _).size _).trans (bC.mono ((cc.alloc cc.size _).alloc (cc.alloc cc.size _).size _).size)
        clear bC
        go_wp2_with fail
        refine (R2.out _ _ (hidAt SP)).mono ?_
        rintro e wC ⟨rfl, bC⟩
        replace SP := hid_below SP bC
        have kk := keptOn ⟨kp0, kp1, kp2⟩ bC (by first | exact kp2 | ((try simp only [World.size_alloc]); omega))
        clear kp0 kp1 kp2
        obtain ⟨kp0, kp1, kp2⟩ := kk
        replace cc := cc.trans (bC.mono cc.size)
        clear bC
        go_wp2_with fail
        refine (D.out _ _ (hidAt SP)).mono ?_
        rintro e wC ⟨⟨vC, rfl, hC⟩, bC⟩
        replace SP := hid_below SP bC
        have kk := keptOn ⟨kp0, kp1, kp2⟩ bC (by first | exact kp2 | ((try simp only [World.size_alloc]); omega))
        clear kp0 kp1 kp2
        obtain ⟨kp0, kp1, kp2⟩ := kk
        replace cc := cc.trans (bC.mono cc.size)
        try dsimp only at hC
        obtain ⟨aX, capX, rfl, X⟩ := picAt_hid hC
        clear hC
        clear bC
        go_wp2_with fail
        refine (A.out _ _ (hidAt (hid_alloc SP _))).mono ?_
        rintro e wC ⟨⟨vC, rfl, hC⟩, bC⟩
        replace SP := hid_below (hid_alloc SP _) bC
        replace X := hid_below (hid_alloc X _) bC
        have kk := keptOn (keptAlloc ⟨kp0, kp1, kp2⟩ _) bC (by first | exact kp2 | ((try simp only [World.size_alloc]); omega))
        clear kp0 kp1 kp2
        obtain ⟨kp0, kp1, kp2⟩ := kk
        obtain ⟨kx0, kx1, kx2⟩ := kept bC (by simp)
        replace cc := (cc.alloc cc.size _).trans (bC.mono (cc.alloc cc.size _).size)
        try dsimp only at hC
        obtain ⟨aY, capY, rfl, Y⟩ := picAt_hid hC
        clear hC
        clear bC
        go_wp2_with fail
        refine (SS.out _ _ _ (hidAt (hid_alloc X _)) (hidAt (hid_alloc Y _))).mono ?_
        rintro e wC ⟨rfl, bC⟩
        replace SP := hid_below (hid_alloc SP _) bC
        replace X := hid_below (hid_alloc X _) bC
        replace Y := hid_below (hid_alloc Y _) bC
        have kk := keptOn (keptAlloc ⟨kp0, kp1, kp2⟩ _) bC (by first | exact kp2 | ((try simp only [World.size_alloc]); omega))
        clear kp0 kp1 kp2
        obtain ⟨kp0, kp1, kp2⟩ := kk
        have kk := keptOn (keptAlloc ⟨kx0, kx1, kx2⟩ _) bC (by first | exact kx2 | ((try simp only [World.size_alloc]); omega))
        clear kx0 kx1 kx2
        obtain ⟨kx0, kx1, kx2⟩ := kk
        obtain ⟨ky0, ky1, ky2⟩ := kept bC (by simp)
        replace cc := (cc.alloc cc.size _).trans (bC.mono (cc.alloc cc.size _).size)
        clear bC
        go_wp2
        go_ret
        exact ⟨rfl, cc⟩
      · rw [e1] at D0
        have C0 := fun v w g => pic_All v q l h B w g fl fh
        have hzz : (l == 0) = false ∨ (l = 0 ∧ (h == 0) = false) := by
          by_cases x : l = 0
          · exact .inr ⟨x, by simp; exact fun y => hz ⟨x, y⟩⟩
          · exact .inl (by simp [x])
        have D := Lib.hid D0
        rcases e2 with ⟨y, e2, e3⟩ | ⟨e2, e3⟩
        · rw [e2] at A0
          rw [e3] at C0
          have S0 := fun v u w h g => ref_Same v u y y w h g
          rw [sameS_self] at S0
          have A := Lib.hid A0
          have C := Lib.hid C0
          have SS := Lib.hid S0
          clear e1 e2 e3 D0 A0 C0 S0 hb h2 h3 hlo hhi hz
          rcases hzz with z1 | ⟨rfl, z2⟩
          all_goals
            go_enter Try.func8, Try.ntmps8
            go_wp2_with fail
            refine (pic_shown _).mono ?_
            rintro e wC ⟨rfl, bC⟩
            obtain ⟨kp0, kp1, kp2⟩ := keptB bC (by simp)
            replace SP := hid_below (hid_alloc (hid_alloc SP _) _) bC
            replace cc := ((cc.alloc cc.size _).alloc (cc.alloc cc.size _).size _).trans (bC.mono ((cc.alloc cc.size _).alloc (cc.alloc cc.size _).size _).size)
            clear bC
            go_wp2_with fail
            refine (R2.out _ _ (hidAt SP)).mono ?_
            rintro e wC ⟨rfl, bC⟩
            replace SP := hid_below SP bC
            have kk := keptOn ⟨kp0, kp1, kp2⟩ bC (by first | exact kp2 | ((try simp only [World.size_alloc]); omega))
            clear kp0 kp1 kp2
            obtain ⟨kp0, kp1, kp2⟩ := kk
            replace cc := cc.trans (bC.mono cc.size)
            clear bC
            go_wp2_with fail
            refine (D.out _ _ (hidAt SP)).mono ?_
            rintro e wC ⟨⟨vC, rfl, hC⟩, bC⟩
            replace SP := hid_below SP bC
            have kk := keptOn ⟨kp0, kp1, kp2⟩ bC (by first | exact kp2 | ((try simp only [World.size_alloc]); omega))
            clear kp0 kp1 kp2
            obtain ⟨kp0, kp1, kp2⟩ := kk
            replace cc := cc.trans (bC.mono cc.size)
            try dsimp only at hC
            obtain ⟨aX, capX, rfl, X⟩ := picAt_hid hC
            clear hC
            clear bC
            go_wp2_with fail
            refine (A.out _ _ (hidAt (hid_alloc SP _))).mono ?_
            rintro e wC ⟨⟨vC, rfl, hC⟩, bC⟩
            replace SP := hid_below (hid_alloc SP _) bC
            replace X := hid_below (hid_alloc X _) bC
            have kk := keptOn (keptAlloc ⟨kp0, kp1, kp2⟩ _) bC (by first | exact kp2 | ((try simp only [World.size_alloc]); omega))
            clear kp0 kp1 kp2
            obtain ⟨kp0, kp1, kp2⟩ := kk
            obtain ⟨kx0, kx1, kx2⟩ := kept bC (by simp)
            replace cc := (cc.alloc cc.size _).trans (bC.mono (cc.alloc cc.size _).size)
            try dsimp only at hC
            obtain ⟨aY, capY, rfl, Y⟩ := picAt_hid hC
            clear hC
            clear bC
            go_wp2_with fail
            refine (C.out _ _ (hidAt (hid_alloc X _))).mono ?_
            rintro e wC ⟨⟨vC, rfl, hC⟩, bC⟩
            replace SP := hid_below (hid_alloc SP _) bC
            replace X := hid_below (hid_alloc X _) bC
            replace Y := hid_below (hid_alloc Y _) bC
            have kk := keptOn (keptAlloc ⟨kp0, kp1, kp2⟩ _) bC (by first | exact kp2 | ((try simp only [World.size_alloc]); omega))
            clear kp0 kp1 kp2
            obtain ⟨kp0, kp1, kp2⟩ := kk
            have kk := keptOn (keptAlloc ⟨kx0, kx1, kx2⟩ _) bC (by first | exact kx2 | ((try simp only [World.size_alloc]); omega))
            clear kx0 kx1 kx2
            obtain ⟨kx0, kx1, kx2⟩ := kk
            obtain ⟨ky0, ky1, ky2⟩ := kept bC (by simp)
            replace cc := (cc.alloc cc.size _).trans (bC.mono (cc.alloc cc.size _).size)
            try dsimp only at hC
            obtain ⟨aZ, capZ, rfl, Z⟩ := picAt_hid hC
            clear hC
            clear bC
            go_wp2_with fail
            refine (SS.out _ _ _ (hidAt (hid_alloc Y _)) (hidAt (hid_alloc Z _))).mono ?_
            rintro e wC ⟨rfl, bC⟩
            replace SP := hid_below (hid_alloc SP _) bC
            replace X := hid_below (hid_alloc X _) bC
            replace Y := hid_below (hid_alloc Y _) bC
            have kk := keptOn (keptAlloc ⟨kp0, kp1, kp2⟩ _) bC (by first | exact kp2 | ((try simp only [World.size_alloc]); omega))
            clear kp0 kp1 kp2
            obtain ⟨kp0, kp1, kp2⟩ := kk
            have kk := keptOn (keptAlloc ⟨kx0, kx1, kx2⟩ _) bC (by first | exact kx2 | ((try simp only [World.size_alloc]); omega))
            clear kx0 kx1 kx2
            obtain ⟨kx0, kx1, kx2⟩ := kk
            have kk := keptOn (keptAlloc ⟨ky0, ky1, ky2⟩ _) bC (by first | exact ky2 | ((try simp only [World.size_alloc]); omega))
            clear ky0 ky1 ky2
            obtain ⟨ky0, ky1, ky2⟩ := kk
            obtain ⟨kz0, kz1, kz2⟩ := kept bC (by simp)
            replace cc := (cc.alloc cc.size _).trans (bC.mono (cc.alloc cc.size _).size)
            clear bC
            go_wp2
            go_ret
            exact ⟨rfl, cc⟩
        · rw [e2] at A0
          rw [e3] at C0
          have A := Lib.hid A0
          have C := Lib.hid C0
          clear e1 e2 e3 D0 A0 C0 hb h2 h3 hlo hhi hz
          rcases hzz with z1 | ⟨rfl, z2⟩
          all_goals
            go_enter Try.func8, Try.ntmps8
            go_wp2_with fail
            refine (pic_shown _).mono ?_
            rintro e wC ⟨rfl, bC⟩
            obtain ⟨kp0, kp1, kp2⟩ := keptB bC (by simp)
            replace SP := hid_below (hid_alloc (hid_alloc SP _) _) bC
            replace cc := ((cc.alloc cc.size _).alloc (cc.alloc cc.size _).size _).trans (bC.mono ((cc.alloc cc.size _).alloc (cc.alloc cc.size _).size _).size)
            clear bC
            go_wp2_with fail
            refine (R2.out _ _ (hidAt SP)).mono ?_
            rintro e wC ⟨rfl, bC⟩
            replace SP := hid_below SP bC
            have kk := keptOn ⟨kp0, kp1, kp2⟩ bC (by first | exact kp2 | ((try simp only [World.size_alloc]); omega))
            clear kp0 kp1 kp2
            obtain ⟨kp0, kp1, kp2⟩ := kk
            replace cc := cc.trans (bC.mono cc.size)
            clear bC
            go_wp2_with fail
            refine (D.out _ _ (hidAt SP)).mono ?_
            rintro e wC ⟨⟨vC, rfl, hC⟩, bC⟩
            replace SP := hid_below SP bC
            have kk := keptOn ⟨kp0, kp1, kp2⟩ bC (by first | exact kp2 | ((try simp only [World.size_alloc]); omega))
            clear kp0 kp1 kp2
            obtain ⟨kp0, kp1, kp2⟩ := kk
            replace cc := cc.trans (bC.mono cc.size)
            try dsimp only at hC
            obtain ⟨aX, capX, rfl, X⟩ := picAt_hid hC
            clear hC
            clear bC
            go_wp2_with fail
            refine (A.out _ _ (hidAt (hid_alloc SP _))).mono ?_
            rintro e wC ⟨⟨vC, rfl, hC⟩, bC⟩
            replace SP := hid_below (hid_alloc SP _) bC
            replace X := hid_below (hid_alloc X _) bC
            have kk := keptOn (keptAlloc ⟨kp0, kp1, kp2⟩ _) bC (by first | exact kp2 | ((try simp only [World.size_alloc]); omega))
            clear kp0 kp1 kp2
            obtain ⟨kp0, kp1, kp2⟩ := kk
            obtain ⟨kx0, kx1, kx2⟩ := kept bC (by simp)
            replace cc := (cc.alloc cc.size _).trans (bC.mono (cc.alloc cc.size _).size)
            try dsimp only at hC
            obtain ⟨aY, capY, rfl, Y⟩ := picAt_hid hC
            clear hC
            clear bC
            go_wp2_with fail
            refine (C.out _ _ (hidAt (hid_alloc X _))).mono ?_
            rintro e wC ⟨⟨vC, rfl, hC⟩, bC⟩
            replace SP := hid_below (hid_alloc SP _) bC
            replace X := hid_below (hid_alloc X _) bC
            replace Y := hid_below (hid_alloc Y _) bC
            have kk := keptOn (keptAlloc ⟨kp0, kp1, kp2⟩ _) bC (by first | exact kp2 | ((try simp only [World.size_alloc]); omega))
            clear kp0 kp1 kp2
            obtain ⟨kp0, kp1, kp2⟩ := kk
            have kk := keptOn (keptAlloc ⟨kx0, kx1, kx2⟩ _) bC (by first | exact kx2 | ((try simp only [World.size_alloc]); omega))
            clear kx0 kx1 kx2
            obtain ⟨kx0, kx1, kx2⟩ := kk
            obtain ⟨ky0, ky1, ky2⟩ := kept bC (by simp)
            replace cc := (cc.alloc cc.size _).trans (bC.mono (cc.alloc cc.size _).size)
            try dsimp only at hC
            obtain ⟨aZ, capZ, rfl, Z⟩ := picAt_hid hC
            clear hC
            clear bC
            go_wp2
            go_ret
            exact ⟨rfl, cc.alloc cc.size _⟩
    · have hb2 : ¬ (2 ≤ b ∧ b ≤ 36) := fun h => hb ((isB_iff b).2 h)
      clear hb
      by_cases hlt : b < 2
      · have t1 : decide (b < 2) = true := by simp [hlt]
        go_enter Try.func8, Try.ntmps8
        go_wp2_with fail
        refine (pic_shown _).mono ?_
        rintro e wC ⟨rfl, bC⟩
        obtain ⟨kp0, kp1, kp2⟩ := keptB bC (by simp)
        replace SP := hid_below (hid_alloc (hid_alloc SP _) _) bC
        replace cc := ((cc.alloc cc.size _).alloc (cc.alloc cc.size _).size _).trans (bC.mono ((cc.alloc cc.size _).alloc (cc.alloc cc.size _).size _).size)
        clear bC
        go_wp2_with fail
        refine (R2.out _ _ (hidAt SP)).mono ?_
        rintro e wC ⟨rfl, bC⟩
        replace SP := hid_below SP bC
        have kk := keptOn ⟨kp0, kp1, kp2⟩ bC (by first | exact kp2 | ((try simp only [World.size_alloc]); omega))
        clear kp0 kp1 kp2
        obtain ⟨kp0, kp1, kp2⟩ := kk
        replace cc := cc.trans (bC.mono cc.size)
        clear bC
        go_wp2
        go_ret
        exact ⟨rfl, cc⟩
      · have t1 : decide (b < 2) = false := by simp; omega
        have t2 : decide (36 < b) = true := by simp; omega
        go_enter Try.func8, Try.ntmps8
        go_wp2_with fail
        refine (pic_shown _).mono ?_
        rintro e wC ⟨rfl, bC⟩
        obtain ⟨kp0, kp1, kp2⟩ := keptB bC (by simp)
        replace SP := hid_below (hid_alloc (hid_alloc SP _) _) bC
        replace cc := ((cc.alloc cc.size _).alloc (cc.alloc cc.size _).size _).trans (bC.mono ((cc.alloc cc.size _).alloc (cc.alloc cc.size _).size _).size)
        clear bC
        go_wp2_with fail
        refine (R2.out _ _ (hidAt SP)).mono ?_
        rintro e wC ⟨rfl, bC⟩
        replace SP := hid_below SP bC
        have kk := keptOn ⟨kp0, kp1, kp2⟩ bC (by first | exact kp2 | ((try simp only [World.size_alloc]); omega))
        clear kp0 kp1 kp2
        obtain ⟨kp0, kp1, kp2⟩ := kk
        replace cc := cc.trans (bC.mono cc.size)
        clear bC
        go_wp2
        go_ret
        exact ⟨rfl, cc⟩
end Go.Proofs.Ytpjhgokdkgnbdaa
