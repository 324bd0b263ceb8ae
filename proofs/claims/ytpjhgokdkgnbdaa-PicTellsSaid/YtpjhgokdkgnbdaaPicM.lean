/- The statement that texts that begin are as the document says: its walk. -/
import Derived.Test.YtpjhgokdkgnbdaaPicS
import Derived.Deep.RegionHeld3
namespace Go.Proofs.Ytpjhgokdkgnbdaa
open Go.RowKit

set_option maxRecDepth 100000 in
set_option maxHeartbeats 16000000 in
theorem walk_PicTells (v0 v1 : Value) (w : World) (h0 : Reads w 24 v0) (h1 : Reads w 24 v1) : Calls Try.prog 3 #[v0, v1] w fun e w' => e = .returned (.bool true) ∧ Below w.heap.size w w' := by
  obtain ⟨a, cap, p, rfl, sp, lp⟩ := reads_pic h0
  obtain ⟨b, bap, q, rfl, sq, lq⟩ := reads_pic h1
  have SP := Lib.hid sp
  have SQ := Lib.hid sq
  have cc := Below.refl w.heap.size w
  clear h0 h1 sp sq
  obtain ⟨r, hr⟩ : ∃ r, rightS p = r := ⟨_, rfl⟩
  obtain ⟨s, hs⟩ : ∃ s, sameS p q = s := ⟨_, rfl⟩
  by_cases g1 : 200 < p.1.length
  · have t1 : decide ((200 : Int) < (p.1.length : Int)) = true := by simp; omega
    clear g1 hr hs
    go_enter Try.func3, Try.ntmps3
    go_wp2_with fail
    refine (pic_shown _).mono ?_
    rintro e wC ⟨rfl, bC⟩
    obtain ⟨⟨kp0, kp1, kp2⟩, kq0, kq1, kq2⟩ := kept2 bC (by simp)
    replace cc := ((cc.alloc cc.size _).alloc (cc.alloc cc.size _).size _).trans (bC.mono ((cc.alloc cc.size _).alloc (cc.alloc cc.size _).size _).size)
    clear bC
    go_wp2
    go_ret
    exact ⟨rfl, cc⟩
  · by_cases g2 : 200 < q.1.length
    · have t1 : decide ((200 : Int) < (p.1.length : Int)) = false := by simp; omega
      have t2 : decide ((200 : Int) < (q.1.length : Int)) = true := by simp; omega
      clear g1 g2 hr hs
      go_enter Try.func3, Try.ntmps3
      go_wp2_with fail
      refine (pic_shown _).mono ?_
      rintro e wC ⟨rfl, bC⟩
      obtain ⟨⟨kp0, kp1, kp2⟩, kq0, kq1, kq2⟩ := kept2 bC (by simp)
      replace cc := ((cc.alloc cc.size _).alloc (cc.alloc cc.size _).size _).trans (bC.mono ((cc.alloc cc.size _).alloc (cc.alloc cc.size _).size _).size)
      clear bC
      go_wp2
      go_ret
      exact ⟨rfl, cc⟩
    · have t1 : decide ((200 : Int) < (p.1.length : Int)) = false := by simp; omega
      have t2 : decide ((200 : Int) < (q.1.length : Int)) = false := by simp; omega
      have R1 := Lib.hid (fun v w h => pic_Right v p w h)
      have R2 := Lib.hid (fun v w h => ref_Right v p w h)
      have S1 := Lib.hid (fun v u w h g => pic_Same v u p q w h g)
      have S2 := Lib.hid (fun v u w h g => ref_Same v u p q w h g)
      have E1 := Lib.hid (fun v w h => pic_End v p w h (by omega))
      have E2 := Lib.hid (fun v w h => ref_End v p w h (by omega))
      rw [hr] at R1 R2
      rw [hs] at S1 S2
      have B1 := Lib.hid (fun v u w h g => ref_Same v u beginS beginS w h g)
      rw [sameS_self beginS] at B1
      generalize endS p = en at E1 E2
      clear g1 g2 hr hs
      go_enter Try.func3, Try.ntmps3
      go_wp2_with fail
      refine (pic_shown _).mono ?_
      rintro e wC ⟨rfl, bC⟩
      replace SP := hid_below (hid_alloc (hid_alloc SP _) _) bC
      replace SQ := hid_below (hid_alloc (hid_alloc SQ _) _) bC
      obtain ⟨⟨kp0, kp1, kp2⟩, kq0, kq1, kq2⟩ := kept2 bC (by simp)
      replace cc := ((cc.alloc cc.size _).alloc (cc.alloc cc.size _).size _).trans (bC.mono ((cc.alloc cc.size _).alloc (cc.alloc cc.size _).size _).size)
      clear bC
      go_wp2_with fail
      refine (R2.out _ _ (hidAt SP)).mono ?_
      rintro e wC ⟨rfl, bC⟩
      replace SP := hid_below SP bC
      replace SQ := hid_below SQ bC
      have kk := keptOn ⟨kp0, kp1, kp2⟩ bC (by first | exact kp2 | ((try simp only [World.size_alloc]); omega))
      clear kp0 kp1 kp2
      obtain ⟨kp0, kp1, kp2⟩ := kk
      have kk := keptOn ⟨kq0, kq1, kq2⟩ bC (by first | exact kq2 | ((try simp only [World.size_alloc]); omega))
      clear kq0 kq1 kq2
      obtain ⟨kq0, kq1, kq2⟩ := kk
      replace cc := cc.trans (bC.mono cc.size)
      clear bC
      go_wp2_with fail
      go_region_held3 (fun w' => w'.cell? ⟨w.heap.size, 0, none⟩ = some (.slice a p.1.length cap) ∧ w'.cell? ⟨w.heap.size, 1, none⟩ = some (.bool p.2) ∧ w'.cell? ⟨w.heap.size + 1, 0, none⟩ = some (.slice b q.1.length bap) ∧ w'.cell? ⟨w.heap.size + 1, 1, none⟩ = some (.bool q.2)) (exact ⟨kp0, kp1, kq0, kq1⟩) (first
      | (go_at_call 25; (with_reducible refine (R1.out _ _ (hidAt (hid_drew SP))).mono ?_); rintro e wC ⟨rfl, bC⟩; replace SP := hid_below (hid_drew SP) bC; replace SQ := hid_below (hid_drew SQ) bC; have kk := keptOn (keptDrew ⟨kp0, kp1, kp2⟩) bC (by first | exact kp2 | ((try simp only [World.size_alloc]); omega)); clear kp0 kp1 kp2; obtain ⟨kp0, kp1, kp2⟩ := kk; have kk := keptOn (keptDrew ⟨kq0, kq1, kq2⟩) bC (by first | exact kq2 | ((try simp only [World.size_alloc]); omega)); clear kq0 kq1 kq2; obtain ⟨kq0, kq1, kq2⟩ := kk; replace cc := cc.drew.trans (bC.mono cc.drew.size); clear bC)
      | (go_at_call 26; (with_reducible refine (S1.out _ _ _ (hidAt SP) (hidAt SQ)).mono ?_); rintro e wC ⟨rfl, bC⟩; replace SP := hid_below SP bC; replace SQ := hid_below SQ bC; have kk := keptOn ⟨kp0, kp1, kp2⟩ bC (by first | exact kp2 | ((try simp only [World.size_alloc]); omega)); clear kp0 kp1 kp2; obtain ⟨kp0, kp1, kp2⟩ := kk; have kk := keptOn ⟨kq0, kq1, kq2⟩ bC (by first | exact kq2 | ((try simp only [World.size_alloc]); omega)); clear kq0 kq1 kq2; obtain ⟨kq0, kq1, kq2⟩ := kk; replace cc := cc.trans (bC.mono cc.size); clear bC)
      | (go_at_call 27; (with_reducible refine (S2.out _ _ _ (hidAt SP) (hidAt SQ)).mono ?_); rintro e wC ⟨rfl, bC⟩; replace SP := hid_below SP bC; replace SQ := hid_below SQ bC; have kk := keptOn ⟨kp0, kp1, kp2⟩ bC (by first | exact kp2 | ((try simp only [World.size_alloc]); omega)); clear kp0 kp1 kp2; obtain ⟨kp0, kp1, kp2⟩ := kk; have kk := keptOn ⟨kq0, kq1, kq2⟩ bC (by first | exact kq2 | ((try simp only [World.size_alloc]); omega)); clear kq0 kq1 kq2; obtain ⟨kq0, kq1, kq2⟩ := kk; replace cc := cc.trans (bC.mono cc.size); clear bC)
      | (go_at_call 28; (with_reducible refine (pic_Begin _).mono ?_); rintro e wC ⟨⟨vC, rfl, hC⟩, bC⟩; replace SP := hid_below SP bC; replace SQ := hid_below SQ bC; have kk := keptOn ⟨kp0, kp1, kp2⟩ bC (by first | exact kp2 | ((try simp only [World.size_alloc]); omega)); clear kp0 kp1 kp2; obtain ⟨kp0, kp1, kp2⟩ := kk; have kk := keptOn ⟨kq0, kq1, kq2⟩ bC (by first | exact kq2 | ((try simp only [World.size_alloc]); omega)); clear kq0 kq1 kq2; obtain ⟨kq0, kq1, kq2⟩ := kk; replace cc := cc.trans (bC.mono cc.size); (try dsimp only at hC); obtain ⟨aX, capX, rfl, X⟩ := picAt_hid hC; clear hC; clear bC)
      | (go_at_call 29; (with_reducible refine (ref_Begin _).mono ?_); rintro e wC ⟨⟨vC, rfl, hC⟩, bC⟩; replace SP := hid_below SP bC; replace SQ := hid_below SQ bC; replace X := hid_below X bC; have kk := keptOn ⟨kp0, kp1, kp2⟩ bC (by first | exact kp2 | ((try simp only [World.size_alloc]); omega)); clear kp0 kp1 kp2; obtain ⟨kp0, kp1, kp2⟩ := kk; have kk := keptOn ⟨kq0, kq1, kq2⟩ bC (by first | exact kq2 | ((try simp only [World.size_alloc]); omega)); clear kq0 kq1 kq2; obtain ⟨kq0, kq1, kq2⟩ := kk; replace cc := cc.trans (bC.mono cc.size); (try dsimp only at hC); obtain ⟨aY, capY, rfl, Y⟩ := picAt_hid hC; clear hC; clear bC)
      | (go_at_call 27; (with_reducible refine (B1.out _ _ _ (hidAt X) (hidAt Y)).mono ?_); rintro e wC ⟨rfl, bC⟩; replace SP := hid_below SP bC; replace SQ := hid_below SQ bC; have kk := keptOn ⟨kp0, kp1, kp2⟩ bC (by first | exact kp2 | ((try simp only [World.size_alloc]); omega)); clear kp0 kp1 kp2; obtain ⟨kp0, kp1, kp2⟩ := kk; have kk := keptOn ⟨kq0, kq1, kq2⟩ bC (by first | exact kq2 | ((try simp only [World.size_alloc]); omega)); clear kq0 kq1 kq2; obtain ⟨kq0, kq1, kq2⟩ := kk; replace cc := cc.trans (bC.mono cc.size); clear bC)
      )
      all_goals cases r with
      | false =>
        go_wp2
        go_ret
        exact ⟨rfl, cc⟩
      | true =>
        go_wp2_with fail
        refine (E1.out _ _ (hidAt SP)).mono ?_
        rintro e wC ⟨rfl, bC⟩
        replace SP := hid_below SP bC
        replace SQ := hid_below SQ bC
        have kk := keptOn ⟨kp0, kp1, kp2⟩ bC (by first | exact kp2 | ((try simp only [World.size_alloc]); omega))
        clear kp0 kp1 kp2
        obtain ⟨kp0, kp1, kp2⟩ := kk
        have kk := keptOn ⟨kq0, kq1, kq2⟩ bC (by first | exact kq2 | ((try simp only [World.size_alloc]); omega))
        clear kq0 kq1 kq2
        obtain ⟨kq0, kq1, kq2⟩ := kk
        replace cc := cc.trans (bC.mono cc.size)
        clear bC
        go_wp2_with fail
        refine (E2.out _ _ (hidAt SP)).mono ?_
        rintro e wC ⟨rfl, bC⟩
        replace SP := hid_below SP bC
        replace SQ := hid_below SQ bC
        have kk := keptOn ⟨kp0, kp1, kp2⟩ bC (by first | exact kp2 | ((try simp only [World.size_alloc]); omega))
        clear kp0 kp1 kp2
        obtain ⟨kp0, kp1, kp2⟩ := kk
        have kk := keptOn ⟨kq0, kq1, kq2⟩ bC (by first | exact kq2 | ((try simp only [World.size_alloc]); omega))
        clear kq0 kq1 kq2
        obtain ⟨kq0, kq1, kq2⟩ := kk
        replace cc := cc.trans (bC.mono cc.size)
        clear bC
        go_wp2
        go_ret
        exact ⟨rfl, cc⟩
end Go.Proofs.Ytpjhgokdkgnbdaa
