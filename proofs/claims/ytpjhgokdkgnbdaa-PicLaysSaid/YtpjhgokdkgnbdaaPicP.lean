/- The statement that signs and digits that are laid are as the document says: its walk. -/
import Derived.Test.YtpjhgokdkgnbdaaPicN
namespace Go.Proofs.Ytpjhgokdkgnbdaa
open Go.RowKit Go.ChangeShapes

theorem cellsOf_lays : Try.prog.cellsOf 35 = 5 := by kernel_rfl
theorem reads_lays {w : World} {v : Value} (h : Reads w 35 v) : ∃ (a : Option Addr) (cap : Nat) (p : PicL) (lo hi b : Int), v = .agg #[.slice a p.1.length cap, .bool p.2, .int .i64 lo, .int .i64 hi, .int .i64 b] ∧ Hid (BytesAt w (.slice a p.1.length cap) p.1) ∧ Fit lo ∧ Fit hi ∧ Fit b := by
  obtain ⟨cs, rfl, hl, hr⟩ := reads_struct Try.underlying35 h
  rw [cellsOf_lays] at hl
  obtain ⟨x1, x2, x3, x4, x5, hcs⟩ := five_list hl
  rw [hcs] at hr
  have f0 : Rd w 24 (([x1, x2, x3, x4, x5].drop 0).take (Try.prog.cellsOf 24)) := rd_field Try.underlying35 hr 0 _ rfl
  have f1 := rd_field1 Try.underlying35 hr 1 _ rfl cellsOf_int x3 rfl
  have f2 := rd_field1 Try.underlying35 hr 2 _ rfl cellsOf_int x4 rfl
  have f3 := rd_field1 Try.underlying35 hr 3 _ rfl cellsOf_int x5 rfl
  rw [cellsOf_pic] at f0
  obtain ⟨a, cap, p, h1, h2, _⟩ := rd_pic f0
  simp only [List.drop_zero, List.take_succ_cons, List.take_zero, List.cons.injEq, and_true] at h1
  obtain ⟨rfl, rfl⟩ := h1
  obtain ⟨lo, e1, g1⟩ := rd_int Try.underlying3 f1
  obtain ⟨hi, e2, g2⟩ := rd_int Try.underlying3 f2
  obtain ⟨b, e3, g3⟩ := rd_int Try.underlying3 f3
  cases e1; cases e2; cases e3
  exact ⟨a, cap, p, lo, hi, b, by rw [agg_list hcs], Lib.hid h2, fit_wf g1, fit_wf g2, fit_wf g3⟩

set_option maxRecDepth 100000 in
set_option maxHeartbeats 8000000 in
theorem walk_PicLays (v0 : Value) (w : World) (h0 : Reads w 35 v0) : Calls Try.prog 4 #[v0] w fun e w' => e = .returned (.bool true) ∧ Below w.heap.size w w' := by
  obtain ⟨a, cap, p, lo, hi, b, rfl, SP, hlo, hhi, _⟩ := reads_lays h0
  have cc := Below.refl w.heap.size w
  clear h0
  obtain ⟨r, hr⟩ : ∃ r, rightS p = r := ⟨_, rfl⟩
  have R2 := Lib.hid (fun v w h => ref_Right v p w h)
  rw [hr] at R2
  clear hr
  cases r with
  | false =>
    go_enter Try.func4, Try.ntmps4
    go_wp2_with fail
    refine (pic_shown _).mono ?_
    rintro e wC ⟨rfl, bC⟩
    obtain ⟨kp0, kp1, kp2⟩ := keptB bC (by simp)
    replace SP := hid_below (hid_alloc (hid_alloc SP _) _) bC
    replace cc := ((cc.alloc cc.size _).alloc (cc.alloc cc.size _).size _).trans (bC.mono ((cc.alloc cc.size _).alloc (cc.alloc cc.size _).size _).size)
    clear bC
    go_wp2_with fail
    refine (R2.out _ _ (hidAt SP)).mono ?_
    rintro e wC ⟨rfl, bC⟩
    replace SP := hid_below SP bC
    have kk := keptOn ⟨kp0, kp1, kp2⟩ bC (by first | exact kp2 | ((try simp only [World.size_alloc]); omega))
    clear kp0 kp1 kp2
    obtain ⟨kp0, kp1, kp2⟩ := kk
    replace cc := cc.trans (bC.mono cc.size)
    clear bC
    go_wp2
    go_ret
    exact ⟨rfl, cc⟩
  | true =>
    have H1 := fun v w h => pic_Hold v p lo w h
    have H2 := fun v w h => ref_Hold v p lo w h
    have D1 := fun v w h => pic_Digit v p lo hi b w h
    have D2 := fun v w h => ref_PicDigit v p lo hi b w h
    have A1 := fun v w h => pic_All v p lo hi b w h hlo hhi
    have A2 := fun v w h => ref_All v p lo hi b w h
    have N1 := fun v w h => pic_Sign v p lo w h
    have N2 := fun v w h => ref_Sign v p lo w h
    obtain ⟨q1, n1, e1⟩ : ∃ q n, holdS p lo = (q, n) := ⟨_, _, rfl⟩
    obtain ⟨q2, l2, h2, n2, e2⟩ : ∃ q l h n, digitS p lo hi b = (q, l, h, n) := ⟨_, _, _, _, rfl⟩
    obtain ⟨q3, n3, e3⟩ : ∃ q n, allS p lo hi b = (q, n) := ⟨_, _, rfl⟩
    obtain ⟨q4, n4, e4⟩ : ∃ q n, signP p lo = (q, n) := ⟨_, _, rfl⟩
    rw [e1] at H1 H2
    rw [e2] at D1 D2
    rw [e3] at A1 A2
    rw [e4] at N1 N2
    have S1 := fun v u w h g => ref_Same v u q1 q1 w h g
    have S2 := fun v u w h g => ref_Same v u q2 q2 w h g
    have S3 := fun v u w h g => ref_Same v u q3 q3 w h g
    have S4 := fun v u w h g => ref_Same v u q4 q4 w h g
    rw [sameS_self] at S1 S2 S3 S4
    replace H1 := Lib.hid H1
    replace H2 := Lib.hid H2
    replace D1 := Lib.hid D1
    replace D2 := Lib.hid D2
    replace A1 := Lib.hid A1
    replace A2 := Lib.hid A2
    replace N1 := Lib.hid N1
    replace N2 := Lib.hid N2
    replace S1 := Lib.hid S1
    replace S2 := Lib.hid S2
    replace S3 := Lib.hid S3
    replace S4 := Lib.hid S4
    clear e1 e2 e3 e4 hlo hhi
    go_enter Try.func4, Try.ntmps4
    go_wp2_with fail
    refine (pic_shown _).mono ?_
    rintro e wC ⟨rfl, bC⟩
    obtain ⟨kp0, kp1, kp2⟩ := keptB bC (by simp)
    replace SP := hid_below (hid_alloc (hid_alloc SP _) _) bC
    replace cc := ((cc.alloc cc.size _).alloc (cc.alloc cc.size _).size _).trans (bC.mono ((cc.alloc cc.size _).alloc (cc.alloc cc.size _).size _).size)
    clear bC
    go_wp2_with fail
    refine (R2.out _ _ (hidAt SP)).mono ?_
    rintro e wC ⟨rfl, bC⟩
    replace SP := hid_below SP bC
    have kk := keptOn ⟨kp0, kp1, kp2⟩ bC (by first | exact kp2 | ((try simp only [World.size_alloc]); omega))
    clear kp0 kp1 kp2
    obtain ⟨kp0, kp1, kp2⟩ := kk
    replace cc := cc.trans (bC.mono cc.size)
    clear bC
    go_wp2_with fail
    refine (H1.out _ _ (hidAt SP)).mono ?_
    rintro e wC ⟨⟨vC, rfl, hC⟩, bC⟩
    replace SP := hid_below SP bC
    have kk := keptOn ⟨kp0, kp1, kp2⟩ bC (by first | exact kp2 | ((try simp only [World.size_alloc]); omega))
    clear kp0 kp1 kp2
    obtain ⟨kp0, kp1, kp2⟩ := kk
    replace cc := cc.trans (bC.mono cc.size)
    try dsimp only at hC
    obtain ⟨aA, capA, rfl, A⟩ := picAt_hid hC
    clear hC
    clear bC
    go_wp2_with fail
    refine (H2.out _ _ (hidAt (hid_alloc SP _))).mono ?_
    rintro e wC ⟨⟨vC, rfl, hC⟩, bC⟩
    replace SP := hid_below (hid_alloc SP _) bC
    replace A := hid_below (hid_alloc A _) bC
    have kk := keptOn (keptAlloc ⟨kp0, kp1, kp2⟩ _) bC (by first | exact kp2 | ((try simp only [World.size_alloc]); omega))
    clear kp0 kp1 kp2
    obtain ⟨kp0, kp1, kp2⟩ := kk
    obtain ⟨ka0, ka1, ka2⟩ := kept bC (by simp)
    replace cc := (cc.alloc cc.size _).trans (bC.mono (cc.alloc cc.size _).size)
    try dsimp only at hC
    obtain ⟨aB, capB, rfl, B⟩ := picAt_hid hC
    clear hC
    clear bC
    go_wp2_with fail
    refine (D1.out _ _ (hidAt (hid_alloc SP _))).mono ?_
    rintro e wC ⟨⟨vC, rfl, hC⟩, bC⟩
    replace SP := hid_below (hid_alloc SP _) bC
    replace A := hid_below (hid_alloc A _) bC
    replace B := hid_below (hid_alloc B _) bC
    have kk := keptOn (keptAlloc ⟨kp0, kp1, kp2⟩ _) bC (by first | exact kp2 | ((try simp only [World.size_alloc]); omega))
    clear kp0 kp1 kp2
    obtain ⟨kp0, kp1, kp2⟩ := kk
    have kk := keptOn (keptAlloc ⟨ka0, ka1, ka2⟩ _) bC (by first | exact ka2 | ((try simp only [World.size_alloc]); omega))
    clear ka0 ka1 ka2
    obtain ⟨ka0, ka1, ka2⟩ := kk
    obtain ⟨kb0, kb1, kb2⟩ := kept bC (by simp)
    replace cc := (cc.alloc cc.size _).trans (bC.mono (cc.alloc cc.size _).size)
    try dsimp only at hC
    obtain ⟨aC, capC, rfl, C⟩ := picAt_hid hC
    clear hC
    clear bC
    go_wp2_with fail
    refine (D2.out _ _ (hidAt (hid_alloc SP _))).mono ?_
    rintro e wC ⟨⟨vC, rfl, hC⟩, bC⟩
    replace SP := hid_below (hid_alloc SP _) bC
    replace A := hid_below (hid_alloc A _) bC
    replace B := hid_below (hid_alloc B _) bC
    replace C := hid_below (hid_alloc C _) bC
    have kk := keptOn (keptAlloc ⟨kp0, kp1, kp2⟩ _) bC (by first | exact kp2 | ((try simp only [World.size_alloc]); omega))
    clear kp0 kp1 kp2
    obtain ⟨kp0, kp1, kp2⟩ := kk
    have kk := keptOn (keptAlloc ⟨ka0, ka1, ka2⟩ _) bC (by first | exact ka2 | ((try simp only [World.size_alloc]); omega))
    clear ka0 ka1 ka2
    obtain ⟨ka0, ka1, ka2⟩ := kk
    have kk := keptOn (keptAlloc ⟨kb0, kb1, kb2⟩ _) bC (by first | exact kb2 | ((try simp only [World.size_alloc]); omega))
    clear kb0 kb1 kb2
    obtain ⟨kb0, kb1, kb2⟩ := kk
    obtain ⟨kc0, kc1, kc2⟩ := kept bC (by simp)
    replace cc := (cc.alloc cc.size _).trans (bC.mono (cc.alloc cc.size _).size)
    try dsimp only at hC
    obtain ⟨aD, capD, rfl, D⟩ := picAt_hid hC
    clear hC
    clear bC
    go_wp2_with fail
    refine (A1.out _ _ (hidAt (hid_alloc SP _))).mono ?_
    rintro e wC ⟨⟨vC, rfl, hC⟩, bC⟩
    replace SP := hid_below (hid_alloc SP _) bC
    replace A := hid_below (hid_alloc A _) bC
    replace B := hid_below (hid_alloc B _) bC
    replace C := hid_below (hid_alloc C _) bC
    replace D := hid_below (hid_alloc D _) bC
    have kk := keptOn (keptAlloc ⟨kp0, kp1, kp2⟩ _) bC (by first | exact kp2 | ((try simp only [World.size_alloc]); omega))
    clear kp0 kp1 kp2
    obtain ⟨kp0, kp1, kp2⟩ := kk
    have kk := keptOn (keptAlloc ⟨ka0, ka1, ka2⟩ _) bC (by first | exact ka2 | ((try simp only [World.size_alloc]); omega))
    clear ka0 ka1 ka2
    obtain ⟨ka0, ka1, ka2⟩ := kk
    have kk := keptOn (keptAlloc ⟨kb0, kb1, kb2⟩ _) bC (by first | exact kb2 | ((try simp only [World.size_alloc]); omega))
    clear kb0 kb1 kb2
    obtain ⟨kb0, kb1, kb2⟩ := kk
    have kk := keptOn (keptAlloc ⟨kc0, kc1, kc2⟩ _) bC (by first | exact kc2 | ((try simp only [World.size_alloc]); omega))
    clear kc0 kc1 kc2
    obtain ⟨kc0, kc1, kc2⟩ := kk
    obtain ⟨kd0, kd1, kd2⟩ := kept bC (by simp)
    replace cc := (cc.alloc cc.size _).trans (bC.mono (cc.alloc cc.size _).size)
    try dsimp only at hC
    obtain ⟨aX, capX, rfl, X⟩ := picAt_hid hC
    clear hC
    clear bC
    go_wp2_with fail
    refine (A2.out _ _ (hidAt (hid_alloc SP _))).mono ?_
    rintro e wC ⟨⟨vC, rfl, hC⟩, bC⟩
    replace SP := hid_below (hid_alloc SP _) bC
    replace A := hid_below (hid_alloc A _) bC
    replace B := hid_below (hid_alloc B _) bC
    replace C := hid_below (hid_alloc C _) bC
    replace D := hid_below (hid_alloc D _) bC
    replace X := hid_below (hid_alloc X _) bC
    have kk := keptOn (keptAlloc ⟨kp0, kp1, kp2⟩ _) bC (by first | exact kp2 | ((try simp only [World.size_alloc]); omega))
    clear kp0 kp1 kp2
    obtain ⟨kp0, kp1, kp2⟩ := kk
    have kk := keptOn (keptAlloc ⟨ka0, ka1, ka2⟩ _) bC (by first | exact ka2 | ((try simp only [World.size_alloc]); omega))
    clear ka0 ka1 ka2
    obtain ⟨ka0, ka1, ka2⟩ := kk
    have kk := keptOn (keptAlloc ⟨kb0, kb1, kb2⟩ _) bC (by first | exact kb2 | ((try simp only [World.size_alloc]); omega))
    clear kb0 kb1 kb2
    obtain ⟨kb0, kb1, kb2⟩ := kk
    have kk := keptOn (keptAlloc ⟨kc0, kc1, kc2⟩ _) bC (by first | exact kc2 | ((try simp only [World.size_alloc]); omega))
    clear kc0 kc1 kc2
    obtain ⟨kc0, kc1, kc2⟩ := kk
    have kk := keptOn (keptAlloc ⟨kd0, kd1, kd2⟩ _) bC (by first | exact kd2 | ((try simp only [World.size_alloc]); omega))
    clear kd0 kd1 kd2
    obtain ⟨kd0, kd1, kd2⟩ := kk
    obtain ⟨kx0, kx1, kx2⟩ := kept bC (by simp)
    replace cc := (cc.alloc cc.size _).trans (bC.mono (cc.alloc cc.size _).size)
    try dsimp only at hC
    obtain ⟨aY, capY, rfl, Y⟩ := picAt_hid hC
    clear hC
    clear bC
    go_wp2_with fail
    refine (N1.out _ _ (hidAt (hid_alloc SP _))).mono ?_
    rintro e wC ⟨⟨vC, rfl, hC⟩, bC⟩
    replace SP := hid_below (hid_alloc SP _) bC
    replace A := hid_below (hid_alloc A _) bC
    replace B := hid_below (hid_alloc B _) bC
    replace C := hid_below (hid_alloc C _) bC
    replace D := hid_below (hid_alloc D _) bC
    replace X := hid_below (hid_alloc X _) bC
    replace Y := hid_below (hid_alloc Y _) bC
    have kk := keptOn (keptAlloc ⟨kp0, kp1, kp2⟩ _) bC (by first | exact kp2 | ((try simp only [World.size_alloc]); omega))
    clear kp0 kp1 kp2
    obtain ⟨kp0, kp1, kp2⟩ := kk
    have kk := keptOn (keptAlloc ⟨ka0, ka1, ka2⟩ _) bC (by first | exact ka2 | ((try simp only [World.size_alloc]); omega))
    clear ka0 ka1 ka2
    obtain ⟨ka0, ka1, ka2⟩ := kk
    have kk := keptOn (keptAlloc ⟨kb0, kb1, kb2⟩ _) bC (by first | exact kb2 | ((try simp only [World.size_alloc]); omega))
    clear kb0 kb1 kb2
    obtain ⟨kb0, kb1, kb2⟩ := kk
    have kk := keptOn (keptAlloc ⟨kc0, kc1, kc2⟩ _) bC (by first | exact kc2 | ((try simp only [World.size_alloc]); omega))
    clear kc0 kc1 kc2
    obtain ⟨kc0, kc1, kc2⟩ := kk
    have kk := keptOn (keptAlloc ⟨kd0, kd1, kd2⟩ _) bC (by first | exact kd2 | ((try simp only [World.size_alloc]); omega))
    clear kd0 kd1 kd2
    obtain ⟨kd0, kd1, kd2⟩ := kk
    have kk := keptOn (keptAlloc ⟨kx0, kx1, kx2⟩ _) bC (by first | exact kx2 | ((try simp only [World.size_alloc]); omega))
    clear kx0 kx1 kx2
    obtain ⟨kx0, kx1, kx2⟩ := kk
    obtain ⟨ky0, ky1, ky2⟩ := kept bC (by simp)
    replace cc := (cc.alloc cc.size _).trans (bC.mono (cc.alloc cc.size _).size)
    try dsimp only at hC
    obtain ⟨aU, capU, rfl, U⟩ := picAt_hid hC
    clear hC
    clear bC
    go_wp2_with fail
    refine (N2.out _ _ (hidAt (hid_alloc SP _))).mono ?_
    rintro e wC ⟨⟨vC, rfl, hC⟩, bC⟩
    replace SP := hid_below (hid_alloc SP _) bC
    replace A := hid_below (hid_alloc A _) bC
    replace B := hid_below (hid_alloc B _) bC
    replace C := hid_below (hid_alloc C _) bC
    replace D := hid_below (hid_alloc D _) bC
    replace X := hid_below (hid_alloc X _) bC
    replace Y := hid_below (hid_alloc Y _) bC
    replace U := hid_below (hid_alloc U _) bC
    have kk := keptOn (keptAlloc ⟨kp0, kp1, kp2⟩ _) bC (by first | exact kp2 | ((try simp only [World.size_alloc]); omega))
    clear kp0 kp1 kp2
    obtain ⟨kp0, kp1, kp2⟩ := kk
    have kk := keptOn (keptAlloc ⟨ka0, ka1, ka2⟩ _) bC (by first | exact ka2 | ((try simp only [World.size_alloc]); omega))
    clear ka0 ka1 ka2
    obtain ⟨ka0, ka1, ka2⟩ := kk
    have kk := keptOn (keptAlloc ⟨kb0, kb1, kb2⟩ _) bC (by first | exact kb2 | ((try simp only [World.size_alloc]); omega))
    clear kb0 kb1 kb2
    obtain ⟨kb0, kb1, kb2⟩ := kk
    have kk := keptOn (keptAlloc ⟨kc0, kc1, kc2⟩ _) bC (by first | exact kc2 | ((try simp only [World.size_alloc]); omega))
    clear kc0 kc1 kc2
    obtain ⟨kc0, kc1, kc2⟩ := kk
    have kk := keptOn (keptAlloc ⟨kd0, kd1, kd2⟩ _) bC (by first | exact kd2 | ((try simp only [World.size_alloc]); omega))
    clear kd0 kd1 kd2
    obtain ⟨kd0, kd1, kd2⟩ := kk
    have kk := keptOn (keptAlloc ⟨kx0, kx1, kx2⟩ _) bC (by first | exact kx2 | ((try simp only [World.size_alloc]); omega))
    clear kx0 kx1 kx2
    obtain ⟨kx0, kx1, kx2⟩ := kk
    have kk := keptOn (keptAlloc ⟨ky0, ky1, ky2⟩ _) bC (by first | exact ky2 | ((try simp only [World.size_alloc]); omega))
    clear ky0 ky1 ky2
    obtain ⟨ky0, ky1, ky2⟩ := kk
    obtain ⟨ku0, ku1, ku2⟩ := kept bC (by simp)
    replace cc := (cc.alloc cc.size _).trans (bC.mono (cc.alloc cc.size _).size)
    try dsimp only at hC
    obtain ⟨aV, capV, rfl, V⟩ := picAt_hid hC
    clear hC
    clear bC
    go_wp2_with fail
    refine (S1.out _ _ _ (hidAt (hid_alloc A _)) (hidAt (hid_alloc B _))).mono ?_
    rintro e wC ⟨rfl, bC⟩
    replace A := hid_below (hid_alloc A _) bC
    replace B := hid_below (hid_alloc B _) bC
    replace C := hid_below (hid_alloc C _) bC
    replace D := hid_below (hid_alloc D _) bC
    replace X := hid_below (hid_alloc X _) bC
    replace Y := hid_below (hid_alloc Y _) bC
    replace U := hid_below (hid_alloc U _) bC
    replace V := hid_below (hid_alloc V _) bC
    have kk := keptOn (keptAlloc ⟨ka0, ka1, ka2⟩ _) bC (by first | exact ka2 | ((try simp only [World.size_alloc]); omega))
    clear ka0 ka1 ka2
    obtain ⟨ka0, ka1, ka2⟩ := kk
    have kk := keptOn (keptAlloc ⟨kb0, kb1, kb2⟩ _) bC (by first | exact kb2 | ((try simp only [World.size_alloc]); omega))
    clear kb0 kb1 kb2
    obtain ⟨kb0, kb1, kb2⟩ := kk
    have kk := keptOn (keptAlloc ⟨kc0, kc1, kc2⟩ _) bC (by first | exact kc2 | ((try simp only [World.size_alloc]); omega))
    clear kc0 kc1 kc2
    obtain ⟨kc0, kc1, kc2⟩ := kk
    have kk := keptOn (keptAlloc ⟨kd0, kd1, kd2⟩ _) bC (by first | exact kd2 | ((try simp only [World.size_alloc]); omega))
    clear kd0 kd1 kd2
    obtain ⟨kd0, kd1, kd2⟩ := kk
    have kk := keptOn (keptAlloc ⟨kx0, kx1, kx2⟩ _) bC (by first | exact kx2 | ((try simp only [World.size_alloc]); omega))
    clear kx0 kx1 kx2
    obtain ⟨kx0, kx1, kx2⟩ := kk
    have kk := keptOn (keptAlloc ⟨ky0, ky1, ky2⟩ _) bC (by first | exact ky2 | ((try simp only [World.size_alloc]); omega))
    clear ky0 ky1 ky2
    obtain ⟨ky0, ky1, ky2⟩ := kk
    have kk := keptOn (keptAlloc ⟨ku0, ku1, ku2⟩ _) bC (by first | exact ku2 | ((try simp only [World.size_alloc]); omega))
    clear ku0 ku1 ku2
    obtain ⟨ku0, ku1, ku2⟩ := kk
    obtain ⟨kv0, kv1, kv2⟩ := kept bC (by simp)
    replace cc := (cc.alloc cc.size _).trans (bC.mono (cc.alloc cc.size _).size)
    clear bC
    go_wp2_with fail
    refine (S2.out _ _ _ (hidAt C) (hidAt D)).mono ?_
    rintro e wC ⟨rfl, bC⟩
    replace C := hid_below C bC
    replace D := hid_below D bC
    replace X := hid_below X bC
    replace Y := hid_below Y bC
    replace U := hid_below U bC
    replace V := hid_below V bC
    have kk := keptOn ⟨kc0, kc1, kc2⟩ bC (by first | exact kc2 | ((try simp only [World.size_alloc]); omega))
    clear kc0 kc1 kc2
    obtain ⟨kc0, kc1, kc2⟩ := kk
    have kk := keptOn ⟨kd0, kd1, kd2⟩ bC (by first | exact kd2 | ((try simp only [World.size_alloc]); omega))
    clear kd0 kd1 kd2
    obtain ⟨kd0, kd1, kd2⟩ := kk
    have kk := keptOn ⟨kx0, kx1, kx2⟩ bC (by first | exact kx2 | ((try simp only [World.size_alloc]); omega))
    clear kx0 kx1 kx2
    obtain ⟨kx0, kx1, kx2⟩ := kk
    have kk := keptOn ⟨ky0, ky1, ky2⟩ bC (by first | exact ky2 | ((try simp only [World.size_alloc]); omega))
    clear ky0 ky1 ky2
    obtain ⟨ky0, ky1, ky2⟩ := kk
    have kk := keptOn ⟨ku0, ku1, ku2⟩ bC (by first | exact ku2 | ((try simp only [World.size_alloc]); omega))
    clear ku0 ku1 ku2
    obtain ⟨ku0, ku1, ku2⟩ := kk
    have kk := keptOn ⟨kv0, kv1, kv2⟩ bC (by first | exact kv2 | ((try simp only [World.size_alloc]); omega))
    clear kv0 kv1 kv2
    obtain ⟨kv0, kv1, kv2⟩ := kk
    replace cc := cc.trans (bC.mono cc.size)
    clear bC
    go_wp2_with fail
    refine (S3.out _ _ _ (hidAt X) (hidAt Y)).mono ?_
    rintro e wC ⟨rfl, bC⟩
    replace X := hid_below X bC
    replace Y := hid_below Y bC
    replace U := hid_below U bC
    replace V := hid_below V bC
    have kk := keptOn ⟨kx0, kx1, kx2⟩ bC (by first | exact kx2 | ((try simp only [World.size_alloc]); omega))
    clear kx0 kx1 kx2
    obtain ⟨kx0, kx1, kx2⟩ := kk
    have kk := keptOn ⟨ky0, ky1, ky2⟩ bC (by first | exact ky2 | ((try simp only [World.size_alloc]); omega))
    clear ky0 ky1 ky2
    obtain ⟨ky0, ky1, ky2⟩ := kk
    have kk := keptOn ⟨ku0, ku1, ku2⟩ bC (by first | exact ku2 | ((try simp only [World.size_alloc]); omega))
    clear ku0 ku1 ku2
    obtain ⟨ku0, ku1, ku2⟩ := kk
    have kk := keptOn ⟨kv0, kv1, kv2⟩ bC (by first | exact kv2 | ((try simp only [World.size_alloc]); omega))
    clear kv0 kv1 kv2
    obtain ⟨kv0, kv1, kv2⟩ := kk
    replace cc := cc.trans (bC.mono cc.size)
    clear bC
    go_wp2_with fail
    refine (S4.out _ _ _ (hidAt U) (hidAt V)).mono ?_
    rintro e wC ⟨rfl, bC⟩
    replace U := hid_below U bC
    replace V := hid_below V bC
    have kk := keptOn ⟨ku0, ku1, ku2⟩ bC (by first | exact ku2 | ((try simp only [World.size_alloc]); omega))
    clear ku0 ku1 ku2
    obtain ⟨ku0, ku1, ku2⟩ := kk
    have kk := keptOn ⟨kv0, kv1, kv2⟩ bC (by first | exact kv2 | ((try simp only [World.size_alloc]); omega))
    clear kv0 kv1 kv2
    obtain ⟨kv0, kv1, kv2⟩ := kk
    replace cc := cc.trans (bC.mono cc.size)
    clear bC
    go_wp2
    go_ret
    exact ⟨rfl, cc⟩
end Go.Proofs.Ytpjhgokdkgnbdaa
