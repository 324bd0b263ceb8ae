/- The walks of layer 6 (num), part C: the cell that a text tells, by the document's answer. -/
import Derived.Test.YtpjhgokdkgnbdaaNumB
import Derived.Deep.DeepCutAuto
namespace Go.Proofs.Ytpjhgokdkgnbdaa
open Go.RowKit

theorem sign_cond (s : ByteArray) (h : s.size = 3) (h0 : 0 < s.size) (h1 : 1 < s.size) (h2 : 2 < s.size) (g : (s[0].toNat : Int) = 39 ∧ (s[2].toNat : Int) = 39 ∧ 33 ≤ (s[1].toNat : Int) ∧ (s[1].toNat : Int) ≤ 126) :
    signS s.data.toList = some (s[1].toNat : Int) := by rw [three_list s h h0 h1 h2]; exact three_yes _ _ _ g
theorem sign_uncond (s : ByteArray) (h0 : 0 < s.size) (h1 : 1 < s.size) (h2 : 2 < s.size) (g : ¬ ((s[0].toNat : Int) = 39 ∧ (s[2].toNat : Int) = 39 ∧ 33 ≤ (s[1].toNat : Int) ∧ (s[1].toNat : Int) ≤ 126)) :
    signS s.data.toList = none := by
  by_cases h : s.size = 3
  · rw [three_list s h h0 h1 h2]; exact three_no _ _ _ g
  · exact signS_not3 _ (by rw [size_list]; exact h)
/-- Is a text the sign between two others? -/
def isSign (s : ByteArray) : Bool := (signS s.data.toList).isSome
theorem isSign_is (s : ByteArray) (h : s.size = 3) (h0 : 0 < s.size) (h1 : 1 < s.size) (h2 : 2 < s.size) :
    isSign s = decide ((s[0].toNat : Int) = 39 ∧ (s[2].toNat : Int) = 39 ∧ 33 ≤ (s[1].toNat : Int) ∧ (s[1].toNat : Int) ≤ 126) := by
  unfold isSign
  by_cases g : (s[0].toNat : Int) = 39 ∧ (s[2].toNat : Int) = 39 ∧ 33 ≤ (s[1].toNat : Int) ∧ (s[1].toNat : Int) ≤ 126
  · rw [sign_cond s h h0 h1 h2 g]; simp only [Option.isSome_some]; exact (decide_eq_true g).symm
  · rw [sign_uncond s h0 h1 h2 g]; simp only [Option.isSome_none]; exact (decide_eq_false g).symm
theorem isSign_some {s : ByteArray} (h : isSign s = true) : ∃ h1 : 1 < s.size, signS s.data.toList = some (s[1].toNat : Int) ∧ (s[1].toNat : Int) ≤ 126 := by
  by_cases h3 : s.size = 3
  · have t1 : 0 < s.size := by omega
    have t2 : 1 < s.size := by omega
    have t3 : 2 < s.size := by omega
    rw [isSign_is s h3 t1 t2 t3, decide_eq_true_iff] at h
    exact ⟨t2, sign_cond s h3 t1 t2 t3 h, h.2.2.2⟩
  · unfold isSign at h
    rw [signS_not3 _ (by rw [size_list]; exact h3)] at h
    simp at h
theorem isSign_none {s : ByteArray} (h : isSign s = false) : signS s.data.toList = none := by
  unfold isSign at h; simpa using h
/-- How many signs a text's mark has. -/
def markN (s : ByteArray) : Nat := if h : 0 < s.size then (if s[0] = 35 ∨ s[0] = 36 ∨ s[0] = 37 then 1 else 0) else 0
theorem markN_le (s : ByteArray) : markN s ≤ s.size := by unfold markN; split <;> (try split) <;> omega
theorem prefS_mark (s : ByteArray) (b : Int) : (prefS s.data.toList b).2 = s.data.toList.drop (markN s) := by
  rw [prefB_list]
  unfold prefB markN
  by_cases h0 : 0 < s.size
  · rw [dif_pos h0, dif_pos h0]
    have hx := Lib.extract_to_end s 1
    by_cases h1 : s[0] = 35
    · rw [if_pos h1, if_pos (.inl h1)]; exact hx
    · rw [if_neg h1]
      by_cases h2 : s[0] = 36
      · rw [if_pos h2, if_pos (.inr (.inl h2))]; exact hx
      · rw [if_neg h2]
        by_cases h3 : s[0] = 37
        · rw [if_pos h3, if_pos (.inr (.inr h3))]; exact hx
        · rw [if_neg h3, if_neg (by simp [h1, h2, h3])]; rfl
  · rw [dif_neg h0, dif_neg h0]; rfl

theorem prefS_pair {s : ByteArray} {b B : Int} {K : Nat} (hp : (prefS s.data.toList b).1 = B) (hk : markN s = K) : prefS s.data.toList b = (B, s.data.toList.drop K) :=
  Prod.ext hp (by rw [prefS_mark, hk])
theorem drop_ne (s : ByteArray) (k : Nat) (h : k < s.size) : s.data.toList.drop k ≠ [] := fun e => by
  have h2 := congrArg List.length e
  rw [List.length_drop, size_list] at h2
  simp at h2
  omega
theorem not_empty (s : ByteArray) (h : 0 < s.size) : ¬ s = ByteArray.empty := by rintro rfl; exact absurd h (by decide)
theorem is_empty (s : ByteArray) (h : ¬ 0 < s.size) : s = ByteArray.empty := by
  apply ByteArray.ext
  have : s.data.toList = [] := List.eq_nil_of_length_eq_zero (by rw [size_list]; omega)
  exact Array.toList_inj.1 this
theorem drop_cons (s : ByteArray) (k : Nat) (h : k < s.size) : s.data.toList.drop k = s[k] :: s.data.toList.drop (k + 1) :=
  List.drop_eq_getElem_cons (by simpa using h)
theorem cut_yes (s : ByteArray) (k : Nat) (h : k < s.size) (e : s[k] = 45) : cutS (s.data.toList.drop k) = (s.data.toList.drop (k + 1), true) := by
  rw [drop_cons s k h, e]; simp [cutS]
theorem cut_no (s : ByteArray) (k : Nat) (h : k < s.size) (e : ¬ s[k] = 45) : cutS (s.data.toList.drop k) = (s.data.toList.drop k, false) := by
  rw [drop_cons s k h]; simp [cutS, e]
theorem cut_end (s : ByteArray) (k : Nat) (h : ¬ k < s.size) : cutS (s.data.toList.drop k) = (s.data.toList.drop k, false) := by
  rw [List.drop_eq_nil_of_le (by rw [size_list]; omega)]; rfl
theorem drop_take_snoc (s : ByteArray) (k j p : Nat) (hp : p = j + k) (h : p < s.size) : (s.data.toList.drop k).take (j + 1) = (s.data.toList.drop k).take j ++ [s[p]] := by
  subst hp
  rw [List.take_succ_eq_append_getElem (by rw [List.length_drop, size_list]; omega), List.getElem_drop]
  congr 2
  rw [show s[j + k] = s.data.toList[j + k]'(by rw [size_list]; exact h) from rfl]
  congr 1
  omega
theorem drop_all_no {q : UInt8 → Bool} (s : ByteArray) (k p : Nat) (hk : k ≤ p) (h : p < s.size) (hb : q s[p] = false) : (s.data.toList.drop k).all q = false := by
  rw [List.all_eq_false]
  refine ⟨s[p], ?_, by simp [hb]⟩
  rw [List.mem_iff_getElem]
  exact ⟨p - k, by rw [List.length_drop, size_list]; omega, by rw [List.getElem_drop]; rw [show s[p] = s.data.toList[p]'(by rw [size_list]; exact h) from rfl]; congr 1; omega⟩

set_option maxRecDepth 100000 in
set_option maxHeartbeats 4000000 in
theorem ref_Parse (s : ByteArray) (b : Int) (w : World) (hs : s.size ≤ 9223372036854775807) : Calls Try.prog 48 #[.string s, .int .i64 b] w fun e w' => e = .returned (.tuple #[.int .i64 (parseS s.data.toList b).1, .bool (parseS s.data.toList b).2]) ∧ w = w' := by
  go_enter Try.func48, Try.ntmps48
  go_upto_region 1 with fail
  go_cut [34] (fun c wx => c = .bool (isSign s) ∧ wx = w)
  case first =>
    by_cases h3 : s.size = 3
    · have t0 : ((s.size : Int) == 3) = true := by simp; omega
      have t1 : 0 < s.size := by omega
      have t2 : 1 < s.size := by omega
      have t3 : 2 < s.size := by omega
      have H3 := Lib.hid (isSign_is s h3 t1 t2 t3)
      clear h3
      go_wp2_with fail
      all_goals go_meet
      all_goals refine ⟨congrArg Value.bool ?_, rfl⟩
      all_goals rw [H3.out, Bool.eq_iff_iff, decide_eq_true_iff]
      all_goals clear H3
      all_goals simp
      all_goals omega
    · have t0 : ((s.size : Int) == 3) = false := by simp; omega
      have e := signS_not3 s.data.toList (by rw [size_list]; exact h3)
      have E := Lib.hid e
      clear e h3
      go_wp2_with fail
      go_meet
      exact ⟨by unfold isSign; rw [E.out]; rfl, rfl⟩
  case rest =>
    by_cases hsg : isSign s = true
    · obtain ⟨t1, e, hle⟩ := isSign_some hsg
      rw [hsg] at hcut
      obtain ⟨rfl, rfl⟩ := hcut
      have E := Lib.hid (parseS_some (b := b) e)
      clear e hsg
      go_wp2
      go_ret2
      exact ⟨by rw [E.out]; rfl, rfl⟩
    · simp only [Bool.not_eq_true] at hsg
      have N0 := Lib.hid (isSign_none hsg)
      rw [hsg] at hcut
      obtain ⟨rfl, rfl⟩ := hcut
      clear hsg
      by_cases h0 : 0 < s.size
      · by_cases h35 : s[0] = 35
        · have h36 : s[0] ≠ 36 := by rw [h35]; decide
          have h37 : s[0] ≠ 37 := by rw [h35]; decide
          have hp : (prefS s.data.toList b).1 = 10 := by rw [prefB_list]; unfold prefB; rw [dif_pos h0]; rw [if_pos h35]
          have hk2 : markN s = 1 := by unfold markN; rw [dif_pos h0]; rw [if_pos (.inl h35)]
          have c35 : ((s[0].toNat : Int) == 35) = true := byte_eq s[0] 35 (by omega) h35
          have c36 : ((s[0].toNat : Int) == 36) = false := byte_ne s[0] 36 (by omega) h36
          have c37 : ((s[0].toNat : Int) == 37) = false := byte_ne s[0] 37 (by omega) h37
          clear h35 h36 h37
          by_cases hk : 1 < s.size
          · by_cases h45 : s[1] = 45
            · have c4 : ((s[1].toNat : Int) == 45) = true := byte_eq s[1] 45 (by omega) h45
              have e := parseS_none N0.out (prefS_pair hp hk2) (cut_yes s 1 hk h45)
              clear hk2 hp h45
              by_cases hk1 : 2 < s.size
              · have hne : s.data.toList.drop 2 ≠ [] := drop_ne s 2 (by omega)
                have hse : ¬ s = ByteArray.empty := not_empty s (by omega)
                have E := Lib.hid e
                have HX := Lib.hid (bareS_no (s.data.toList.drop 2) 10 true)
                have HE := Lib.hid (bareS_ok (s.data.toList.drop 2) 10 true)
                have HN := Lib.hid hne
                clear e hne
                go_wp2_with fail
                go_loop [8, 9] (fun n i => ∃ (j : Nat) (m : Int), j + 2 ≤ s.size ∧ i = .int .i64 ((j + 2 : Nat) : Int) ∧ n = .int .i64 m ∧ Hid (m = wrap64 (valD 10 0 ((s.data.toList.drop 2).take j))) ∧ Hid (((s.data.toList.drop 2).take j).all (okD 10) = true) ∧ Hid (0 < j → isB 10 = true)) (fun _ i => s.size - (intOf i).toNat)
                case atStart => exact ⟨0, 0, by omega, by simp, rfl, by show _ = _; simp [valD, wrap64], by show _ = _; simp, by show _ → _; intro h; omega⟩
                case round =>
                  obtain ⟨j, m, hj, rfl, rfl, hm, hall, hib⟩ := hrel
                  obtain ⟨p, hp⟩ : ∃ p, p = j + 2 := ⟨_, rfl⟩
                  rw [← hp] at hj ⊢
                  by_cases hlt : p < s.size
                  · have hc0 := UInt8.toNat_lt s[p]
                    have W0 := fun w => ref_Worth (s[p].toNat : Int) 10 w (by omega) (by omega)
                    have hat : (s.data.toList.drop 2).take (j + 1) = (s.data.toList.drop 2).take j ++ [s[p]] :=
                      drop_take_snoc s 2 j p hp hlt
                    by_cases hok : isB 10 = true ∧ okD 10 s[p] = true
                    · have h2 := (okD_iff 10 s[p]).1 hok.2
                      have h5 := (isB_iff 10).1 hok.1
                      rw [worthS_yes _ _ ⟨h5.1, h5.2, h2⟩] at W0
                      obtain ⟨d, hd⟩ : ∃ d, wd (s[p].toNat : Int) = d := ⟨_, rfl⟩
                      rw [hd] at W0
                      have hm' : Hid (wrap64 (wrap64 (m * 10) + d) = wrap64 (valD 10 0 ((s.data.toList.drop 2).take (j + 1)))) := by
                        show _ = _
                        rw [hat, ← wrap_valD_snoc, ← hm.out, hd]
                      have hall' : Hid (((s.data.toList.drop 2).take (j + 1)).all (okD 10) = true) := by
                        show _ = _
                        rw [hat, List.all_append, hall.out]
                        simp [hok.2]
                      have hib' : Hid (0 < j + 1 → isB 10 = true) := fun _ => hok.1
                      have HP := Lib.hid hp
                      have W := Lib.hid W0
                      clear hm hall hd W0 hok hat h2 h5 hib hp
                      go_wp2_with (go_at_call 42; refine (W.out _).mono ?_; rintro e w' ⟨rfl, rfl⟩)
                      go_round
                      case rel => exact ⟨j + 1, _, by have := HP.out; omega, by have := HP.out; congr 1; omega, rfl, hm', hall', hib'⟩
                      case measure => simp [intOf]; omega
                    · have hno : bareS (s.data.toList.drop 2) 10 true = (0, false) := by
                        by_cases hb : isB 10 = true
                        · refine HX.out (drop_all_no s 2 p (by omega) hlt ?_)
                          simpa [hb] using hok
                        · exact bareS_nob _ _ _ (by simpa using hb)
                      have hw : worthS (s[p].toNat : Int) 10 = (0, false) := by
                        unfold worthS
                        rw [if_neg]
                        rintro ⟨h1, h2, h3⟩
                        exact hok ⟨h1, (okD_iff 10 s[p]).2 ⟨h2, h3⟩⟩
                      rw [hw] at W0
                      have W := Lib.hid W0
                      have EX := Lib.hid hno
                      clear hm hall W0 hok hat hno hw hib hp
                      go_wp2_with (go_at_call 42; refine (W.out _).mono ?_; rintro e w' ⟨rfl, rfl⟩)
                      go_ret2
                      exact ⟨by rw [E.out, EX.out]; rfl, rfl⟩
                  · have et : (s.data.toList.drop 2).take j = s.data.toList.drop 2 := List.take_of_length_le (by rw [List.length_drop, size_list]; omega)
                    rw [et] at hm hall
                    have hj0 : 0 < j := by omega
                    have EX := Lib.hid (HE.out (hib.out hj0) HN.out hall.out)
                    clear hall et hib hp
                    go_wp2
                    go_ret2
                    exact ⟨by rw [E.out, EX.out, ← hm.out]; rfl, rfl⟩
              · have hn0 : s.data.toList.drop 2 = [] := List.drop_eq_nil_of_le (by rw [size_list]; omega)
                rw [hn0, bareS_nil] at e
                have E := Lib.hid e
                clear e hn0
                go_wp2
                go_ret2
                exact ⟨by rw [E.out]; rfl, rfl⟩
            · have c4 : ((s[1].toNat : Int) == 45) = false := byte_ne s[1] 45 (by omega) h45
              have e := parseS_none N0.out (prefS_pair hp hk2) (cut_no s 1 hk h45)
              clear hk2 hp h45
              have hne : s.data.toList.drop 1 ≠ [] := drop_ne s 1 (by omega)
              have hse : ¬ s = ByteArray.empty := not_empty s (by omega)
              have E := Lib.hid e
              have HX := Lib.hid (bareS_no (s.data.toList.drop 1) 10 false)
              have HE := Lib.hid (bareS_ok (s.data.toList.drop 1) 10 false)
              have HN := Lib.hid hne
              clear e hne
              go_wp2_with fail
              go_loop [8, 9] (fun n i => ∃ (j : Nat) (m : Int), j + 1 ≤ s.size ∧ i = .int .i64 ((j + 1 : Nat) : Int) ∧ n = .int .i64 m ∧ Hid (m = wrap64 (valD 10 0 ((s.data.toList.drop 1).take j))) ∧ Hid (((s.data.toList.drop 1).take j).all (okD 10) = true) ∧ Hid (0 < j → isB 10 = true)) (fun _ i => s.size - (intOf i).toNat)
              case atStart => exact ⟨0, 0, by omega, by simp, rfl, by show _ = _; simp [valD, wrap64], by show _ = _; simp, by show _ → _; intro h; omega⟩
              case round =>
                obtain ⟨j, m, hj, rfl, rfl, hm, hall, hib⟩ := hrel
                obtain ⟨p, hp⟩ : ∃ p, p = j + 1 := ⟨_, rfl⟩
                rw [← hp] at hj ⊢
                by_cases hlt : p < s.size
                · have hc0 := UInt8.toNat_lt s[p]
                  have W0 := fun w => ref_Worth (s[p].toNat : Int) 10 w (by omega) (by omega)
                  have hat : (s.data.toList.drop 1).take (j + 1) = (s.data.toList.drop 1).take j ++ [s[p]] :=
                    drop_take_snoc s 1 j p hp hlt
                  by_cases hok : isB 10 = true ∧ okD 10 s[p] = true
                  · have h2 := (okD_iff 10 s[p]).1 hok.2
                    have h5 := (isB_iff 10).1 hok.1
                    rw [worthS_yes _ _ ⟨h5.1, h5.2, h2⟩] at W0
                    obtain ⟨d, hd⟩ : ∃ d, wd (s[p].toNat : Int) = d := ⟨_, rfl⟩
                    rw [hd] at W0
                    have hm' : Hid (wrap64 (wrap64 (m * 10) + d) = wrap64 (valD 10 0 ((s.data.toList.drop 1).take (j + 1)))) := by
                      show _ = _
                      rw [hat, ← wrap_valD_snoc, ← hm.out, hd]
                    have hall' : Hid (((s.data.toList.drop 1).take (j + 1)).all (okD 10) = true) := by
                      show _ = _
                      rw [hat, List.all_append, hall.out]
                      simp [hok.2]
                    have hib' : Hid (0 < j + 1 → isB 10 = true) := fun _ => hok.1
                    have HP := Lib.hid hp
                    have W := Lib.hid W0
                    clear hm hall hd W0 hok hat h2 h5 hib hp
                    go_wp2_with (go_at_call 42; refine (W.out _).mono ?_; rintro e w' ⟨rfl, rfl⟩)
                    go_round
                    case rel => exact ⟨j + 1, _, by have := HP.out; omega, by have := HP.out; congr 1; omega, rfl, hm', hall', hib'⟩
                    case measure => simp [intOf]; omega
                  · have hno : bareS (s.data.toList.drop 1) 10 false = (0, false) := by
                      by_cases hb : isB 10 = true
                      · refine HX.out (drop_all_no s 1 p (by omega) hlt ?_)
                        simpa [hb] using hok
                      · exact bareS_nob _ _ _ (by simpa using hb)
                    have hw : worthS (s[p].toNat : Int) 10 = (0, false) := by
                      unfold worthS
                      rw [if_neg]
                      rintro ⟨h1, h2, h3⟩
                      exact hok ⟨h1, (okD_iff 10 s[p]).2 ⟨h2, h3⟩⟩
                    rw [hw] at W0
                    have W := Lib.hid W0
                    have EX := Lib.hid hno
                    clear hm hall W0 hok hat hno hw hib hp
                    go_wp2_with (go_at_call 42; refine (W.out _).mono ?_; rintro e w' ⟨rfl, rfl⟩)
                    go_ret2
                    exact ⟨by rw [E.out, EX.out]; rfl, rfl⟩
                · have et : (s.data.toList.drop 1).take j = s.data.toList.drop 1 := List.take_of_length_le (by rw [List.length_drop, size_list]; omega)
                  rw [et] at hm hall
                  have hj0 : 0 < j := by omega
                  have EX := Lib.hid (HE.out (hib.out hj0) HN.out hall.out)
                  clear hall et hib hp
                  go_wp2
                  go_ret2
                  exact ⟨by rw [E.out, EX.out, ← hm.out]; rfl, rfl⟩
          · have hn0 : s.data.toList.drop 1 = [] := List.drop_eq_nil_of_le (by rw [size_list]; omega)
            have e := parseS_none N0.out (prefS_pair hp hk2) (cut_end s 1 hk)
            rw [hn0, bareS_nil] at e
            have E := Lib.hid e
            clear e hn0 hk2 hp
            go_wp2
            go_ret2
            exact ⟨by rw [E.out]; rfl, rfl⟩
        · by_cases h36 : s[0] = 36
          · have h37 : s[0] ≠ 37 := by rw [h36]; decide
            have hp : (prefS s.data.toList b).1 = 16 := by rw [prefB_list]; unfold prefB; rw [dif_pos h0]; rw [if_neg h35, if_pos h36]
            have hk2 : markN s = 1 := by unfold markN; rw [dif_pos h0]; rw [if_pos (.inr (.inl h36))]
            have c35 : ((s[0].toNat : Int) == 35) = false := byte_ne s[0] 35 (by omega) h35
            have c36 : ((s[0].toNat : Int) == 36) = true := byte_eq s[0] 36 (by omega) h36
            have c37 : ((s[0].toNat : Int) == 37) = false := byte_ne s[0] 37 (by omega) h37
            clear h35 h36 h37
            by_cases hk : 1 < s.size
            · by_cases h45 : s[1] = 45
              · have c4 : ((s[1].toNat : Int) == 45) = true := byte_eq s[1] 45 (by omega) h45
                have e := parseS_none N0.out (prefS_pair hp hk2) (cut_yes s 1 hk h45)
                clear hk2 hp h45
                by_cases hk1 : 2 < s.size
                · have hne : s.data.toList.drop 2 ≠ [] := drop_ne s 2 (by omega)
                  have hse : ¬ s = ByteArray.empty := not_empty s (by omega)
                  have E := Lib.hid e
                  have HX := Lib.hid (bareS_no (s.data.toList.drop 2) 16 true)
                  have HE := Lib.hid (bareS_ok (s.data.toList.drop 2) 16 true)
                  have HN := Lib.hid hne
                  clear e hne
                  go_wp2_with fail
                  go_loop [8, 9] (fun n i => ∃ (j : Nat) (m : Int), j + 2 ≤ s.size ∧ i = .int .i64 ((j + 2 : Nat) : Int) ∧ n = .int .i64 m ∧ Hid (m = wrap64 (valD 16 0 ((s.data.toList.drop 2).take j))) ∧ Hid (((s.data.toList.drop 2).take j).all (okD 16) = true) ∧ Hid (0 < j → isB 16 = true)) (fun _ i => s.size - (intOf i).toNat)
                  case atStart => exact ⟨0, 0, by omega, by simp, rfl, by show _ = _; simp [valD, wrap64], by show _ = _; simp, by show _ → _; intro h; omega⟩
                  case round =>
                    obtain ⟨j, m, hj, rfl, rfl, hm, hall, hib⟩ := hrel
                    obtain ⟨p, hp⟩ : ∃ p, p = j + 2 := ⟨_, rfl⟩
                    rw [← hp] at hj ⊢
                    by_cases hlt : p < s.size
                    · have hc0 := UInt8.toNat_lt s[p]
                      have W0 := fun w => ref_Worth (s[p].toNat : Int) 16 w (by omega) (by omega)
                      have hat : (s.data.toList.drop 2).take (j + 1) = (s.data.toList.drop 2).take j ++ [s[p]] :=
                        drop_take_snoc s 2 j p hp hlt
                      by_cases hok : isB 16 = true ∧ okD 16 s[p] = true
                      · have h2 := (okD_iff 16 s[p]).1 hok.2
                        have h5 := (isB_iff 16).1 hok.1
                        rw [worthS_yes _ _ ⟨h5.1, h5.2, h2⟩] at W0
                        obtain ⟨d, hd⟩ : ∃ d, wd (s[p].toNat : Int) = d := ⟨_, rfl⟩
                        rw [hd] at W0
                        have hm' : Hid (wrap64 (wrap64 (m * 16) + d) = wrap64 (valD 16 0 ((s.data.toList.drop 2).take (j + 1)))) := by
                          show _ = _
                          rw [hat, ← wrap_valD_snoc, ← hm.out, hd]
                        have hall' : Hid (((s.data.toList.drop 2).take (j + 1)).all (okD 16) = true) := by
                          show _ = _
                          rw [hat, List.all_append, hall.out]
                          simp [hok.2]
                        have hib' : Hid (0 < j + 1 → isB 16 = true) := fun _ => hok.1
                        have HP := Lib.hid hp
                        have W := Lib.hid W0
                        clear hm hall hd W0 hok hat h2 h5 hib hp
                        go_wp2_with (go_at_call 42; refine (W.out _).mono ?_; rintro e w' ⟨rfl, rfl⟩)
                        go_round
                        case rel => exact ⟨j + 1, _, by have := HP.out; omega, by have := HP.out; congr 1; omega, rfl, hm', hall', hib'⟩
                        case measure => simp [intOf]; omega
                      · have hno : bareS (s.data.toList.drop 2) 16 true = (0, false) := by
                          by_cases hb : isB 16 = true
                          · refine HX.out (drop_all_no s 2 p (by omega) hlt ?_)
                            simpa [hb] using hok
                          · exact bareS_nob _ _ _ (by simpa using hb)
                        have hw : worthS (s[p].toNat : Int) 16 = (0, false) := by
                          unfold worthS
                          rw [if_neg]
                          rintro ⟨h1, h2, h3⟩
                          exact hok ⟨h1, (okD_iff 16 s[p]).2 ⟨h2, h3⟩⟩
                        rw [hw] at W0
                        have W := Lib.hid W0
                        have EX := Lib.hid hno
                        clear hm hall W0 hok hat hno hw hib hp
                        go_wp2_with (go_at_call 42; refine (W.out _).mono ?_; rintro e w' ⟨rfl, rfl⟩)
                        go_ret2
                        exact ⟨by rw [E.out, EX.out]; rfl, rfl⟩
                    · have et : (s.data.toList.drop 2).take j = s.data.toList.drop 2 := List.take_of_length_le (by rw [List.length_drop, size_list]; omega)
                      rw [et] at hm hall
                      have hj0 : 0 < j := by omega
                      have EX := Lib.hid (HE.out (hib.out hj0) HN.out hall.out)
                      clear hall et hib hp
                      go_wp2
                      go_ret2
                      exact ⟨by rw [E.out, EX.out, ← hm.out]; rfl, rfl⟩
                · have hn0 : s.data.toList.drop 2 = [] := List.drop_eq_nil_of_le (by rw [size_list]; omega)
                  rw [hn0, bareS_nil] at e
                  have E := Lib.hid e
                  clear e hn0
                  go_wp2
                  go_ret2
                  exact ⟨by rw [E.out]; rfl, rfl⟩
              · have c4 : ((s[1].toNat : Int) == 45) = false := byte_ne s[1] 45 (by omega) h45
                have e := parseS_none N0.out (prefS_pair hp hk2) (cut_no s 1 hk h45)
                clear hk2 hp h45
                have hne : s.data.toList.drop 1 ≠ [] := drop_ne s 1 (by omega)
                have hse : ¬ s = ByteArray.empty := not_empty s (by omega)
                have E := Lib.hid e
                have HX := Lib.hid (bareS_no (s.data.toList.drop 1) 16 false)
                have HE := Lib.hid (bareS_ok (s.data.toList.drop 1) 16 false)
                have HN := Lib.hid hne
                clear e hne
                go_wp2_with fail
                go_loop [8, 9] (fun n i => ∃ (j : Nat) (m : Int), j + 1 ≤ s.size ∧ i = .int .i64 ((j + 1 : Nat) : Int) ∧ n = .int .i64 m ∧ Hid (m = wrap64 (valD 16 0 ((s.data.toList.drop 1).take j))) ∧ Hid (((s.data.toList.drop 1).take j).all (okD 16) = true) ∧ Hid (0 < j → isB 16 = true)) (fun _ i => s.size - (intOf i).toNat)
                case atStart => exact ⟨0, 0, by omega, by simp, rfl, by show _ = _; simp [valD, wrap64], by show _ = _; simp, by show _ → _; intro h; omega⟩
                case round =>
                  obtain ⟨j, m, hj, rfl, rfl, hm, hall, hib⟩ := hrel
                  obtain ⟨p, hp⟩ : ∃ p, p = j + 1 := ⟨_, rfl⟩
                  rw [← hp] at hj ⊢
                  by_cases hlt : p < s.size
                  · have hc0 := UInt8.toNat_lt s[p]
                    have W0 := fun w => ref_Worth (s[p].toNat : Int) 16 w (by omega) (by omega)
                    have hat : (s.data.toList.drop 1).take (j + 1) = (s.data.toList.drop 1).take j ++ [s[p]] :=
                      drop_take_snoc s 1 j p hp hlt
                    by_cases hok : isB 16 = true ∧ okD 16 s[p] = true
                    · have h2 := (okD_iff 16 s[p]).1 hok.2
                      have h5 := (isB_iff 16).1 hok.1
                      rw [worthS_yes _ _ ⟨h5.1, h5.2, h2⟩] at W0
                      obtain ⟨d, hd⟩ : ∃ d, wd (s[p].toNat : Int) = d := ⟨_, rfl⟩
                      rw [hd] at W0
                      have hm' : Hid (wrap64 (wrap64 (m * 16) + d) = wrap64 (valD 16 0 ((s.data.toList.drop 1).take (j + 1)))) := by
                        show _ = _
                        rw [hat, ← wrap_valD_snoc, ← hm.out, hd]
                      have hall' : Hid (((s.data.toList.drop 1).take (j + 1)).all (okD 16) = true) := by
                        show _ = _
                        rw [hat, List.all_append, hall.out]
                        simp [hok.2]
                      have hib' : Hid (0 < j + 1 → isB 16 = true) := fun _ => hok.1
                      have HP := Lib.hid hp
                      have W := Lib.hid W0
                      clear hm hall hd W0 hok hat h2 h5 hib hp
                      go_wp2_with (go_at_call 42; refine (W.out _).mono ?_; rintro e w' ⟨rfl, rfl⟩)
                      go_round
                      case rel => exact ⟨j + 1, _, by have := HP.out; omega, by have := HP.out; congr 1; omega, rfl, hm', hall', hib'⟩
                      case measure => simp [intOf]; omega
                    · have hno : bareS (s.data.toList.drop 1) 16 false = (0, false) := by
                        by_cases hb : isB 16 = true
                        · refine HX.out (drop_all_no s 1 p (by omega) hlt ?_)
                          simpa [hb] using hok
                        · exact bareS_nob _ _ _ (by simpa using hb)
                      have hw : worthS (s[p].toNat : Int) 16 = (0, false) := by
                        unfold worthS
                        rw [if_neg]
                        rintro ⟨h1, h2, h3⟩
                        exact hok ⟨h1, (okD_iff 16 s[p]).2 ⟨h2, h3⟩⟩
                      rw [hw] at W0
                      have W := Lib.hid W0
                      have EX := Lib.hid hno
                      clear hm hall W0 hok hat hno hw hib hp
                      go_wp2_with (go_at_call 42; refine (W.out _).mono ?_; rintro e w' ⟨rfl, rfl⟩)
                      go_ret2
                      exact ⟨by rw [E.out, EX.out]; rfl, rfl⟩
                  · have et : (s.data.toList.drop 1).take j = s.data.toList.drop 1 := List.take_of_length_le (by rw [List.length_drop, size_list]; omega)
                    rw [et] at hm hall
                    have hj0 : 0 < j := by omega
                    have EX := Lib.hid (HE.out (hib.out hj0) HN.out hall.out)
                    clear hall et hib hp
                    go_wp2
                    go_ret2
                    exact ⟨by rw [E.out, EX.out, ← hm.out]; rfl, rfl⟩
            · have hn0 : s.data.toList.drop 1 = [] := List.drop_eq_nil_of_le (by rw [size_list]; omega)
              have e := parseS_none N0.out (prefS_pair hp hk2) (cut_end s 1 hk)
              rw [hn0, bareS_nil] at e
              have E := Lib.hid e
              clear e hn0 hk2 hp
              go_wp2
              go_ret2
              exact ⟨by rw [E.out]; rfl, rfl⟩
          · by_cases h37 : s[0] = 37
            · have hp : (prefS s.data.toList b).1 = 2 := by rw [prefB_list]; unfold prefB; rw [dif_pos h0]; rw [if_neg h35, if_neg h36, if_pos h37]
              have hk2 : markN s = 1 := by unfold markN; rw [dif_pos h0]; rw [if_pos (.inr (.inr h37))]
              have c35 : ((s[0].toNat : Int) == 35) = false := byte_ne s[0] 35 (by omega) h35
              have c36 : ((s[0].toNat : Int) == 36) = false := byte_ne s[0] 36 (by omega) h36
              have c37 : ((s[0].toNat : Int) == 37) = true := byte_eq s[0] 37 (by omega) h37
              clear h35 h36 h37
              by_cases hk : 1 < s.size
              · by_cases h45 : s[1] = 45
                · have c4 : ((s[1].toNat : Int) == 45) = true := byte_eq s[1] 45 (by omega) h45
                  have e := parseS_none N0.out (prefS_pair hp hk2) (cut_yes s 1 hk h45)
                  clear hk2 hp h45
                  by_cases hk1 : 2 < s.size
                  · have hne : s.data.toList.drop 2 ≠ [] := drop_ne s 2 (by omega)
                    have hse : ¬ s = ByteArray.empty := not_empty s (by omega)
                    have E := Lib.hid e
                    have HX := Lib.hid (bareS_no (s.data.toList.drop 2) 2 true)
                    have HE := Lib.hid (bareS_ok (s.data.toList.drop 2) 2 true)
                    have HN := Lib.hid hne
                    clear e hne
                    go_wp2_with fail
                    go_loop [8, 9] (fun n i => ∃ (j : Nat) (m : Int), j + 2 ≤ s.size ∧ i = .int .i64 ((j + 2 : Nat) : Int) ∧ n = .int .i64 m ∧ Hid (m = wrap64 (valD 2 0 ((s.data.toList.drop 2).take j))) ∧ Hid (((s.data.toList.drop 2).take j).all (okD 2) = true) ∧ Hid (0 < j → isB 2 = true)) (fun _ i => s.size - (intOf i).toNat)
                    case atStart => exact ⟨0, 0, by omega, by simp, rfl, by show _ = _; simp [valD, wrap64], by show _ = _; simp, by show _ → _; intro h; omega⟩
                    case round =>
                      obtain ⟨j, m, hj, rfl, rfl, hm, hall, hib⟩ := hrel
                      obtain ⟨p, hp⟩ : ∃ p, p = j + 2 := ⟨_, rfl⟩
                      rw [← hp] at hj ⊢
                      by_cases hlt : p < s.size
                      · have hc0 := UInt8.toNat_lt s[p]
                        have W0 := fun w => ref_Worth (s[p].toNat : Int) 2 w (by omega) (by omega)
                        have hat : (s.data.toList.drop 2).take (j + 1) = (s.data.toList.drop 2).take j ++ [s[p]] :=
                          drop_take_snoc s 2 j p hp hlt
                        by_cases hok : isB 2 = true ∧ okD 2 s[p] = true
                        · have h2 := (okD_iff 2 s[p]).1 hok.2
                          have h5 := (isB_iff 2).1 hok.1
                          rw [worthS_yes _ _ ⟨h5.1, h5.2, h2⟩] at W0
                          obtain ⟨d, hd⟩ : ∃ d, wd (s[p].toNat : Int) = d := ⟨_, rfl⟩
                          rw [hd] at W0
                          have hm' : Hid (wrap64 (wrap64 (m * 2) + d) = wrap64 (valD 2 0 ((s.data.toList.drop 2).take (j + 1)))) := by
                            show _ = _
                            rw [hat, ← wrap_valD_snoc, ← hm.out, hd]
                          have hall' : Hid (((s.data.toList.drop 2).take (j + 1)).all (okD 2) = true) := by
                            show _ = _
                            rw [hat, List.all_append, hall.out]
                            simp [hok.2]
                          have hib' : Hid (0 < j + 1 → isB 2 = true) := fun _ => hok.1
                          have HP := Lib.hid hp
                          have W := Lib.hid W0
                          clear hm hall hd W0 hok hat h2 h5 hib hp
                          go_wp2_with (go_at_call 42; refine (W.out _).mono ?_; rintro e w' ⟨rfl, rfl⟩)
                          go_round
                          case rel => exact ⟨j + 1, _, by have := HP.out; omega, by have := HP.out; congr 1; omega, rfl, hm', hall', hib'⟩
                          case measure => simp [intOf]; omega
                        · have hno : bareS (s.data.toList.drop 2) 2 true = (0, false) := by
                            by_cases hb : isB 2 = true
                            · refine HX.out (drop_all_no s 2 p (by omega) hlt ?_)
                              simpa [hb] using hok
                            · exact bareS_nob _ _ _ (by simpa using hb)
                          have hw : worthS (s[p].toNat : Int) 2 = (0, false) := by
                            unfold worthS
                            rw [if_neg]
                            rintro ⟨h1, h2, h3⟩
                            exact hok ⟨h1, (okD_iff 2 s[p]).2 ⟨h2, h3⟩⟩
                          rw [hw] at W0
                          have W := Lib.hid W0
                          have EX := Lib.hid hno
                          clear hm hall W0 hok hat hno hw hib hp
                          go_wp2_with (go_at_call 42; refine (W.out _).mono ?_; rintro e w' ⟨rfl, rfl⟩)
                          go_ret2
                          exact ⟨by rw [E.out, EX.out]; rfl, rfl⟩
                      · have et : (s.data.toList.drop 2).take j = s.data.toList.drop 2 := List.take_of_length_le (by rw [List.length_drop, size_list]; omega)
                        rw [et] at hm hall
                        have hj0 : 0 < j := by omega
                        have EX := Lib.hid (HE.out (hib.out hj0) HN.out hall.out)
                        clear hall et hib hp
                        go_wp2
                        go_ret2
                        exact ⟨by rw [E.out, EX.out, ← hm.out]; rfl, rfl⟩
                  · have hn0 : s.data.toList.drop 2 = [] := List.drop_eq_nil_of_le (by rw [size_list]; omega)
                    rw [hn0, bareS_nil] at e
                    have E := Lib.hid e
                    clear e hn0
                    go_wp2
                    go_ret2
                    exact ⟨by rw [E.out]; rfl, rfl⟩
                · have c4 : ((s[1].toNat : Int) == 45) = false := byte_ne s[1] 45 (by omega) h45
                  have e := parseS_none N0.out (prefS_pair hp hk2) (cut_no s 1 hk h45)
                  clear hk2 hp h45
                  have hne : s.data.toList.drop 1 ≠ [] := drop_ne s 1 (by omega)
                  have hse : ¬ s = ByteArray.empty := not_empty s (by omega)
                  have E := Lib.hid e
                  have HX := Lib.hid (bareS_no (s.data.toList.drop 1) 2 false)
                  have HE := Lib.hid (bareS_ok (s.data.toList.drop 1) 2 false)
                  have HN := Lib.hid hne
                  clear e hne
                  go_wp2_with fail
                  go_loop [8, 9] (fun n i => ∃ (j : Nat) (m : Int), j + 1 ≤ s.size ∧ i = .int .i64 ((j + 1 : Nat) : Int) ∧ n = .int .i64 m ∧ Hid (m = wrap64 (valD 2 0 ((s.data.toList.drop 1).take j))) ∧ Hid (((s.data.toList.drop 1).take j).all (okD 2) = true) ∧ Hid (0 < j → isB 2 = true)) (fun _ i => s.size - (intOf i).toNat)
                  case atStart => exact ⟨0, 0, by omega, by simp, rfl, by show _ = _; simp [valD, wrap64], by show _ = _; simp, by show _ → _; intro h; omega⟩
                  case round =>
                    obtain ⟨j, m, hj, rfl, rfl, hm, hall, hib⟩ := hrel
                    obtain ⟨p, hp⟩ : ∃ p, p = j + 1 := ⟨_, rfl⟩
                    rw [← hp] at hj ⊢
                    by_cases hlt : p < s.size
                    · have hc0 := UInt8.toNat_lt s[p]
                      have W0 := fun w => ref_Worth (s[p].toNat : Int) 2 w (by omega) (by omega)
                      have hat : (s.data.toList.drop 1).take (j + 1) = (s.data.toList.drop 1).take j ++ [s[p]] :=
                        drop_take_snoc s 1 j p hp hlt
                      by_cases hok : isB 2 = true ∧ okD 2 s[p] = true
                      · have h2 := (okD_iff 2 s[p]).1 hok.2
                        have h5 := (isB_iff 2).1 hok.1
                        rw [worthS_yes _ _ ⟨h5.1, h5.2, h2⟩] at W0
                        obtain ⟨d, hd⟩ : ∃ d, wd (s[p].toNat : Int) = d := ⟨_, rfl⟩
                        rw [hd] at W0
                        have hm' : Hid (wrap64 (wrap64 (m * 2) + d) = wrap64 (valD 2 0 ((s.data.toList.drop 1).take (j + 1)))) := by
                          show _ = _
                          rw [hat, ← wrap_valD_snoc, ← hm.out, hd]
                        have hall' : Hid (((s.data.toList.drop 1).take (j + 1)).all (okD 2) = true) := by
                          show _ = _
                          rw [hat, List.all_append, hall.out]
                          simp [hok.2]
                        have hib' : Hid (0 < j + 1 → isB 2 = true) := fun _ => hok.1
                        have HP := Lib.hid hp
                        have W := Lib.hid W0
                        clear hm hall hd W0 hok hat h2 h5 hib hp
                        go_wp2_with (go_at_call 42; refine (W.out _).mono ?_; rintro e w' ⟨rfl, rfl⟩)
                        go_round
                        case rel => exact ⟨j + 1, _, by have := HP.out; omega, by have := HP.out; congr 1; omega, rfl, hm', hall', hib'⟩
                        case measure => simp [intOf]; omega
                      · have hno : bareS (s.data.toList.drop 1) 2 false = (0, false) := by
                          by_cases hb : isB 2 = true
                          · refine HX.out (drop_all_no s 1 p (by omega) hlt ?_)
                            simpa [hb] using hok
                          · exact bareS_nob _ _ _ (by simpa using hb)
                        have hw : worthS (s[p].toNat : Int) 2 = (0, false) := by
                          unfold worthS
                          rw [if_neg]
                          rintro ⟨h1, h2, h3⟩
                          exact hok ⟨h1, (okD_iff 2 s[p]).2 ⟨h2, h3⟩⟩
                        rw [hw] at W0
                        have W := Lib.hid W0
                        have EX := Lib.hid hno
                        clear hm hall W0 hok hat hno hw hib hp
                        go_wp2_with (go_at_call 42; refine (W.out _).mono ?_; rintro e w' ⟨rfl, rfl⟩)
                        go_ret2
                        exact ⟨by rw [E.out, EX.out]; rfl, rfl⟩
                    · have et : (s.data.toList.drop 1).take j = s.data.toList.drop 1 := List.take_of_length_le (by rw [List.length_drop, size_list]; omega)
                      rw [et] at hm hall
                      have hj0 : 0 < j := by omega
                      have EX := Lib.hid (HE.out (hib.out hj0) HN.out hall.out)
                      clear hall et hib hp
                      go_wp2
                      go_ret2
                      exact ⟨by rw [E.out, EX.out, ← hm.out]; rfl, rfl⟩
              · have hn0 : s.data.toList.drop 1 = [] := List.drop_eq_nil_of_le (by rw [size_list]; omega)
                have e := parseS_none N0.out (prefS_pair hp hk2) (cut_end s 1 hk)
                rw [hn0, bareS_nil] at e
                have E := Lib.hid e
                clear e hn0 hk2 hp
                go_wp2
                go_ret2
                exact ⟨by rw [E.out]; rfl, rfl⟩
            · have hp : (prefS s.data.toList b).1 = b := by rw [prefB_list]; unfold prefB; rw [dif_pos h0]; rw [if_neg h35, if_neg h36, if_neg h37]
              have hk2 : markN s = 0 := by unfold markN; rw [dif_pos h0]; rw [if_neg (fun h => h.elim h35 (fun h => h.elim h36 h37))]
              have c35 : ((s[0].toNat : Int) == 35) = false := byte_ne s[0] 35 (by omega) h35
              have c36 : ((s[0].toNat : Int) == 36) = false := byte_ne s[0] 36 (by omega) h36
              have c37 : ((s[0].toNat : Int) == 37) = false := byte_ne s[0] 37 (by omega) h37
              clear h35 h36 h37
              by_cases hk : 0 < s.size
              rotate_left
              · exact absurd h0 hk
              · by_cases h45 : s[0] = 45
                · have c4 : ((s[0].toNat : Int) == 45) = true := byte_eq s[0] 45 (by omega) h45
                  have e := parseS_none N0.out (prefS_pair hp hk2) (cut_yes s 0 hk h45)
                  clear hk2 hp h45
                  by_cases hk1 : 1 < s.size
                  · have hne : s.data.toList.drop 1 ≠ [] := drop_ne s 1 (by omega)
                    have hse : ¬ s = ByteArray.empty := not_empty s (by omega)
                    have E := Lib.hid e
                    have HX := Lib.hid (bareS_no (s.data.toList.drop 1) b true)
                    have HE := Lib.hid (bareS_ok (s.data.toList.drop 1) b true)
                    have HN := Lib.hid hne
                    clear e hne
                    go_wp2_with fail
                    go_loop [8, 9] (fun n i => ∃ (j : Nat) (m : Int), j + 1 ≤ s.size ∧ i = .int .i64 ((j + 1 : Nat) : Int) ∧ n = .int .i64 m ∧ Hid (m = wrap64 (valD b 0 ((s.data.toList.drop 1).take j))) ∧ Hid (((s.data.toList.drop 1).take j).all (okD b) = true) ∧ Hid (0 < j → isB b = true)) (fun _ i => s.size - (intOf i).toNat)
                    case atStart => exact ⟨0, 0, by omega, by simp, rfl, by show _ = _; simp [valD, wrap64], by show _ = _; simp, by show _ → _; intro h; omega⟩
                    case round =>
                      obtain ⟨j, m, hj, rfl, rfl, hm, hall, hib⟩ := hrel
                      obtain ⟨p, hp⟩ : ∃ p, p = j + 1 := ⟨_, rfl⟩
                      rw [← hp] at hj ⊢
                      by_cases hlt : p < s.size
                      · have hc0 := UInt8.toNat_lt s[p]
                        have W0 := fun w => ref_Worth (s[p].toNat : Int) b w (by omega) (by omega)
                        have hat : (s.data.toList.drop 1).take (j + 1) = (s.data.toList.drop 1).take j ++ [s[p]] :=
                          drop_take_snoc s 1 j p hp hlt
                        by_cases hok : isB b = true ∧ okD b s[p] = true
                        · have h2 := (okD_iff b s[p]).1 hok.2
                          have h5 := (isB_iff b).1 hok.1
                          rw [worthS_yes _ _ ⟨h5.1, h5.2, h2⟩] at W0
                          obtain ⟨d, hd⟩ : ∃ d, wd (s[p].toNat : Int) = d := ⟨_, rfl⟩
                          rw [hd] at W0
                          have hm' : Hid (wrap64 (wrap64 (m * b) + d) = wrap64 (valD b 0 ((s.data.toList.drop 1).take (j + 1)))) := by
                            show _ = _
                            rw [hat, ← wrap_valD_snoc, ← hm.out, hd]
                          have hall' : Hid (((s.data.toList.drop 1).take (j + 1)).all (okD b) = true) := by
                            show _ = _
                            rw [hat, List.all_append, hall.out]
                            simp [hok.2]
                          have hib' : Hid (0 < j + 1 → isB b = true) := fun _ => hok.1
                          have HP := Lib.hid hp
                          have W := Lib.hid W0
                          clear hm hall hd W0 hok hat h2 h5 hib hp
                          go_wp2_with (go_at_call 42; refine (W.out _).mono ?_; rintro e w' ⟨rfl, rfl⟩)
                          go_round
                          case rel => exact ⟨j + 1, _, by have := HP.out; omega, by have := HP.out; congr 1; omega, rfl, hm', hall', hib'⟩
                          case measure => simp [intOf]; omega
                        · have hno : bareS (s.data.toList.drop 1) b true = (0, false) := by
                            by_cases hb : isB b = true
                            · refine HX.out (drop_all_no s 1 p (by omega) hlt ?_)
                              simpa [hb] using hok
                            · exact bareS_nob _ _ _ (by simpa using hb)
                          have hw : worthS (s[p].toNat : Int) b = (0, false) := by
                            unfold worthS
                            rw [if_neg]
                            rintro ⟨h1, h2, h3⟩
                            exact hok ⟨h1, (okD_iff b s[p]).2 ⟨h2, h3⟩⟩
                          rw [hw] at W0
                          have W := Lib.hid W0
                          have EX := Lib.hid hno
                          clear hm hall W0 hok hat hno hw hib hp
                          go_wp2_with (go_at_call 42; refine (W.out _).mono ?_; rintro e w' ⟨rfl, rfl⟩)
                          go_ret2
                          exact ⟨by rw [E.out, EX.out]; rfl, rfl⟩
                      · have et : (s.data.toList.drop 1).take j = s.data.toList.drop 1 := List.take_of_length_le (by rw [List.length_drop, size_list]; omega)
                        rw [et] at hm hall
                        have hj0 : 0 < j := by omega
                        have EX := Lib.hid (HE.out (hib.out hj0) HN.out hall.out)
                        clear hall et hib hp
                        go_wp2
                        go_ret2
                        exact ⟨by rw [E.out, EX.out, ← hm.out]; rfl, rfl⟩
                  · have hn0 : s.data.toList.drop 1 = [] := List.drop_eq_nil_of_le (by rw [size_list]; omega)
                    rw [hn0, bareS_nil] at e
                    have E := Lib.hid e
                    clear e hn0
                    go_wp2
                    go_ret2
                    exact ⟨by rw [E.out]; rfl, rfl⟩
                · have c4 : ((s[0].toNat : Int) == 45) = false := byte_ne s[0] 45 (by omega) h45
                  have e := parseS_none N0.out (prefS_pair hp hk2) (cut_no s 0 hk h45)
                  clear hk2 hp h45
                  have hne : s.data.toList.drop 0 ≠ [] := drop_ne s 0 (by omega)
                  have hse : ¬ s = ByteArray.empty := not_empty s (by omega)
                  have E := Lib.hid e
                  have HX := Lib.hid (bareS_no (s.data.toList.drop 0) b false)
                  have HE := Lib.hid (bareS_ok (s.data.toList.drop 0) b false)
                  have HN := Lib.hid hne
                  clear e hne
                  go_wp2_with fail
                  go_loop [8, 9] (fun n i => ∃ (j : Nat) (m : Int), j + 0 ≤ s.size ∧ i = .int .i64 ((j + 0 : Nat) : Int) ∧ n = .int .i64 m ∧ Hid (m = wrap64 (valD b 0 ((s.data.toList.drop 0).take j))) ∧ Hid (((s.data.toList.drop 0).take j).all (okD b) = true) ∧ Hid (0 < j → isB b = true)) (fun _ i => s.size - (intOf i).toNat)
                  case atStart => exact ⟨0, 0, by omega, by simp, rfl, by show _ = _; simp [valD, wrap64], by show _ = _; simp, by show _ → _; intro h; omega⟩
                  case round =>
                    obtain ⟨j, m, hj, rfl, rfl, hm, hall, hib⟩ := hrel
                    obtain ⟨p, hp⟩ : ∃ p, p = j + 0 := ⟨_, rfl⟩
                    rw [← hp] at hj ⊢
                    by_cases hlt : p < s.size
                    · have hc0 := UInt8.toNat_lt s[p]
                      have W0 := fun w => ref_Worth (s[p].toNat : Int) b w (by omega) (by omega)
                      have hat : (s.data.toList.drop 0).take (j + 1) = (s.data.toList.drop 0).take j ++ [s[p]] :=
                        drop_take_snoc s 0 j p hp hlt
                      by_cases hok : isB b = true ∧ okD b s[p] = true
                      · have h2 := (okD_iff b s[p]).1 hok.2
                        have h5 := (isB_iff b).1 hok.1
                        rw [worthS_yes _ _ ⟨h5.1, h5.2, h2⟩] at W0
                        obtain ⟨d, hd⟩ : ∃ d, wd (s[p].toNat : Int) = d := ⟨_, rfl⟩
                        rw [hd] at W0
                        have hm' : Hid (wrap64 (wrap64 (m * b) + d) = wrap64 (valD b 0 ((s.data.toList.drop 0).take (j + 1)))) := by
                          show _ = _
                          rw [hat, ← wrap_valD_snoc, ← hm.out, hd]
                        have hall' : Hid (((s.data.toList.drop 0).take (j + 1)).all (okD b) = true) := by
                          show _ = _
                          rw [hat, List.all_append, hall.out]
                          simp [hok.2]
                        have hib' : Hid (0 < j + 1 → isB b = true) := fun _ => hok.1
                        have HP := Lib.hid hp
                        have W := Lib.hid W0
                        clear hm hall hd W0 hok hat h2 h5 hib hp
                        go_wp2_with (go_at_call 42; refine (W.out _).mono ?_; rintro e w' ⟨rfl, rfl⟩)
                        go_round
                        case rel => exact ⟨j + 1, _, by have := HP.out; omega, by have := HP.out; congr 1; omega, rfl, hm', hall', hib'⟩
                        case measure => simp [intOf]; omega
                      · have hno : bareS (s.data.toList.drop 0) b false = (0, false) := by
                          by_cases hb : isB b = true
                          · refine HX.out (drop_all_no s 0 p (by omega) hlt ?_)
                            simpa [hb] using hok
                          · exact bareS_nob _ _ _ (by simpa using hb)
                        have hw : worthS (s[p].toNat : Int) b = (0, false) := by
                          unfold worthS
                          rw [if_neg]
                          rintro ⟨h1, h2, h3⟩
                          exact hok ⟨h1, (okD_iff b s[p]).2 ⟨h2, h3⟩⟩
                        rw [hw] at W0
                        have W := Lib.hid W0
                        have EX := Lib.hid hno
                        clear hm hall W0 hok hat hno hw hib hp
                        go_wp2_with (go_at_call 42; refine (W.out _).mono ?_; rintro e w' ⟨rfl, rfl⟩)
                        go_ret2
                        exact ⟨by rw [E.out, EX.out]; rfl, rfl⟩
                    · have et : (s.data.toList.drop 0).take j = s.data.toList.drop 0 := List.take_of_length_le (by rw [List.length_drop, size_list]; omega)
                      rw [et] at hm hall
                      have hj0 : 0 < j := by omega
                      have EX := Lib.hid (HE.out (hib.out hj0) HN.out hall.out)
                      clear hall et hib hp
                      go_wp2
                      go_ret2
                      exact ⟨by rw [E.out, EX.out, ← hm.out]; rfl, rfl⟩
      · have hp : (prefS s.data.toList b).1 = b := by rw [prefB_list]; unfold prefB; rw [dif_neg h0]
        have hk2 : markN s = 0 := by unfold markN; rw [dif_neg h0]
        have hn0 : s.data.toList.drop 0 = [] := List.drop_eq_nil_of_le (by rw [size_list]; omega)
        have e := parseS_none N0.out (prefS_pair hp hk2) (cut_end s 0 h0)
        rw [hn0, bareS_nil] at e
        have E := Lib.hid e
        clear e hn0 hk2 hp
        have hse : s = ByteArray.empty := is_empty s h0
        have hz : (s.size : Int) = 0 := by omega
        go_wp2
        go_ret2
        exact ⟨by rw [E.out]; rfl, rfl⟩
end Go.Proofs.Ytpjhgokdkgnbdaa
