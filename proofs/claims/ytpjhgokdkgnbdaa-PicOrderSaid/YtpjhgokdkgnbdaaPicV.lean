/- The statement on the order of signs: its walk. -/
import Derived.Test.YtpjhgokdkgnbdaaPicS
import Derived.Test.YtpjhgokdkgnbdaaPicE
import Derived.Test.YtpjhgokdkgnbdaaNumE
import Derived.Test.YtpjhgokdkgnbdaaPicC
namespace Go.Proofs.Ytpjhgokdkgnbdaa
open Go.RowKit Go.ChangeShapes

theorem keptF {w w' : World} {B : Nat} {x y : Value} {t : TypeId} (h : Below B (w.alloc (.cells #[x, y] t)) w') (hB : w.heap.size + 1 ≤ B) :
    w'.frozen? ⟨w.heap.size, 0, none⟩ = false ∧ w'.frozen? ⟨w.heap.size, 1, none⟩ = false := by
  constructor
  · rw [h.frozen (p := ⟨w.heap.size, 0, none⟩) (by dsimp only; omega), World.frozen?_alloc_at _ _ _ _ rfl]
  · rw [h.frozen (p := ⟨w.heap.size, 1, none⟩) (by dsimp only; omega), World.frozen?_alloc_at _ _ _ _ rfl]
theorem bel_drewsN {w0 w w1 : World} {B q : Nat} (h : Below B w0 w) (hw : w1 = w.drewN q) : Below B w0 w1 := by rw [hw]; exact h.trans ⟨rfl, rfl, rfl, Nat.le_refl _, fun _ _ => rfl⟩
/-- What came in is a row of cells. -/
theorem ints_row {w : World} {a : Option Addr} {len cap : Nat} {zs : List Int} (h : IsInts .i64 w a len cap zs) : ∃ xs : List Int, xs.length = len ∧ RowAt w 1 (.slice a len cap) len (xs.map (Value.int .i64)) := by
  rcases h with ⟨rfl, rfl, rfl, rfl⟩ | ⟨x, rfl, hl, hm, hz, hc, hw⟩
  · exact ⟨[], rfl, rowAt_nil w 1⟩
  · have hlen : (zs.take len).length = len := by rw [List.length_take]; omega
    refine ⟨zs.take len, hlen, ⟨by rw [List.length_map, hlen]; simp, some x, cap, rfl, fun h => by (cases h), hl, fun b hb j u hj => ?_⟩⟩
    obtain rfl := Option.some.inj hb
    rw [List.getElem?_map, List.getElem?_take] at hj
    split at hj
    · rename_i hlt
      rw [hc j (by omega)]
      rw [List.getElem?_eq_getElem (by omega)] at hj
      simp only [Option.map_some] at hj
      rw [← hj]
      simp [List.getD, show j < zs.length by omega]
    · cases hj
/-- A row's element. -/
theorem row_elem {w : World} {sl : Value} {n : Nat} {k : IntKind} {xs : List Int} (h : RowAt w 1 sl n (xs.map (Value.int k))) (j : Nat) (hj : j < xs.length) : ∃ b o cap, sl = .slice (some ⟨b, o, none⟩) n cap ∧ n ≤ cap ∧ b < w.heap.size ∧ w.cell? ⟨b, o + j, none⟩ = some (.int k xs[j]) := by
  have h0 : xs.map (Value.int k) ≠ [] := by intro e; simp at e; rw [e] at hj; simp at hj
  obtain ⟨b, o, cap, h1, h2, h3, h4⟩ := rowAt_lit h h0
  exact ⟨b, o, cap, h1, h2, h3, h4 j _ (by rw [List.getElem?_map, List.getElem?_eq_getElem hj]; rfl)⟩
def u8s (l : List Int) : List UInt8 := l.map (fun n => UInt8.ofNat n.toNat)

/-- The two variables: the parameter, and the text that grows. -/
def OrdAt (w wr : World) (X : Nat) (s0 : Value) (on0 : Bool) (x : PicL) : Prop :=
  (∃ a cap, wr.cell? ⟨X, 0, none⟩ = some (.slice a x.1.length cap) ∧ wr.cell? ⟨X, 1, none⟩ = some (.bool x.2) ∧ BytesAt wr (.slice a x.1.length cap) x.1) ∧
  wr.cell? ⟨w.heap.size, 0, none⟩ = some s0 ∧ wr.cell? ⟨w.heap.size, 1, none⟩ = some (.bool on0) ∧ wr.frozen? ⟨X, 0, none⟩ = false ∧ wr.frozen? ⟨X, 1, none⟩ = false ∧
  w.heap.size < X ∧ X < wr.heap.size ∧ Below w.heap.size w wr
theorem ordAt_below {w wr w1 : World} {X : Nat} {s0 : Value} {on0 : Bool} {x : PicL} (h : OrdAt w wr X s0 on0 x) (hb : Below wr.heap.size wr w1) : OrdAt w w1 X s0 on0 x := by
  obtain ⟨⟨a, cap, m0, m1, m2⟩, m3, m4, m5, m6, m7, m8, m9⟩ := h
  have hsz := hb.size
  exact ⟨⟨a, cap, (hb.cell (p := ⟨X, 0, none⟩) m8).trans m0, (hb.cell (p := ⟨X, 1, none⟩) m8).trans m1, bytesAt_below m2 hb⟩, (hb.cell (p := ⟨w.heap.size, 0, none⟩) (by dsimp only; omega)).trans m3, (hb.cell (p := ⟨w.heap.size, 1, none⟩) (by dsimp only; omega)).trans m4,
    (hb.frozen (p := ⟨X, 0, none⟩) m8).trans m5, (hb.frozen (p := ⟨X, 1, none⟩) m8).trans m6, m7, by omega, m9.trans (hb.mono m9.size)⟩
theorem ordAt_set {w wr : World} {X : Nat} {s0 : Value} {on0 : Bool} {x q : PicL} {a : Option Addr} {cap : Nat} (h : OrdAt w wr X s0 on0 x) (hs : BytesAt wr (.slice a q.1.length cap) q.1) :
    OrdAt w ((wr.setCell ⟨X, 0, none⟩ (.slice a q.1.length cap)).setCell ⟨X, 1, none⟩ (.bool q.2)) X s0 on0 q := by
  obtain ⟨⟨a0, cap0, m0, m1, m2⟩, m3, m4, m5, m6, m7, m8, m9⟩ := h
  have ne1 : (⟨X, 0, none⟩ : Addr) ≠ ⟨X, 1, none⟩ := by simp
  have s1 : (wr.setCell ⟨X, 0, none⟩ (.slice a q.1.length cap)).cell? ⟨X, 1, none⟩ = some (.bool x.2) := (World.cell?_setCell_other _ _ _ _ ne1).trans m1
  have oth : ∀ j, ((wr.setCell ⟨X, 0, none⟩ (.slice a q.1.length cap)).setCell ⟨X, 1, none⟩ (.bool q.2)).cell? ⟨w.heap.size, j, none⟩ = wr.cell? ⟨w.heap.size, j, none⟩ := fun j => by
    rw [World.cell?_setCell_other _ _ _ _ (fun e => by have := congrArg Addr.block e; dsimp only at this; omega), World.cell?_setCell_other _ _ _ _ (fun e => by have := congrArg Addr.block e; dsimp only at this; omega)]
  refine ⟨⟨a, cap, ?_, ?_, ?_⟩, (oth 0).trans m3, (oth 1).trans m4, ?_, ?_, m7, by simp; omega, (m9.setCell (by dsimp only; omega) _).setCell (by dsimp only; omega) _⟩
  · rw [World.cell?_setCell_other _ _ _ _ ne1.symm]; exact World.cell?_setCell_same _ _ _ m0
  · exact World.cell?_setCell_same _ _ _ s1
  · exact bytesAt_setCell (bytesAt_setCell hs m0 (fun y e => by cases e) _) s1 (fun y e => by cases e) _
  · simp only [World.frozen?_setCell]; exact m5
  · simp only [World.frozen?_setCell]; exact m6
theorem ordAt_start {w wC : World} {a : Option Addr} {cap : Nat} {p : PicL} {t : TypeId} (k0 : wC.cell? ⟨w.heap.size, 0, none⟩ = some (.slice a p.1.length cap)) (k1 : wC.cell? ⟨w.heap.size, 1, none⟩ = some (.bool p.2)) (k2 : w.heap.size < wC.heap.size) (cc : Below w.heap.size w wC) (hs : BytesAt w (.slice a p.1.length cap) p.1) :
    OrdAt w (wC.alloc (.cells #[.slice a p.1.length cap, .bool p.2] t)) wC.heap.size (.slice a p.1.length cap) p.2 p := by
  have bV : Below wC.heap.size wC (wC.alloc (.cells #[.slice a p.1.length cap, .bool p.2] t)) := (Below.refl _ _).alloc (Nat.le_refl _) _
  refine ⟨⟨a, cap, ?_, ?_, bytesAt_below hs (cc.alloc cc.size _)⟩, (bV.cell (p := ⟨w.heap.size, 0, none⟩) k2).trans k0, (bV.cell (p := ⟨w.heap.size, 1, none⟩) k2).trans k1, ?_, ?_, k2, by simp, cc.alloc cc.size _⟩
  · rw [World.cell?_alloc_at _ _ _ _ rfl]; rfl
  · rw [World.cell?_alloc_at _ _ _ _ rfl]; rfl
  · rw [World.frozen?_alloc_at _ _ _ _ rfl]
  · rw [World.frozen?_alloc_at _ _ _ _ rfl]
theorem u8s_byte (z : Int) : (strOfNums [z]).data.toList = u8s [z] := by rw [strOfNums_data]; rfl
theorem u8s_drop (l : List Int) (k : Nat) (hk : k < l.length) : (u8s (l.drop (k + 1))).reverse ++ u8s [l[k]] = (u8s (l.drop k)).reverse := by
  rw [List.drop_eq_getElem_cons hk]; unfold u8s; simp only [List.map_cons, List.map_nil, List.reverse_cons]

/-- Behind a sign held: the new text lies in a third variable. -/
def YAt (w wx : World) (X : Nat) (s0 : Value) (on0 : Bool) (x y : PicL) (g : Nat) (a1 : Option Addr) (cap1 : Nat) : Prop :=
  OrdAt w wx X s0 on0 x ∧ wx.cell? ⟨g, 0, none⟩ = some (.slice a1 y.1.length cap1) ∧ wx.cell? ⟨g, 1, none⟩ = some (.bool y.2) ∧ BytesAt wx (.slice a1 y.1.length cap1) y.1 ∧ g < wx.heap.size ∧ g ≠ X
theorem y_new {w wr w2 : World} {X : Nat} {s0 : Value} {on0 : Bool} {x y : PicL} {a1 : Option Addr} {cap1 : Nat} {t : TypeId} (h : OrdAt w wr X s0 on0 x) (hb : Below wr.heap.size wr w2) (hs : BytesAt w2 (.slice a1 y.1.length cap1) y.1) :
    YAt w (w2.alloc (.cells #[.slice a1 y.1.length cap1, .bool y.2] t)) X s0 on0 x y w2.heap.size a1 cap1 := by
  have bV : Below w2.heap.size w2 (w2.alloc (.cells #[.slice a1 y.1.length cap1, .bool y.2] t)) := (Below.refl _ _).alloc (Nat.le_refl _) _
  have hsz := hb.size
  have hX := h.2.2.2.2.2.2.1
  refine ⟨ordAt_below h (hb.trans (bV.mono hb.size)), ?_, ?_, bytesAt_below hs bV, by simp, by omega⟩
  · rw [World.cell?_alloc_at _ _ _ _ rfl]; rfl
  · rw [World.cell?_alloc_at _ _ _ _ rfl]; rfl
theorem y_there {w wr w2 : World} {X : Nat} {s0 : Value} {on0 o1 : Bool} {x y : PicL} {a1 : Option Addr} {cap1 : Nat} {u : Value} {t : TypeId} (h : OrdAt w wr X s0 on0 x) (hb : Below (wr.alloc (.cells #[u, .bool o1] t)).heap.size (wr.alloc (.cells #[u, .bool o1] t)) w2) (hu : ∀ n, u ≠ .int .u8 n) (hs : BytesAt w2 (.slice a1 y.1.length cap1) y.1) :
    YAt w ((w2.setCell ⟨wr.heap.size, 0, none⟩ (.slice a1 y.1.length cap1)).setCell ⟨wr.heap.size, 1, none⟩ (.bool y.2)) X s0 on0 x y wr.heap.size a1 cap1 := by
  obtain ⟨k0, k1, k2⟩ := kept hb (by simp)
  have hX := h.2.2.2.2.2.2.1
  have ne1 : (⟨wr.heap.size, 0, none⟩ : Addr) ≠ ⟨wr.heap.size, 1, none⟩ := by simp
  have b1 : Below wr.heap.size wr w2 := ((Below.refl wr.heap.size wr).alloc (Nat.le_refl _) _).trans (hb.mono (by simp))
  refine ⟨ordAt_below h ((b1.setCell (by dsimp only; omega) _).setCell (by dsimp only; omega) _), ?_, ?_, bytesAt_stored hs k0 k1 hu _ _, by simp; omega, by omega⟩
  · rw [World.cell?_setCell_other _ _ _ _ ne1.symm]; exact World.cell?_setCell_same _ _ _ k0
  · exact World.cell?_setCell_same _ _ _ ((World.cell?_setCell_other _ _ _ _ ne1).trans k1)
theorem yAt_below {w wx w1 : World} {X : Nat} {s0 : Value} {on0 : Bool} {x y : PicL} {g : Nat} {a1 : Option Addr} {cap1 : Nat} (h : YAt w wx X s0 on0 x y g a1 cap1) (hb : Below wx.heap.size wx w1) : YAt w w1 X s0 on0 x y g a1 cap1 := by
  obtain ⟨h1, h2, h3, h4, h5, h6⟩ := h
  have := hb.size
  exact ⟨ordAt_below h1 hb, (hb.cell (p := ⟨g, 0, none⟩) h5).trans h2, (hb.cell (p := ⟨g, 1, none⟩) h5).trans h3, bytesAt_below h4 hb, by omega, h6⟩
theorem hold_right {x y : PicL} {c ee : Int} (h : rightS x = true) (hh : holdS x c = (y, ee)) : rightS y = true ∧ y.2 = x.2 := by
  unfold holdS at hh
  split at hh
  · rename_i hx
    cases hh
    refine ⟨?_, hx.1.symm⟩
    unfold rightS
    simp only [Bool.true_or, Bool.and_true, decide_eq_true_eq, List.length_append, List.length_cons, List.length_nil]
    omega
  · cases hh; exact ⟨h, rfl⟩
theorem want_size {A : ByteArray} {x : PicL} (h : A.data.toList = (u8s x.1).reverse) : A.size = x.1.length := by rw [← size_list, h]; simp [u8s]
theorem want_more {A : ByteArray} {x : PicL} {c : Int} (h : A.data.toList = (u8s x.1).reverse) : (strOfNums [c] ++ A).data.toList = (u8s (x.1 ++ [c])).reverse := by rw [cat_list, u8s_byte, h]; simp [u8s]
theorem ord_end {x : PicL} {o : Bool} {A : ByteArray} (h : rightS x = true) (ho : x.2 = o) (hA : A.data.toList = (u8s x.1).reverse) : endS x = (A.data.toList, if o then 0 else -17) := by
  unfold endS
  rw [ho]
  cases o with
  | true => rw [hA]; rfl
  | false =>
    have : x.1 = [] := by
      unfold rightS at h
      rw [ho] at h
      simp only [Bool.false_or, Bool.and_eq_true, decide_eq_true_eq] at h
      exact h.2
    rw [hA, this]; rfl
theorem text_back (A : ByteArray) : (⟨A.data.toList.toArray⟩ : ByteArray) = A := by simp

set_option maxRecDepth 100000 in
set_option maxHeartbeats 8000000 in
theorem walk_PicOrder (v0 v1 : Value) (w : World) (h0 : Reads w 24 v0) (h1 : Reads w 55 v1) : Calls Try.prog 7 #[v0, v1] w fun e w' => e = .returned (.bool true) ∧ Below w.heap.size w w' := by
  obtain ⟨a, cap, p, rfl, sp, lp⟩ := reads_pic h0
  obtain ⟨o, ho⟩ : ∃ o, p.2 = o := ⟨_, rfl⟩
  rw [ho]
  have SP := Lib.hid sp
  have cc := Below.refl w.heap.size w
  obtain ⟨la, ln, lc, rfl, hr⟩ := reads_slice Try.underlying55 h1
  obtain ⟨zs, hz⟩ := rd_ints Try.underlying55 Try.underlying3 cellsOf_int hr
  clear h0 h1 hr sp
  obtain ⟨r, hr⟩ : ∃ r, rightS p = r := ⟨_, rfl⟩
  have R2 := Lib.hid (fun v w h => ref_Right v p w h)
  rw [hr] at R2
  have hright := Lib.hid hr
  have hp130 : r = true → p.1.length ≤ 130 := fun h => rightS_len (hr.trans h)
  clear hr
  obtain ⟨xs, rfl, hrow⟩ := ints_row hz
  have HZ := Lib.hid hrow
  clear hz hrow
  cases r with
  | false =>
    clear hp130
    go_enter Try.func7, Try.ntmps7
    go_wp2_with fail
    refine (pic_shown _).mono ?_
    rintro e wC ⟨rfl, bC⟩
    obtain ⟨kp0, kp1, kp2⟩ := kept bC (by simp)
    replace cc := (cc.alloc cc.size _).trans (bC.mono (cc.alloc cc.size _).size)
    clear bC
    go_wp2_with fail
    refine (R2.out _ _ ⟨_, by rw [ho], bytesAt_below SP.out cc⟩).mono ?_
    rintro e wC ⟨rfl, bC⟩
    have kk := keptOn ⟨kp0, kp1, kp2⟩ bC (by first | exact kp2 | ((try simp only [World.size_alloc]); omega))
    clear kp0 kp1 kp2
    obtain ⟨kp0, kp1, kp2⟩ := kk
    replace cc := cc.trans (bC.mono cc.size)
    clear bC
    go_wp2
    go_ret
    exact ⟨rfl, cc⟩
  | true =>
    have hp := hp130 rfl
    clear hp130
    by_cases hln : 200 < xs.length
    · have t1 : decide ((200 : Int) < (xs.length : Int)) = true := by simp; omega
      clear hln
      go_enter Try.func7, Try.ntmps7
      go_wp2_with fail
      refine (pic_shown _).mono ?_
      rintro e wC ⟨rfl, bC⟩
      obtain ⟨kp0, kp1, kp2⟩ := kept bC (by simp)
      replace cc := (cc.alloc cc.size _).trans (bC.mono (cc.alloc cc.size _).size)
      clear bC
      go_wp2_with fail
      refine (R2.out _ _ ⟨_, by rw [ho], bytesAt_below SP.out cc⟩).mono ?_
      rintro e wC ⟨rfl, bC⟩
      have kk := keptOn ⟨kp0, kp1, kp2⟩ bC (by first | exact kp2 | ((try simp only [World.size_alloc]); omega))
      clear kp0 kp1 kp2
      obtain ⟨kp0, kp1, kp2⟩ := kk
      replace cc := cc.trans (bC.mono cc.size)
      clear bC
      go_wp2
      go_ret
      exact ⟨rfl, cc⟩
    · have t1 : decide ((200 : Int) < (xs.length : Int)) = false := by simp; omega
      have hl200 : (xs.length : Int) ≤ 200 := by omega
      clear hln
      go_enter Try.func7, Try.ntmps7
      go_wp2_with fail
      refine (pic_shown _).mono ?_
      rintro e wC ⟨rfl, bC⟩
      obtain ⟨kp0, kp1, kp2⟩ := kept bC (by simp)
      replace cc := (cc.alloc cc.size _).trans (bC.mono (cc.alloc cc.size _).size)
      clear bC
      go_wp2_with fail
      refine (R2.out _ _ ⟨_, by rw [ho], bytesAt_below SP.out cc⟩).mono ?_
      rintro e wC ⟨rfl, bC⟩
      have kk := keptOn ⟨kp0, kp1, kp2⟩ bC (by first | exact kp2 | ((try simp only [World.size_alloc]); omega))
      clear kp0 kp1 kp2
      obtain ⟨kp0, kp1, kp2⟩ := kk
      replace cc := cc.trans (bC.mono cc.size)
      clear bC
      have OS0 := ordAt_start (t := 24) kp0 (by rw [ho]; exact kp1) kp2 cc SP.out
      rw [ho] at OS0
      have OS := Lib.hid OS0
      clear OS0
      go_wp2_with fail
      go_loopw [7, 8] (fun z i wr => ∃ (k : Nat) (A : ByteArray), k ≤ p.1.length ∧ i = .int .i64 ((k : Int) - 1) ∧ z = .string A ∧ Hid (A.data.toList = (u8s (p.1.drop k)).reverse) ∧ Hid (OrdAt w wr wC.heap.size (.slice a p.1.length cap) o p)) (fun _ i _ => (intOf i + 1).toNat)
      case atStart => exact ⟨p.1.length, _, Nat.le_refl _, rfl, rfl, Lib.hid (by rw [List.drop_length]; rfl), OS⟩
      case round =>
        obtain ⟨k, A, hk, rfl, rfl, hA, hord⟩ := hrel
        by_cases hk0 : k = 0
        · subst hk0
          rw [List.drop_zero] at hA
          rw [show ((0 : Nat) : Int) - 1 = -1 from rfl]
          have HR := Lib.hid (show rightS p = true from hright.out)
          clear hk
          go_wp2_with fail
          go_loopw [7, 9] (fun z i wr => ∃ (k : Nat) (A : ByteArray) (x : PicL), k ≤ xs.length ∧ i = .int .i64 (k : Int) ∧ z = .string A ∧ Hid (A.data.toList = (u8s x.1).reverse) ∧ Hid (rightS x = true ∧ x.2 = o) ∧ Hid (OrdAt w wr wC.heap.size (.slice a p.1.length cap) o x)) (fun _ i _ => xs.length - (intOf i).toNat)
          case atStart => exact ⟨0, A, p, Nat.zero_le _, rfl, rfl, hA, Lib.hid ⟨HR.out, ho⟩, hord⟩
          case round =>
            obtain ⟨k, A, x, hk, rfl, rfl, hA, hrt, hord⟩ := hrel
            obtain ⟨⟨a2, cap2, m0, m1, m2⟩, m3, m4, m5, m6, m7, m8, m9⟩ := hord.out
            by_cases hlt : k < xs.length
            · have hxl := HZ.out
              obtain ⟨bb, oo, cp, e, hle, hbl, hcell⟩ := row_elem hxl k hlt
              injection e with ea _ ec
              subst ea ec
              have hcw := (m9.cell (p := ⟨bb, oo + k, none⟩) hbl).trans hcell
              have HCE := Lib.hid hcell
              have hbl2 : bb < wr.heap.size := by have := m9.size; omega
              obtain ⟨y, ee, hye⟩ : ∃ y ee, holdS x xs[k] = (y, ee) := ⟨_, _, rfl⟩
              have h1 := pic_Hold _ x xs[k] wr.drew ⟨_, rfl, bytesAt_below m2 (Below.refl _ _).drew⟩
              have h2 := fun o => pic_Hold _ x xs[k] (wr.alloc o).drew ⟨_, rfl, bytesAt_below m2 ((Below.refl _ _).alloc (Nat.le_refl _) o).drew⟩
              rw [hye] at h1 h2
              have H1 := Lib.hid h1
              have H2 := Lib.hid h2
              have HYE := Lib.hid hye
              have HLE : (k : Int) < (xs.length : Int) := by omega
              clear h1 h2 hye m2 m9 hxl
              go_upto_region 13 with fail
              go_cut [10, 11] (fun s10 s11 wx => ∃ (g : Nat) (a1 : Option Addr) (cap1 : Nat), s10 = .pointer (some ⟨g, 0, none⟩) ∧ s11 = .int .i64 ee ∧ Hid (YAt w wx wC.heap.size (.slice a p.1.length cap) o x y g a1 cap1))
              case first =>
                go_region_with (first
                  | (go_at_call 32; (with_reducible refine (H1.out).mono ?_); rintro e w2 ⟨⟨v1, rfl, hp1⟩, hb2⟩; dsimp only at hp1; obtain ⟨a1, cap1, rfl, hs1⟩ := picAt_form hp1; have hb3 := Lib.hid (((Below.refl wr.heap.size wr).drew).trans hb2); have hs3 := Lib.hid hs1; clear hb2 hs1 hp1)
                  | (go_at_call 32; (with_reducible refine (H2.out _).mono ?_); rintro e w2 ⟨⟨v1, rfl, hp1⟩, hb2⟩; dsimp only at hp1; obtain ⟨a1, cap1, rfl, hs1⟩ := picAt_form hp1; have hb3 := Lib.hid (((Below.refl (wr.alloc _).heap.size (wr.alloc _)).drew).trans hb2); have hs3 := Lib.hid hs1; obtain ⟨g0, g1, g2⟩ := kept hb3.out (by simp); obtain ⟨g3, g4⟩ := keptF hb3.out (by simp); clear hb2 hs1 hp1))
                all_goals go_wp2_with fail
                all_goals go_meet
                all_goals first
                  | exact ⟨_, _, _, rfl, rfl, Lib.hid (y_new hord.out hb3.out hs3.out)⟩
                  | exact ⟨_, _, _, rfl, rfl, Lib.hid (y_there hord.out hb3.out (fun n h => by cases h) hs3.out)⟩
              case rest =>
                obtain ⟨g, a1, cap1, rfl, rfl, hy⟩ := hcut
                obtain ⟨hr1, hr2⟩ := hold_right hrt.out.1 HYE.out
                have hsz := want_size hA.out
                have hz130 : A.size ≤ 130 := by have := rightS_len hrt.out.1; omega
                have hzlen : (strOfNums [xs[k] % 256]).size ≤ 1 := by rw [strOfNums_size]; simp
                have RR0 := fun v w h => ref_Right v y w h
                rw [hr1] at RR0
                have RR := Lib.hid RR0
                have HRT := Lib.hid (show rightS y = true ∧ y.2 = o from ⟨hr1, hr2.trans hrt.out.2⟩)
                have hx2 := hrt.out.2
                clear RR0 hr1 hr2 m0 m1 m3 m4 m5 m6 hcell hcw
                obtain ⟨hord2, y0, y1, y2, y3, y4⟩ := hy.out
                obtain ⟨⟨a3, cap3, n0, n1, n2⟩, n3, n4, n5, n6, n7, n8, n9⟩ := hord2
                have Y2 := Lib.hid y2
                have N2 := Lib.hid n2
                by_cases hyes : o = true ∧ x.1.length < 130
                · have hp2 := hyes.1
                  have hh := HYE.out
                  rw [holdS_yes (hx2.trans hyes.1) hyes.2] at hh
                  injection hh with hh1 hh2
                  obtain rfl := hh2
                  have s1 : decide ((A.size : Int) < 130) = true := by simp; omega
                  have HA2 := Lib.hid (show (strOfNums [xs[k] % 256] ++ A).data.toList = (u8s y.1).reverse by rw [← hh1]; exact want_more hA.out)
                  have tx := fun w => text_one w (xs[k] % 256)
                  obtain rfl := hyes.1
                  clear hyes hx2 hsz n2 y2 n9 hh1
                  go_wp2_with fail
                  refine (RR.out _ _ ⟨_, rfl, Y2.out⟩).mono ?_
                  rintro e w3 ⟨rfl, bC⟩
                  have hy3 := Lib.hid (yAt_below hy.out bC)
                  clear bC y0 y1 y3 n0 n1 n3 n4 n5 n6 n8
                  obtain ⟨hord3, y0, y1, y2, y3, y4⟩ := hy3.out
                  have ST := Lib.hid (ordAt_set hord3 y2)
                  obtain ⟨⟨a4, cap4, n0, n1, n2⟩, n3, n4, n5, n6, n7, n8, n9⟩ := hord3
                  have hc3 := (n9.cell (p := ⟨bb, oo + k, none⟩) hbl).trans HCE.out
                  have FIN := Lib.hid (fun o => ordAt_below ST.out ((Below.refl _ _).alloc (Nat.le_refl _) o))
                  clear n2 y2 n9
                  go_wp2
                  go_roundw
                  case rel => exact ⟨k + 1, _, y, by omega, by go_num, rfl, HA2, HRT, FIN.out _⟩
                  case measure => simp [intOf]; omega
                · have hno : x.2 = false ∨ 130 ≤ x.1.length := by
                    rw [hx2]
                    cases hc : o with
                    | false => exact .inl rfl
                    | true => exact .inr (by rcases Nat.lt_or_ge x.1.length 130 with h | h; exact absurd ⟨hc, h⟩ hyes; exact h)
                  have hh := HYE.out
                  rw [holdS_no hno] at hh
                  injection hh with hh1 hh2
                  obtain rfl := hh2
                  obtain rfl := hh1
                  have S0 := fun v u w h g => ref_Same v u x x w h g
                  rw [sameS_self] at S0
                  have SS := Lib.hid S0
                  have s1 : o = true → decide ((A.size : Int) < 130) = false := fun h => by
                    rcases hno with h' | h'
                    · rw [hx2, h] at h'; cases h'
                    · simp; omega
                  clear S0 hno hyes hx2 hsz n2 y2 n9
                  cases o
                  all_goals
                    first | (have s2 := s1 rfl) | skip
                    clear s1
                    go_wp2_with fail
                    refine (SS.out _ _ _ ⟨_, rfl, Y2.out⟩ ⟨_, rfl, N2.out⟩).mono ?_
                    rintro e w3 ⟨rfl, bC⟩
                    have hy3 := Lib.hid (yAt_below hy.out bC)
                    clear bC y0 y1 y3 n0 n1 n3 n4 n5 n6 n8
                    obtain ⟨hord3, y0, y1, y2, y3, y4⟩ := hy3.out
                    obtain ⟨⟨a4, cap4, n0, n1, n2⟩, n3, n4, n5, n6, n7, n8, n9⟩ := hord3
                    have Y3 := Lib.hid y2
                    clear n2 y2 n9
                    go_wp2_with fail
                    refine (RR.out _ _ ⟨_, rfl, Y3.out⟩).mono ?_
                    rintro e w4 ⟨rfl, bC⟩
                    have hy4 := Lib.hid (yAt_below hy3.out bC)
                    clear bC y0 y1 y3 n0 n1 n3 n4 n5 n6 n8
                    obtain ⟨hord4, y0, y1, y2, y3, y4⟩ := hy4.out
                    have ST := Lib.hid (ordAt_set hord4 y2)
                    obtain ⟨⟨a5, cap5, n0, n1, n2⟩, n3, n4, n5, n6, n7, n8, n9⟩ := hord4
                    clear n2 y2 n9
                    go_wp2
                    go_roundw
                    case rel => exact ⟨k + 1, _, x, by omega, by go_num, rfl, hA, HRT, ST.out⟩
                    case measure => simp [intOf]; omega
            · obtain rfl : k = xs.length := by omega
              have hx := hrt.out
              have E0 := fun v w h => pic_End v x w h (by have := rightS_len hx.1; omega)
              rw [ord_end hx.1 hx.2 hA.out] at E0
              dsimp only at E0
              rw [text_back] at E0
              replace E0 := Lib.hid E0
              have M2 := Lib.hid m2
              have k4 : (⟨w.heap.size, 1, none⟩ : Addr).block < wr.heap.size := by dsimp only; omega
              clear m2 hx hA hrt hord HR
              cases o
              all_goals
                go_wp2_with fail
                refine (E0.out _ _ ⟨_, rfl, M2.out⟩).mono ?_
                rintro e wE ⟨rfl, bC⟩
                have m4' := (bC.cell (p := ⟨w.heap.size, 1, none⟩) k4).trans m4
                have cc2 := m9.trans (bC.mono m9.size)
                clear bC
                go_wp2
                go_ret
                exact ⟨rfl, cc2⟩
        · obtain ⟨k, rfl⟩ : ∃ k', k = k' + 1 := ⟨k - 1, by omega⟩
          have hi1 : (((k + 1 : Nat) : Int) - 1) = (k : Int) := by omega
          rw [hi1]
          have hkl : k < p.1.length := by omega
          obtain ⟨_, m3, m4, m5, m6, m7, m8, m9⟩ := hord.out
          obtain ⟨bb, oo, cp, e, hle, hbl, hcell⟩ := row_elem (bytesAt_below SP.out m9).1 k hkl
          injection e with ea _ ec
          subst ea ec
          have hAz : A.size ≤ 130 := by
            have := hA.out
            rw [← size_list, this]; simp [u8s]; omega
          have hs1 : (strOfNums [p.1[k]]).size ≤ 1 := by rw [strOfNums_size]; simp
          have tx := fun w => text_one w p.1[k]
          have hA2 : (A ++ strOfNums [p.1[k]]).data.toList = (u8s (p.1.drop k)).reverse := by rw [cat_list, hA.out, u8s_byte]; exact u8s_drop p.1 k hkl
          have HA2 := Lib.hid hA2
          have NX := Lib.hid (fun o => ordAt_below hord.out ((Below.refl _ _).alloc (Nat.le_refl _) o))
          clear hA hA2 hord m5 m6 m9 hi1 hk0
          go_wp2
          go_roundw
          case rel => exact ⟨k, _, by omega, rfl, rfl, HA2, NX.out _⟩
          case measure => simp [intOf]
end Go.Proofs.Ytpjhgokdkgnbdaa
