import Derived.Test.YtobhnjnffnbbkaaGreatDoorPk7
set_option linter.unusedVariables false
set_option linter.unusedSimpArgs false
namespace Go.Proofs.YtobhnjnffnbbkaaGreatDoor
open Go.RowKit
set_option maxRecDepth 100000
def reset (v v' : VVm) : VVm := { v' with mem := v.mem, here := v.here, d := v.d, out := v.out, pic := v.pic, req := v.req, free := v.free, next := v.next }
structure Keeps (v v' : VVm) : Prop where
 same : reset v v' = v
 dd : v'.d = v.d
 mem : MKeeps v.mem v'.mem 2
 here : 1368 ≤ v.here → v.here ≤ v.mem.b.length → 1368 ≤ v'.here ∧ v'.here ≤ v.mem.b.length
 pic : picRight v.pic → picRight v'.pic
 out : v.out.length ≤ v.conf.out → v'.out.length ≤ v.conf.out
 req : v.req.length ≤ 16 → v'.req.length ≤ 16
 free : 0 ≤ v.free → v.free ≤ 64 → 0 ≤ v'.free ∧ v'.free ≤ 64
 next : 0 ≤ v.next → v.next ≤ 4611686018427387904 → 0 ≤ v'.next ∧ v'.next ≤ 4611686018427387904
theorem Keeps.refl (v : VVm) : Keeps v v := ⟨rfl, rfl, .refl _ _, fun a b => ⟨a, b⟩, id, id, id, fun a b => ⟨a, b⟩, fun a b => ⟨a, b⟩⟩
theorem keeps_mem {v : VVm} {m : VMem} {k : Nat} (h : MKeeps v.mem m k) (hk : k ≤ 2) : Keeps v (withM v m) :=
 ⟨rfl, rfl, h.up hk, fun a b => ⟨a, b⟩, id, id, id, fun a b => ⟨a, b⟩, fun a b => ⟨a, b⟩⟩
theorem keeps_pic {v : VVm} {p : VPic} (h : picRight v.pic → picRight p) : Keeps v (withP v p) :=
 ⟨rfl, rfl, .refl _ _, fun a b => ⟨a, b⟩, h, id, id, fun a b => ⟨a, b⟩, fun a b => ⟨a, b⟩⟩
theorem keeps_lays {v : VVm} {r : VMem × Int × Int} (h : MKeeps v.mem r.1 1) (hh : 1368 ≤ v.here → v.here ≤ v.mem.b.length → 1368 ≤ r.2.1 ∧ r.2.1 ≤ v.mem.b.length) : Keeps v (pLay v r).1 :=
 ⟨rfl, rfl, h.up (by omega), hh, id, id, id, fun a b => ⟨a, b⟩, fun a b => ⟨a, b⟩⟩
theorem keeps_print (v : VVm) (r : Str × Int) : Keeps v (pPrint v r).1 := by
 unfold pPrint vmPrint
 split
 ·split
  ·exact .refl v
  ·rename_i h
   exact ⟨rfl, rfl, .refl _ _, fun a b => ⟨a, b⟩, id, fun _ => by simp only [List.length_append]; omega, id, fun a b => ⟨a, b⟩, fun a b => ⟨a, b⟩⟩
 ·exact .refl v
theorem keeps_end (v : VVm) : Keeps v (pEnd v).1 := by
 unfold pEnd
 split
 ·exact ⟨rfl, rfl, (keeps_write _ _ _).up (by omega), fun a b => ⟨a, b⟩, fun _ => ⟨by simp [withP], .inr rfl⟩, id, id, fun a b => ⟨a, b⟩, fun a b => ⟨a, b⟩⟩
 ·exact .refl v
theorem w64_id {n : Int} (h : Fit64 n) : W64 n = n := by unfold W64; rw [i64w]; exact wrap64_fit n h
theorem keeps_ask (v : VVm) (q : VReq) (h : ¬ 16 ≤ (v.req.length : Int)) : Keeps v (withR v q) :=
 ⟨rfl, rfl, .refl _ _, fun a b => ⟨a, b⟩, id, id, fun _ => by simp only [withR, List.length_append, List.length_singleton]; omega, fun a b => ⟨a, b⟩, fun a b => ⟨a, b⟩⟩
theorem keeps_cancel (v : VVm) (x : List Int) : Keeps v (pCancel v x).1 := by
 unfold pCancel; split
 ·exact .refl v
 ·rename_i h; exact keeps_ask v _ h
theorem keeps_post (v : VVm) (x : List Int) : Keeps v (pPost v x).1 := by
 unfold pPost; split
 ·exact .refl v
 ·split
  ·exact .refl v
  ·rename_i h; exact keeps_ask v _ h
theorem keeps_timer (k : Int) (v : VVm) (x : List Int) : Keeps v (pTimer k v x).1 := by
 unfold pTimer; split
 ·exact .refl v
 ·split
  ·exact .refl v
  ·split
   ·exact .refl v
   ·rename_i h
    split
    ·exact .refl v
    ·rename_i hw
     refine ⟨rfl, rfl, .refl _ _, fun a b => ⟨a, b⟩, id, id, fun _ => by simp only [withR, List.length_append, List.length_singleton]; omega, fun a b => ?_, fun a b => ?_⟩
     ·simp only
      rw [w64_id (by unfold Fit64; omega)]
      have : v.free ≠ 0 := fun h => hw (.inl h)
      omega
     ·simp only
      rw [w64_id (by unfold Fit64; omega)]
      have : v.next ≠ 4611686018427387904 := fun h => hw (.inr h)
      omega
theorem keeps_addTo (v : VVm) (x : List Int) : MKeeps v.mem (pAddTo v x).1 1 := by
 unfold pAddTo; split
 ·exact keeps_store _ _ _
 ·exact .refl _ _
theorem keeps_store2 (v : VVm) (x : List Int) : MKeeps v.mem (pStore2 v x).1 2 := by
 unfold pStore2; split
 ·exact (keeps_store _ _ _).trans (keeps_store _ _ _)
 ·exact (keeps_store _ _ _).up (by omega)
theorem keeps_put {v : VVm} {r : VMem × Int} {k : Nat} (h : MKeeps v.mem r.1 k) (hk : k ≤ 2) : Keeps v (pPut v r).1 := keeps_mem h hk
def FitL (l : List Int) : Prop := ∀ a ∈ l, Fit64 a
theorem fitL_nil : FitL [] := fun a h => by simp at h
theorem fitL_one {a : Int} (h : Fit64 a) : FitL [a] := fun b hb => by simp at hb; subst hb; exact h
theorem fitL_two {a b : Int} (h : Fit64 a) (g : Fit64 b) : FitL [a, b] := fun c hc => by simp at hc; rcases hc with rfl | rfl; exact h; exact g
def KF (v : VVm) (r : VVm × List Int × Int) : Prop := Keeps v r.1 ∧ FitL r.2.1
theorem fit_xat {x : List Int} (h : FitL x) (i : Nat) : Fit64 (xat x i) := XOk.fit (k := 0) ⟨Nat.zero_le _, h⟩ i
theorem some_ite {α : Type} {c : Prop} [Decidable c] {a r : α} {b : Option α} (h : (if c then some a else b) = some r) : a = r ∨ b = some r := by
 by_cases hc : c
 ·rw [if_pos hc] at h; exact .inl (Option.some.inj h)
 ·rw [if_neg hc] at h; exact .inr h
theorem ite_P {α : Type} {P : α → Prop} {c : Prop} [Decidable c] {a b : α} (h1 : P a) (h2 : P b) : P (if c then a else b) := by
 by_cases hc : c
 ·rw [if_pos hc]; exact h1
 ·rw [if_neg hc]; exact h2
theorem reckon_fit {name : Str} {x : List Int} {r : List Int × Int} (hx : FitL x) (h : reckonS name x = some r) : FitL r.1 := by
 have f := fit_xat hx
 unfold reckonS at h
 rcases some_ite h with rfl | h
 ·exact fitL_two (fit_div (f 1)).2 (fit_div (f 1)).1
 rcases some_ite h with rfl | h
 ·exact fitL_one (fit_fdiv (f 2)).1
 rcases some_ite h with rfl | h
 ·exact fitL_two (fit_fdiv (f 2)).2 (fit_fdiv (f 2)).1
 rcases some_ite h with rfl | h
 ·exact fitL_two (fit_S _) (fit_S _)
 rcases some_ite h with rfl | h
 ·exact fitL_two (mulS_fit (f 0) (f 1)).1 (mulS_fit (f 0) (f 1)).2
 rcases some_ite h with rfl | h
 ·exact fitL_two fit_udiv.2 fit_udiv.1
 rcases some_ite h with rfl | h
 ·exact fitL_two (fit_sdiv (f 2)).2 (fit_sdiv (f 2)).1
 rcases some_ite h with rfl | h
 ·exact fitL_two (fit_fdiv (f 2)).2 (fit_fdiv (f 2)).1
 rcases some_ite h with rfl | h
 ·exact fitL_two (f 0) (fit_flag _)
 rcases some_ite h with rfl | h
 ·exact fitL_one (fit_flag _)
 rcases some_ite h with rfl | h
 ·exact fitL_one (by unfold Fit64; omega)
 rcases some_ite h with rfl | h
 ·exact fitL_one (by unfold Fit64; omega)
 rcases some_ite h with rfl | h
 ·exact fitL_one (by unfold Fit64; omega)
 rcases some_ite h with rfl | h
 ·exact fitL_one (by unfold Fit64; omega)
 rcases some_ite h with rfl | h
 ·exact fitL_one (by unfold Fit64; omega)
 cases h
theorem memory_kf {v : VVm} {name : Str} {x : List Int} {r : VVm × List Int × Int} (hx : FitL x) (h : memoryS v name x = some r) : KF v r := by
 have f := fit_xat hx
 unfold memoryS at h
 rcases some_ite h with rfl | h
 ·exact ⟨.refl v, fitL_one (fit_fetch _ _)⟩
 rcases some_ite h with rfl | h
 ·exact ⟨.refl v, fitL_one (fit_fetchB _ _)⟩
 rcases some_ite h with rfl | h
 ·exact ⟨keeps_put (keeps_store _ _ _) (by omega), fitL_nil⟩
 rcases some_ite h with rfl | h
 ·exact ⟨keeps_put (keeps_write _ _ _) (by omega), fitL_nil⟩
 rcases some_ite h with rfl | h
 ·exact ⟨keeps_put (keeps_addTo _ _) (by omega), fitL_nil⟩
 rcases some_ite h with rfl | h
 ·unfold pFetch2; split
  ·exact ⟨.refl v, fitL_two (fit_fetch _ _) (fit_fetch _ _)⟩
  ·exact ⟨.refl v, fitL_nil⟩
 rcases some_ite h with rfl | h
 ·exact ⟨keeps_put (keeps_store2 _ _) (by omega), fitL_nil⟩
 rcases some_ite h with rfl | h
 ·exact ⟨keeps_put (keeps_fill _ _ _ _) (by omega), fitL_nil⟩
 rcases some_ite h with rfl | h
 ·exact ⟨keeps_put (keeps_move _ _ _ _) (by omega), fitL_nil⟩
 rcases some_ite h with rfl | h
 ·exact ⟨.refl v, fitL_two (w64_fit _) (fit_fetchB _ _)⟩
 rcases some_ite h with rfl | h
 ·exact ⟨keeps_put (keeps_store _ _ _) (by omega), fitL_nil⟩
 rcases some_ite h with rfl | h
 ·exact ⟨keeps_put (keeps_store _ _ _) (by omega), fitL_nil⟩
 rcases some_ite h with rfl | h
 ·unfold pSetState; split
  ·exact ⟨keeps_put (keeps_store _ _ _) (by omega), fitL_nil⟩
  ·exact ⟨.refl v, fitL_nil⟩
 rcases some_ite h with rfl | h
 ·unfold pAtState; split
  ·exact ⟨keeps_put (keeps_store _ _ _) (by omega), fitL_nil⟩
  ·exact ⟨.refl v, fitL_nil⟩
 cases h
theorem allot_here {v : VVm} {x : List Int} (h0 : 1368 ≤ v.here) (h1 : v.here ≤ v.mem.b.length) : 1368 ≤ (pAllot v x).2.1 ∧ (pAllot v x).2.1 ≤ v.mem.b.length := by
 unfold pAllot spcAllot
 simp only
 split <;> simp only <;> omega
theorem space_kf {v : VVm} {name : Str} {x : List Int} {r : VVm × List Int × Int} (h : spaceS v name x = some r) : KF v r := by
 unfold spaceS at h
 rcases some_ite h with rfl | h
 ·exact ⟨keeps_lays (.refl _ _) (fun a b => allot_here a b), fitL_nil⟩
 rcases some_ite h with rfl | h
 ·refine ⟨keeps_lays ?_ ?_, fitL_nil⟩
  ·unfold spcComma; split
   ·exact keeps_lay _
   ·exact .refl _ _
  ·unfold spcComma; split
   ·exact fun a b => lay_here _ a b
   ·exact fun a b => ⟨a, b⟩
 rcases some_ite h with rfl | h
 ·exact ⟨keeps_lays (keeps_lay _) (fun a b => lay_here _ a b), fitL_nil⟩
 rcases some_ite h with rfl | h
 ·exact ⟨keeps_lays (keeps_lay _) (fun a b => lay_here _ a b), fitL_nil⟩
 cases h
theorem print_kf (v : VVm) (r : Str × Int) : KF v (pPrint v r) := ⟨keeps_print v r, by unfold pPrint; split <;> exact fitL_nil⟩
theorem pics_kf {v : VVm} {name : Str} {x : List Int} {r : VVm × List Int × Int} (hx : FitL x) (hc : -100 ≤ v.conf.mem ∧ v.conf.mem ≤ 100000) (hp : v.pic.b.length ≤ 1000000) (h : picsS v name x = some r) : KF v r := by
 have f := fit_xat hx
 unfold picsS at h
 rcases some_ite h with rfl | h
 ·exact ⟨keeps_pic (fun _ => ⟨by simp, .inl rfl⟩), fitL_nil⟩
 rcases some_ite h with rfl | h
 ·exact ⟨keeps_pic (digit_right _ _ _), fitL_two (digit_fit (f 0) (f 1)).1 (digit_fit (f 0) (f 1)).2⟩
 rcases some_ite h with rfl | h
 ·exact ⟨keeps_pic (all_right _ _ _), fitL_two fit_0 fit_0⟩
 rcases some_ite h with rfl | h
 ·exact ⟨keeps_pic (hold_right _), fitL_nil⟩
 rcases some_ite h with rfl | h
 ·exact ⟨keeps_pic (sign_right _), fitL_nil⟩
 rcases some_ite h with rfl | h
 ·refine ⟨keeps_end v, ?_⟩
  unfold pEnd; split
  ·have := picEnd_len v.pic
   exact fitL_two (w64_fit _) (by unfold Fit64; omega)
  ·exact fitL_nil
 cases h
theorem ask_kf {v : VVm} {name : Str} {x : List Int} {r : VVm × List Int × Int} (hn : Fit64 v.next) (h : askS2 v name x = some r) : KF v r := by
 unfold askS2 at h
 have ht : ∀ k, FitL (pTimer k v x).2.1 := fun k => by unfold pTimer; split; exact fitL_nil; split; exact fitL_nil; split; exact fitL_nil; split; exact fitL_nil; exact fitL_one hn
 rcases some_ite h with rfl | h
 ·exact ⟨keeps_post _ _, by unfold pPost; split; exact fitL_nil; split <;> exact fitL_nil⟩
 rcases some_ite h with rfl | h
 ·exact ⟨keeps_cancel _ _, by unfold pCancel; split <;> exact fitL_nil⟩
 rcases some_ite h with rfl | h
 ·exact ⟨keeps_timer _ _ _, ht _⟩
 rcases some_ite h with rfl | h
 ·exact ⟨keeps_timer _ _ _, ht _⟩
 cases h
theorem rest_kf {v : VVm} {name : Str} {x : List Int} (hh : Fit64 v.here ∧ Fit64 v.arg ∧ Fit64 v.self ∧ Fit64 v.now) : KF v (restS v name x) := by
 unfold restS
 split
 ·exact ⟨.refl v, fitL_one hh.1⟩
 ·split
  ·exact ⟨.refl v, fitL_one hh.2.1⟩
  ·split
   ·exact ⟨.refl v, fitL_one hh.2.2.1⟩
   ·split
    ·exact ⟨.refl v, fitL_one hh.2.2.2⟩
    ·split
     ·unfold pBody; split
      ·exact ⟨.refl v, fitL_nil⟩
      ·exact ⟨.refl v, fitL_one (w64_fit _)⟩
     ·exact ⟨.refl v, fitL_nil⟩
structure GoodV (N : Nat) (v : VVm) : Prop where
 right : right10 v = true
 old : v.mem.old.length ≤ N
 d : FitL v.d
 ints : Fit64 v.arg ∧ Fit64 v.self ∧ Fit64 v.now
structure RightP (v : VVm) : Prop where
 fits : fitsV v.conf
 mem : memRight v.mem = true
 dict : right9 v.dict = true
 pic : picRight v.pic
 len : (v.mem.b.length : Int) = v.conf.mem
 here0 : 1368 ≤ v.here
 here1 : v.here ≤ v.conf.mem
 f : v.f.all frameOk = true
 hand : v.hand.all handOk = true
 d : (v.d.length : Int) ≤ v.conf.data
 r : (v.r.length : Int) ≤ v.conf.ret
 fl : v.f.length ≤ 64
 dl : (v.dict.length : Int) ≤ v.conf.words
 out : (v.out.length : Int) ≤ v.conf.out
 req : v.req.length ≤ 16
 free0 : 0 ≤ v.free
 free1 : v.free ≤ 64
 next0 : 0 ≤ v.next
 next1 : v.next ≤ 4611686018427387904
 handl : v.hand.length ≤ 64
theorem right_iff (v : VVm) : right10 v = true ↔ RightP v := by
 unfold right10 rightA rightC
 simp only [Bool.and_eq_true, decide_eq_true_eq]
 constructor
 ·rintro ⟨⟨a1, a2, a3, a4, a5, a6, a7⟩, a8, a9, a10, a11, a12, a13, a14, a15, a16, a17, a18, a19, a20⟩
  exact ⟨a1, a2, a3, a4, a5, a6, a7, a8, a9, a10, a11, a12, a13, a14, a15, a16, a17, a18, a19, a20⟩
 ·rintro ⟨a1, a2, a3, a4, a5, a6, a7, a8, a9, a10, a11, a12, a13, a14, a15, a16, a17, a18, a19, a20⟩
  exact ⟨⟨a1, a2, a3, a4, a5, a6, a7⟩, a8, a9, a10, a11, a12, a13, a14, a15, a16, a17, a18, a19, a20⟩
theorem done_kf {v : VVm} {n : Int} {name : Str} {x : List Int} {N : Nat} (g : GoodV N v) (hx : FitL x) : KF v (doneS v n name x) := by
 have R := (right_iff v).1 g.right
 have f := fit_xat hx
 have hm := R.fits
 unfold fitsV at hm
 unfold doneS
 split
 ·exact ⟨.refl v, fitL_one (fit_twoS _ (f 0) (f 1))⟩
 ·split
  ·exact ⟨.refl v, fitL_one (fit_oneS _ (f 0))⟩
  ·cases h1 : reckonS name x with
   | some r => exact ⟨.refl v, reckon_fit hx h1⟩
   | none =>
    cases h2 : memoryS v name x with
    | some r => exact memory_kf hx h2
    | none =>
     cases h3 : spaceS v name x with
     | some r => exact space_kf h3
     | none =>
      cases h4 : textS v name x with
      | some r => exact print_kf v r
      | none =>
       cases h5 : picsS v name x with
       | some r => exact pics_kf hx (by omega) (by have := R.pic.1; omega) h5
       | none =>
        cases h6 : askS2 v name x with
        | some r => exact ask_kf (by have := R.next0; have := R.next1; unfold Fit64; omega) h6
        | none => exact rest_kf ⟨by have := R.here0; have := R.here1; unfold Fit64; omega, g.ints⟩
theorem left_fit {name : Str} {x : List Int} {d : Nat} (hx : FitL x) (hd : d ≤ 100000) : FitL (leftK name x d) := by
 have f := fit_xat hx
 have hq : ∀ l : List Int, (∀ a ∈ l, a ∈ x ∨ (∃ i, a = xat x i) ∨ a = d) → FitL l := fun l h a ha => by
  rcases h a ha with h | ⟨i, rfl⟩ | rfl
  ·exact hx a h
  ·exact f i
  ·unfold Fit64; omega
 unfold leftK
 refine ite_P (P := FitL) (hq _ fun a ha => by simp only [List.mem_cons, List.not_mem_nil, or_false] at ha; rcases ha with rfl | rfl <;> exact .inr (.inl ⟨_, rfl⟩)) ?_
 refine ite_P (P := FitL) (hq _ fun a ha => by simp only [List.mem_cons, List.not_mem_nil, or_false] at ha; rcases ha with rfl | rfl <;> exact .inr (.inl ⟨_, rfl⟩)) ?_
 refine ite_P (P := FitL) (hq _ fun a ha => by simp only [List.mem_cons, List.not_mem_nil, or_false] at ha; rcases ha with rfl | rfl | rfl <;> exact .inr (.inl ⟨_, rfl⟩)) ?_
 refine ite_P (P := FitL) (hq _ fun a ha => by simp only [List.mem_cons, List.not_mem_nil, or_false] at ha; subst ha; exact .inr (.inl ⟨_, rfl⟩)) ?_
 refine ite_P (P := FitL) (hq _ fun a ha => by simp only [List.mem_cons, List.not_mem_nil, or_false] at ha; rcases ha with rfl | rfl | rfl <;> exact .inr (.inl ⟨_, rfl⟩)) ?_
 refine ite_P (P := FitL) (hq _ fun a ha => by simp only [List.mem_cons, List.not_mem_nil, or_false] at ha; rcases ha with rfl | rfl | rfl <;> exact .inr (.inl ⟨_, rfl⟩)) ?_
 refine ite_P (P := FitL) (hq _ fun a ha => by simp only [List.mem_cons, List.not_mem_nil, or_false] at ha; rcases ha with rfl | rfl | rfl <;> exact .inr (.inl ⟨_, rfl⟩)) ?_
 refine ite_P (P := FitL) (hq _ fun a ha => by simp only [List.mem_cons, List.not_mem_nil, or_false] at ha; rcases ha with rfl | rfl | rfl | rfl <;> exact .inr (.inl ⟨_, rfl⟩)) ?_
 refine ite_P (P := FitL) (hq _ fun a ha => by simp only [List.mem_cons, List.not_mem_nil, or_false] at ha; rcases ha with rfl | rfl | rfl | rfl <;> exact .inr (.inl ⟨_, rfl⟩)) ?_
 refine ite_P (P := FitL) (hq _ fun a ha => by simp only [List.mem_cons, List.not_mem_nil, or_false] at ha; rcases ha with rfl | rfl | rfl | rfl | rfl | rfl <;> exact .inr (.inl ⟨_, rfl⟩)) ?_
 refine ite_P (P := FitL) (ite_P (P := FitL) hx (hq _ fun a ha => by simp only [List.mem_cons, List.not_mem_nil, or_false] at ha; rcases ha with rfl | rfl <;> exact .inr (.inl ⟨_, rfl⟩))) ?_
 refine ite_P (P := FitL) (hq _ fun a ha => by simp only [List.mem_cons, List.not_mem_nil, or_false] at ha; exact .inr (.inr ha)) ?_
 refine ite_P (P := FitL) (hq _ fun a ha => by rcases List.mem_append.1 ha with h | h; exact .inl (List.mem_of_mem_take h); exact .inr (.inl ⟨_, List.mem_singleton.1 h⟩)) ?_
 refine ite_P (P := FitL) (hq _ fun a ha => by rcases List.mem_append.1 ha with h | h; exact .inl (List.mem_of_mem_take (List.mem_of_mem_drop h)); exact .inr (.inl ⟨_, List.mem_singleton.1 h⟩)) ?_
 exact fitL_nil
theorem shuffle_fit {name : Str} {s : List Int} {limit : Int} (hs : FitL s) (hl : s.length ≤ 100000) : FitL (shuffleS name s limit).1 := by
 unfold shuffleS
 split
 ·exact hs
 ·split
  ·exact hs
  ·split
   ·exact hs
   ·intro a ha
    rcases List.mem_append.1 ha with ha | ha
    ·exact hs a (List.mem_of_mem_take ha)
    ·exact left_fit (fun b hb => hs b (List.mem_of_mem_drop hb)) hl a ha
theorem shuffle_len {name : Str} {s : List Int} {limit : Int} (hs : (s.length : Int) ≤ limit) : ((shuffleS name s limit).1.length : Int) ≤ limit := by
 unfold shuffleS
 split
 ·exact hs
 ·split
  ·exact hs
  ·split
   ·exact hs
   ·rename_i h; simp only [List.length_append, List.length_take]; omega
theorem doS_same {v : VVm} {n : Int} {N : Nat} (g : GoodV N v) : reset v (doS v n).1 = v := by
 by_cases h : n < 23 ∨ 129 < n
 ·unfold doS; rw [if_pos h]; rfl
 ·by_cases h1 : n ≤ 38
  ·unfold doS; rw [if_neg h]; simp only; rw [if_pos h1]; rfl
  ·rw [doS_deed (by omega) (by omega)]
   unfold doR
   split
   ·rfl
   ·split
    ·rfl
    ·split
     ·rfl
     ·exact (done_kf g (fun a ha => g.d a (List.mem_of_mem_drop ha))).1.same
theorem keeps_right {v v' : VVm} {d : List Int} (R : RightP v) (K : Keeps v v') (hd : (d.length : Int) ≤ v.conf.data) : RightP { v' with d := d } := by
 have s := K.same
 unfold reset at s
 have e1 : v'.conf = v.conf := by rw [← s]
 have e2 : v'.dict = v.dict := by rw [← s]
 have e3 : v'.f = v.f := by rw [← s]
 have e4 : v'.hand = v.hand := by rw [← s]
 have e5 : v'.r = v.r := by rw [← s]
 have h1 := K.here R.here0 (by have := R.here1; have := R.len; omega)
 have h2 := K.free R.free0 R.free1
 have h3 := K.next R.next0 R.next1
 have hl := K.mem.len
 have hl2 := R.len
 exact ⟨by rw [e1]; exact R.fits, K.mem.right R.mem, by rw [e2]; exact R.dict, K.pic R.pic, by simp only [e1]; rw [hl]; exact hl2, h1.1, by simp only [e1]; omega, by rw [e3]; exact R.f, by rw [e4]; exact R.hand, by simp only [e1]; exact hd, by simp only [e1, e5]; exact R.r, by rw [e3]; exact R.fl, by simp only [e1, e2]; exact R.dl, by simp only [e1]; exact K.out R.out, K.req R.req, h2.1, h2.2, h3.1, h3.2, by rw [e4]; exact R.handl⟩
theorem doS_good {v : VVm} {n : Int} {N : Nat} (g : GoodV N v) : GoodV (N + 2) (doS v n).1 := by
 have R := (right_iff v).1 g.right
 have hc := R.fits
 unfold fitsV at hc
 have hdl := R.d
 have stay : GoodV (N + 2) v := ⟨g.right, by have := g.old; omega, g.d, g.ints⟩
 by_cases h : n < 23 ∨ 129 < n
 ·unfold doS; rw [if_pos h]; exact stay
 ·by_cases h1 : n ≤ 38
  ·unfold doS; rw [if_neg h]; simp only; rw [if_pos h1]
   refine ⟨(right_iff _).2 (keeps_right R (.refl v) (shuffle_len R.d)), by show v.mem.old.length ≤ _; have := g.old; omega, shuffle_fit g.d (by omega), g.ints⟩
  ·rw [doS_deed (by omega) (by omega)]
   have K := done_kf (n := n) (name := names.getD n.toNat []) g (x := v.d.drop (v.d.length - takesS n (names.getD n.toNat []))) (fun a ha => g.d a (List.mem_of_mem_drop ha))
   generalize doneS v n (names.getD n.toNat []) (v.d.drop (v.d.length - takesS n (names.getD n.toNat []))) = r at K ⊢
   unfold doR
   split
   ·exact stay
   ·split
    ·exact stay
    ·split
     ·exact stay
     ·rename_i q0 q1 q2
      have s := K.1.same
      unfold reset at s
      refine ⟨(right_iff _).2 (keeps_right R K.1 (by simp only [List.length_append, List.length_take]; omega)), ?_, fun a ha => ?_, ?_⟩
      ·have := K.1.mem.old; have := g.old; show _ ≤ _; simp only; omega
      ·rcases List.mem_append.1 ha with ha | ha
       ·exact g.d a (List.mem_of_mem_take ha)
       ·exact K.2 a ha
      ·have a1 : r.1.arg = v.arg := by have h := congrArg VVm.arg K.1.same; exact h
       have a2 : r.1.self = v.self := by have h := congrArg VVm.self K.1.same; exact h
       have a3 : r.1.now = v.now := by have h := congrArg VVm.now K.1.same; exact h
       simp only [a1, a2, a3]
       exact g.ints
theorem good_ok {v : VVm} {N : Nat} (g : GoodV N v) (hN : N ≤ 900000) : VmOk v := by
 have R := (right_iff v).1 g.right
 have hc := R.fits
 unfold fitsV at hc
 have h1 := R.len
 have h2 := g.old
 have h3 := R.here0
 have h4 := R.here1
 have h5 := R.out
 have h6 := R.pic.1
 have h7 := R.req
 have h8 := R.handl
 have h9 := R.d
 exact ⟨⟨by omega, by omega⟩, by omega, ⟨by omega, by omega⟩, by omega, by omega, by omega, by omega, by omega, by omega, g.d, by unfold Fit64; omega⟩
end Go.Proofs.YtobhnjnffnbbkaaGreatDoor
namespace Go.Proofs.YtobhnjnffnbbkaaGreatDoor
open Go.RowKit
set_option maxRecDepth 100000
structure VX (M : Nat) (v : VVm) : Prop where
 b : v.mem.b.length ≤ 65536
 old : v.mem.old.length ≤ M
 d : v.d.length ≤ 300
 r : v.r.length ≤ 300
 f : v.f.length ≤ 300
 fd : FitL v.d
 fr : FitL v.r
 ff : ∀ x ∈ v.f, Fit64 x.ip
 data : 0 ≤ v.conf.data ∧ v.conf.data ≤ 256
 ret : 0 ≤ v.conf.ret ∧ v.conf.ret ≤ 256
 la : Fit64 v.last
structure KX (M : Nat) (k : PW) : Prop where
 v : VX M k.r.vm
 ip : Fit64 k.r.ip
 w : Fit64 k.r.w
theorem VX.mem {M : Nat} {v : VVm} (h : VX M v) (hM : M ≤ 1000000) : MemOk v.mem := ⟨by have := h.b; omega, by have := h.old; omega⟩
theorem VX.up {M N : Nat} {v : VVm} (h : VX M v) (hM : M ≤ N) : VX N v := ⟨h.b, by have := h.old; omega, h.d, h.r, h.f, h.fd, h.fr, h.ff, h.data, h.ret, h.la⟩
theorem KX.up {M N : Nat} {k : PW} (h : KX M k) (hM : M ≤ N) : KX N k := ⟨h.v.up hM, h.ip, h.w⟩
theorem KX.la {M : Nat} {k : PW} (h : KX M k) : Fit64 k.r.vm.last := h.v.la
theorem fit_data {M : Nat} {v : VVm} (h : VX M v) : Fit64 v.conf.data ∧ Fit64 v.conf.ret := by
 have := h.data; have := h.ret; unfold Fit64; omega
theorem fit64_0 : Fit64 0 := by unfold Fit64; omega
theorem fitL_append {a b : List Int} (h : FitL a) (k : FitL b) : FitL (a ++ b) := fun x hx => by
 rcases List.mem_append.1 hx with hx | hx
 ·exact h x hx
 ·exact k x hx
theorem fitL_take {a : List Int} (n : Nat) (h : FitL a) : FitL (a.take n) := fun x hx => h x (List.mem_of_mem_take hx)
theorem fitL_get {a : List Int} (h : FitL a) (i : Nat) : Fit64 (a.getD i 0) := by
 rw [List.getD_eq_getElem?_getD]
 rcases e : a[i]? with _ | x
 ·exact fit64_0
 ·exact h x (List.mem_of_getElem? e)
theorem fit_w64 (n : Int) : Fit64 (W64 n) := by
 show Fit64 (IntKind.i64.wrap n)
 rw [i64w]; exact wrap64_rng n
theorem fitFetch (m : VMem) (a : Int) : Fit64 (memFetch m a).1 := by
 unfold memFetch; split
 ·unfold getC; exact wrap64_rng _
 ·exact fit64_0
section
variable {M : Nat} {v : VVm}
theorem vx_push (h : VX M v) {n : Int} (hn : Fit64 n) : VX M (vmPush v n).1 := by
 unfold vmPush stkPush
 by_cases q : v.conf.data ≤ (v.d.length : Int)
 ·simp only [if_pos q]; exact h
 ·simp only [if_neg q]
  exact ⟨h.b, h.old, by have := h.data; simp only [List.length_append, List.length_singleton]; omega, h.r, h.f, fitL_append h.fd (fitL_one hn), h.fr, h.ff, h.data, h.ret, h.la⟩
theorem vx_rpush (h : VX M v) {n : Int} (hn : Fit64 n) : VX M (vmRPush v n).1 := by
 unfold vmRPush
 by_cases q : v.conf.ret ≤ (v.r.length : Int)
 ·simp only [if_pos q]; exact h
 ·simp only [if_neg q]
  exact ⟨h.b, h.old, h.d, by have := h.ret; simp only [List.length_append, List.length_singleton]; omega, h.f, h.fd, fitL_append h.fr (fitL_one hn), h.ff, h.data, h.ret, h.la⟩
theorem vx_pop (h : VX M v) : VX M (vmPop v).2.1 ∧ Fit64 (vmPop v).1 := by
 unfold vmPop stkPop
 by_cases q : v.d.length = 0
 ·simp only [if_pos q]; exact ⟨h, fit64_0⟩
 ·simp only [if_neg q]
  exact ⟨⟨h.b, h.old, by have := h.d; simp only [List.length_take]; omega, h.r, h.f, fitL_take _ h.fd, h.fr, h.ff, h.data, h.ret, h.la⟩, fitL_get h.fd _⟩
theorem vx_rpop (h : VX M v) : VX M (vmRPop v).2.1 ∧ Fit64 (vmRPop v).1 := by
 unfold vmRPop
 by_cases q : v.r.length = 0
 ·simp only [if_pos q]; exact ⟨h, fit64_0⟩
 ·simp only [if_neg q]
  exact ⟨⟨h.b, h.old, h.d, by have := h.r; simp only [List.length_take]; omega, h.f, h.fd, fitL_take _ h.fr, h.ff, h.data, h.ret, h.la⟩, fitL_get h.fr _⟩
theorem vx_store (h : VX M v) (a n : Int) : VX (M + 1) (withM v (memStore v.mem a n).1) := by
 have k := keeps_store v.mem a n
 exact ⟨by show (memStore v.mem a n).1.b.length ≤ _; rw [k.len]; exact h.b, by show (memStore v.mem a n).1.old.length ≤ _; have := k.old; have := h.old; omega, h.d, h.r, h.f, h.fd, h.fr, h.ff, h.data, h.ret, h.la⟩
end
section
variable {M : Nat} {k : PW}
theorem kx_ok (h : KX M k) {v : VVm} (hv : VX M v) (e : Int) : KX M (pOk k v e) := by
 unfold pOk
 split
 ·split
  ·exact ⟨hv, h.ip, h.w⟩
  ·exact ⟨h.v, h.ip, h.w⟩
 ·exact h
theorem kx_push (h : KX M k) {n : Int} (hn : Fit64 n) : KX M (wPush k n) := kx_ok h (vx_push h.v hn) _
theorem kx_rpush (h : KX M k) {n : Int} (hn : Fit64 n) : KX M (wRPush k n) := kx_ok h (vx_rpush h.v hn) _
theorem kx_pop (h : KX M k) : KX M (wPop k).1 ∧ Fit64 (wPop k).2 :=
 ⟨kx_ok h (vx_pop h.v).1 _, by unfold wPop; dsimp only; split; exact (vx_pop h.v).2; exact fit64_0⟩
theorem kx_rpop (h : KX M k) : KX M (wRPop k).1 ∧ Fit64 (wRPop k).2 :=
 ⟨kx_ok h (vx_rpop h.v).1 _, by unfold wRPop; dsimp only; split; exact (vx_rpop h.v).2; exact fit64_0⟩
theorem kx_fetch (h : KX M k) (a : Int) : KX M (wFetch k a).1 ∧ Fit64 (wFetch k a).2 := ⟨kx_ok h h.v _, fitFetch _ _⟩
theorem kx_store (h : KX M k) (a n : Int) : KX (M + 1) (wStore k a n) := kx_ok (h.up (by omega)) (vx_store h.v a n) _
theorem kx_ip (h : KX M k) {a : Int} (ha : Fit64 a) : KX M (wIp k a) := ⟨h.v, ha, h.w⟩
theorem kx_deep (h : KX M k) (n : Nat) : KX M (wDeep k n).1 ∧ Fit64 (wDeep k n).2 := by
 unfold wDeep; split
 ·exact ⟨kx_ok h h.v _, fit64_0⟩
 ·exact ⟨h, fitL_get h.v.fr _⟩
theorem kx_caught (h : KX M k) (h0 : ¬ k.r.vm.f.length = 0) : KX M { k with r := { k.r with ip := (k.r.vm.f.getD (k.r.vm.f.length - 1) default).ip, vm := { k.r.vm with f := k.r.vm.f.take (k.r.vm.f.length - 1) } } } :=
 ⟨⟨h.v.b, h.v.old, h.v.d, h.v.r, by have := h.v.f; simp only [List.length_take]; omega, h.v.fd, h.v.fr, fun x hx => h.v.ff x (List.mem_of_mem_take hx), h.v.data, h.v.ret, h.v.la⟩,
  h.v.ff _ (by rw [List.getD_eq_getElem?_getD, List.getElem?_eq_getElem (by omega)]; exact List.getElem_mem _), h.w⟩
theorem kx_does (h : KX M k) : KX (M + 2) (wDoes k) := by
 unfold wDoes; split
 ·exact kx_ok (h.up (by omega)) (h.v.up (by omega)) _
 ·exact kx_store (kx_store h _ _) _ _
theorem fit_step (i l n : Int) : Fit64 (stepN i l n).1 := fit_w64 _
end
end Go.Proofs.YtobhnjnffnbbkaaGreatDoor
namespace Go.Proofs.YtobhnjnffnbbkaaGreatDoor
open Go.RowKit
set_option maxRecDepth 100000
set_option maxHeartbeats 4000000
section
variable (a : Addr) (k : PW) {M : Nat} (h : KX M k) (hM : M ≤ 900000)
include h
theorem i_push (n : Int) : ∀ (H : List Ob) (i : Nat), H[i]? = some (.cells (cPW a k) 80) → HC Tryz.prog 64 (.ptr i 0 :: [i64 n]) H (.tup []) (H.set i (.cells (cPW a (wPush k n)) 80)) := by
 refine mut_of_W tG (rs := []) Tryz.func64 rfl rfl rfl (by simp) (by simp) (by simp) (by simp) (fun B => ?_)
 refine W_region rfl ?_
 refine zy5 ?_
 refine zy2 ?_
 refine Wc rfl rfl (dC rfl Tryz.func108 rfl rfl ((vm_Push k.r.vm n (by have := h.v.d; omega) (fit_data h.v).1) _)) ?_
 refine zy2 ?_
 refine Wc rfl rfl (dC rfl Tryz.func61 rfl rfl ((i_ok a k _ _) _ _ rfl)) ?_
 refine Wn ?_
 refine leafMsn rfl rfl ?_ ?_
 ·rfl
 ·rfl
theorem i_rpush (n : Int) : ∀ (H : List Ob) (i : Nat), H[i]? = some (.cells (cPW a k) 80) → HC Tryz.prog 63 (.ptr i 0 :: [i64 n]) H (.tup []) (H.set i (.cells (cPW a (wRPush k n)) 80)) := by
 refine mut_of_W tG (rs := []) Tryz.func63 rfl rfl rfl (by simp) (by simp) (by simp) (by simp) (fun B => ?_)
 refine W_region rfl ?_
 refine zy5 ?_
 refine zy2 ?_
 refine Wc rfl rfl (dC rfl Tryz.func107 rfl rfl ((vm_RPush k.r.vm n (by have := h.v.r; omega) (fit_data h.v).2) _)) ?_
 refine zy2 ?_
 refine Wc rfl rfl (dC rfl Tryz.func61 rfl rfl ((i_ok a k _ _) _ _ rfl)) ?_
 refine Wn ?_
 refine leafMsn rfl rfl ?_ ?_
 ·rfl
 ·rfl
theorem i_pop : ∀ (H : List Ob) (i : Nat), H[i]? = some (.cells (cPW a k) 80) → HC Tryz.prog 117 (.ptr i 0 :: []) H (i64 (wPop k).2) (H.set i (.cells (cPW a (wPop k).1) 80)) := by
 refine mut_of_W tG (rs := [.tmp 2]) Tryz.func117 rfl rfl rfl (by simp) (by simp) (by simp) (by simp) (fun B => ?_)
 refine zu1 ?_
 refine zp5 ?_
 refine Wc rfl rfl (dC rfl Tryz.func162 rfl rfl ((vm_Pop k.r.vm (by have := h.v.d; omega)) _)) ?_
 refine zy5 ?_
 refine zs3 ?_
 refine Ws ?_
 refine zp3 ?_
 refine Wc rfl rfl (dC rfl Tryz.func61 rfl rfl ((i_ok a k _ _) _ _ rfl)) ?_
 refine zs1 ?_
 refine Wi rfl (fun hi1 => ?_) (fun hi1 => ?_)
 ·refine zu1 ?_
  refine Wq ?_
  refine leafMs rfl rfl ?_ ?_
  ·exact congrArg i64 (by unfold wPop; dsimp only; rw [if_neg (by simpa using hi1)])
  ·rfl
 ·refine Wj ?_
  refine zu2 ?_
  refine Wq ?_
  refine leafMs rfl rfl ?_ ?_
  ·exact congrArg i64 (by unfold wPop; dsimp only; rw [if_pos (by simpa using hi1)])
  ·rfl
theorem i_rpop : ∀ (H : List Ob) (i : Nat), H[i]? = some (.cells (cPW a k) 80) → HC Tryz.prog 115 (.ptr i 0 :: []) H (i64 (wRPop k).2) (H.set i (.cells (cPW a (wRPop k).1) 80)) := by
 refine mut_of_W tG (rs := [.tmp 2]) Tryz.func115 rfl rfl rfl (by simp) (by simp) (by simp) (by simp) (fun B => ?_)
 refine zu1 ?_
 refine zp5 ?_
 refine Wc rfl rfl (dC rfl Tryz.func161 rfl rfl ((vm_RPop k.r.vm (by have := h.v.r; omega)) _)) ?_
 refine zy5 ?_
 refine zs3 ?_
 refine Ws ?_
 refine zp3 ?_
 refine Wc rfl rfl (dC rfl Tryz.func61 rfl rfl ((i_ok a k _ _) _ _ rfl)) ?_
 refine zs1 ?_
 refine Wi rfl (fun hi1 => ?_) (fun hi1 => ?_)
 ·refine zu1 ?_
  refine Wq ?_
  refine leafMs rfl rfl ?_ ?_
  ·exact congrArg i64 (by unfold wRPop; dsimp only; rw [if_neg (by simpa using hi1)])
  ·rfl
 ·refine Wj ?_
  refine zu2 ?_
  refine Wq ?_
  refine leafMs rfl rfl ?_ ?_
  ·exact congrArg i64 (by unfold wRPop; dsimp only; rw [if_pos (by simpa using hi1)])
  ·rfl
theorem i_fetch (at_ : Int) (ha : Fit64 at_) : ∀ (H : List Ob) (i : Nat), H[i]? = some (.cells (cPW a k) 80) → HC Tryz.prog 34 (.ptr i 0 :: [i64 at_]) H (i64 (wFetch k at_).2) (H.set i (.cells (cPW a (wFetch k at_).1) 80)) := by
 refine mut_of_W tG (rs := [.tmp 4]) Tryz.func34 rfl rfl rfl (by simp) (by simp) (by simp) (by simp) (fun B => ?_)
 refine zu1 ?_
 refine zp5 ?_
 refine zy2 ?_
 refine Wc rfl rfl (dC rfl Tryz.func60 rfl rfl ((mem_Fetch k.r.vm.mem at_ (by have := h.v.b; omega) ha) _)) ?_
 refine zs5 ?_
 refine zp5 ?_
 refine zy2 ?_
 refine Wc rfl rfl (dC rfl Tryz.func61 rfl rfl ((i_ok a k _ _) _ _ rfl)) ?_
 refine Wn ?_
 refine zu2 ?_
 refine Wq ?_
 refine leafMs rfl rfl ?_ ?_
 ·rfl
 ·rfl
theorem i_store (at_ n : Int) (ha : Fit64 at_) (hM2 : M ≤ 990000) : ∀ (H : List Ob) (i : Nat), H[i]? = some (.cells (cPW a k) 80) → HC Tryz.prog 160 (.ptr i 0 :: [i64 at_, i64 n]) H (.tup []) (H.set i (.cells (cPW a (wStore k at_ n)) 80)) := by
 refine mut_of_W tG (rs := []) Tryz.func160 rfl rfl rfl (by simp) (by simp) (by simp) (by simp) (fun B => ?_)
 refine zp5 ?_
 refine zy3 ?_
 refine Wc rfl rfl (dC rfl Tryz.func214 rfl rfl ((mem_Store k.r.vm.mem at_ n (h.v.mem (by omega)) ha) _)) ?_
 refine zy5 ?_
 refine zs1 ?_
 refine zp5 ?_
 refine zs2 ?_
 refine zu3 ?_
 refine W_region rfl ?_
 refine zy3 ?_
 refine Wc rfl rfl (dC rfl Tryz.func61 rfl rfl ((i_ok a k (withM k.r.vm (memStore k.r.vm.mem at_ n).1) _) _ _ rfl)) ?_
 refine Wn ?_
 refine leafMsn rfl rfl ?_ ?_
 ·rfl
 ·rfl
omit h in
theorem i_next (xt : Int) : ∀ (H : List Ob) (i : Nat), H[i]? = some (.cells (cPW a k) 80) → HC Tryz.prog 109 (.ptr i 0 :: [i64 xt]) H (.tup []) (H.set i (.cells (cPW a (wNext k xt)) 80)) := by
 refine mut_of_W tG (rs := []) Tryz.func109 rfl rfl rfl (by simp) (by simp) (by simp) (by simp) (fun B => ?_)
 refine W_region rfl ?_
 refine zy5 ?_
 refine z1 ?_
 refine WO_storeB (zs := cPW a ({ k with r := { k.r with w := xt } })) (lO tG rfl) rfl rfl rfl rfl rfl rfl rfl rfl rfl rfl rfl ?_
 refine zy3 ?_
 refine WO_storeB (zs := cPW a (wNext k xt)) (lO tG rfl) rfl rfl rfl rfl rfl rfl rfl rfl rfl rfl rfl ?_
 refine Wn ?_
 refine leafMsn rfl rfl ?_ ?_
 ·rfl
 ·rfl
theorem i_deep (n : Nat) (hn : n ≤ 10) : ∀ (H : List Ob) (i : Nat), H[i]? = some (.cells (cPW a k) 80) → HC Tryz.prog 163 (.ptr i 0 :: [i64 (n : Int)]) H (i64 (wDeep k n).2) (H.set i (.cells (cPW a (wDeep k n).1) 80)) := by
 have hr := h.v.r
 have w1 : IntKind.i64.wrap (IntKind.i64.wrap ((k.r.vm.r.length : Int) - 1) - (n : Int)) = (k.r.vm.r.length : Int) - 1 - (n : Int) := by
  have w0 : IntKind.i64.wrap ((k.r.vm.r.length : Int) - 1) = (k.r.vm.r.length : Int) - 1 := by ((rw [i64w]; unfold wrap64; (try simp only [dnL] at *); omega))
  rw [w0]; ((rw [i64w]; unfold wrap64; (try simp only [dnL] at *); omega))
 refine mut_of_W tG (rs := [.tmp 4]) Tryz.func163 rfl rfl rfl (by simp) (by simp) (by simp) (by simp) (fun B => ?_)
 refine zu1 ?_
 refine zp5 ?_
 refine zy5 ?_
 refine Wa 15 rfl (congrArg (fun z => PV.val (Value.int .i64 z)) w1) ?_
 refine zs1 ?_
 refine Ws ?_
 refine zu2 ?_
 refine Wi rfl (fun hi1 => ?_) (fun hi1 => ?_)
 ·have h0 : k.r.vm.r.length ≤ n := by (try simp only [dnL] at *); omega
  refine zp5 ?_
  refine z1 ?_
  refine Wc rfl rfl (dC rfl Tryz.func61 rfl rfl ((i_ok a k _ _) _ _ rfl)) ?_
  refine Wn ?_
  refine zu1 ?_
  refine Wq ?_
  refine leafMs rfl rfl ?_ ?_
  ·rw [wDeep, if_pos h0]; rfl
  ·rw [wDeep, if_pos h0]
 ·have h0 : ¬ k.r.vm.r.length ≤ n := by (try simp only [dnL] at *); omega
  have e0 : (k.r.vm.r.length : Int) - 1 - (n : Int) = ((k.r.vm.r.length - 1 - n : Nat) : Int) := by omega
  refine Wj ?_
  refine zp5 ?_
  refine zy2 ?_
  refine Wa 31 rfl (congrArg (fun z => PV.val (Value.int .i64 z)) e0) ?_
  refine Wv tG rfl rfl rfl (by omega) (iN cInt 1 (fun _ => rfl) 0 (by omega)) ?_
  refine zs2 ?_
  refine Wq ?_
  refine leafMs rfl rfl ?_ ?_
  ·rw [wDeep, if_neg h0]; rfl
  ·rw [wDeep, if_neg h0]
theorem i_skip (b : Bool) : ∀ (H : List Ob) (i : Nat), H[i]? = some (.cells (cPW a k) 80) → HC Tryz.prog 116 (.ptr i 0 :: [boo b]) H (.tup []) (H.set i (.cells (cPW a (wSkip k b)) 80)) := by
 cases b with
 | true =>
  refine mut_of_W tG (rs := []) Tryz.func116 rfl rfl rfl (by simp) (by simp) (by simp) (by simp) (fun B => ?_)
  refine Ws ?_
  refine zu1 ?_
  refine Wt rfl (by rfl) ?_
  refine zp5 ?_
  refine zy2 ?_
  refine Wc rfl rfl (dC rfl Tryz.func34 rfl rfl ((i_fetch a k h _ h.ip) _ _ rfl)) ?_
  refine zy3 ?_
  refine WO_storeB (zs := cPW a (wSkip k true)) (lO tG rfl) rfl rfl rfl rfl rfl rfl rfl rfl rfl rfl rfl ?_
  refine Wn ?_
  refine Wq ?_
  refine leafMs rfl rfl ?_ ?_
  ·rfl
  ·rfl
 | false =>
  refine mut_of_W tG (rs := []) Tryz.func116 rfl rfl rfl (by simp) (by simp) (by simp) (by simp) (fun B => ?_)
  refine Ws ?_
  refine zu1 ?_
  refine Wf rfl (by rfl) ?_
  refine Wj ?_
  refine W_region rfl ?_
  refine zy5 ?_
  refine zy4 ?_
  refine WO_storeB (zs := cPW a (wSkip k false)) (lO tG rfl) rfl rfl rfl rfl rfl rfl rfl rfl rfl rfl rfl ?_
  refine Wn ?_
  refine leafMsn rfl rfl ?_ ?_
  ·rfl
  ·rfl
theorem i_loop (n : Int) : ∀ (H : List Ob) (i : Nat), H[i]? = some (.cells (cPW a k) 80) → HC Tryz.prog 118 (.ptr i 0 :: [i64 n]) H (.tup []) (H.set i (.cells (cPW a (wLoop k n)) 80)) := by
 have h1 := (kx_deep h 1).1
 have h2 := (kx_deep h1 0).1
 refine mut_of_W tG (rs := []) Tryz.func118 rfl rfl rfl (by simp) (by simp) (by simp) (by simp) (fun B => ?_)
 refine zp1 ?_
 refine Wc rfl rfl (dC rfl Tryz.func163 rfl rfl ((i_deep a k h 1 (by decide)) _ _ rfl)) ?_
 refine zs1 ?_
 refine zp1 ?_
 refine Wc rfl rfl (dC rfl Tryz.func163 rfl rfl ((i_deep a _ h1 0 (by decide)) _ _ rfl)) ?_
 refine zs1 ?_
 refine Ws ?_
 refine zp3 ?_
 refine Wd rfl rfl (does_load_ptr (lO tG rfl) rfl rfl rfl rfl) ?_
 refine Wd rfl rfl (does_ifnot rfl (by kernel_rfl) rfl (by exact nil_err _ _)) ?_
 refine Wn ?_
 refine Wi rfl (fun hi1 => ?_) (fun hi1 => ?_)
 ·have q1 : ¬ isOk (wDeep (wDeep k 1).1 0).1.err = true := by simpa using hi1
  refine Wq ?_
  refine leafMs rfl rfl ?_ ?_
  ·rfl
  ·rw [wLoop, if_neg q1]
 ·have q1 : isOk (wDeep (wDeep k 1).1 0).1.err = true := by simpa using hi1
  refine Wj ?_
  refine zp3 ?_
  refine Wc rfl rfl (dC rfl Tryz.func164 rfl rfl ((alu_Step _ _ _) _)) ?_
  refine zs5 ?_
  refine zp1 ?_
  refine Wc rfl rfl (dC rfl Tryz.func115 rfl rfl ((i_rpop a _ h2) _ _ rfl)) ?_
  refine Wn ?_
  refine Ws ?_
  refine zu1 ?_
  refine Wi rfl (fun hi2 => ?_) (fun hi2 => ?_)
  ·have q2 : (stepN (wDeep (wDeep k 1).1 0).2 (wDeep k 1).2 n).2 = true := hi2
   refine W_region rfl ?_
   refine z1 ?_
   refine Wc rfl rfl (dC rfl Tryz.func115 rfl rfl ((i_rpop a _ (kx_rpop h2).1) _ _ rfl)) ?_
   refine Wn ?_
   refine W_region rfl ?_
   refine zy3 ?_
   refine Wc rfl rfl (dC rfl Tryz.func116 rfl rfl ((i_skip a _ (by exact (kx_rpop (kx_rpop h2).1).1) _) _ _ rfl)) ?_
   refine Wn ?_
   refine leafMsn rfl rfl ?_ ?_
   ·rfl
   ·(rw [wLoop, if_pos q1, if_pos q2])
  ·have q2 : ¬ (stepN (wDeep (wDeep k 1).1 0).2 (wDeep k 1).2 n).2 = true := by simpa using hi2
   refine W_region rfl ?_
   refine zy2 ?_
   refine Wc rfl rfl (dC rfl Tryz.func63 rfl rfl ((i_rpush a _ (kx_rpop h2).1 _) _ _ rfl)) ?_
   refine Wn ?_
   refine W_region rfl ?_
   refine zy3 ?_
   refine Wc rfl rfl (dC rfl Tryz.func116 rfl rfl ((i_skip a _ (by exact kx_rpush (kx_rpop h2).1 (fit_step _ _ _)) _) _ _ rfl)) ?_
   refine Wn ?_
   refine leafMsn rfl rfl ?_ ?_
   ·rfl
   ·(rw [wLoop, if_pos q1, if_neg q2])
include hM in
theorem i_does : ∀ (H : List Ob) (i : Nat), H[i]? = some (.cells (cPW a k) 80) → HC Tryz.prog 114 (.ptr i 0 :: []) H (.tup []) (H.set i (.cells (cPW a (wDoes k)) 80)) := by
 have hM2 : M ≤ 990000 := by omega
 have hM3 : M + 1 ≤ 990000 := by omega
 refine mut_of_W tG (rs := []) Tryz.func114 rfl rfl rfl (by simp) (by simp) (by simp) (by simp) (fun B => ?_)
 refine zp5 ?_
 refine zs2 ?_
 refine zp5 ?_
 refine z1 ?_
 refine Wc rfl rfl (dC rfl Tryz.func62 rfl rfl ((vm_Kind k.r.vm k.r.vm.last (by have := h.v.b; omega) h.la) _)) ?_
 refine zs5 ?_
 refine Ws ?_
 refine zp3 ?_
 refine Wb 23 rfl (fun hg1 => ?_) (fun hg1 => ?_)
 ·refine z6 ?_
  refine z6 ?_
  refine zy2 ?_
  iterate 6 refine z6 ?_
  refine zs1 ?_
  refine Wt rfl rfl ?_
  refine zp5 ?_
  refine z1 ?_
  refine Wc rfl rfl (dC rfl Tryz.func61 rfl rfl ((i_ok a k _ _) _ _ rfl)) ?_
  refine Wn ?_
  refine Wq ?_
  refine leafMs rfl rfl ?_ ?_
  ·rfl
  ·rw [wDoes, if_pos (by (try simp only [dnL] at *); omega)]
 ·refine zy4 ?_
  refine Wb 27 rfl (fun hg2 => ?_) (fun hg2 => ?_)
  ·refine z6 ?_
   iterate 5 refine z6 ?_
   refine zs1 ?_
   refine Wt rfl rfl ?_
   refine zp5 ?_
   refine z1 ?_
   refine Wc rfl rfl (dC rfl Tryz.func61 rfl rfl ((i_ok a k _ _) _ _ rfl)) ?_
   refine Wn ?_
   refine Wq ?_
   refine leafMs rfl rfl ?_ ?_
   ·rfl
   ·rw [wDoes, if_pos (by (try simp only [dnL] at *); omega)]
  ·refine zy3 ?_
   refine Wb 30 rfl (fun hg3 => ?_) (fun hg3 => ?_)
   ·refine zs4 ?_
    refine Wi rfl (fun hi1 => ?_) (fun hi1 => ?_)
    ·refine zp5 ?_
     refine z1 ?_
     refine Wc rfl rfl (dC rfl Tryz.func61 rfl rfl ((i_ok a k _ _) _ _ rfl)) ?_
     refine Wn ?_
     refine Wq ?_
     refine leafMs rfl rfl ?_ ?_
     ·rfl
     ·rw [wDoes, if_pos (by (try simp only [dnL] at *); omega)]
    ·refine Wj ?_
     refine zp2 ?_
     refine Wc rfl rfl (dC rfl Tryz.func160 rfl rfl ((i_store a k h _ _ h.la hM2) _ _ rfl)) ?_
     refine Wn ?_
     refine W_region rfl ?_
     refine zy5 ?_
     refine zy3 ?_
     refine Wc rfl rfl (dC rfl Tryz.func160 rfl rfl ((i_store a _ (kx_store h _ _) _ _ (fit_w64 _) hM3) _ _ rfl)) ?_
     refine Wn ?_
     refine leafMsn rfl rfl ?_ ?_
     ·rfl
     ·rw [wDoes, if_neg (show ¬ (k.r.vm.last = 0 ∨ (vmKind k.r.vm k.r.vm.last).2 ≠ 0 ∨ ((vmKind k.r.vm k.r.vm.last).1 ≠ 257 ∧ (vmKind k.r.vm k.r.vm.last).1 ≠ 259)) by (try simp only [dnL] at *); omega)]
   ·refine z6 ?_
    refine z6 ?_
    refine zs2 ?_
    refine Wf rfl rfl ?_
    refine Wj ?_
    refine zp2 ?_
    refine Wc rfl rfl (dC rfl Tryz.func160 rfl rfl ((i_store a k h _ _ h.la hM2) _ _ rfl)) ?_
    refine Wn ?_
    refine W_region rfl ?_
    refine zy5 ?_
    refine zy3 ?_
    refine Wc rfl rfl (dC rfl Tryz.func160 rfl rfl ((i_store a _ (kx_store h _ _) _ _ (fit_w64 _) hM3) _ _ rfl)) ?_
    refine Wn ?_
    refine leafMsn rfl rfl ?_ ?_
    ·rfl
    ·rw [wDoes, if_neg (show ¬ (k.r.vm.last = 0 ∨ (vmKind k.r.vm k.r.vm.last).2 ≠ 0 ∨ ((vmKind k.r.vm k.r.vm.last).1 ≠ 257 ∧ (vmKind k.r.vm k.r.vm.last).1 ≠ 259)) by (try simp only [dnL] at *); omega)]
end
end Go.Proofs.YtobhnjnffnbbkaaGreatDoor
namespace Go.Proofs.YtobhnjnffnbbkaaGreatDoor
open Go.RowKit
set_option maxRecDepth 100000
set_option maxHeartbeats 4000000
theorem rk_set (a : Addr) (k : PW) {k' : PW} (h : k'.r = k.r) {e : TypeId} {H : List Ob} : Rk (.cells (cPW a k) e :: H) ((Ob.cells (cPW a k) e :: H).set 0 (.cells (cPW a k') e)) := fun xs e h1 => by
 simp only [List.getElem?_cons_zero, Option.some.injEq, Ob.cells.injEq] at h1
 obtain ⟨rfl, rfl⟩ := h1
 refine ⟨_, rfl, ?_⟩
 have hl : ∀ r : VRun, (cRun r).length = 27 := fun r => rfl
 unfold cPW
 rw [List.take_left' (hl _), List.take_left' (hl _), h]
theorem fr1 (x : VFrame) : PV.seq 1 [i64 x.d, i64 x.r, i64 x.ip] .clip = .seq (List.length [x]) (List.flatMap cFrame [x]) .clip := rfl
section
variable (a : Addr) (k : PW) {M : Nat} (h : KX M k) (hM : M ≤ 900000)
include h
theorem i_machine (b : Int) (hb : Fit64 b) : ∀ (H : List Ob) (i : Nat), H[i]? = some (.cells (cPW a k) 80) → HC Tryz.prog 65 (.ptr i 0 :: [i64 b]) H (.tup []) (H.set i (.cells (cPW a (wMachine k b)) 80)) := by
 have f1 := kx_fetch h b
 have f2 := kx_fetch f1.1 (W64 (b + 8))
 refine mut_of_W tG (rs := []) Tryz.func65 rfl rfl rfl (by simp) (by simp) (by simp) (by simp) (fun B => ?_)
 refine zp2 ?_
 refine Wc rfl rfl (dC rfl Tryz.func34 rfl rfl ((i_fetch a k h b hb) _ _ rfl)) ?_
 refine zy3 ?_
 refine Wc rfl rfl (dC rfl Tryz.func34 rfl rfl ((i_fetch a _ f1.1 _ (fit_w64 _)) _ _ rfl)) ?_
 refine zs2 ?_
 refine Ws ?_
 refine zp3 ?_
 refine Wd rfl rfl (does_load_ptr (lO tG rfl) rfl rfl rfl rfl) ?_
 refine Wd rfl rfl (does_ifnil rfl (by kernel_rfl) rfl (by exact nil_err _ _)) ?_
 refine z1 ?_
 refine Wb 19 rfl (fun hg1 => ?_) (fun hg1 => ?_)
 ·refine zy3 ?_
  refine Wb 22 rfl (fun hg2 => ?_) (fun hg2 => ?_)
  ·refine z6 ?_
   iterate 2 refine z6 ?_
   refine zs2 ?_
   refine Wt rfl rfl ?_
   refine W_region rfl ?_
   refine zy5 ?_
   refine z1 ?_
   refine Wc rfl rfl (dC rfl Tryz.func61 rfl rfl ((i_ok a _ _ _) _ _ rfl)) ?_
   refine Wn ?_
   refine zp5 ?_
   refine z1 ?_
   refine Wc rfl rfl (dC rfl Tryz.func34 rfl rfl ((i_fetch a _ (by exact kx_ok f2.1 f2.1.v _) _ (fit_w64 _)) _ _ rfl)) ?_
   refine zs1 ?_
   refine zu2 ?_
   refine Wi rfl (fun hi1 => ?_) (fun hi1 => ?_)
   ·refine W_region rfl ?_
    refine zy2 ?_
    refine Wc rfl rfl (dC rfl Tryz.func109 rfl rfl ((i_next a _ _) _ _ rfl)) ?_
    refine Wn ?_
    refine leafMsn rfl rfl ?_ ?_
    ·rfl
    ·exact congrArg (cPW a) (by unfold wMachine; dsimp only; (simp only [hg1, hg2, Bool.true_and, Bool.true_or, if_true]); (rw [if_neg (by simpa using hi1)]))
   ·refine Wj ?_
    refine leafMsn rfl rfl ?_ ?_
    ·rfl
    ·exact congrArg (cPW a) (by unfold wMachine; dsimp only; (simp only [hg1, hg2, Bool.true_and, Bool.true_or, if_true]); (rw [if_pos (by simpa using hi1)]))
  ·refine zs5 ?_
   refine Wi rfl (fun hi2 => ?_) (fun hi2 => ?_)
   ·refine W_region rfl ?_
    refine zy5 ?_
    refine z1 ?_
    refine Wc rfl rfl (dC rfl Tryz.func61 rfl rfl ((i_ok a _ _ _) _ _ rfl)) ?_
    refine Wn ?_
    refine zp5 ?_
    refine z1 ?_
    refine Wc rfl rfl (dC rfl Tryz.func34 rfl rfl ((i_fetch a _ (by exact kx_ok f2.1 f2.1.v _) _ (fit_w64 _)) _ _ rfl)) ?_
    refine zs1 ?_
    refine zu2 ?_
    refine Wi rfl (fun hi1 => ?_) (fun hi1 => ?_)
    ·refine W_region rfl ?_
     refine zy2 ?_
     refine Wc rfl rfl (dC rfl Tryz.func109 rfl rfl ((i_next a _ _) _ _ rfl)) ?_
     refine Wn ?_
     refine leafMsn rfl rfl ?_ ?_
     ·rfl
     ·exact congrArg (cPW a) (by unfold wMachine; dsimp only; (simp only [hg1, hg2, hi2, Bool.true_and, Bool.false_or, if_true, Bool.false_eq_true, if_false]); (rw [if_neg (by simpa using hi1)]))
    ·refine Wj ?_
     refine leafMsn rfl rfl ?_ ?_
     ·rfl
     ·exact congrArg (cPW a) (by unfold wMachine; dsimp only; (simp only [hg1, hg2, hi2, Bool.true_and, Bool.false_or, if_true, Bool.false_eq_true, if_false]); (rw [if_pos (by simpa using hi1)]))
   ·refine Wj ?_
    refine zp5 ?_
    refine z1 ?_
    refine Wc rfl rfl (dC rfl Tryz.func34 rfl rfl ((i_fetch a _ (by exact f2.1) _ (fit_w64 _)) _ _ rfl)) ?_
    refine zs1 ?_
    refine zu2 ?_
    refine Wi rfl (fun hi1 => ?_) (fun hi1 => ?_)
    ·refine W_region rfl ?_
     refine zy2 ?_
     refine Wc rfl rfl (dC rfl Tryz.func109 rfl rfl ((i_next a _ _) _ _ rfl)) ?_
     refine Wn ?_
     refine leafMsn rfl rfl ?_ ?_
     ·rfl
     ·exact congrArg (cPW a) (by unfold wMachine; dsimp only; (simp only [hg1, hg2, hi2, Bool.true_and, Bool.false_or, if_true, Bool.false_eq_true, if_false]); (rw [if_neg (by simpa using hi1)]))
    ·refine Wj ?_
     refine leafMsn rfl rfl ?_ ?_
     ·rfl
     ·exact congrArg (cPW a) (by unfold wMachine; dsimp only; (simp only [hg1, hg2, hi2, Bool.true_and, Bool.false_or, if_true, Bool.false_eq_true, if_false]); (rw [if_pos (by simpa using hi1)]))
 ·refine z6 ?_
  iterate 6 refine z6 ?_
  refine zs1 ?_
  refine Wf rfl rfl ?_
  refine Wj ?_
  refine zp5 ?_
  refine z1 ?_
  refine Wc rfl rfl (dC rfl Tryz.func34 rfl rfl ((i_fetch a _ (by exact f2.1) _ (fit_w64 _)) _ _ rfl)) ?_
  refine zs1 ?_
  refine zu2 ?_
  refine Wi rfl (fun hi1 => ?_) (fun hi1 => ?_)
  ·refine W_region rfl ?_
   refine zy2 ?_
   refine Wc rfl rfl (dC rfl Tryz.func109 rfl rfl ((i_next a _ _) _ _ rfl)) ?_
   refine Wn ?_
   refine leafMsn rfl rfl ?_ ?_
   ·rfl
   ·exact congrArg (cPW a) (by unfold wMachine; dsimp only; (simp only [hg1, Bool.false_and, Bool.false_eq_true, if_false]); (rw [if_neg (by simpa using hi1)]))
  ·refine Wj ?_
   refine leafMsn rfl rfl ?_ ?_
   ·rfl
   ·exact congrArg (cPW a) (by unfold wMachine; dsimp only; (simp only [hg1, Bool.false_and, Bool.false_eq_true, if_false]); (rw [if_pos (by simpa using hi1)]))
include hM in
theorem i_more (name : Str) : ∀ (H : List Ob) (i : Nat), H[i]? = some (.cells (cPW a k) 80) → HC Tryz.prog 119 (.ptr i 0 :: [str name]) H (.tup []) (H.set i (.cells (cPW a (wMore k name)) 80)) := by
 have hf := h.v.f
 have hf2 := (kx_pop h).1.v.f
 have hf3 := (kx_ok (kx_pop h).1 (kx_pop h).1.v (-5)).v.f
 have w1 : IntKind.i64.wrap ((k.r.vm.f.length : Int) - 1) = (k.r.vm.f.length : Int) - 1 := by ((rw [i64w]; unfold wrap64; (try simp only [dnL] at *); omega))
 refine mut_of_W tG (rs := []) Tryz.func119 rfl rfl rfl (by simp) (by simp) (by simp) (by simp) (fun B => ?_)
 refine zu1 ?_
 refine Wl ?_
 refine zp1 ?_
 refine Wa 17 rfl (str_eql _ _) ?_
 refine zs1 ?_
 refine Wi rfl (fun hi1 => ?_) (fun hi1 => ?_)
 ·obtain rfl := oT hi1
  refine zp5 ?_
  refine zs3 ?_
  refine Ws ?_
  refine zu2 ?_
  refine Wi rfl (fun hi2 => ?_) (fun hi2 => ?_)
  ·have h0 : k.r.vm.f.length = 0 := by (try simp only [dnL] at *); omega
   refine zp5 ?_
   refine z1 ?_
   refine Wc rfl rfl (dC rfl Tryz.func61 rfl rfl ((i_ok a k _ _) _ _ rfl)) ?_
   refine Wn ?_
   refine Wq ?_
   refine leafMs rfl rfl ?_ ?_
   ·rfl
   ·show cPW a _ = cPW a (wCaught k); rw [wCaught, if_pos h0]
  ·have h0 : ¬ k.r.vm.f.length = 0 := by (try simp only [dnL] at *); omega
   have e0 : (k.r.vm.f.length : Int) - 1 = ((k.r.vm.f.length - 1 : Nat) : Int) := by omega
   refine Wj ?_
   refine zp5 ?_
   refine zy4 ?_
   refine Wa 42 rfl (congrArg (fun z => PV.val (Value.int .i64 z)) (w1.trans e0)) ?_
   refine Wv tG rfl rfl rfl (by omega) (iN cFrame 3 (fun _ => rfl) default (by omega)) ?_
   refine zy5 ?_
   refine WO_storeB (zs := cPW a ({ k with r := { k.r with ip := (k.r.vm.f.getD (k.r.vm.f.length - 1) default).ip } })) (lO tG rfl) rfl rfl rfl rfl rfl rfl rfl rfl rfl rfl rfl ?_
   refine Wn ?_
   refine zp5 ?_
   refine zy4 ?_
   refine Wa 57 rfl (congrArg (fun z => PV.val (Value.int .i64 z)) (w1.trans e0)) ?_
   refine z2 ?_ (q := (by (simp_all; done)))
   refine Wa 58 rfl (sq_slice cFrame 3 (fun _ => rfl) (by (simp only [dnL] at *; omega))) ?_
   refine zy4 ?_
   refine WO_storeB (zs := cPW a ({ k with r := { k.r with ip := (k.r.vm.f.getD (k.r.vm.f.length - 1) default).ip, vm := { k.r.vm with f := k.r.vm.f.take (k.r.vm.f.length - 1) } } })) (lO tG rfl) rfl rfl rfl rfl rfl rfl rfl rfl rfl rfl rfl ?_
   refine Wn ?_
   refine W_region rfl ?_
   refine z1 ?_
   refine Wc rfl rfl (dC rfl Tryz.func64 rfl rfl ((i_push a { k with r := { k.r with ip := (k.r.vm.f.getD (k.r.vm.f.length - 1) default).ip, vm := { k.r.vm with f := k.r.vm.f.take (k.r.vm.f.length - 1) } } } (kx_caught h h0) 0) _ _ rfl)) ?_
   refine Wn ?_
   refine leafMsn rfl rfl ?_ ?_
   ·rfl
   ·(show cPW a _ = cPW a (wCaught k); rw [wCaught, if_neg h0])
 ·refine zp1 ?_
  refine Wa 66 rfl (str_eql _ _) ?_
  refine zs1 ?_
  refine Wi rfl (fun hi3 => ?_) (fun hi3 => ?_)
  ·obtain rfl := oT hi3
   refine Ws ?_
   refine W_drawU [0, 0, 0, 0, 0, 1, 5, 0, 0, 0, 0, 4, 0, 0, 0] [0, 1, 2, 3, 4, 7, 8, 9, 10, 11, 12, 5, 6, 13, 14] mG rfl (by kernel_rfl) ?_
   iterate 9 refine z3 ?_
   refine WU_load4 (lO tG rfl) rfl rfl rfl rfl rfl rfl rfl rfl rfl ?_
   refine z3 ?_
   refine z5 ?_
   refine WU_call5 rfl rfl rfl rfl (dC rfl Tryz.func34 rfl rfl ((i_fetch a k h _ h.ip) _ _ rfl)) (rk_set a k (fetch_r)) ?_
   iterate 2 refine z3 ?_
   refine WU_nil ?_
   refine zp5 ?_
   refine zy3 ?_
   refine Wc rfl rfl (dC rfl Tryz.func165 rfl rfl ((mem_Text _ _ _ ((kx_fetch h k.r.ip).1.v.mem (by omega)) (fit_w64 _) (kx_fetch h k.r.ip).2) _)) ?_
   refine zs5 ?_
   refine zp5 ?_
   refine zy2 ?_
   refine Wc rfl rfl (dC rfl Tryz.func61 rfl rfl ((i_ok a _ _ _) _ _ rfl)) ?_
   refine Wn ?_
   refine zp2 ?_
   refine Wc rfl rfl (dC rfl Tryz.func64 rfl rfl ((i_push a _ (kx_ok (kx_fetch h _).1 (kx_fetch h _).1.v _) _) _ _ rfl)) ?_
   refine Wn ?_
   refine zp2 ?_
   refine Wc rfl rfl (dC rfl Tryz.func64 rfl rfl ((i_push a _ (kx_push (kx_ok (kx_fetch h _).1 (kx_fetch h _).1.v _) (fit_w64 _)) _) _ _ rfl)) ?_
   refine Wn ?_
   refine W_region rfl ?_
   refine zy4 ?_
   refine Wc rfl rfl (dC rfl Tryz.func151 rfl rfl ((alu_One _ _ (fit_w64 _)) _)) ?_
   refine zy5 ?_
   refine z1 ?_
   refine WO_storeB (zs := cPW a (wStr k)) (lO tG rfl) rfl rfl rfl rfl rfl rfl rfl rfl rfl rfl rfl ?_
   refine Wn ?_
   refine leafMsn rfl rfl ?_ ?_
   ·rfl
   ·rfl
  ·refine zp1 ?_
   refine Wa 118 rfl (str_eql _ _) ?_
   refine zs1 ?_
   refine Wi rfl (fun hi4 => ?_) (fun hi4 => ?_)
   ·obtain rfl := oT hi4
    refine W_region rfl ?_
    refine zy2 ?_
    refine Wc rfl rfl (dC rfl Tryz.func117 rfl rfl ((i_pop a k h) _ _ rfl)) ?_
    refine Wc rfl rfl (dC rfl Tryz.func109 rfl rfl ((i_next a _ _) _ _ rfl)) ?_
    refine Wn ?_
    refine leafMsn rfl rfl ?_ ?_
    ·rfl
    ·rfl
   ·refine zp1 ?_
    refine Wa 124 rfl (str_eql _ _) ?_
    refine zs1 ?_
    refine Wi rfl (fun hi5 => ?_) (fun hi5 => ?_)
    ·obtain rfl := oT hi5
     refine zp1 ?_
     refine Wc rfl rfl (dC rfl Tryz.func117 rfl rfl ((i_pop a k h) _ _ rfl)) ?_
     refine zs1 ?_
     refine Ws ?_
     refine zp5 ?_
     refine zs3 ?_
     refine Wi rfl (fun hi6 => ?_) (fun hi6 => ?_)
     ·refine W_region rfl ?_
      refine zy5 ?_
      refine z1 ?_
      refine Wc rfl rfl (dC rfl Tryz.func61 rfl rfl ((i_ok a _ _ _) _ _ rfl)) ?_
      refine Wn ?_
      refine Ws ?_
      refine W_drawU [0, 0, 0, 0, 0, 0, 1, 0, 0, 0, 0, 0, 0, 1, 0, 0, 0, 0, 0, 0, 1, 0, 0, 0, 0, 0, 1, 0, 0, 0, 0, 0, 0, 0, 3] [0, 1, 2, 3, 4, 5, 6, 7, 8, 9, 10, 11, 12, 13, 14, 15, 16, 17, 18, 19, 20, 21, 22, 23, 24, 25, 26, 27, 28, 29, 30, 31, 32, 33, 34] mG rfl (by kernel_rfl) ?_
      iterate 6 refine z3 ?_
      refine z5 ?_
      refine Xc rfl rfl rfl rfl (fun _ => dC rfl Tryz.func166 rfl rfl ((clip_frames _ (by (have := (kx_pop h).1.v.f; omega))) _)) ?_
      iterate 5 refine z3 ?_
      refine z5 ?_
      iterate 6 refine z3 ?_
      refine z5 ?_
      iterate 5 refine z3 ?_
      refine z5 ?_
      iterate 2 refine z3 ?_
      refine Xa 170 rfl (fr1 ⟨_, _, _⟩) ?_
      refine WU_does0 rfl rfl rfl rfl (fun _ => does_append_drawn (lO tG rfl) rfl (lO tG rfl) (lO tG rfl) rfl rfl (by exact ⟨_, rfl⟩) (by exact ⟨rfl, rfl, flatMap_len _ 3 (fun _ => rfl) _, okC_flat _ (fun _ => rfl) _⟩) (by exact flatMap_len _ 3 (fun _ => rfl) _) (by ((simp_all; omega))) (by ((simp_all; omega))) (by exact flatL_app (flatL_map' (fun x => by simp) _) (flatL_map' (fun x => by simp) _))) ?_
      refine Xa 171 rfl (sq_append cFrame) ?_
      iterate 4 refine z3 ?_
      refine WU_does3 rfl rfl rfl rfl (does_store (lO tG rfl) rfl rfl rfl rfl rfl rfl rfl) ?_
      refine WU_nil ?_
      refine zp4 ?_
      refine WO_storeB (zs := cPW a (wFr (pOk (wPop k).1 (wPop k).1.r.vm (-5)))) (lO tG rfl) rfl rfl rfl rfl rfl rfl rfl rfl rfl rfl rfl ?_
      refine Wn ?_
      refine W_region rfl ?_
      refine zy2 ?_
      refine Wc rfl rfl (dC rfl Tryz.func109 rfl rfl ((i_next a _ _) _ _ rfl)) ?_
      refine Wn ?_
      refine leafMsn rfl rfl ?_ ?_
      ·rfl
      ·(show cPW a _ = cPW a (wCatch k); rw [wCatch, if_pos (oT hi6)])
     ·refine Wj ?_
      refine Ws ?_
      refine W_drawU [0, 0, 0, 0, 0, 0, 1, 0, 0, 0, 0, 0, 0, 1, 0, 0, 0, 0, 0, 0, 1, 0, 0, 0, 0, 0, 1, 0, 0, 0, 0, 0, 0, 0, 3] [0, 1, 2, 3, 4, 5, 6, 7, 8, 9, 10, 11, 12, 13, 14, 15, 16, 17, 18, 19, 20, 21, 22, 23, 24, 25, 26, 27, 28, 29, 30, 31, 32, 33, 34] mG rfl (by kernel_rfl) ?_
      iterate 6 refine z3 ?_
      refine z5 ?_
      refine Xc rfl rfl rfl rfl (fun _ => dC rfl Tryz.func166 rfl rfl ((clip_frames _ (by (have := (kx_pop h).1.v.f; omega))) _)) ?_
      iterate 5 refine z3 ?_
      refine z5 ?_
      iterate 6 refine z3 ?_
      refine z5 ?_
      iterate 5 refine z3 ?_
      refine z5 ?_
      iterate 2 refine z3 ?_
      refine Xa 170 rfl (fr1 ⟨_, _, _⟩) ?_
      refine WU_does0 rfl rfl rfl rfl (fun _ => does_append_drawn (lO tG rfl) rfl (lO tG rfl) (lO tG rfl) rfl rfl (by exact ⟨_, rfl⟩) (by exact ⟨rfl, rfl, flatMap_len _ 3 (fun _ => rfl) _, okC_flat _ (fun _ => rfl) _⟩) (by exact flatMap_len _ 3 (fun _ => rfl) _) (by ((simp_all; omega))) (by ((simp_all; omega))) (by exact flatL_app (flatL_map' (fun x => by simp) _) (flatL_map' (fun x => by simp) _))) ?_
      refine Xa 171 rfl (sq_append cFrame) ?_
      iterate 4 refine z3 ?_
      refine WU_does3 rfl rfl rfl rfl (does_store (lO tG rfl) rfl rfl rfl rfl rfl rfl rfl) ?_
      refine WU_nil ?_
      refine zp4 ?_
      refine WO_storeB (zs := cPW a (wFr (wPop k).1)) (lO tG rfl) rfl rfl rfl rfl rfl rfl rfl rfl rfl rfl rfl ?_
      refine Wn ?_
      refine W_region rfl ?_
      refine zy2 ?_
      refine Wc rfl rfl (dC rfl Tryz.func109 rfl rfl ((i_next a _ _) _ _ rfl)) ?_
      refine Wn ?_
      refine leafMsn rfl rfl ?_ ?_
      ·rfl
      ·(show cPW a _ = cPW a (wCatch k); rw [wCatch, if_neg (oF hi6)])
    ·refine zp1 ?_
     refine Wa 184 rfl (str_eql _ _) ?_
     refine zs1 ?_
     refine Wi rfl (fun hi7 => ?_) (fun hi7 => ?_)
     ·obtain rfl := oT hi7
      refine zp1 ?_
      refine Wc rfl rfl (dC rfl Tryz.func117 rfl rfl ((i_pop a k h) _ _ rfl)) ?_
      refine zs1 ?_
      refine W_region rfl ?_
      refine zy5 ?_
      refine zy2 ?_
      refine Wc rfl rfl (dC rfl Tryz.func61 rfl rfl ((i_ok a _ _ _) _ _ rfl)) ?_
      refine Wn ?_
      refine leafMsn rfl rfl ?_ ?_
      ·rfl
      ·rfl
     ·refine zp1 ?_
      refine Wa 196 rfl (str_eql _ _) ?_
      refine zs1 ?_
      refine Wi rfl (fun hi8 => ?_) (fun hi8 => ?_)
      ·obtain rfl := oT hi8
       refine W_region rfl ?_
       refine zy2 ?_
       refine Wc rfl rfl (dC rfl Tryz.func163 rfl rfl ((i_deep a k h 0 (by decide)) _ _ rfl)) ?_
       refine Wc rfl rfl (dC rfl Tryz.func64 rfl rfl ((i_push a _ (kx_deep h _).1 _) _ _ rfl)) ?_
       refine Wn ?_
       refine leafMsn rfl rfl ?_ ?_
       ·rfl
       ·rfl
      ·refine zp1 ?_
       refine Wa 202 rfl (str_eql _ _) ?_
       refine zs1 ?_
       refine Wi rfl (fun hi9 => ?_) (fun hi9 => ?_)
       ·obtain rfl := oT hi9
        refine W_region rfl ?_
        refine zy2 ?_
        refine Wc rfl rfl (dC rfl Tryz.func163 rfl rfl ((i_deep a k h 2 (by decide)) _ _ rfl)) ?_
        refine Wc rfl rfl (dC rfl Tryz.func64 rfl rfl ((i_push a _ (kx_deep h _).1 _) _ _ rfl)) ?_
        refine Wn ?_
        refine leafMsn rfl rfl ?_ ?_
        ·rfl
        ·rfl
       ·refine zp1 ?_
        refine Wa 208 rfl (str_eql _ _) ?_
        refine zs1 ?_
        refine Wi rfl (fun hi10 => ?_) (fun hi10 => ?_)
        ·obtain rfl := oT hi10
         refine zp1 ?_
         refine Wc rfl rfl (dC rfl Tryz.func163 rfl rfl ((i_deep a k h 1 (by decide)) _ _ rfl)) ?_
         refine Wn ?_
         refine zp1 ?_
         refine Wc rfl rfl (dC rfl Tryz.func115 rfl rfl ((i_rpop a _ (kx_deep h _).1) _ _ rfl)) ?_
         refine Wn ?_
         refine W_region rfl ?_
         refine z1 ?_
         refine Wc rfl rfl (dC rfl Tryz.func115 rfl rfl ((i_rpop a _ (kx_rpop (kx_deep h _).1).1) _ _ rfl)) ?_
         refine Wn ?_
         refine leafMsn rfl rfl ?_ ?_
         ·rfl
         ·rfl
        ·refine zp1 ?_
         refine Wa 216 rfl (str_eql _ _) ?_
         refine zs1 ?_
         refine Wi rfl (fun hi11 => ?_) (fun hi11 => ?_)
         ·obtain rfl := oT hi11
          refine W_region rfl ?_
          refine zy2 ?_
          refine Wc rfl rfl (dC rfl Tryz.func117 rfl rfl ((i_pop a k h) _ _ rfl)) ?_
          refine Wc rfl rfl (dC rfl Tryz.func63 rfl rfl ((i_rpush a _ (kx_pop h).1 _) _ _ rfl)) ?_
          refine Wn ?_
          refine leafMsn rfl rfl ?_ ?_
          ·rfl
          ·rfl
         ·refine zp1 ?_
          refine Wa 222 rfl (str_eql _ _) ?_
          refine zs1 ?_
          refine Wi rfl (fun hi12 => ?_) (fun hi12 => ?_)
          ·obtain rfl := oT hi12
           refine W_region rfl ?_
           refine zy2 ?_
           refine Wc rfl rfl (dC rfl Tryz.func115 rfl rfl ((i_rpop a k h) _ _ rfl)) ?_
           refine Wc rfl rfl (dC rfl Tryz.func64 rfl rfl ((i_push a _ (kx_rpop h).1 _) _ _ rfl)) ?_
           refine Wn ?_
           refine leafMsn rfl rfl ?_ ?_
           ·rfl
           ·rfl
          ·refine zp1 ?_
           refine Wa 228 rfl (str_eql _ _) ?_
           refine zs1 ?_
           refine Wi rfl (fun hi13 => ?_) (fun hi13 => ?_)
           ·obtain rfl := oT hi13
            refine W_region rfl ?_
            refine zy2 ?_
            refine Wc rfl rfl (dC rfl Tryz.func163 rfl rfl ((i_deep a k h 0 (by decide)) _ _ rfl)) ?_
            refine Wc rfl rfl (dC rfl Tryz.func64 rfl rfl ((i_push a _ (kx_deep h _).1 _) _ _ rfl)) ?_
            refine Wn ?_
            refine leafMsn rfl rfl ?_ ?_
            ·rfl
            ·rfl
           ·refine zp1 ?_
            refine Wa 234 rfl (str_eql _ _) ?_
            refine zs1 ?_
            refine Wi rfl (fun hi14 => ?_) (fun hi14 => ?_)
            ·obtain rfl := oT hi14
             refine zp1 ?_
             refine Wc rfl rfl (dC rfl Tryz.func117 rfl rfl ((i_pop a k h) _ _ rfl)) ?_
             refine z1 ?_
             refine Wc rfl rfl (dC rfl Tryz.func117 rfl rfl ((i_pop a _ (kx_pop h).1) _ _ rfl)) ?_
             refine zs2 ?_
             refine zp2 ?_
             refine Wc rfl rfl (dC rfl Tryz.func63 rfl rfl ((i_rpush a _ (kx_pop (kx_pop h).1).1 _) _ _ rfl)) ?_
             refine Wn ?_
             refine W_region rfl ?_
             refine zy2 ?_
             refine Wc rfl rfl (dC rfl Tryz.func63 rfl rfl ((i_rpush a _ (kx_rpush (kx_pop (kx_pop h).1).1 (kx_pop (kx_pop h).1).2) _) _ _ rfl)) ?_
             refine Wn ?_
             refine leafMsn rfl rfl ?_ ?_
             ·rfl
             ·rfl
            ·refine zp1 ?_
             refine Wa 246 rfl (str_eql _ _) ?_
             refine zs1 ?_
             refine Wi rfl (fun hi15 => ?_) (fun hi15 => ?_)
             ·obtain rfl := oT hi15
              refine zp1 ?_
              refine Wc rfl rfl (dC rfl Tryz.func115 rfl rfl ((i_rpop a k h) _ _ rfl)) ?_
              refine z1 ?_
              refine Wc rfl rfl (dC rfl Tryz.func115 rfl rfl ((i_rpop a _ (kx_rpop h).1) _ _ rfl)) ?_
              refine zs2 ?_
              refine zp2 ?_
              refine Wc rfl rfl (dC rfl Tryz.func64 rfl rfl ((i_push a _ (kx_rpop (kx_rpop h).1).1 _) _ _ rfl)) ?_
              refine Wn ?_
              refine W_region rfl ?_
              refine zy2 ?_
              refine Wc rfl rfl (dC rfl Tryz.func64 rfl rfl ((i_push a _ (kx_push (kx_rpop (kx_rpop h).1).1 (kx_rpop (kx_rpop h).1).2) _) _ _ rfl)) ?_
              refine Wn ?_
              refine leafMsn rfl rfl ?_ ?_
              ·rfl
              ·rfl
             ·refine Wj ?_
              refine leafMsn rfl rfl ?_ ?_
              ·rfl
              ·(rw [wMore, if_neg (oF hi1), if_neg (oF hi3), if_neg (oF hi4), if_neg (oF hi5), if_neg (oF hi7), if_neg (oF hi8), if_neg (oF hi9), if_neg (oF hi10), if_neg (oF hi11), if_neg (oF hi12), if_neg (oF hi13), if_neg (oF hi14), if_neg (oF hi15)])
end
end Go.Proofs.YtobhnjnffnbbkaaGreatDoor
namespace Go.Proofs.YtobhnjnffnbbkaaGreatDoor
open Go.RowKit
set_option maxRecDepth 100000
set_option maxHeartbeats 4000000
def etV : Value := .iface 178 (.agg #[.pointer (some ⟨5, 78, none⟩)])
def globs (a : Addr) : List Ob := [.glob 0 (haltV a), .glob 1 etV]
theorem globs_ok (a : Addr) : ∀ o ∈ globs a, ∃ g u, o = .glob g u := fun o h => by
 unfold globs at h
 simp at h
 rcases h with h | h <;> exact ⟨_, _, h⟩
theorem globs_at {a : Addr} {H : List Ob} (i j : Nat) (h1 : H[i]? = some (.glob 0 (haltV a))) (h2 : H[j]? = some (.glob 1 etV)) : ∀ o ∈ globs a, ∃ k : Nat, H[k]? = some o := fun o h => by
 unfold globs at h
 simp at h
 rcases h with h | h
 ·subst h; exact ⟨i, h1⟩
 ·subst h; exact ⟨j, h2⟩
section
variable (a : Addr) (k : PW) {M : Nat} (h : KX M k) (hM : M ≤ 900000)
include h hM
theorem i_control (name : Str) : ∀ (H : List Ob) (i : Nat), H[i]? = some (.cells (cPW a k) 80) → (∀ o ∈ globs a, ∃ k : Nat, H[k]? = some o) → HC Tryz.prog 68 (.ptr i 0 :: [str name]) H (.tup []) (H.set i (.cells (cPW a (wControl k name)) 80)) := by
 have p1 := kx_pop h
 have p2 := kx_pop p1.1
 have u1 := kx_push p2.1 p2.2
 have u2 := kx_push u1 p1.2
 have u3 := kx_ip u2 (fit_w64 ((wPush (wPush (wPop (wPop k).1).1 (wPop (wPop k).1).2) (wPop k).2).r.ip + 8))
 have v1 := kx_pop u3
 have v2 := kx_pop v1.1
 refine mutG_of_W (globs_ok a) tG (rs := []) Tryz.func68 rfl rfl rfl (by simp) (by simp) (by simp) (by simp) (fun B => ?_)
 refine zu1 ?_
 refine Wl ?_
 refine Ws ?_
 refine Wl ?_
 refine Ws ?_
 refine Wl ?_
 refine Ws ?_
 refine Wl ?_
 refine Ws ?_
 refine Wl ?_
 refine Ws ?_
 refine Wl ?_
 refine Ws ?_
 refine Wl ?_
 refine Ws ?_
 refine Wl ?_
 refine Ws ?_
 refine Wl ?_
 refine Ws ?_
 refine Wl ?_
 refine Ws ?_
 refine Wl ?_
 refine Ws ?_
 refine Wl ?_
 iterate 2 refine Ws ?_
 refine zp1 ?_
 refine Wa 10 rfl (str_eql _ _) ?_
 refine zs1 ?_
 refine Wi rfl (fun hi1 => ?_) (fun hi1 => ?_)
 ·obtain rfl := oT hi1
  refine W_exit ?_
  refine W_region rfl ?_
  refine z1 ?_
  refine Wc rfl rfl (dC rfl Tryz.func114 rfl rfl ((i_does a k h hM) _ _ rfl)) ?_
  refine Wn ?_
  refine zp2 ?_
  refine Wc rfl rfl (dC rfl Tryz.func115 rfl rfl ((i_rpop a _ (by exact kx_does h)) _ _ rfl)) ?_
  refine zy3 ?_
  refine WO_storeB (zs := cPW a (wExit (wDoes k))) (lO tG rfl) rfl rfl rfl rfl rfl rfl rfl rfl rfl rfl rfl ?_
  refine Wn ?_
  refine W_exit ?_
  refine leafMsn rfl rfl ?_ ?_
  ·rfl
  ·rfl
 ·refine Wj ?_
  refine Ws ?_
  refine zp1 ?_
  refine Wa 12 rfl (str_eql _ _) ?_
  refine zs1 ?_
  refine Wi rfl (fun hi2 => ?_) (fun hi2 => ?_)
  ·obtain rfl := oT hi2
   refine W_exit ?_
   refine zp2 ?_
   refine Wc rfl rfl (dC rfl Tryz.func115 rfl rfl ((i_rpop a _ (by exact h)) _ _ rfl)) ?_
   refine zy3 ?_
   refine WO_storeB (zs := cPW a (wExit k)) (lO tG rfl) rfl rfl rfl rfl rfl rfl rfl rfl rfl rfl rfl ?_
   refine Wn ?_
   refine W_exit ?_
   refine leafMsn rfl rfl ?_ ?_
   ·rfl
   ·rfl
  ·refine Wj ?_
   refine Ws ?_
   refine zp1 ?_
   refine Wa 14 rfl (str_eql _ _) ?_
   refine zs1 ?_
   refine Wi rfl (fun hi3 => ?_) (fun hi3 => ?_)
   ·obtain rfl := oT hi3
    refine W_exit ?_
    refine Ws ?_
    refine zp5 ?_
    refine zy2 ?_
    refine Wc rfl rfl (dC rfl Tryz.func34 rfl rfl ((i_fetch a k h _ h.ip) _ _ rfl)) ?_
    refine Wc rfl rfl (dC rfl Tryz.func64 rfl rfl ((i_push a _ (kx_fetch h _).1 _) _ _ rfl)) ?_
    refine Wn ?_
    refine W_region rfl ?_
    refine zy5 ?_
    refine zy4 ?_
    refine WO_storeB (zs := cPW a (wLit k)) (lO tG rfl) rfl rfl rfl rfl rfl rfl rfl rfl rfl rfl rfl ?_
    refine Wn ?_
    refine W_exit ?_
    refine leafMsn rfl rfl ?_ ?_
    ·rfl
    ·rfl
   ·refine Wj ?_
    refine Ws ?_
    refine zp1 ?_
    refine Wa 16 rfl (str_eql _ _) ?_
    refine zs1 ?_
    refine Wi rfl (fun hi4 => ?_) (fun hi4 => ?_)
    ·obtain rfl := oT hi4
     refine W_exit ?_
     refine zp1 ?_
     refine Wc rfl rfl (dC rfl Tryz.func116 rfl rfl ((i_skip a k h true) _ _ rfl)) ?_
     refine Wn ?_
     refine W_exit ?_
     refine leafMsn rfl rfl ?_ ?_
     ·rfl
     ·rfl
    ·refine Wj ?_
     refine Ws ?_
     refine zp1 ?_
     refine Wa 18 rfl (str_eql _ _) ?_
     refine zs1 ?_
     refine Wi rfl (fun hi5 => ?_) (fun hi5 => ?_)
     ·obtain rfl := oT hi5
      refine W_exit ?_
      refine zp2 ?_
      refine Wc rfl rfl (dC rfl Tryz.func117 rfl rfl ((i_pop a k h) _ _ rfl)) ?_
      refine z1 ?_
      refine Wc rfl rfl (dC rfl Tryz.func116 rfl rfl ((i_skip a _ p1.1 _) _ _ rfl)) ?_
      refine Wn ?_
      refine W_exit ?_
      refine leafMsn rfl rfl ?_ ?_
      ·rfl
      ·rfl
     ·refine Wj ?_
      refine Ws ?_
      refine zp1 ?_
      refine Wa 20 rfl (str_eql _ _) ?_
      refine zs1 ?_
      refine Wi rfl (fun hi6 => ?_) (fun hi6 => ?_)
      ·obtain rfl := oT hi6
       refine W_exit ?_
       refine Ws ?_
       refine zp1 ?_
       refine Wc rfl rfl (dC rfl Tryz.func117 rfl rfl ((i_pop a k h) _ _ rfl)) ?_
       refine z1 ?_
       refine Wc rfl rfl (dC rfl Tryz.func117 rfl rfl ((i_pop a _ p1.1) _ _ rfl)) ?_
       refine zs2 ?_
       refine zu3 ?_
       refine Wi rfl (fun hi7 => ?_) (fun hi7 => ?_)
       ·have q7 : (wPop k).2 = (wPop (wPop k).1).2 := by (try simp only [dnL] at *); exact hi7
        refine zp1 ?_
        refine Wc rfl rfl (dC rfl Tryz.func116 rfl rfl ((i_skip a _ p2.1 true) _ _ rfl)) ?_
        refine Wn ?_
        refine Wq ?_
        refine leafMs rfl rfl ?_ ?_
        ·rfl
        ·show cPW a _ = cPW a (wQDo k); rw [wQDo, if_pos q7]
       ·have q7 : ¬ (wPop k).2 = (wPop (wPop k).1).2 := by (try simp only [dnL] at *); exact hi7
        refine zp2 ?_
        refine Wc rfl rfl (dC rfl Tryz.func64 rfl rfl ((i_push a _ p2.1 _) _ _ rfl)) ?_
        refine Wn ?_
        refine W_region rfl ?_
        refine zy2 ?_
        refine Wc rfl rfl (dC rfl Tryz.func64 rfl rfl ((i_push a _ u1 _) _ _ rfl)) ?_
        refine Wn ?_
        refine W_region rfl ?_
        refine zy5 ?_
        refine zy4 ?_
        refine WO_storeB (zs := cPW a (wIp (wPush (wPush (wPop (wPop k).1).1 (wPop (wPop k).1).2) (wPop k).2) (W64 ((wPush (wPush (wPop (wPop k).1).1 (wPop (wPop k).1).2) (wPop k).2).r.ip + 8)))) (lO tG rfl) rfl rfl rfl rfl rfl rfl rfl rfl rfl rfl rfl ?_
        refine Wn ?_
        refine Ws ?_
        refine zp1 ?_
        refine Wc rfl rfl (dC rfl Tryz.func117 rfl rfl ((i_pop a _ (by exact u3)) _ _ rfl)) ?_
        refine z1 ?_
        refine Wc rfl rfl (dC rfl Tryz.func117 rfl rfl ((i_pop a _ (by exact v1.1)) _ _ rfl)) ?_
        refine zs2 ?_
        refine zp2 ?_
        refine Wc rfl rfl (dC rfl Tryz.func63 rfl rfl ((i_rpush a _ (by exact v2.1) _) _ _ rfl)) ?_
        refine Wn ?_
        refine W_region rfl ?_
        refine zy2 ?_
        refine Wc rfl rfl (dC rfl Tryz.func63 rfl rfl ((i_rpush a _ (by exact kx_rpush v2.1 v2.2) _) _ _ rfl)) ?_
        refine Wn ?_
        refine W_exit ?_
        refine leafMsn rfl rfl ?_ ?_
        ·rfl
        ·(show cPW a _ = cPW a (wQDo k); rw [wQDo, if_neg q7]; rfl)
      ·refine Wj ?_
       refine Ws ?_
       refine zp1 ?_
       refine Wa 22 rfl (str_eql _ _) ?_
       refine zs1 ?_
       refine Wi rfl (fun hi8 => ?_) (fun hi8 => ?_)
       ·obtain rfl := oT hi8
        refine W_exit ?_
        refine Ws ?_
        refine zp1 ?_
        refine Wc rfl rfl (dC rfl Tryz.func117 rfl rfl ((i_pop a _ (by exact h)) _ _ rfl)) ?_
        refine z1 ?_
        refine Wc rfl rfl (dC rfl Tryz.func117 rfl rfl ((i_pop a _ (by exact p1.1)) _ _ rfl)) ?_
        refine zs2 ?_
        refine zp2 ?_
        refine Wc rfl rfl (dC rfl Tryz.func63 rfl rfl ((i_rpush a _ (by exact p2.1) _) _ _ rfl)) ?_
        refine Wn ?_
        refine W_region rfl ?_
        refine zy2 ?_
        refine Wc rfl rfl (dC rfl Tryz.func63 rfl rfl ((i_rpush a _ (by exact kx_rpush p2.1 p2.2) _) _ _ rfl)) ?_
        refine Wn ?_
        refine W_exit ?_
        refine leafMsn rfl rfl ?_ ?_
        ·rfl
        ·rfl
       ·refine Wj ?_
        refine Ws ?_
        refine zp1 ?_
        refine Wa 24 rfl (str_eql _ _) ?_
        refine zs1 ?_
        refine Wi rfl (fun hi9 => ?_) (fun hi9 => ?_)
        ·obtain rfl := oT hi9
         refine W_exit ?_
         refine zp1 ?_
         refine Wc rfl rfl (dC rfl Tryz.func118 rfl rfl ((i_loop a k h 1) _ _ rfl)) ?_
         refine Wn ?_
         refine W_exit ?_
         refine leafMsn rfl rfl ?_ ?_
         ·rfl
         ·rfl
        ·refine Wj ?_
         refine Ws ?_
         refine zp1 ?_
         refine Wa 26 rfl (str_eql _ _) ?_
         refine zs1 ?_
         refine Wi rfl (fun hi10 => ?_) (fun hi10 => ?_)
         ·obtain rfl := oT hi10
          refine W_exit ?_
          refine zp2 ?_
          refine Wc rfl rfl (dC rfl Tryz.func117 rfl rfl ((i_pop a k h) _ _ rfl)) ?_
          refine Wc rfl rfl (dC rfl Tryz.func118 rfl rfl ((i_loop a _ p1.1 _) _ _ rfl)) ?_
          refine Wn ?_
          refine W_exit ?_
          refine leafMsn rfl rfl ?_ ?_
          ·rfl
          ·rfl
         ·refine Wj ?_
          refine zp1 ?_
          refine Wa 28 rfl (str_eql _ _) ?_
          refine zs1 ?_
          refine Wi rfl (fun hi11 => ?_) (fun hi11 => ?_)
          ·obtain rfl := oT hi11
           refine W_exit ?_
           refine zp1 ?_
           refine Wd rfl rfl (does_loadG (j := 1) (lO tG rfl) rfl rfl rfl) ?_
           refine zy2 ?_
           refine WO_storeB (zs := cPW a (wErr k .halt)) (lO tG rfl) rfl rfl rfl rfl rfl rfl rfl rfl rfl rfl rfl ?_
           refine Wn ?_
           refine W_exit ?_
           refine leafMn rfl rfl ?_ ?_
           ·rfl
           ·rfl
          ·refine Wj ?_
           refine W_exit ?_
           refine zp2 ?_
           refine Wc rfl rfl (dC rfl Tryz.func119 rfl rfl ((i_more a k h hM name) _ _ rfl)) ?_
           refine Wn ?_
           refine W_exit ?_
           refine leafMsn rfl rfl ?_ ?_
           ·rfl
           ·(rw [wControl, if_neg (oF hi1), if_neg (oF hi2), if_neg (oF hi3), if_neg (oF hi4), if_neg (oF hi5), if_neg (oF hi6), if_neg (oF hi8), if_neg (oF hi9), if_neg (oF hi10), if_neg (oF hi11)])
end
theorem pOk_vm {k : PW} {e : Int} : (pOk k k.r.vm e).r = k.r := by unfold pOk; cases k.err <;> dsimp only; split <;> rfl
section
variable (a : Addr) (k : PW) {M : Nat} (h : KX M k) (hM : M ≤ 900000) (hv : VmOk k.r.vm)
include h hM hv
theorem i_word (xt : Int) (hx : Fit64 xt) : ∀ (H : List Ob) (i : Nat), H[i]? = some (.cells (cPW a k) 80) → (∀ o ∈ globs a, ∃ k : Nat, H[k]? = some o) → HC Tryz.prog 35 (.ptr i 0 :: [i64 xt]) H (.tup []) (H.set i (.cells (cPW a (wWord k xt)) 80)) := by
 have h1 := kx_ok h h.v (vmKind k.r.vm xt).2
 have hN := names_130
 have hv1 : VmOk (pOk k k.r.vm (vmKind k.r.vm xt).2).r.vm := by rw [pOk_vm]; exact hv
 refine mutG_of_W (globs_ok a) tG (rs := []) Tryz.func35 rfl rfl rfl (by simp) (by simp) (by simp) (by simp) (fun B => ?_)
 refine zp5 ?_
 refine z1 ?_
 refine Wc rfl rfl (dC rfl Tryz.func62 rfl rfl ((vm_Kind k.r.vm xt (by have := h.v.b; omega) hx) _)) ?_
 refine zs5 ?_
 refine Ws ?_
 refine zp5 ?_
 refine zy2 ?_
 refine Wc rfl rfl (dC rfl Tryz.func61 rfl rfl ((i_ok a k _ _) _ _ rfl)) ?_
 refine zs1 ?_
 refine Wi rfl (fun hi1 => ?_) (fun hi1 => ?_)
 ·have q1 : ¬ isOk (pOk k k.r.vm (vmKind k.r.vm xt).2).err = true := by simpa using hi1
  refine Wq ?_
  refine leafMs rfl rfl ?_ ?_
  ·rfl
  ·unfold wWord; rw [if_neg q1]
 ·have q1 : isOk (pOk k k.r.vm (vmKind k.r.vm xt).2).err = true := by simpa using hi1
  have hk := kind_ok (pOk_ok (isOk_iff.1 q1)).2
  unfold kindOk at hk
  refine Wj ?_
  refine Wl ?_
  refine zu3 ?_
  refine Wi rfl (fun hi2 => ?_) (fun hi2 => ?_)
  ·have q2 : 300 ≤ (vmKind k.r.vm xt).1 := oT hi2
   refine W_region rfl ?_
   refine zy5 ?_
   refine z1 ?_
   refine Wc rfl rfl (dC rfl Tryz.func61 rfl rfl ((i_ok a _ _ _) _ _ rfl)) ?_
   refine Wn ?_
   refine leafMsn rfl rfl ?_ ?_
   ·rfl
   ·unfold wWord; rw [if_pos q1]; rw [if_pos q2]
  ·have q2 : ¬ 300 ≤ (vmKind k.r.vm xt).1 := oF hi2
   refine zu3 ?_
   refine Wi rfl (fun hi3 => ?_) (fun hi3 => ?_)
   ·have q3 : (vmKind k.r.vm xt).1 = 256 := by simpa using hi3
    refine zp5 ?_
    refine z1 ?_
    refine Wc rfl rfl (dC rfl Tryz.func63 rfl rfl ((i_rpush a _ h1 _) _ _ rfl)) ?_
    refine Wn ?_
    refine W_region rfl ?_
    refine zy5 ?_
    refine z1 ?_
    refine WO_storeB (zs := cPW a (wIp (wRPush (pOk k k.r.vm (vmKind k.r.vm xt).2) (pOk k k.r.vm (vmKind k.r.vm xt).2).r.ip) (W64 (xt + 8)))) (lO tG rfl) rfl rfl rfl rfl rfl rfl rfl rfl rfl rfl rfl ?_
    refine Wn ?_
    refine leafMsn rfl rfl ?_ ?_
    ·rfl
    ·unfold wWord; rw [if_pos q1]; rw [if_neg q2, if_pos q3]
   ·have q3 : ¬ (vmKind k.r.vm xt).1 = 256 := by simpa using hi3
    refine zu3 ?_
    refine Wi rfl (fun hi4 => ?_) (fun hi4 => ?_)
    ·have q4 : (vmKind k.r.vm xt).1 = 257 := by simpa using hi4
     refine W_region rfl ?_
     refine zy3 ?_
     refine Wc rfl rfl (dC rfl Tryz.func64 rfl rfl ((i_push a _ h1 _) _ _ rfl)) ?_
     refine Wn ?_
     refine leafMsn rfl rfl ?_ ?_
     ·rfl
     ·unfold wWord; rw [if_pos q1]; rw [if_neg q2, if_neg q3, if_pos q4]
    ·have q4 : ¬ (vmKind k.r.vm xt).1 = 257 := by simpa using hi4
     refine zu3 ?_
     refine Wi rfl (fun hi5 => ?_) (fun hi5 => ?_)
     ·have q5 : (vmKind k.r.vm xt).1 = 258 := by simpa using hi5
      refine W_region rfl ?_
      refine zy4 ?_
      refine Wc rfl rfl (dC rfl Tryz.func34 rfl rfl ((i_fetch a _ h1 _ (fit_w64 _)) _ _ rfl)) ?_
      refine Wc rfl rfl (dC rfl Tryz.func64 rfl rfl ((i_push a _ (kx_fetch h1 _).1 _) _ _ rfl)) ?_
      refine Wn ?_
      refine leafMsn rfl rfl ?_ ?_
      ·rfl
      ·unfold wWord; rw [if_pos q1]; rw [if_neg q2, if_neg q3, if_neg q4, if_pos q5]
     ·have q5 : ¬ (vmKind k.r.vm xt).1 = 258 := by simpa using hi5
      refine zu3 ?_
      refine Wi rfl (fun hi6 => ?_) (fun hi6 => ?_)
      ·have q6 : (vmKind k.r.vm xt).1 = 259 := by simpa using hi6
       refine zp3 ?_
       refine Wc rfl rfl (dC rfl Tryz.func34 rfl rfl ((i_fetch a _ h1 _ (fit_w64 _)) _ _ rfl)) ?_
       refine zs1 ?_
       refine zp3 ?_
       refine Wc rfl rfl (dC rfl Tryz.func64 rfl rfl ((i_push a _ (kx_fetch h1 _).1 _) _ _ rfl)) ?_
       refine Wn ?_
       refine zp5 ?_
       refine z1 ?_
       refine Wc rfl rfl (dC rfl Tryz.func63 rfl rfl ((i_rpush a _ (kx_push (kx_fetch h1 _).1 (fit_w64 _)) _) _ _ rfl)) ?_
       refine Wn ?_
       refine W_region rfl ?_
       refine zy5 ?_
       refine WO_storeB (zs := cPW a (wIp (wRPush (wPush (wFetch (pOk k k.r.vm (vmKind k.r.vm xt).2) (W64 (xt + 8))).1 (W64 (xt + 16))) (wPush (wFetch (pOk k k.r.vm (vmKind k.r.vm xt).2) (W64 (xt + 8))).1 (W64 (xt + 16))).r.ip) (wFetch (pOk k k.r.vm (vmKind k.r.vm xt).2) (W64 (xt + 8))).2)) (lO tG rfl) rfl rfl rfl rfl rfl rfl rfl rfl rfl rfl rfl ?_
       refine Wn ?_
       refine leafMsn rfl rfl ?_ ?_
       ·rfl
       ·unfold wWord; rw [if_pos q1]; rw [if_neg q2, if_neg q3, if_neg q4, if_neg q5, if_pos q6]
      ·have q6 : ¬ (vmKind k.r.vm xt).1 = 259 := by simpa using hi6
       refine zu3 ?_
       refine Wi rfl (fun hi7 => ?_) (fun hi7 => ?_)
       ·have q7 : (vmKind k.r.vm xt).1 = 260 := by simpa using hi7
        refine W_region rfl ?_
        refine zy3 ?_
        refine Wc rfl rfl (dC rfl Tryz.func65 rfl rfl ((i_machine a _ h1 _ (fit_w64 _)) _ _ rfl)) ?_
        refine Wn ?_
        refine leafMsn rfl rfl ?_ ?_
        ·rfl
        ·unfold wWord; rw [if_pos q1]; rw [if_neg q2, if_neg q3, if_neg q4, if_neg q5, if_neg q6, if_pos q7]
       ·have q7 : ¬ (vmKind k.r.vm xt).1 = 260 := by simpa using hi7
        refine zp1 ?_
        refine Wc rfl rfl (dC rfl Tryz.func66 rfl rfl ((prim_Does _) _)) ?_
        refine zs1 ?_
        refine Wi rfl (fun hi8 => ?_) (fun hi8 => ?_)
        ·have q8 : 23 ≤ (vmKind k.r.vm xt).1 ∧ (vmKind k.r.vm xt).1 ≤ 129 := oT hi8
         refine W_region rfl ?_
         refine zy5 ?_
         refine zy2 ?_
         refine Wc rfl rfl (dC rfl Tryz.func67 rfl rfl ((prim_Do _ hv1 _) _)) ?_
         refine zy2 ?_
         refine Wc rfl rfl (dC rfl Tryz.func61 rfl rfl ((i_ok a _ _ _) _ _ rfl)) ?_
         refine Wn ?_
         refine leafMsn rfl rfl ?_ ?_
         ·rfl
         ·unfold wWord; rw [if_pos q1]; rw [if_neg q2, if_neg q3, if_neg q4, if_neg q5, if_neg q6, if_neg q7, if_pos q8]
        ·have q8 : ¬ (23 ≤ (vmKind k.r.vm xt).1 ∧ (vmKind k.r.vm xt).1 ≤ 129) := oF hi8
         refine W_region rfl ?_
         refine z1 ?_
         refine Wc rfl rfl (dC rfl Tryz.func69 rfl rfl ((vm_Names) _)) ?_
         refine z1 ?_
         refine Wv tG rfl rfl rfl (by (try simp only [dnL] at *); omega) (iR cStr 1 (fun _ => rfl) [] (by omega)) ?_
         refine z1 ?_
         refine Wc rfl rfl (dC rfl Tryz.func68 rfl rfl (i_control a _ h1 hM _ _ _ rfl (globs_at 1 2 rfl rfl))) ?_
         refine Wn ?_
         refine leafMsn rfl rfl ?_ ?_
         ·rfl
         ·unfold wWord; rw [if_pos q1]; rw [if_neg q2, if_neg q3, if_neg q4, if_neg q5, if_neg q6, if_neg q7, if_neg q8]
end
end Go.Proofs.YtobhnjnffnbbkaaGreatDoor
namespace Go.Proofs.YtobhnjnffnbbkaaGreatDoor
open Go.RowKit
set_option maxRecDepth 100000
def Cd (e : Int) : Prop := -300 ≤ e ∧ e ≤ 0
theorem cd_fit {e : Int} (h : Cd e) : Fit64 e := by unfold Cd at h; unfold Fit64; omega
theorem cd_m (n : Nat) (h : n ≤ 300) : Cd (-(n : Int)) := by unfold Cd; omega
theorem cd0 : Cd 0 := by unfold Cd; omega
section
variable {α β γ : Type} {c : Prop} [Decidable c]
theorem cd_ite {a b : Int} (ha : Cd a) (hb : Cd b) : Cd (if c then a else b) := by split <;> assumption
theorem cd_ite2 {a b : α × Int} (ha : Cd a.2) (hb : Cd b.2) : Cd (if c then a else b).2 := by split <;> assumption
theorem cd_ite3 {a b : α × β × Int} (ha : Cd a.2.2) (hb : Cd b.2.2) : Cd (if c then a else b).2.2 := by split <;> assumption
theorem cd_ite4 {a b : α × β × γ × Int} (ha : Cd a.2.2.2) (hb : Cd b.2.2.2) : Cd (if c then a else b).2.2.2 := by split <;> assumption
end
theorem cd_n (n : Nat) (h : Nat.ble n 300 = true) : Cd (-(n : Int)) := cd_m n (Nat.le_of_ble_eq_true h)
theorem cd_div (a b : Int) : Cd (divS a b).2.2 := by unfold divS; exact cd_ite3 (cd_n 10 rfl) cd0
theorem cd_udiv (a b c : Int) : Cd (udivS a b c).2.2 := by unfold udivS; exact cd_ite3 (cd_n 10 rfl) (cd_ite3 (cd_n 11 rfl) cd0)
theorem cd_sdiv (a b c : Int) : Cd (sdivS a b c).2.2 := by unfold sdivS; exact cd_ite3 (cd_n 10 rfl) (cd_ite3 cd0 (cd_n 11 rfl))
theorem cd_fdiv (a b c : Int) : Cd (fdivS a b c).2.2 := by unfold fdivS; exact cd_ite3 (cd_n 10 rfl) (cd_ite3 cd0 (cd_n 11 rfl))
theorem cd_two (name : Str) (a b : Int) : Cd (twoS name a b).2.2 := by
 unfold twoS
 rcases op2 name with _ | o
 ·exact cd0
 ·cases o <;> first | exact cd_div a b | exact cd0
theorem cd_reckon {name : Str} {x : List Int} {r : List Int × Int} (h : reckonS name x = some r) : Cd r.2 := by
 unfold reckonS at h
 rcases some_ite h with rfl | h
 ·exact cd_div _ _
 rcases some_ite h with rfl | h
 ·exact cd_fdiv _ _ _
 rcases some_ite h with rfl | h
 ·exact cd_fdiv _ _ _
 rcases some_ite h with rfl | h
 ·exact cd0
 rcases some_ite h with rfl | h
 ·exact cd0
 rcases some_ite h with rfl | h
 ·exact cd_udiv _ _ _
 rcases some_ite h with rfl | h
 ·exact cd_sdiv _ _ _
 rcases some_ite h with rfl | h
 ·exact cd_fdiv _ _ _
 iterate 7
  rcases some_ite h with rfl | h
  ·exact cd0
 cases h
theorem cd_cell (m : VMem) (a : Int) : Cd (memCellAt m a) := by unfold memCellAt; exact cd_ite (cd_ite cd0 (cd_n 23 rfl)) (cd_n 9 rfl)
theorem cd_fetch (m : VMem) (a : Int) : Cd (memFetch m a).2 := by unfold memFetch; exact cd_ite2 cd0 (cd_cell _ _)
theorem cd_fetchB (m : VMem) (a : Int) : Cd (memFetchByte m a).2 := by unfold memFetchByte; exact cd_ite2 cd0 (cd_n 9 rfl)
theorem cd_write (m : VMem) (a : Int) (b : List UInt8) : Cd (memWrite m a b).2 := by unfold memWrite; exact cd_ite2 (cd_ite2 cd0 cd0) (cd_n 9 rfl)
theorem cd_store (m : VMem) (a n : Int) : Cd (memStore m a n).2 := by unfold memStore; exact cd_ite2 (cd_write _ _ _) (cd_cell _ _)
theorem cd_text (m : VMem) (a n : Int) : Cd (memText m a n).2 := by unfold memText; exact cd_ite2 cd0 (cd_n 9 rfl)
theorem cd_stated (v : VVm) (s b : Int) : Cd (stated v s b) := by unfold stated; exact cd_ite (cd_ite (cd_n 24 rfl) cd0) (cd_fetch _ _)
theorem cd_memory {v : VVm} {name : Str} {x : List Int} {r : VVm × List Int × Int} (h : memoryS v name x = some r) : Cd r.2.2 := by
 unfold memoryS at h
 rcases some_ite h with rfl | h
 ·exact cd_fetch _ _
 rcases some_ite h with rfl | h
 ·exact cd_fetchB _ _
 rcases some_ite h with rfl | h
 ·exact cd_store _ _ _
 rcases some_ite h with rfl | h
 ·exact cd_write _ _ _
 rcases some_ite h with rfl | h
 ·unfold pPut pAddTo; exact cd_ite2 (cd_store _ _ _) (cd_fetch _ _)
 rcases some_ite h with rfl | h
 ·unfold pFetch2; exact cd_ite3 (cd_fetch _ _) (cd_fetch _ _)
 rcases some_ite h with rfl | h
 ·unfold pPut pStore2; exact cd_ite2 (cd_store _ _ _) (cd_store _ _ _)
 rcases some_ite h with rfl | h
 ·unfold pPut memFill; exact cd_ite2 (cd_write _ _ _) (cd_n 9 rfl)
 rcases some_ite h with rfl | h
 ·unfold pPut memMove; exact cd_ite2 (cd_write _ _ _) (cd_text _ _ _)
 rcases some_ite h with rfl | h
 ·exact cd_fetchB _ _
 rcases some_ite h with rfl | h
 ·exact cd_store _ _ _
 rcases some_ite h with rfl | h
 ·exact cd_store _ _ _
 rcases some_ite h with rfl | h
 ·unfold pSetState; exact cd_ite3 (cd_store _ _ _) (cd_stated _ _ _)
 rcases some_ite h with rfl | h
 ·unfold pAtState; exact cd_ite3 (cd_store _ _ _) (cd_stated _ _ _)
 cases h
theorem cd_lay (m : VMem) (a : Int) (b : List UInt8) : Cd (spcLay m a b).2.2 := by unfold spcLay; exact cd_ite3 (cd_n 8 rfl) cd0
theorem cd_space {v : VVm} {name : Str} {x : List Int} {r : VVm × List Int × Int} (h : spaceS v name x = some r) : Cd r.2.2 := by
 unfold spaceS at h
 rcases some_ite h with rfl | h
 ·unfold pLay pAllot spcAllot; exact cd_ite2 (cd_n 8 rfl) cd0
 rcases some_ite h with rfl | h
 ·unfold pLay spcComma; exact cd_ite3 (cd_lay _ _ _) (cd_n 23 rfl)
 rcases some_ite h with rfl | h
 ·exact cd_lay _ _ _
 rcases some_ite h with rfl | h
 ·exact cd_lay _ _ _
 cases h
theorem cd_textS {v : VVm} {name : Str} {x : List Int} {r : Str × Int} (h : textS v name x = some r) : Cd r.2 := by
 unfold textS at h
 iterate 4
  rcases some_ite h with rfl | h
  ·exact cd0
 rcases some_ite h with rfl | h
 ·exact cd_text _ _ _
 rcases some_ite h with rfl | h
 ·unfold pDot showS; exact cd_ite2 cd0 (cd_n 24 rfl)
 rcases some_ite h with rfl | h
 ·unfold pDot ushowS; exact cd_ite2 cd0 (cd_n 24 rfl)
 cases h
theorem cd_print (v : VVm) {r : Str × Int} (h : Cd r.2) : Cd (pPrint v r).2.2 := by
 unfold pPrint vmPrint; exact cd_ite3 (cd_ite2 (cd_n 260 rfl) cd0) h
theorem cd_hold (p : VPic) (c : Int) : Cd (picHold p c).2 := by unfold picHold; exact cd_ite2 cd0 (cd_n 17 rfl)
theorem cd_digit (p : VPic) (a b c : Int) : Cd (picDigit p a b c).2.2.2 := by unfold picDigit; exact cd_ite4 (cd_n 24 rfl) (cd_ite4 cd0 (cd_hold _ _))
theorem cd_allN : ∀ (n : Nat) (q : VPic) (lo hi base : Int), Cd (picAllN n q lo hi base).2
 | 0, q, lo, hi, base => cd_digit _ _ _ _
 | n + 1, q, lo, hi, base => by unfold picAllN; exact cd_ite2 (cd_digit _ _ _ _) (cd_ite2 cd0 (cd_allN n _ _ _ _))
theorem cd_pics {v : VVm} {name : Str} {x : List Int} {r : VVm × List Int × Int} (h : picsS v name x = some r) : Cd r.2.2 := by
 unfold picsS at h
 rcases some_ite h with rfl | h
 ·exact cd0
 rcases some_ite h with rfl | h
 ·exact cd_digit _ _ _ _
 rcases some_ite h with rfl | h
 ·unfold pAll picAll finP picAllF; exact cd_ite2 cd0 (cd_allN _ _ _ _ _)
 rcases some_ite h with rfl | h
 ·exact cd_hold _ _
 rcases some_ite h with rfl | h
 ·unfold pPic picSign; exact cd_ite2 cd0 (cd_hold _ _)
 rcases some_ite h with rfl | h
 ·unfold pEnd picEnd; exact cd_ite3 (cd_write _ _ _) (cd_ite2 cd0 (cd_n 17 rfl))
 cases h
theorem cd_timer (k : Int) (v : VVm) (x : List Int) : Cd (pTimer k v x).2.2 := by
 unfold pTimer; exact cd_ite3 (cd_n 259 rfl) (cd_ite3 (cd_n 24 rfl) (cd_ite3 (cd_n 257 rfl) (cd_ite3 (cd_n 258 rfl) cd0)))
theorem cd_ask {v : VVm} {name : Str} {x : List Int} {r : VVm × List Int × Int} (h : askS2 v name x = some r) : Cd r.2.2 := by
 unfold askS2 at h
 rcases some_ite h with rfl | h
 ·unfold pPost; exact cd_ite3 (cd_n 259 rfl) (cd_ite3 (cd_n 257 rfl) cd0)
 rcases some_ite h with rfl | h
 ·unfold pCancel; exact cd_ite3 (cd_n 257 rfl) cd0
 rcases some_ite h with rfl | h
 ·exact cd_timer _ _ _
 rcases some_ite h with rfl | h
 ·exact cd_timer _ _ _
 cases h
theorem cd_kind (v : VVm) (a : Int) : Cd (vmKind v a).2 := by unfold vmKind; exact cd_ite2 (cd_ite2 cd0 (cd_n 9 rfl)) (cd_fetch _ _)
theorem cd_rest (v : VVm) (name : Str) (x : List Int) : Cd (restS v name x).2.2 := by
 unfold restS
 refine cd_ite3 cd0 (cd_ite3 cd0 (cd_ite3 cd0 (cd_ite3 cd0 (cd_ite3 ?_ (cd_n 1 rfl)))))
 unfold pBody; exact cd_ite3 (cd_n 31 rfl) (cd_kind _ _)
theorem cd_done (v : VVm) (n : Int) (name : Str) (x : List Int) : Cd (doneS v n name x).2.2 := by
 unfold doneS
 refine cd_ite3 (cd_two _ _ _) (cd_ite3 cd0 ?_)
 rcases e0 : reckonS name x with _ | r
 rotate_left
 ·exact cd_reckon e0
 rcases e1 : memoryS v name x with _ | r
 rotate_left
 ·exact cd_memory e1
 rcases e2 : spaceS v name x with _ | r
 rotate_left
 ·exact cd_space e2
 rcases e3 : textS v name x with _ | r
 rotate_left
 ·exact cd_print v (cd_textS e3)
 rcases e4 : picsS v name x with _ | r
 rotate_left
 ·exact cd_pics e4
 rcases e5 : askS2 v name x with _ | r
 rotate_left
 ·exact cd_ask e5
 exact cd_rest v name x
theorem cd_do (v : VVm) (n : Int) : Cd (doS v n).2 := by
 unfold doS
 refine cd_ite2 (cd_n 24 rfl) ?_
 dsimp only
 refine cd_ite2 ?_ (cd_ite2 (cd_n 4 rfl) (cd_ite2 (cd_done _ _ _ _) (cd_ite2 (cd_n 3 rfl) cd0)))
 unfold shuffleS
 exact cd_ite3 cd0 (cd_ite3 (cd_n 4 rfl) (cd_ite3 (cd_n 3 rfl) cd0))
end Go.Proofs.YtobhnjnffnbbkaaGreatDoor
namespace Go.Proofs.YtobhnjnffnbbkaaGreatDoor
open Go.RowKit
set_option maxRecDepth 100000
set_option maxHeartbeats 4000000
theorem WO_obI {P : Program} {B : Nat → Nat → Prop} {n : Nat} {all : Array Oper} {l : List Oper} {T : Nat → PV} {H H' : List Ob} {K : (Nat → PV) → List Ob → Prop} (i : Nat) {ob ob' : Ob} (hi : H[i]? = some ob) (e : ob = ob') (hH : nfH (H.set i ob') = some H') (h1 : WO P B n all l T H' K) : WO P B n all l T H K := by
 rw [nfH_eq hH] at h1
 subst e
 have : H.set i ob = H := by
  apply List.ext_getElem?
  intro j
  rw [List.getElem?_set]
  split
  ·rename_i h; subst h; split
   ·exact hi.symm
   ·rename_i h2; rw [List.getElem?_eq_none (by omega)]
  ·rfl
 rwa [this] at h1
def onlyT : List Str := [[73], [74], [85, 78, 76, 79, 79, 80], [62, 82], [82, 62], [82, 64], [50, 62, 82], [50, 82, 62]]
def nowT : List Str := [[46, 34], [40], [92], [91]]
def bothT : List Str := [[59], [68, 79, 69, 83, 62], [91, 39, 93], [91, 67, 72, 65, 82, 93], [76, 73, 84, 69, 82, 65, 76], [80, 79, 83, 84, 80, 79, 78, 69], [82, 69, 67, 85, 82, 83, 69], [73, 70], [69, 76, 83, 69], [84, 72, 69, 78], [66, 69, 71, 73, 78], [87, 72, 73, 76, 69], [82, 69, 80, 69, 65, 84], [85, 78, 84, 73, 76], [65, 71, 65, 73, 78], [68, 79], [63, 68, 79], [76, 79, 79, 80], [43, 76, 79, 79, 80], [76, 69, 65, 86, 69], [83, 34], [69, 88, 73, 84]]
def inS (l : List Str) (s : Str) : Bool := l.any (fun x => decide (x = s))
theorem ref_in (l : List Str) (s : Str) (hl : l.length ≤ 1000000) : PureC Tryz.prog 140 [sq cStr l, str s] (boo (inS l s)) := by
 refine pW tG (rs := [.tmp 4]) Tryz.func140 rfl rfl rfl (by simp) (by simp) (fun B => ?_)
 refine zu1 ?_
 refine Ws ?_
 refine zu1 ?_
 refine Wl ?_
 show W _ _ _ _ _ _ _
 refine W_loopS (fun (k : Nat) => [(0, sq cStr l), (1, str s), (5, i64 k)]) (fun (k : Nat) => []) (fun (k : Nat) => []) (fun (k : Nat) => k ≤ l.length ∧ (l.take k).all (fun x => !decide (x = s)) = true) (fun (k : Nat) => l.length - k) (0) (by simp) [] ?_ ?_
 ·exact fitT
 ·intro k hk
  refine Ws ?_
  refine zu4 ?_
  refine Wi rfl (fun hi1 => ?_) (fun hi1 => ?_)
  ·have hlt : k < l.length := by have := oT hi1; omega
   refine Wj ?_
   refine Ws ?_
   refine Wl ?_
   refine zp2 ?_
   refine Wv tG rfl rfl rfl (by omega) (iN cStr 1 (fun _ => rfl) [] (by omega)) ?_
   refine zy3 ?_
   refine Wa 17 rfl (str_eql _ _) ?_
   refine Wn ?_
   refine Wi rfl (fun hi2 => ?_) (fun hi2 => ?_)
   ·have hy : inS l s = true := by unfold inS; rw [List.any_eq_true]; exact ⟨_, mem_getD [] hlt, hi2⟩
    refine zu1 ?_
    refine zR ?_
    rw [hy]; rfl
   ·refine Wj ?_
    refine W_region rfl ?_
    refine zs3 ?_
    exact ⟨k + 1, [], (by exact ⟨by omega, all_snoc [] hlt hk.2 (by rw [hi2]; rfl)⟩), (by omega), fitT⟩
  ·have hge : l.length ≤ k := by have := oF hi1; omega
   have hn : inS l s = false := by have h1 := hk.2; rw [take_all' _ k hge] at h1; unfold inS; rw [List.any_eq_false]; intro x hx; have := List.all_eq_true.1 h1 x hx; simpa using this
   refine W_exit ?_
   refine zu1 ?_
   refine zR ?_
   rw [hn]; rfl
def flagsN (name : Str) (i : Nat) : Int := if i < 12 then 6 else if inS onlyT name then 4 else if inS nowT name then 1 else if inS bothT name then 5 else 0
theorem ref_flags (name : Str) (i : Nat) : PureC Tryz.prog 100 [str name, i64 i] (i64 (flagsN name i)) := by
 refine pW tG (rs := [.tmp 4]) Tryz.func100 rfl rfl rfl (by simp) (by simp) (fun B => ?_)
 refine zu1 ?_
 refine Ws ?_
 refine zu2 ?_
 refine Wi rfl (fun hi1 => ?_) (fun hi1 => ?_)
 ·have h0 : i < 12 := by have := oT hi1; omega
  refine zu1 ?_
  refine zR ?_
  rw [flagsN, if_pos h0]; rfl
 ·have h0 : ¬ i < 12 := by have := oF hi1; omega
  refine Wj ?_
  refine zp1 ?_
  refine Wa 10 rfl (bsL cStr [_, _, _, _, _, _, _, _] rfl rfl) ?_
  refine z1 ?_
  refine Wc rfl rfl (dC rfl Tryz.func140 rfl rfl ((ref_in onlyT name (by decide)) _)) ?_
  refine zs1 ?_
  refine Ws ?_
  refine zu1 ?_
  refine Wi rfl (fun hi2 => ?_) (fun hi2 => ?_)
  ·refine zu1 ?_
   refine zR ?_
   rw [flagsN, if_neg h0, if_pos hi2]; rfl
  ·refine Wj ?_
   refine zp1 ?_
   refine Wa 14 rfl (bsL cStr [_, _, _, _] rfl rfl) ?_
   refine z1 ?_
   refine Wc rfl rfl (dC rfl Tryz.func140 rfl rfl ((ref_in nowT name (by decide)) _)) ?_
   refine zs1 ?_
   refine Ws ?_
   refine zu1 ?_
   refine Wi rfl (fun hi3 => ?_) (fun hi3 => ?_)
   ·refine zu1 ?_
    refine zR ?_
    rw [flagsN, if_neg h0, if_neg (by rw [hi2]; simp), if_pos hi3]; rfl
   ·refine Wj ?_
    refine zp1 ?_
    refine Wa 18 rfl (bsL cStr [_, _, _, _, _, _, _, _, _, _, _, _, _, _, _, _, _, _, _, _, _, _] rfl rfl) ?_
    refine z1 ?_
    refine Wc rfl rfl (dC rfl Tryz.func140 rfl rfl ((ref_in bothT name (by decide)) _)) ?_
    refine zs1 ?_
    refine Ws ?_
    refine zu1 ?_
    refine Wi rfl (fun hi4 => ?_) (fun hi4 => ?_)
    ·refine zu1 ?_
     refine zR ?_
     rw [flagsN, if_neg h0, if_neg (by rw [hi2]; simp), if_neg (by rw [hi3]; simp), if_pos hi4]; rfl
    ·refine Wj ?_
     refine zu1 ?_
     refine zR ?_
     rw [flagsN, if_neg h0, if_neg (by rw [hi2]; simp), if_neg (by rw [hi3]; simp), if_neg (by rw [hi4]; simp)]; rfl
theorem ref_NamesC : PureC Tryz.prog 84 [] (sqc cStr names) := by
 refine pW tG (rs := [.tmp 0]) Tryz.func84 rfl rfl rfl (by simp; done) (by exact flat_sqc flat_cStr _) (fun B => ?_)
 refine zu1 ?_
 refine zp1 ?_
 refine Wa 1 rfl (bsL cStr [_, _, _, _, _, _, _, _, _, _, _, _, _, _, _, _, _, _, _, _, _, _, _, _, _, _, _, _, _, _, _, _, _, _, _, _, _, _, _, _, _, _, _, _, _, _, _, _, _, _, _, _, _, _, _, _, _, _, _, _, _, _, _, _, _, _, _, _, _, _, _, _, _, _, _, _, _, _, _, _, _, _, _, _, _, _, _, _, _, _, _, _, _, _, _, _, _, _, _, _, _, _, _, _, _, _, _, _, _, _, _, _, _, _, _, _, _, _, _, _, _, _, _, _, _, _, _, _, _, _] rfl rfl) ?_
 refine zs1 ?_
 refine Wq ?_
 exact leafPx rfl rfl
def allN : List Str := names ++ specials
theorem allN_len : allN.length = 167 := by unfold allN; rw [List.length_append, names_len, specials_len]
def nval (i : Nat) : Nat := if 130 ≤ i then 170 + i else i
def put2 (b : List UInt8) (a n : Nat) : List UInt8 := (b.set a (UInt8.ofNat (n % 256))).set (a + 1) (UInt8.ofNat (n / 256))
def stepB (b : List UInt8) (i : Nat) : List UInt8 :=
 let b1 := put2 b (32 + 8 * i) (nval i)
 let b2 := if allN.getD i [] = [40, 104, 97, 108, 116, 41] then put2 b1 16 (32 + 8 * i) else b1
 if allN.getD i [] = [40, 99, 97, 117, 103, 104, 116, 41] then put2 b2 24 (32 + 8 * i) else b2
def newB (M : Nat) : Nat → List UInt8
 | 0 => (List.replicate M 0).set 0 10
 | k + 1 => stepB (newB M k) k
def wordN (i : Nat) : VWord := ⟨allN.getD i [], ((32 + 8 * i : Nat) : Int), flagsN (allN.getD i []) i⟩
def newL (k : Nat) : List VWord := (List.range k).map wordN
@[simp] theorem newL_len (k : Nat) : (newL k).length = k := by simp [newL]
theorem newL_succ (k : Nat) : newL (k + 1) = newL k ++ [wordN k] := by unfold newL; rw [List.range_succ, List.map_append]; rfl
theorem put2_len (b : List UInt8) (a n : Nat) : (put2 b a n).length = b.length := by simp [put2]
theorem stepB_len (b : List UInt8) (i : Nat) : (stepB b i).length = b.length := by
 unfold stepB
 simp only
 split <;> split <;> simp [put2_len]
theorem newB_len (M k : Nat) : (newB M k).length = M := by
 induction k with
 | zero => simp [newB]
 | succ k ih => rw [newB, stepB_len, ih]
def newVm (c : VConf) : VVm := { conf := c, mem := ⟨newB c.mem.toNat 167, []⟩, here := 1368, d := [], r := [], f := [], dict := newL 167, last := 0, out := [], pic := ⟨[], false⟩, req := [], free := 0, next := 0, arg := 0, self := 0, now := 0, hand := [] }
def vmZ : List PV := [i64 0, i64 0, i64 0, i64 0, i64 0, .seq 0 [] .clip, .seq 0 [] .clip, i64 0, .seq 0 [] .clip, .seq 0 [] .clip, .seq 0 [] .clip, .seq 0 [] .clip, i64 0, .seq 0 [] .clip, .seq 0 [] .clip, boo false, .seq 0 [] .clip, i64 0, i64 0, i64 0, i64 0, i64 0, .seq 0 [] .clip]
@[simp] theorem nl_vmZ {n : Nat} : NL1L n vmZ := nF (by simp [vmZ])
theorem u8_of (n : Nat) (h : n < 256) : ((UInt8.ofNat n).toNat : Int) = n := by rw [UInt8.toNat_ofNat']; omega
theorem u8_mod (n : Nat) : PV.val (Value.int .u8 (IntKind.u8.wrap ((n : Int).tmod 256))) = .val (.int .u8 ((UInt8.ofNat (n % 256)).toNat : Int)) := by
 rw [u8_of _ (by omega), Int.tmod_eq_emod_of_nonneg (by omega)]
 simp only [PV.val.injEq, Value.int.injEq, true_and]
 rw [IntKind.wrap_u8]; omega
theorem u8_quo (n : Nat) (h : n < 65536) : PV.val (Value.int .u8 (IntKind.u8.wrap (IntKind.i64.wrap ((n : Int).tdiv 256)))) = .val (.int .u8 ((UInt8.ofNat (n / 256)).toNat : Int)) := by
 rw [u8_of _ (by omega), Int.tdiv_eq_ediv_of_nonneg (by omega)]
 simp only [PV.val.injEq, Value.int.injEq, true_and]
 rw [i64w, IntKind.wrap_u8]; unfold wrap64; omega
theorem splice_at {b : List UInt8} {i : Int} {n : Nat} {x : UInt8} (hi : i = n) (hn : n < b.length) : splice (b.flatMap cByte) (0 + i.toNat * 1) [.val (.int .u8 (x.toNat : Int))] = (b.set n x).flatMap cByte := by
 subst hi
 rw [Int.toNat_natCast, Nat.mul_one, Nat.zero_add]
 exact splice_byte hn x
theorem zeros_b {M : Nat} {d : TD} {e : TypeId} (hd : d.zero = cByte 0) : Ob.cells (zerosPV M d) e = .cells ((List.replicate M (0 : UInt8)).flatMap cByte) e := by
 unfold zerosPV
 rw [hd, List.flatMap_replicate]
end Go.Proofs.YtobhnjnffnbbkaaGreatDoor
namespace Go.Proofs.YtobhnjnffnbbkaaGreatDoor
open Go.RowKit
set_option maxRecDepth 100000
def sC : VConf := ⟨2048, 32, 32, 200, 500⟩
theorem sC_fits : fitsV sC := by unfold fitsV sC; decide
def stockS (d : List Int) : VVm := { newVm sC with d := d }
theorem newB_words : (newL 167).all wordOk = true := by decide +kernel
theorem stock_right {d : List Int} (hd : d.length ≤ 32) : RightP (stockS d) := by
 have hl : (newB 2048 167).length = 2048 := newB_len _ _
 refine ⟨sC_fits, ?_, ?_, ⟨(by show (0 : Nat) ≤ 130; decide), .inr rfl⟩, ?_, (by show (1368 : Int) ≤ 1368; decide), (by show (1368 : Int) ≤ 2048; decide), rfl, rfl, ?_, (by show ((0 : Nat) : Int) ≤ 32; decide), (by show (0 : Nat) ≤ 64; decide), ?_, (by show ((0 : Nat) : Int) ≤ 500; decide), (by show (0 : Nat) ≤ 16; decide), (by show (0 : Int) ≤ 0; decide), (by show (0 : Int) ≤ 64; decide), (by show (0 : Int) ≤ 0; decide), (by show (0 : Int) ≤ 4611686018427387904; decide), (by show (0 : Nat) ≤ 64; decide)⟩
 ·show memRight ⟨newB 2048 167, []⟩ = true
  unfold memRight
  simp only [List.all_nil, Bool.true_and, hl]
  decide
 ·show right9 (newL 167) = true
  unfold right9
  rw [newB_words, newL_len]; rfl
 ·show ((newB 2048 167).length : Int) = 2048
  rw [hl]; rfl
 ·show (d.length : Int) ≤ 32
  omega
 ·show ((newL 167).length : Int) ≤ 200
  rw [newL_len]; decide
end Go.Proofs.YtobhnjnffnbbkaaGreatDoor
namespace Go.Proofs.YtobhnjnffnbbkaaGreatDoor
open Go.RowKit
set_option maxRecDepth 100000
theorem wf_fit {n : Int} (h : (Lit.int .i64 n).wf = true) : Fit64 n := fit_wf h
theorem rd_int64 {w : World} {cs : List Value} (h : Rd w 3 cs) : ∃ n, Fit64 n ∧ RepL (c0 w) [i64 n] cs := by
 obtain ⟨n, h1, h2⟩ := rd_int_rep Tryz.underlying3 h
 exact ⟨n, wf_fit h1, h2⟩
theorem rd_byte {w : World} {cs : List Value} (h : Rd w 5 cs) : ∃ b : UInt8, True ∧ RepL (c0 w) (cByte b) cs := by
 obtain ⟨n, h1, h2⟩ := rd_int_rep Tryz.underlying5 h
 have h3 := byte_wf h1
 refine ⟨UInt8.ofNat n.toNat, trivial, ?_⟩
 have e : ((UInt8.ofNat n.toNat).toNat : Int) = n := by rw [UInt8.toNat_ofNat']; omega
 unfold cByte
 rw [e]; exact h2
theorem str_size' (s : ByteArray) : s.size = s.data.toList.length := by show s.data.size = _; simp
theorem rd_str {w : World} {cs : List Value} (h : Rd w 9 cs) : ∃ s : Str, s.length ≤ 9223372036854775807 ∧ RepL (c0 w) [str s] cs := by
 obtain ⟨s, h1, h2⟩ := rd_string_rep Tryz.underlying9 h
 refine ⟨s.data.toList, by unfold maxLen at h1; have : s.size = s.data.toList.length := (str_size' s); omega, ?_⟩
 rw [← str_of]; exact h2
theorem rd_boo {w : World} {cs : List Value} (h : Rd w 4 cs) : ∃ b : Bool, True ∧ RepL (c0 w) [boo b] cs := by
 obtain ⟨b, h1⟩ := rd_bool_rep Tryz.underlying4 h
 exact ⟨b, trivial, h1⟩
theorem rd_bytes {w : World} {cs : List Value} (h : Rd w 24 cs) : ∃ l : List UInt8, l.length ≤ 9223372036854775807 ∧ RepL (c0 w) [sq cByte l] cs := by
 obtain ⟨l, _, h2, h3⟩ := rd_slice_rep cByte (fun _ => True) 1 Tryz.underlying24 (by kernel_rfl) (by omega) (fun es h => rd_byte h) h
 exact ⟨l, by unfold maxLen at h2; omega, h3⟩
theorem rd_intl {w : World} {cs : List Value} (h : Rd w 28 cs) : ∃ l : List Int, ((∀ x ∈ l, Fit64 x) ∧ l.length ≤ 9223372036854775807) ∧ RepL (c0 w) [sq cInt l] cs := by
 obtain ⟨l, h1, h2, h3⟩ := rd_slice_rep cInt Fit64 1 Tryz.underlying28 (by kernel_rfl) (by omega) (fun es h => rd_int64 h) h
 exact ⟨l, ⟨h1, by unfold maxLen at h2; omega⟩, h3⟩
structure OkConf (x : VConf) : Prop where
 o_mem : Fit64 x.mem
 o_data : Fit64 x.data
 o_ret : Fit64 x.ret
 o_words : Fit64 x.words
 o_out : Fit64 x.out
theorem rd_Conf {w : World} {cs : List Value} (h : Rd w 23 cs) : ∃ x : VConf, OkConf x ∧ RepL (c0 w) (cConf x) cs := by
 have h0 := rd_all Tryz.underlying23 [(3, 1), (3, 1), (3, 1), (3, 1), (3, 1)] (by kernel_rfl) (by kernel_rfl) (by kernel_rfl) h
 simp only [RdAll] at h0
 obtain ⟨a0, b0, e0, _, r0, t0⟩ := h0
 obtain ⟨a1, b1, e1, _, r1, t1⟩ := t0
 obtain ⟨a2, b2, e2, _, r2, t2⟩ := t1
 obtain ⟨a3, b3, e3, _, r3, t3⟩ := t2
 obtain ⟨a4, b4, e4, _, r4, t4⟩ := t3
 obtain ⟨x0, k0, p0⟩ := rd_int64 r0
 obtain ⟨x1, k1, p1⟩ := rd_int64 r1
 obtain ⟨x2, k2, p2⟩ := rd_int64 r2
 obtain ⟨x3, k3, p3⟩ := rd_int64 r3
 obtain ⟨x4, k4, p4⟩ := rd_int64 r4
 refine ⟨⟨x0, x1, x2, x3, x4⟩, ⟨k0, k1, k2, k3, k4⟩, ?_⟩
 subst e0 e1 e2 e3 e4
 have key := (RepL.append p0 (RepL.append p1 (RepL.append p2 (RepL.append p3 (RepL.append p4 (repL_nil.2 t4))))))
 exact key
structure OkPatch (x : VPatch) : Prop where
 o_place : Fit64 x.place
 o_old : x.old.length ≤ 9223372036854775807
theorem rd_Patch {w : World} {cs : List Value} (h : Rd w 118 cs) : ∃ x : VPatch, OkPatch x ∧ RepL (c0 w) (cPatch x) cs := by
 have h0 := rd_all Tryz.underlying118 [(3, 1), (24, 1)] (by kernel_rfl) (by kernel_rfl) (by kernel_rfl) h
 simp only [RdAll] at h0
 obtain ⟨a0, b0, e0, _, r0, t0⟩ := h0
 obtain ⟨a1, b1, e1, _, r1, t1⟩ := t0
 obtain ⟨x0, k0, p0⟩ := rd_int64 r0
 obtain ⟨x1, k1, p1⟩ := rd_bytes r1
 refine ⟨⟨x0, x1⟩, ⟨k0, k1⟩, ?_⟩
 subst e0 e1
 have key := (RepL.append p0 (RepL.append p1 (repL_nil.2 t1)))
 exact key
theorem rd_Patchs {w : World} {cs : List Value} (h : Rd w 25 cs) : ∃ l : List VPatch, ((∀ x ∈ l, OkPatch x) ∧ l.length ≤ 9223372036854775807) ∧ RepL (c0 w) [sq cPatch l] cs := by
 obtain ⟨l, h1, h2, h3⟩ := rd_slice_rep cPatch OkPatch 2 Tryz.underlying25 (by kernel_rfl) (by omega) (fun es h => rd_Patch h) h
 exact ⟨l, ⟨h1, by unfold maxLen at h2; omega⟩, h3⟩
structure OkMem (x : VMem) : Prop where
 o_b : x.b.length ≤ 9223372036854775807
 o_old : (∀ a ∈ x.old, OkPatch a) ∧ x.old.length ≤ 9223372036854775807
theorem rd_Mem {w : World} {cs : List Value} (h : Rd w 27 cs) : ∃ x : VMem, OkMem x ∧ RepL (c0 w) (cMem x) cs := by
 have h0 := rd_all Tryz.underlying27 [(24, 1), (25, 1)] (by kernel_rfl) (by kernel_rfl) (by kernel_rfl) h
 simp only [RdAll] at h0
 obtain ⟨a0, b0, e0, _, r0, t0⟩ := h0
 obtain ⟨a1, b1, e1, _, r1, t1⟩ := t0
 obtain ⟨x0, k0, p0⟩ := rd_bytes r0
 obtain ⟨x1, k1, p1⟩ := rd_Patchs r1
 refine ⟨⟨x0, x1⟩, ⟨k0, k1⟩, ?_⟩
 subst e0 e1
 have key := (RepL.append p0 (RepL.append p1 (repL_nil.2 t1)))
 exact key
structure OkPic (x : VPic) : Prop where
 o_b : x.b.length ≤ 9223372036854775807
 o_on : True
theorem rd_Pic {w : World} {cs : List Value} (h : Rd w 32 cs) : ∃ x : VPic, OkPic x ∧ RepL (c0 w) (cPic x) cs := by
 have h0 := rd_all Tryz.underlying32 [(24, 1), (4, 1)] (by kernel_rfl) (by kernel_rfl) (by kernel_rfl) h
 simp only [RdAll] at h0
 obtain ⟨a0, b0, e0, _, r0, t0⟩ := h0
 obtain ⟨a1, b1, e1, _, r1, t1⟩ := t0
 obtain ⟨x0, k0, p0⟩ := rd_bytes r0
 obtain ⟨x1, k1, p1⟩ := rd_boo r1
 refine ⟨⟨x0, x1⟩, ⟨k0, k1⟩, ?_⟩
 subst e0 e1
 have key := (RepL.append p0 (RepL.append p1 (repL_nil.2 t1)))
 exact key
structure OkWord (x : VWord) : Prop where
 o_name : x.name.length ≤ 9223372036854775807
 o_xt : Fit64 x.xt
 o_flags : Fit64 x.flags
theorem rd_Word {w : World} {cs : List Value} (h : Rd w 120 cs) : ∃ x : VWord, OkWord x ∧ RepL (c0 w) (cWord x) cs := by
 have h0 := rd_all Tryz.underlying120 [(9, 1), (3, 1), (3, 1)] (by kernel_rfl) (by kernel_rfl) (by kernel_rfl) h
 simp only [RdAll] at h0
 obtain ⟨a0, b0, e0, _, r0, t0⟩ := h0
 obtain ⟨a1, b1, e1, _, r1, t1⟩ := t0
 obtain ⟨a2, b2, e2, _, r2, t2⟩ := t1
 obtain ⟨x0, k0, p0⟩ := rd_str r0
 obtain ⟨x1, k1, p1⟩ := rd_int64 r1
 obtain ⟨x2, k2, p2⟩ := rd_int64 r2
 refine ⟨⟨x0, x1, x2⟩, ⟨k0, k1, k2⟩, ?_⟩
 subst e0 e1 e2
 have key := (RepL.append p0 (RepL.append p1 (RepL.append p2 (repL_nil.2 t2))))
 exact key
theorem rd_Words {w : World} {cs : List Value} (h : Rd w 30 cs) : ∃ l : List VWord, ((∀ x ∈ l, OkWord x) ∧ l.length ≤ 9223372036854775807) ∧ RepL (c0 w) [sq cWord l] cs := by
 obtain ⟨l, h1, h2, h3⟩ := rd_slice_rep cWord OkWord 3 Tryz.underlying30 (by kernel_rfl) (by omega) (fun es h => rd_Word h) h
 exact ⟨l, ⟨h1, by unfold maxLen at h2; omega⟩, h3⟩
structure OkFrame (x : VFrame) : Prop where
 o_d : Fit64 x.d
 o_r : Fit64 x.r
 o_ip : Fit64 x.ip
theorem rd_Frame {w : World} {cs : List Value} (h : Rd w 108 cs) : ∃ x : VFrame, OkFrame x ∧ RepL (c0 w) (cFrame x) cs := by
 have h0 := rd_all Tryz.underlying108 [(3, 1), (3, 1), (3, 1)] (by kernel_rfl) (by kernel_rfl) (by kernel_rfl) h
 simp only [RdAll] at h0
 obtain ⟨a0, b0, e0, _, r0, t0⟩ := h0
 obtain ⟨a1, b1, e1, _, r1, t1⟩ := t0
 obtain ⟨a2, b2, e2, _, r2, t2⟩ := t1
 obtain ⟨x0, k0, p0⟩ := rd_int64 r0
 obtain ⟨x1, k1, p1⟩ := rd_int64 r1
 obtain ⟨x2, k2, p2⟩ := rd_int64 r2
 refine ⟨⟨x0, x1, x2⟩, ⟨k0, k1, k2⟩, ?_⟩
 subst e0 e1 e2
 have key := (RepL.append p0 (RepL.append p1 (RepL.append p2 (repL_nil.2 t2))))
 exact key
theorem rd_Frames {w : World} {cs : List Value} (h : Rd w 29 cs) : ∃ l : List VFrame, ((∀ x ∈ l, OkFrame x) ∧ l.length ≤ 9223372036854775807) ∧ RepL (c0 w) [sq cFrame l] cs := by
 obtain ⟨l, h1, h2, h3⟩ := rd_slice_rep cFrame OkFrame 3 Tryz.underlying29 (by kernel_rfl) (by omega) (fun es h => rd_Frame h) h
 exact ⟨l, ⟨h1, by unfold maxLen at h2; omega⟩, h3⟩
structure OkReq (x : VReq) : Prop where
 o_kind : Fit64 x.kind
 o_arg : Fit64 x.arg
 o_hand : Fit64 x.hand
 o_rank : Fit64 x.rank
 o_delay : Fit64 x.delay
 o_id : Fit64 x.id
theorem rd_Req {w : World} {cs : List Value} (h : Rd w 155 cs) : ∃ x : VReq, OkReq x ∧ RepL (c0 w) (cReq x) cs := by
 have h0 := rd_all Tryz.underlying155 [(3, 1), (3, 1), (3, 1), (3, 1), (3, 1), (3, 1)] (by kernel_rfl) (by kernel_rfl) (by kernel_rfl) h
 simp only [RdAll] at h0
 obtain ⟨a0, b0, e0, _, r0, t0⟩ := h0
 obtain ⟨a1, b1, e1, _, r1, t1⟩ := t0
 obtain ⟨a2, b2, e2, _, r2, t2⟩ := t1
 obtain ⟨a3, b3, e3, _, r3, t3⟩ := t2
 obtain ⟨a4, b4, e4, _, r4, t4⟩ := t3
 obtain ⟨a5, b5, e5, _, r5, t5⟩ := t4
 obtain ⟨x0, k0, p0⟩ := rd_int64 r0
 obtain ⟨x1, k1, p1⟩ := rd_int64 r1
 obtain ⟨x2, k2, p2⟩ := rd_int64 r2
 obtain ⟨x3, k3, p3⟩ := rd_int64 r3
 obtain ⟨x4, k4, p4⟩ := rd_int64 r4
 obtain ⟨x5, k5, p5⟩ := rd_int64 r5
 refine ⟨⟨x0, x1, x2, x3, x4, x5⟩, ⟨k0, k1, k2, k3, k4, k5⟩, ?_⟩
 subst e0 e1 e2 e3 e4 e5
 have key := (RepL.append p0 (RepL.append p1 (RepL.append p2 (RepL.append p3 (RepL.append p4 (RepL.append p5 (repL_nil.2 t5)))))))
 exact key
theorem rd_Reqs {w : World} {cs : List Value} (h : Rd w 33 cs) : ∃ l : List VReq, ((∀ x ∈ l, OkReq x) ∧ l.length ≤ 9223372036854775807) ∧ RepL (c0 w) [sq cReq l] cs := by
 obtain ⟨l, h1, h2, h3⟩ := rd_slice_rep cReq OkReq 6 Tryz.underlying33 (by kernel_rfl) (by omega) (fun es h => rd_Req h) h
 exact ⟨l, ⟨h1, by unfold maxLen at h2; omega⟩, h3⟩
structure OkHand (x : VHand) : Prop where
 o_xt : Fit64 x.xt
 o_fuel : Fit64 x.fuel
 o_strikes : Fit64 x.strikes
 o_out : True
theorem rd_Hand {w : World} {cs : List Value} (h : Rd w 110 cs) : ∃ x : VHand, OkHand x ∧ RepL (c0 w) (cHand x) cs := by
 have h0 := rd_all Tryz.underlying110 [(3, 1), (3, 1), (3, 1), (4, 1)] (by kernel_rfl) (by kernel_rfl) (by kernel_rfl) h
 simp only [RdAll] at h0
 obtain ⟨a0, b0, e0, _, r0, t0⟩ := h0
 obtain ⟨a1, b1, e1, _, r1, t1⟩ := t0
 obtain ⟨a2, b2, e2, _, r2, t2⟩ := t1
 obtain ⟨a3, b3, e3, _, r3, t3⟩ := t2
 obtain ⟨x0, k0, p0⟩ := rd_int64 r0
 obtain ⟨x1, k1, p1⟩ := rd_int64 r1
 obtain ⟨x2, k2, p2⟩ := rd_int64 r2
 obtain ⟨x3, k3, p3⟩ := rd_boo r3
 refine ⟨⟨x0, x1, x2, x3⟩, ⟨k0, k1, k2, k3⟩, ?_⟩
 subst e0 e1 e2 e3
 have key := (RepL.append p0 (RepL.append p1 (RepL.append p2 (RepL.append p3 (repL_nil.2 t3)))))
 exact key
theorem rd_Hands {w : World} {cs : List Value} (h : Rd w 34 cs) : ∃ l : List VHand, ((∀ x ∈ l, OkHand x) ∧ l.length ≤ 9223372036854775807) ∧ RepL (c0 w) [sq cHand l] cs := by
 obtain ⟨l, h1, h2, h3⟩ := rd_slice_rep cHand OkHand 4 Tryz.underlying34 (by kernel_rfl) (by omega) (fun es h => rd_Hand h) h
 exact ⟨l, ⟨h1, by unfold maxLen at h2; omega⟩, h3⟩
structure OkVm (x : VVm) : Prop where
 o_conf : OkConf x.conf
 o_mem : OkMem x.mem
 o_here : Fit64 x.here
 o_d : (∀ a ∈ x.d, Fit64 a) ∧ x.d.length ≤ 9223372036854775807
 o_r : (∀ a ∈ x.r, Fit64 a) ∧ x.r.length ≤ 9223372036854775807
 o_f : (∀ a ∈ x.f, OkFrame a) ∧ x.f.length ≤ 9223372036854775807
 o_dict : (∀ a ∈ x.dict, OkWord a) ∧ x.dict.length ≤ 9223372036854775807
 o_last : Fit64 x.last
 o_out : x.out.length ≤ 9223372036854775807
 o_pic : OkPic x.pic
 o_req : (∀ a ∈ x.req, OkReq a) ∧ x.req.length ≤ 9223372036854775807
 o_free : Fit64 x.free
 o_next : Fit64 x.next
 o_arg : Fit64 x.arg
 o_self : Fit64 x.self
 o_now : Fit64 x.now
 o_hand : (∀ a ∈ x.hand, OkHand a) ∧ x.hand.length ≤ 9223372036854775807
theorem rd_Vm {w : World} {cs : List Value} (h : Rd w 36 cs) : ∃ x : VVm, OkVm x ∧ RepL (c0 w) (cVm x) cs := by
 have h0 := rd_all Tryz.underlying36 [(23, 5), (27, 2), (3, 1), (28, 1), (28, 1), (29, 1), (30, 1), (3, 1), (24, 1), (32, 2), (33, 1), (3, 1), (3, 1), (3, 1), (3, 1), (3, 1), (34, 1)] (by kernel_rfl) (by kernel_rfl) (by kernel_rfl) h
 simp only [RdAll] at h0
 obtain ⟨a0, b0, e0, _, r0, t0⟩ := h0
 obtain ⟨a1, b1, e1, _, r1, t1⟩ := t0
 obtain ⟨a2, b2, e2, _, r2, t2⟩ := t1
 obtain ⟨a3, b3, e3, _, r3, t3⟩ := t2
 obtain ⟨a4, b4, e4, _, r4, t4⟩ := t3
 obtain ⟨a5, b5, e5, _, r5, t5⟩ := t4
 obtain ⟨a6, b6, e6, _, r6, t6⟩ := t5
 obtain ⟨a7, b7, e7, _, r7, t7⟩ := t6
 obtain ⟨a8, b8, e8, _, r8, t8⟩ := t7
 obtain ⟨a9, b9, e9, _, r9, t9⟩ := t8
 obtain ⟨a10, b10, e10, _, r10, t10⟩ := t9
 obtain ⟨a11, b11, e11, _, r11, t11⟩ := t10
 obtain ⟨a12, b12, e12, _, r12, t12⟩ := t11
 obtain ⟨a13, b13, e13, _, r13, t13⟩ := t12
 obtain ⟨a14, b14, e14, _, r14, t14⟩ := t13
 obtain ⟨a15, b15, e15, _, r15, t15⟩ := t14
 obtain ⟨a16, b16, e16, _, r16, t16⟩ := t15
 obtain ⟨x0, k0, p0⟩ := rd_Conf r0
 obtain ⟨x1, k1, p1⟩ := rd_Mem r1
 obtain ⟨x2, k2, p2⟩ := rd_int64 r2
 obtain ⟨x3, k3, p3⟩ := rd_intl r3
 obtain ⟨x4, k4, p4⟩ := rd_intl r4
 obtain ⟨x5, k5, p5⟩ := rd_Frames r5
 obtain ⟨x6, k6, p6⟩ := rd_Words r6
 obtain ⟨x7, k7, p7⟩ := rd_int64 r7
 obtain ⟨x8, k8, p8⟩ := rd_bytes r8
 obtain ⟨x9, k9, p9⟩ := rd_Pic r9
 obtain ⟨x10, k10, p10⟩ := rd_Reqs r10
 obtain ⟨x11, k11, p11⟩ := rd_int64 r11
 obtain ⟨x12, k12, p12⟩ := rd_int64 r12
 obtain ⟨x13, k13, p13⟩ := rd_int64 r13
 obtain ⟨x14, k14, p14⟩ := rd_int64 r14
 obtain ⟨x15, k15, p15⟩ := rd_int64 r15
 obtain ⟨x16, k16, p16⟩ := rd_Hands r16
 refine ⟨⟨x0, x1, x2, x3, x4, x5, x6, x7, x8, x9, x10, x11, x12, x13, x14, x15, x16⟩, ⟨k0, k1, k2, k3, k4, k5, k6, k7, k8, k9, k10, k11, k12, k13, k14, k15, k16⟩, ?_⟩
 subst e0 e1 e2 e3 e4 e5 e6 e7 e8 e9 e10 e11 e12 e13 e14 e15 e16
 have key := (RepL.append p0 (RepL.append p1 (RepL.append p2 (RepL.append p3 (RepL.append p4 (RepL.append p5 (RepL.append p6 (RepL.append p7 (RepL.append p8 (RepL.append p9 (RepL.append p10 (RepL.append p11 (RepL.append p12 (RepL.append p13 (RepL.append p14 (RepL.append p15 (RepL.append p16 (repL_nil.2 t16))))))))))))))))))
 exact key
theorem okVm_in {v : VVm} (h : OkVm v) : VIn2 v :=
 { b := h.o_mem.o_b, old := h.o_mem.o_old.2, dict := h.o_dict.2, pt := fun p hp => ⟨.inr (h.o_mem.o_old.1 p hp).o_place, (h.o_mem.o_old.1 p hp).o_old⟩, f := h.o_f.2, hand := h.o_hand.2 }
end Go.Proofs.YtobhnjnffnbbkaaGreatDoor
namespace Go.Proofs.YtobhnjnffnbbkaaGreatDoor
open Go.RowKit
set_option maxRecDepth 100000
set_option maxHeartbeats 4000000
theorem right_sm {v : VVm} (R : RightP v) (h : v.mem.old.length ≤ 1000000) : VSm v := by
 have hc := R.fits
 unfold fitsV at hc
 have a0 := R.d
 have a1 := R.r
 have a2 := R.fl
 have a3 := R.dl
 have a4 := R.req
 have a5 := R.handl
 exact ⟨h, by omega, by omega, by omega, by omega, by omega, by omega⟩
theorem right_in {v : VVm} (R : RightP v) (h : v.mem.old.length ≤ 1000000) : VIn2 v := by
 have hc := R.fits
 unfold fitsV at hc
 have a1 := R.len
 have a2 := R.fl
 have a3 := R.dl
 have a5 := R.handl
 refine { b := by omega, old := by omega, dict := by omega, pt := ?_, f := by omega, hand := by omega }
 intro p hp
 have hm := R.mem
 unfold memRight at hm
 rw [Bool.and_eq_true, List.all_eq_true] at hm
 have := hm.1 p hp
 unfold memThere at this
 rw [decide_eq_true_eq] at this
 unfold Fit64
 omega
theorem may_good {v : VVm} (hv : OkVm v) (h : may10 v = true) : GoodV 60 v := by
 unfold may10 at h
 rw [Bool.and_eq_true] at h
 refine ⟨h.2, ?_, hv.o_d.1, hv.o_arg, hv.o_self, hv.o_now⟩
 have h1 := h.1
 unfold few10 few3 at h1
 simp only [Bool.and_eq_true, decide_eq_true_eq] at h1
 exact h1.1.1.2
end Go.Proofs.YtobhnjnffnbbkaaGreatDoor
namespace Go.Proofs.YtobhnjnffnbbkaaGreatDoor
open Go.RowKit
set_option maxRecDepth 100000
structure GoodM (N : Nat) (v : VVm) : Prop where
 right : RightP v
 old : v.mem.old.length ≤ N
 fd : FitL v.d
 fr : FitL v.r
 ff : ∀ x ∈ v.f, Fit64 x.ip
 ints : Fit64 v.arg ∧ Fit64 v.self ∧ Fit64 v.now
 la : Fit64 v.last
structure GoodR (N : Nat) (r : VRun) : Prop where
 m : GoodM N r.vm
 ip : Fit64 r.ip
 w : Fit64 r.w
theorem GoodM.v {N : Nat} {v : VVm} (g : GoodM N v) : GoodV N v := ⟨(right_iff v).2 g.right, g.old, g.fd, g.ints⟩
theorem GoodM.up {N M : Nat} {v : VVm} (g : GoodM N v) (h : N ≤ M) : GoodM M v := ⟨g.right, by have := g.old; omega, g.fd, g.fr, g.ff, g.ints, g.la⟩
theorem GoodR.up {N M : Nat} {r : VRun} (g : GoodR N r) (h : N ≤ M) : GoodR M r := ⟨g.m.up h, g.ip, g.w⟩
theorem GoodM.x {N : Nat} {v : VVm} (g : GoodM N v) : VX N v := by
 have R := g.right
 have hc := R.fits
 unfold fitsV at hc
 have h1 := R.len
 have h2 := R.d
 have h3 := R.r
 have h4 := R.fl
 exact ⟨by omega, g.old, by omega, by omega, by omega, g.fd, g.fr, g.ff, by omega, by omega, g.la⟩
section
variable {N : Nat} {v : VVm}
theorem gm_d (g : GoodM N v) {d : List Int} (hd : (d.length : Int) ≤ v.conf.data) (hf : FitL d) : GoodM N { v with d := d } := by
 have R := g.right
 exact ⟨⟨R.fits, R.mem, R.dict, R.pic, R.len, R.here0, R.here1, R.f, R.hand, hd, R.r, R.fl, R.dl, R.out, R.req, R.free0, R.free1, R.next0, R.next1, R.handl⟩, g.old, hf, g.fr, g.ff, g.ints, g.la⟩
theorem gm_r (g : GoodM N v) {r : List Int} (hd : (r.length : Int) ≤ v.conf.ret) (hf : FitL r) : GoodM N { v with r := r } := by
 have R := g.right
 exact ⟨⟨R.fits, R.mem, R.dict, R.pic, R.len, R.here0, R.here1, R.f, R.hand, R.d, hd, R.fl, R.dl, R.out, R.req, R.free0, R.free1, R.next0, R.next1, R.handl⟩, g.old, g.fd, hf, g.ff, g.ints, g.la⟩
theorem gm_f (g : GoodM N v) {f : List VFrame} (h1 : f.all frameOk = true) (h2 : f.length ≤ 64) (h3 : ∀ x ∈ f, Fit64 x.ip) : GoodM N { v with f := f } := by
 have R := g.right
 exact ⟨⟨R.fits, R.mem, R.dict, R.pic, R.len, R.here0, R.here1, h1, R.hand, R.d, R.r, h2, R.dl, R.out, R.req, R.free0, R.free1, R.next0, R.next1, R.handl⟩, g.old, g.fd, g.fr, h3, g.ints, g.la⟩
theorem gm_mem (g : GoodM N v) {m : VMem} (k : MKeeps v.mem m 1) : GoodM (N + 1) (withM v m) := by
 have R := g.right
 refine ⟨⟨R.fits, k.right R.mem, R.dict, R.pic, ?_, R.here0, R.here1, R.f, R.hand, R.d, R.r, R.fl, R.dl, R.out, R.req, R.free0, R.free1, R.next0, R.next1, R.handl⟩, ?_, g.fd, g.fr, g.ff, g.ints, g.la⟩
 ·show (m.b.length : Int) = v.conf.mem; rw [k.len]; exact R.len
 ·show m.old.length ≤ N + 1; have := k.old; have := g.old; omega
end
def KG (N : Nat) (k : PW) : Prop := match k.err with
 | .ok => GoodR N k.r
 | .bad e => Fit64 e
 | .halt => False
def KF2 (N : Nat) (k : PW) : Prop := match k.err with
 | .bad e => Fit64 e
 | _ => GoodR N k.r
section
variable {N : Nat} {k : PW}
theorem KG.ok (g : KG N k) (h : k.err = .ok) : GoodR N k.r := by unfold KG at g; rw [h] at g; exact g
theorem kg_mk (h : k.err = .ok) (g : GoodR N k.r) : KG N k := by unfold KG; rw [h]; exact g
theorem kg_up {M : Nat} (g : KG N k) (h : N ≤ M) : KG M k := by
 unfold KG at g ⊢
 cases q : k.err with
 | ok => rw [q] at g; exact g.up h
 | bad c => rw [q] at g; exact g
 | halt => rw [q] at g; exact g.elim
theorem kg_ok (g : KG N k) {v : VVm} {e : Int} {M : Nat} (hM : N ≤ M) (he : Fit64 e) (hv : k.err = .ok → e = 0 → GoodM M v) : KG M (pOk k v e) := by
 unfold pOk
 cases q : k.err with
 | ok =>
  dsimp only
  by_cases h : e = 0
  ·rw [if_pos h]; exact kg_mk rfl ⟨hv q h, (g.ok q).ip, (g.ok q).w⟩
  ·rw [if_neg h]; exact he
 | bad c => exact kg_up g hM
 | halt => exact kg_up g hM
theorem fit_m (n : Nat) (h : n ≤ 300) : Fit64 (-(n : Int)) := by unfold Fit64; omega
theorem kg_push (g : KG N k) {n : Int} (hn : k.err = .ok → Fit64 n) : KG N (wPush k n) := by
 refine kg_ok g (Nat.le_refl _) ?_ (fun q h0 => ?_)
 ·unfold vmPush stkPush; split; exact fit_m 3 (by omega); exact fit64_0
 ·have m := (g.ok q).m
  have h := h0
  unfold vmPush stkPush at h ⊢
  by_cases c : k.r.vm.conf.data ≤ (k.r.vm.d.length : Int)
  ·rw [if_pos c] at h; cases h
  ·rw [if_neg c]; exact gm_d m (by simp only [List.length_append, List.length_singleton]; omega) (fitL_append m.fd (fitL_one (hn q)))
theorem kg_rpush (g : KG N k) {n : Int} (hn : k.err = .ok → Fit64 n) : KG N (wRPush k n) := by
 refine kg_ok g (Nat.le_refl _) ?_ (fun q h0 => ?_)
 ·unfold vmRPush; split; exact fit_m 5 (by omega); exact fit64_0
 ·have m := (g.ok q).m
  have h := h0
  unfold vmRPush at h ⊢
  by_cases c : k.r.vm.conf.ret ≤ (k.r.vm.r.length : Int)
  ·rw [if_pos c] at h; cases h
  ·rw [if_neg c]; exact gm_r m (by simp only [List.length_append, List.length_singleton]; omega) (fitL_append m.fr (fitL_one (hn q)))
theorem kg_pop (g : KG N k) : KG N (wPop k).1 ∧ Fit64 (wPop k).2 := by
 refine ⟨kg_ok g (Nat.le_refl _) ?_ (fun q h0 => ?_), ?_⟩
 ·unfold vmPop stkPop; split; exact fit_m 4 (by omega); exact fit64_0
 ·have m := (g.ok q).m
  unfold vmPop stkPop
  split
  ·exact m
  ·exact gm_d m (by have := m.right.d; simp only [List.length_take]; omega) (fitL_take _ m.fd)
 ·unfold wPop; dsimp only; split
  ·rename_i q
   exact (vx_pop ((g.ok (pOk_ok (isOk_iff.1 q)).1).m.x)).2
  ·exact fit64_0
theorem kg_rpop (g : KG N k) : KG N (wRPop k).1 ∧ Fit64 (wRPop k).2 := by
 refine ⟨kg_ok g (Nat.le_refl _) ?_ (fun q h0 => ?_), ?_⟩
 ·unfold vmRPop; split; exact fit_m 6 (by omega); exact fit64_0
 ·have m := (g.ok q).m
  unfold vmRPop
  split
  ·exact m
  ·exact gm_r m (by have := m.right.r; simp only [List.length_take]; omega) (fitL_take _ m.fr)
 ·unfold wRPop; dsimp only; split
  ·rename_i q
   exact (vx_rpop ((g.ok (pOk_ok (isOk_iff.1 q)).1).m.x)).2
  ·exact fit64_0
theorem fit_cellAt (m : VMem) (a : Int) : Fit64 (memCellAt m a) := by
 unfold memCellAt; split
 ·split; exact fit64_0; exact fit_m 23 (by omega)
 ·exact fit_m 9 (by omega)
theorem kg_fetch (g : KG N k) (a : Int) : KG N (wFetch k a).1 ∧ Fit64 (wFetch k a).2 := by
 refine ⟨kg_ok g (Nat.le_refl _) ?_ (fun q _ => (g.ok q).m), fitFetch _ _⟩
 unfold memFetch; split; exact fit64_0; exact fit_cellAt _ _
theorem kg_store (g : KG N k) (a n : Int) : KG (N + 1) (wStore k a n) := by
 refine kg_ok g (by omega) ?_ (fun q _ => gm_mem (g.ok q).m (keeps_store _ _ _))
 unfold memStore memWrite; split
 ·split
  ·split <;> exact fit64_0
  ·exact fit_m 9 (by omega)
 ·exact fit_cellAt _ _
theorem kg_fail (g : KG N k) {e : Int} (he : Fit64 e) : KG N (pOk k k.r.vm e) := kg_ok g (Nat.le_refl _) he (fun q _ => (g.ok q).m)
theorem kg_ip (g : KG N k) {a : Int} (ha : k.err = .ok → Fit64 a) : KG N (wIp k a) := by
 unfold KG at g ⊢
 unfold wIp; dsimp only
 cases q : k.err with
 | ok => rw [q] at g; exact ⟨g.m, ha q, g.w⟩
 | bad c => rw [q] at g; exact g
 | halt => rw [q] at g; exact g.elim
theorem kg_next (g : KG N k) {a : Int} (ha : k.err = .ok → Fit64 a) : KG N (wNext k a) := by
 unfold KG at g ⊢
 unfold wNext; dsimp only
 cases q : k.err with
 | ok => rw [q] at g; exact ⟨g.m, g.ip, ha q⟩
 | bad c => rw [q] at g; exact g
 | halt => rw [q] at g; exact g.elim
theorem kg_deep (g : KG N k) (n : Nat) : KG N (wDeep k n).1 ∧ (k.err = .ok → Fit64 (wDeep k n).2) := by
 unfold wDeep; split
 ·exact ⟨kg_fail g (fit_m 6 (by omega)), fun _ => fit64_0⟩
 ·exact ⟨g, fun q => fitL_get (g.ok q).m.fr _⟩
theorem kg_f2 (g : KG N k) : KF2 N k := by
 unfold KG at g; unfold KF2
 cases q : k.err with
 | ok => rw [q] at g; exact g
 | bad c => rw [q] at g; exact g
 | halt => rw [q] at g; exact g.elim
theorem kg_ite {c : Prop} [Decidable c] {a b : PW} (h1 : KG N a) (h2 : KG N b) : KG N (if c then a else b) := by split <;> assumption
theorem kf_ite {c : Prop} [Decidable c] {a b : PW} (h1 : KF2 N a) (h2 : KF2 N b) : KF2 N (if c then a else b) := by split <;> assumption
theorem kg_skip (g : KG N k) (b : Bool) : KG N (wSkip k b) := by
 unfold wSkip
 exact kg_ite (kg_ip (kg_fetch g _).1 (fun _ => (kg_fetch g _).2)) (kg_ip g (fun _ => fit_w64 _))
theorem kg_exit (g : KG N k) : KG N (wExit k) := kg_ip (kg_rpop g).1 (fun _ => (kg_rpop g).2)
theorem kg_lit (g : KG N k) : KG N (wLit k) := kg_ip (kg_push (kg_fetch g _).1 (fun _ => (kg_fetch g _).2)) (fun _ => fit_w64 _)
theorem kg_two (g : KG N k) : KG N (wTwoTo k) := kg_rpush (kg_rpush (kg_pop (kg_pop g).1).1 (fun _ => (kg_pop (kg_pop g).1).2)) (fun _ => (kg_pop g).2)
theorem kg_from (g : KG N k) : KG N (wTwoFrom k) := kg_push (kg_push (kg_rpop (kg_rpop g).1).1 (fun _ => (kg_rpop (kg_rpop g).1).2)) (fun _ => (kg_rpop g).2)
theorem kg_qdo (g : KG N k) : KG N (wQDo k) := by
 have a := kg_pop g
 have b := kg_pop a.1
 unfold wQDo
 exact kg_ite (kg_skip b.1 _) (kg_two (kg_ip (kg_push (kg_push b.1 (fun _ => b.2)) (fun _ => a.2)) (fun _ => fit_w64 _)))
theorem kg_loop (g : KG N k) (n : Int) : KG N (wLoop k n) := by
 have a := kg_deep g 1
 have b := kg_deep a.1 0
 unfold wLoop
 exact kg_ite (kg_skip (kg_ite (kg_rpop (kg_rpop b.1).1).1 (kg_rpush (kg_rpop b.1).1 (fun _ => fit_step _ _ _))) _) b.1
theorem kg_does (g : KG N k) : KG (N + 2) (wExit (wDoes k)) := by
 unfold wDoes
 exact kg_exit (kg_ite (kg_up (kg_fail g (fit_m 31 (by omega))) (by omega)) (kg_store (kg_store g _ _) _ _))
theorem kg_caught (g : KG N k) : KG N (wCaught k) := by
 unfold wCaught
 split
 ·exact kg_fail g (fit_m 6 (by omega))
 ·rename_i h0
  refine kg_push ?_ (fun _ => fit64_0)
  unfold KG at g ⊢
  dsimp only
  cases q : k.err with
  | ok =>
   rw [q] at g
   refine ⟨gm_f g.m ?_ (by have := g.m.right.fl; simp only [List.length_take]; omega) (fun x hx => g.m.ff x (List.mem_of_mem_take hx)), ?_, g.w⟩
   ·exact List.all_eq_true.2 fun x hx => List.all_eq_true.1 g.m.right.f x (List.mem_of_mem_take hx)
   ·exact g.m.ff _ (by rw [List.getD_eq_getElem?_getD, List.getElem?_eq_getElem (by omega)]; exact List.getElem_mem _)
  | bad c => rw [q] at g; exact g
  | halt => rw [q] at g; exact g.elim
theorem fit_al {a : Int} (h : Fit64 a) : Fit64 (oneS [65, 76, 73, 71, 78, 69, 68] a).1 := by
 show Fit64 (if a % 8 = 0 then a else wrap64 (a - a % 8 + 8))
 split
 ·exact h
 ·exact wrap64_rng _
theorem kg_str (g : KG N k) : KG N (wStr k) := by
 have f := kg_fetch g k.r.ip
 unfold wStr
 refine kg_ip (kg_push (kg_push (kg_fail f.1 ?_) (fun _ => fit_w64 _)) (fun _ => f.2)) (fun _ => fit_al (fit_w64 _))
 unfold memText; split; exact fit64_0; exact fit_m 9 (by omega)
theorem kg_catch (g : KG N k) : KG N (wCatch k) := by
 have a := kg_pop g
 unfold wCatch wFr
 refine kg_next ?_ (fun _ => a.2)
 split
 ·rename_i h0
  have b := kg_fail a.1 (e := -5) (fit_m 5 (by omega))
  have hb : (pOk (wPop k).1 (wPop k).1.r.vm (-5)).err ≠ .ok := fun q => by have := (pOk_ok q).2; omega
  unfold KG at b ⊢
  dsimp only
  cases q : (pOk (wPop k).1 (wPop k).1.r.vm (-5)).err with
  | ok => exact absurd q hb
  | bad c => rw [q] at b; exact b
  | halt => rw [q] at b; exact b.elim
 ·rename_i h0
  have b := a.1
  unfold KG at b ⊢
  dsimp only
  cases q : (wPop k).1.err with
  | ok =>
   rw [q] at b
   have R := b.m.right
   have hc := R.fits
   unfold fitsV at hc
   have h1 := R.d
   have h2 := R.r
   refine ⟨gm_f b.m ?_ (by simp only [List.length_append, List.length_singleton]; omega) (fun x hx => ?_), (by unfold Fit64; dsimp only; omega), b.w⟩
   ·rw [List.all_append, R.f]
    simp only [List.all_cons, List.all_nil, Bool.and_true, Bool.true_and]
    unfold frameOk
    simp only [decide_eq_true_eq, Bool.and_eq_true]
    omega
   ·rcases List.mem_append.1 hx with hx | hx
    ·exact b.m.ff x hx
    ·simp only [List.mem_singleton] at hx; subst hx; exact b.ip
  | bad c => rw [q] at b; exact b
  | halt => rw [q] at b; exact b.elim
theorem kg_machine (g : KG N k) (b : Int) : KG N (wMachine k b) := by
 have x := kg_fetch g b
 have y := kg_fetch x.1 (W64 (b + 8))
 unfold wMachine
 dsimp only
 have z := fun (c : Bool) => kg_fetch (kg_ite (c := c = true) (kg_fail y.1 (e := -24) (fit_m 24 (by omega))) y.1) (W64 (W64 (b + 16) + W64 (8 * (wFetch k b).2)))
 exact kg_ite (z _).1 (kg_next (z _).1 (fun _ => (z _).2))
theorem kg_throw (g : KG N k) : KG N (pOk (wPop k).1 (wPop k).1.r.vm (wPop k).2) := kg_fail (kg_pop g).1 (kg_pop g).2
theorem kf_control (g : KG N k) (h0 : k.err = .ok) (name : Str) : KF2 (N + 2) (wControl k name) := by
 have u := fun {a : PW} (q : KG N a) => kg_f2 (kg_up q (by omega : N ≤ N + 2))
 unfold wControl wMore
 refine kf_ite (kg_f2 (kg_does g)) (kf_ite (u (kg_exit g)) (kf_ite (u (kg_lit g)) (kf_ite (u (kg_skip g _)) (kf_ite (u (kg_skip (kg_pop g).1 _)) (kf_ite (u (kg_qdo g)) (kf_ite (u (kg_two g)) (kf_ite (u (kg_loop g 1)) (kf_ite (u (kg_loop (kg_pop g).1 _)) (kf_ite ?_ ?_)))))))))
 ·have b := (g.ok h0).up (by omega : N ≤ N + 2); exact ⟨b.m, b.ip, b.w⟩
 refine kf_ite (u (kg_caught g)) (kf_ite (u (kg_str g)) (kf_ite (u (kg_next (kg_pop g).1 (fun _ => (kg_pop g).2))) (kf_ite (u (kg_catch g)) (kf_ite (u (kg_throw g)) ?_))))
 have d := fun n => kg_deep g n
 have dp := fun n => u (kg_push (d n).1 (fun q => (d n).2 (deep_ok q)))
 exact kf_ite (dp 0) (kf_ite (dp 2) (kf_ite (u (kg_rpop (kg_rpop (d 1).1).1).1) (kf_ite (u (kg_rpush (kg_pop g).1 (fun _ => (kg_pop g).2))) (kf_ite (u (kg_push (kg_rpop g).1 (fun _ => (kg_rpop g).2))) (kf_ite (dp 0) (kf_ite (u (kg_two g)) (kf_ite (u (kg_from g)) (u g))))))))
end
theorem doS_goodM {v : VVm} {n : Int} {N : Nat} (g : GoodM N v) : GoodM (N + 2) (doS v n).1 := by
 have q := doS_good (n := n) g.v
 have s := doS_same (n := n) g.v
 unfold reset at s
 have e1 : (doS v n).1.r = v.r := by have q := congrArg VVm.r s; exact q
 have e2 : (doS v n).1.f = v.f := by have q := congrArg VVm.f s; exact q
 have e3 : (doS v n).1.last = v.last := by have q := congrArg VVm.last s; exact q
 exact ⟨(right_iff _).1 q.right, q.old, q.d, by rw [e1]; exact g.fr, by rw [e2]; exact g.ff, q.ints, by rw [e3]; exact g.la⟩
theorem kf_word {k : PW} {N : Nat} (g : KG N k) (h0 : k.err = .ok) {xt : Int} (hx : Fit64 xt) : KF2 (N + 2) (wWord k xt) := by
 have u := fun {a : PW} (q : KG N a) => kg_f2 (kg_up q (by omega : N ≤ N + 2))
 have fk : Fit64 (vmKind k.r.vm xt).2 := by
  unfold vmKind; split
  ·split; exact fit64_0; exact fit_m 9 (by omega)
  ·unfold memFetch; split; exact fit64_0; exact fit_cellAt _ _
 have g1 := kg_fail g fk
 unfold wWord
 dsimp only
 by_cases c : isOk (pOk k k.r.vm (vmKind k.r.vm xt).2).err = true
 ·rw [if_pos c]
  have o1 := isOk_iff.1 c
  have gr := g1.ok o1
  refine kf_ite (u (kg_fail g1 (fit_m 14 (by omega)))) (kf_ite (u (kg_ip (kg_rpush g1 (fun q => gr.ip)) (fun _ => fit_w64 _))) (kf_ite (u (kg_push g1 (fun _ => fit_w64 _))) (kf_ite (u (kg_push (kg_fetch g1 _).1 (fun _ => (kg_fetch g1 _).2))) (kf_ite ?_ (kf_ite (u (kg_machine g1 _)) (kf_ite ?_ (kf_control g1 o1 _)))))))
  ·have f := kg_fetch g1 (W64 (xt + 8))
   have p := kg_push f.1 (n := W64 (xt + 16)) (fun _ => fit_w64 _)
   exact u (kg_ip (kg_rpush p (fun q => (p.ok q).ip)) (fun _ => f.2))
  ·exact kg_f2 (kg_ok g1 (by omega) (cd_fit (cd_do _ _)) (fun q _ => doS_goodM gr.m))
 ·rw [if_neg c]; exact u g1
theorem kg_take {r : VRun} {N : Nat} (g : GoodR N r) : KG N (wTake r).1 ∧ Fit64 (wTake r).2 := by
 have b : KG N (wBegin r) := kg_mk rfl ⟨g.m, g.ip, fit64_0⟩
 have f := kg_fetch b r.ip
 unfold wTake
 split
 ·exact ⟨b, g.w⟩
 ·exact ⟨kg_ite (kg_ip f.1 (fun _ => fit_w64 _)) f.1, f.2⟩
theorem deepL_len (s : List Int) (n : Nat) : (deepL s n).length = n := by unfold deepL; simp only [List.length_append, List.length_take, List.length_replicate]; omega
theorem fit_deepL {s : List Int} (h : FitL s) (n : Nat) : FitL (deepL s n) := fitL_append (fitL_take _ h) (fun x hx => by rw [List.eq_of_mem_replicate hx]; exact fit64_0)
theorem good_caught {r : VRun} {N : Nat} (g : GoodR N r) {e : Int} (he : Fit64 e) : GoodR N (caughtS r e).1 := by
 unfold caughtS
 split
 ·exact g
 ·rename_i h0
  dsimp only
  have R := g.m.right
  have hc := R.fits
  unfold fitsV at hc
  have hm : r.vm.f.getD (r.vm.f.length - 1) default ∈ r.vm.f := by rw [List.getD_eq_getElem?_getD, List.getElem?_eq_getElem (by omega)]; exact List.getElem_mem _
  have hf := List.all_eq_true.1 R.f _ hm
  unfold frameOk at hf
  simp only [decide_eq_true_eq, Bool.and_eq_true] at hf
  generalize r.vm.f.getD (r.vm.f.length - 1) default = F at *
  have a1 := gm_f g.m (f := r.vm.f.take (r.vm.f.length - 1)) (List.all_eq_true.2 fun x hx => List.all_eq_true.1 R.f x (List.mem_of_mem_take hx)) (by have := R.fl; simp only [List.length_take]; omega) (fun x hx => g.m.ff x (List.mem_of_mem_take hx))
  have a2 := gm_d a1 (d := deepL r.vm.d (min F.d (r.vm.conf.data - 1)).toNat ++ [e]) (by show _ ≤ r.vm.conf.data; simp only [List.length_append, List.length_singleton, deepL_len]; omega) (fitL_append (fit_deepL g.m.fd _) (fitL_one he))
  have a3 := gm_r a2 (r := deepL r.vm.r (min F.r r.vm.conf.ret).toNat) (by show _ ≤ r.vm.conf.ret; rw [deepL_len]; omega) (fit_deepL g.m.fr _)
  exact ⟨a3, g.m.ff F hm, g.w⟩
theorem good_step {r : VRun} {N : Nat} (g : GoodR N r) : GoodR (N + 2) (wStep r).1 := by
 unfold wStep
 split
 ·exact g.up (by omega)
 ·have t := kg_take g
  have tr := (rel_take r).2
  have tg : KF2 (N + 2) (wDone r) := by
   unfold wDone
   by_cases c : isOk (wTake r).1.err = true
   ·rw [if_pos c]; exact kf_word t.1 (isOk_iff.1 c) t.2
   ·rw [if_neg c]; exact kg_f2 (kg_up t.1 (by omega))
  have wg : GoodR N (wTake r).1.r := by
   rw [tr]
   refine ⟨g.m, ?_, fit64_0⟩
   have e : (dTake r).1.ip = (wTake r).1.r.ip := by rw [tr]
   rw [e]
   unfold wTake
   split
   ·exact g.ip
   ·dsimp only
    split
    ·exact fit_w64 _
    ·rw [fetch_r]; exact g.ip
  unfold KF2 at tg
  cases q : (wDone r).err with
  | ok => rw [q] at tg; exact tg
  | halt => rw [q] at tg; exact tg
  | bad c => rw [q] at tg; exact (good_caught wg tg).up (by omega)
end Go.Proofs.YtobhnjnffnbbkaaGreatDoor
namespace Go.Proofs.YtobhnjnffnbbkaaGreatDoor
open Go.RowKit
set_option maxRecDepth 100000
set_option maxHeartbeats 4000000
def isHalt : VErr → Bool
 | .halt => true
 | _ => false
theorem rep_at {c : Cx} {t : TypeId} {x z : Value} {y : PV} {v : Value} (h : Rep c (.ifc t (.agg [.val x, y])) v) (hy : ∀ u, Rep c y u → u = z) : v = .iface t (.agg #[x, z]) := by
 unfold Rep at h
 obtain ⟨u, rfl, h⟩ := h
 unfold Rep at h
 obtain ⟨vs, rfl, h⟩ := h
 match vs, h with
 | [], h => have := RepL.length h; simp at this
 | [_], h => have := RepL.length h; simp at this
 | [p, q], h =>
  have h1 := (repL_cons.1 h).1
  have h2 := hy _ (repL_cons.1 (repL_cons.1 h).2).1
  unfold Rep at h1
  rw [h1, h2]
 | _ :: _ :: _ :: _, h => have := RepL.length h; simp at this
theorem rep_thr {c : Cx} {t : TypeId} {x v : Value} (h : Rep c (.ifc t (.agg [.val x])) v) : v = .iface t (.agg #[x]) := by
 unfold Rep at h
 obtain ⟨u, rfl, h⟩ := h
 unfold Rep at h
 obtain ⟨vs, rfl, h⟩ := h
 match vs, h with
 | [], h => have := RepL.length h; simp at this
 | [p], h =>
  have h1 := (repL_cons.1 h).1
  unfold Rep at h1
  rw [h1]
 | _ :: _ :: _, h => have := RepL.length h; simp at this
theorem repL_two {c : Cx} {x y : PV} {vs : List Value} {a b : Value} (h : RepL c [x, y] vs) (hx : ∀ u, Rep c x u → u = a) (hy : ∀ u, Rep c y u → u = b) : vs = [a, b] := by
 match vs, h with
 | [], h => have := RepL.length h; simp at this
 | [_], h => have := RepL.length h; simp at this
 | [p, q], h => rw [hx _ (repL_cons.1 h).1, hy _ (repL_cons.1 (repL_cons.1 h).2).1]
 | _ :: _ :: _ :: _, h => have := RepL.length h; simp at this
theorem rep_is {c : Cx} {x v : Value} (h : Rep c (.val x) v) : v = x := by unfold Rep at h; exact h
theorem i_is (a : Addr) (xt : Int) (e : VErr) (he : isOk e = false) : PureC Tryz.prog 36 [.ifc 84 (.agg [i64 xt, errP a e]), .val (haltV a)] (boo (isHalt e)) := by
 cases e with
 | ok => cases he
 | bad k => exact pure_of_calls2 (l := [atV xt (thrV k), haltV a]) (v := .bool false) (fun c vs h => repL_two h (fun u hu => rep_at hu (fun _ hq => rep_thr hq)) (fun u hu => rep_is hu)) (fun c => rep_val _ _) (is_bad a xt k)
 | halt => exact pure_of_calls2 (l := [atV xt (haltV a), haltV a]) (v := .bool true) (fun c vs h => repL_two h (fun u hu => rep_at hu (fun _ hq => rep_is hq)) (fun u hu => rep_is hu)) (fun c => rep_val _ _) (is_end a xt)
theorem i_as (xt k : Int) {x0 : PV} (H : List Ob) (i j : Nat) (hi : H[i]? = some (.cells [x0] 86)) (hj : H[j]? = some (.glob 1 etV)) :
  HC Tryz.prog 37 [.ifc 84 (.agg [i64 xt, .ifc 86 (.agg [i64 k])]), .ifc 89 (.ptr i 0)] H (boo true) (H.set i (.cells [i64 k] 86)) := by
 intro B σ w vs s hv
 obtain ⟨b, vs0, fr, hb, hw, hfr, p, q, rfl, hp⟩ := s.holds i _ hi
 simp only [cx] at hb hw
 match p, hp with
 | [], hp => have := RepL.length hp; simp at this
 | _ :: _ :: _, hp => have := RepL.length hp; simp at this
 | [old], hp =>
 have hvs : vs = [atV xt (thrV k), .iface 89 (.pointer (some ⟨b, 0, none⟩))] := repL_two hv (fun u hu => rep_at hu (fun _ hq => rep_thr hq)) (fun u hu => by
  unfold Rep at hu
  obtain ⟨z, rfl, hz⟩ := hu
  unfold Rep at hz
  obtain ⟨_, b2, h2, rfl⟩ := hz
  simp only [cx] at h2
  rw [hb] at h2; cases h2; rfl)
 subst hvs
 obtain ⟨hg, _⟩ := s.holds j _ hj
 have ht0 : w.cell? ⟨b, 0, none⟩ = some old := by rw [cell_of_heap hw]; rfl
 have hf0 : w.frozen? ⟨b, 0, none⟩ = false := by
  rcases hfr with rfl | hz
  ·simp [World.frozen?, hw]
  ·obtain ⟨lo, hi'⟩ := fr
   simp only [World.frozen?, hw, Bool.and_eq_false_iff, decide_eq_false_iff_not]
   simp only [List.length_append, List.length_cons] at hz
   exact .inl (by omega)
 refine Calls.mono (as_hit xt k ⟨b, 0, none⟩ old w hg ht0 hf0) ?_
 rintro e w' ⟨rfl, w1, g, rfl⟩
 obtain ⟨s1, st1⟩ := grow_sim s g
 have hw1 : w1.heap[b]? = some (Obj.cells (old :: q).toArray 86 fr) := (g.block b (Array.getElem?_eq_some_iff.1 hw).1).trans hw
 obtain ⟨s2, st2⟩ := set_cells s1 (ys := [i64 k]) (us := .int .i64 k :: q) hi hb hw1 hfr rfl ⟨[.int .i64 k], q, rfl, repL_cons.2 ⟨rep_val _ _, repL_nil.2 rfl⟩⟩
 have e1 : w1.setCell ⟨b, 0, none⟩ (.int .i64 k) = w1.setRow b (Value.int .i64 k :: q).toArray := by
  rw [setCell_eq_setRow w1 b 0 _ _ _ _ hw1]; simp
 rw [e1]
 exact ⟨.bool true, σ, rfl, rep_val _ _, s2, st1.trans st2⟩
theorem zeros_flat (n : Nat) {d : TD} (hz : d.zero = [i64 0]) : zerosPV n d = (List.replicate n (0 : Int)).flatMap cInt := by
 unfold zerosPV
 rw [hz]
 induction n with
 | zero => rfl
 | succ n ih => rw [List.replicate_succ, List.replicate_succ, List.flatten_cons, List.flatMap_cons, ih]; rfl
theorem ints_map (l : List Int) : l.flatMap cInt = l.map i64 := by
 induction l with
 | nil => rfl
 | cons x l ih => rw [List.flatMap_cons, ih]; rfl
theorem deep_splice (s : List Int) (n : Nat) {d : TD} (hs : d.size = 1) (hz : d.zero = [i64 0]) : splice (zerosPV n d) 0 ((s.flatMap cInt).take (min s.length n * d.size)) = (deepL s n).flatMap cInt := by
 rw [zeros_flat n hz, ints_map, ints_map, ints_map, hs, Nat.mul_one]
 unfold splice deepL
 rw [List.take_zero, List.nil_append, Nat.zero_add, ← List.map_take, List.length_map, List.length_take, ← List.map_drop, List.map_append, List.drop_replicate]
 congr 2
 ·rcases Nat.le_total s.length n with h | h
  ·rw [Nat.min_eq_left h, List.take_of_length_le (Nat.le_refl _), List.take_of_length_le h]
  ·rw [Nat.min_eq_right h]
 ·congr 1; omega
theorem deep_sq (s : List Int) (n : Nat) : PV.seq n (((deepL s n).flatMap cInt).take n) .clip = sqc cInt (deepL s n) := by
 have h := deepL_len s n
 rw [ints_map, ← List.map_take, List.take_of_length_le (by omega), ← ints_map]
 unfold sqc; rw [h]
theorem inner_deepened (s : List Int) (n : Nat) (hs : s.length ≤ 1000000) (hn : n ≤ 1000000) : PureC Tryz.prog 76 [sq cInt s, i64 (n : Int)] (sqc cInt (deepL s n)) := by
 refine pW tG (rs := [.tmp 4]) Tryz.func76 rfl rfl rfl (by simp) (by simp) (fun B => ?_)
 refine zu1 ?_
 refine zp1 ?_
 refine z2 ?_ (q := (by (simp_all; omega)))
 refine zs1 ?_
 refine zp2 ?_
 refine Wd rfl rfl (does_copy (lO tG rfl) rfl (lO tG rfl) rfl rfl rfl rfl (flatMap_len _ 1 (fun _ => rfl) _) (okC_flat _ (fun _ => rfl) _) (by rw [zerosPV_len _ _ rfl]; simp)) ?_
 refine WO_ob (H' := [.cells ((deepL s n).flatMap cInt) 3]) (by refine congrArg (fun z => [Ob.cells z 3]) (deep_splice s n ?_ ?_).symm <;> rfl) ?_
 refine Wn ?_
 refine zp1 ?_
 refine WO_freezeA 11 0 n n rfl rfl (by rw [ints_map, List.length_map, deepL_len]; exact Nat.le_refl _) ?_
 refine Wa 11 rfl (deep_sq s n) ?_
 refine zs1 ?_
 refine Wq ?_
 exact leafPx rfl rfl
def tCaught (r : VRun) (b : Bool) : PV := tup2 (eRun r) (boo b)
@[simp] theorem flat_tCaught (r : VRun) (b : Bool) : Flat (tCaught r b) := by simp [tCaught]
theorem inner_caught (r : VRun) (e : Int) (N : Nat) (g : GoodM N r.vm) : PureC Tryz.prog 38 [eRun r, i64 e] (tCaught (caughtS r e).1 (decide (r.vm.f.length ≠ 0))) := by
 have R := g.right
 have hc := R.fits
 unfold fitsV at hc
 have hfl := R.fl
 have hd := R.d
 have hr := R.r
 by_cases h0 : r.vm.f.length = 0
 ·have e1 : (caughtS r e).1 = r := by unfold caughtS; rw [if_pos h0]
  rw [e1]
  refine pW tG (rs := [.cell 4 38, .tmp 5]) Tryz.func38 rfl rfl rfl (by simp) (by simp) (fun B => ?_)
  refine zu3 ?_
  refine zu5 ?_
  refine Ws ?_
  refine zu2 ?_
  refine Wt rfl (by (try simp only [dnL] at *); omega) ?_
  refine zu3 ?_
  refine zR ?_
  exact congrArg (tCaught r) (decide_eq_false (fun q => q h0)).symm
 ·have hm : r.vm.f.getD (r.vm.f.length - 1) default ∈ r.vm.f := by rw [List.getD_eq_getElem?_getD, List.getElem?_eq_getElem (by omega)]; exact List.getElem_mem _
  have hf := List.all_eq_true.1 R.f _ hm
  unfold frameOk at hf
  simp only [decide_eq_true_eq, Bool.and_eq_true] at hf
  have e1 : caughtS r e = ({ r with vm := { r.vm with f := r.vm.f.take (r.vm.f.length - 1), d := deepL r.vm.d (min (r.vm.f.getD (r.vm.f.length - 1) default).d (r.vm.conf.data - 1)).toNat ++ [e], r := deepL r.vm.r (min (r.vm.f.getD (r.vm.f.length - 1) default).r r.vm.conf.ret).toNat }, ip := (r.vm.f.getD (r.vm.f.length - 1) default).ip }, 0) := by
   unfold caughtS; rw [if_neg h0]
  rw [e1]
  have w0 : IntKind.i64.wrap ((r.vm.f.length : Int) - 1) = ((r.vm.f.length - 1 : Nat) : Int) := by ((rw [i64w]; unfold wrap64; (try simp only [dnL] at *); omega))
  have w1 : IntKind.i64.wrap (r.vm.conf.data - 1) = r.vm.conf.data - 1 := by ((rw [i64w]; unfold wrap64; (try simp only [dnL] at *); omega))
  have w2 : (if r.vm.conf.data - 1 < (r.vm.f.getD (r.vm.f.length - 1) default).d then r.vm.conf.data - 1 else (r.vm.f.getD (r.vm.f.length - 1) default).d) = ((min (r.vm.f.getD (r.vm.f.length - 1) default).d (r.vm.conf.data - 1)).toNat : Int) := by split <;> omega
  have w3 : (if r.vm.conf.ret < (r.vm.f.getD (r.vm.f.length - 1) default).r then r.vm.conf.ret else (r.vm.f.getD (r.vm.f.length - 1) default).r) = ((min (r.vm.f.getD (r.vm.f.length - 1) default).r r.vm.conf.ret).toNat : Int) := by split <;> omega
  have hdl := deepL_len r.vm.d (min (r.vm.f.getD (r.vm.f.length - 1) default).d (r.vm.conf.data - 1)).toNat
  refine pW tG (rs := [.cell 4 38, .tmp 5]) Tryz.func38 rfl rfl rfl (by simp) (by simp) (fun B => ?_)
  refine zu3 ?_
  refine zu5 ?_
  refine Ws ?_
  refine zu2 ?_
  refine Wf rfl (by (try simp only [dnL] at *); omega) ?_
  refine Wj ?_
  refine zp5 ?_
  refine Wa 19 rfl (congrArg (fun z => PV.val (Value.int .i64 z)) w0) ?_
  refine Wv tG rfl rfl rfl (by omega) (iN cFrame 3 (fun _ => rfl) default (by omega)) ?_
  refine zs3 ?_
  refine zp5 ?_
  refine Wa 26 rfl (congrArg (fun z => PV.val (Value.int .i64 z)) w0) ?_
  refine z2 ?_ (q := (by (simp_all; done)))
  refine Wa 27 rfl (sq_slice cFrame 3 (fun _ => rfl) (by omega)) ?_
  refine zs3 ?_
  refine zp5 ?_
  refine zy5 ?_
  refine Wa 39 rfl (congrArg (fun z => PV.val (Value.int .i64 z)) w1) ?_
  refine z1 ?_
  refine Wa 40 rfl (congrArg (fun z => PV.val (Value.int .i64 z)) w2) ?_
  refine Wc rfl rfl (dC rfl Tryz.func76 rfl rfl ((inner_deepened r.vm.d (min (r.vm.f.getD (r.vm.f.length - 1) default).d (r.vm.conf.data - 1)).toNat (by omega) (by omega)) _)) ?_
  refine zy2 ?_
  refine Wa 43 rfl (bsL cInt [_] rfl rfl) ?_
  refine Wd rfl rfl (does_append_clip (lO tG rfl) rfl (lO tG rfl) (lO tG rfl) rfl rfl (by exact ⟨_, rfl⟩) (by exact ⟨rfl, rfl, flatMap_len _ 1 (fun _ => rfl) _, okC_flat _ (fun _ => rfl) _⟩) (by exact flatMap_len _ 1 (fun _ => rfl) _) (by ((simp_all; omega))) (by ((simp_all; omega)))) ?_
  refine Wa 44 rfl (sq_append cInt) ?_
  refine zs3 ?_
  refine zp5 ?_
  refine zy5 ?_
  refine Wa 56 rfl (congrArg (fun z => PV.val (Value.int .i64 z)) w3) ?_
  refine Wc rfl rfl (dC rfl Tryz.func76 rfl rfl ((inner_deepened r.vm.r (min (r.vm.f.getD (r.vm.f.length - 1) default).r r.vm.conf.ret).toNat (by omega) (by omega)) _)) ?_
  refine zs3 ?_
  refine zu4 ?_
  refine zu3 ?_
  refine zR ?_
  rw [decide_eq_true h0]; rfl
end Go.Proofs.YtobhnjnffnbbkaaGreatDoor
