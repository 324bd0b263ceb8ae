/- The statement of layer 1 that what is put is got: its walk. -/
import Derived.Test.YtkchnmilmepnfaaCellG
import Derived.Test.YtkchnmilmepnfaaCellQ
import Derived.Test.YtkchnmilmepnfaaEngT
namespace Go.Proofs.Ytkchnmilmepnfaa
open Go.RowKit
set_option linter.unusedVariables false

theorem rep_bytes_new {B : Nat → Nat → Prop} {H : List Ob} {σ : Nat → Option Nat} {w w' : World} (s : Sim B H σ w) (g : Grows w w') {xs : List Int} {b c : Nat} (hb : w.heap.size ≤ b) (hl : xs.length ≤ c) (hc : ∀ i, i < xs.length → w'.cell? ⟨b, i, none⟩ = some (.int .u8 (xs.getD i 0))) :
    Rep (cx B H σ w') (.seq xs.length (xs.map byteP) .any) (.slice (some ⟨b, 0, none⟩) xs.length c) := by
  unfold Rep
  refine ⟨_, c, xs.map (Value.int .u8), rfl, hl, (fun h => by cases h), ?_, fun a ha => ?_, trivial⟩
  · clear hc hl
    induction xs with
    | nil => exact repL_nil.2 rfl
    | cons x l ih => exact repL_cons.2 ⟨rep_val _ _, ih⟩
  · cases ha
    refine .inl ⟨rfl, fun j u hj => ⟨?_, ?_⟩⟩
    · have hjl : j < xs.length := by have := lt_of_get hj; simpa using this
      show w'.cell? ⟨b, 0 + j, none⟩ = some u
      rw [Nat.zero_add, hc j hjl]
      rw [List.getElem?_map, List.getElem?_eq_getElem hjl] at hj
      simp only [Option.map_some, Option.some.injEq] at hj
      rw [← hj]; simp [List.getD, hjl]
    · rintro (h | ⟨i, oi, h1, h2, h3⟩)
      · have := s.base _ _ h; dsimp only at this; omega
      · have hl : oi.live = true := by cases oi <;> first | rfl | cases h3
        have := (s.holds i oi h1).lt hl h2
        simp only [cx] at this; omega
theorem pure_Put (n : Int) : PureC Try.prog 10 [.val (.int .i64 n)] (.seq 8 ((bytes8 (U n)).map byteP) .any) := by
  intro H B σ w vs s hv
  have := repL_vals (l := [.int .i64 n]) hv
  subst this
  refine Calls.mono (cell_Put n w) ?_
  rintro e w' ⟨b, c, rfl, hb, hl, hc, hbel⟩
  have g := Grows.of_below hbel
  obtain ⟨s', st⟩ := grow_sim s g
  exact ⟨_, σ, rfl, rep_bytes_new s g hb hl hc, s', st⟩
theorem pure_Get (zs : List Int) (hl : zs.length = 8) (hb : ∀ x ∈ zs, 0 ≤ x ∧ x < 256) (k : SK) : PureC Try.prog 9 [.seq 8 (zs.map byteP) k] (.tup [.val (.int .i64 (wrap64 (valB zs))), .val (.int .i64 0)]) := by
  intro H B σ w vs s hv
  match vs, hv with
  | [], hv => unfold RepL at hv; obtain ⟨u, us, h1, _⟩ := hv; cases h1
  | v :: vs, hv =>
    rw [repL_cons, repL_nil] at hv
    obtain ⟨hv, rfl⟩ := hv
    obtain ⟨ad, cap, ws, rfl, hle, hnil, hrl, hlies, _⟩ := rep_seq hv
    have hws := repL_bytes hrl
    match ad, hnil, hlies with
    | none, hnil, _ => have := (hnil rfl).1; omega
    | some b, _, hlies =>
      have hl2 := (hlies b rfl).resolve_right (by rintro ⟨_, h3⟩; rw [h3] at hws; have := congrArg List.length hws; simp at this; omega)
      have hbe := lies_addr hl2
      rw [hbe]
      refine Calls.mono (cell_Get b.block b.off cap zs w hl hb (fun i hi => (hl2.2 i _ (by rw [hws, List.getElem?_map, List.getElem?_eq_getElem (by omega)]; simp [List.getD, show i < zs.length by omega])).1)) ?_
      rintro e w' ⟨rfl, rfl⟩
      refine ⟨_, σ, rfl, ?_, s, Step.refl _ _ _ _⟩
      unfold Rep
      exact ⟨[_, _], rfl, repL_cons.2 ⟨rep_val _ _, repL_cons.2 ⟨rep_val _ _, repL_nil.2 rfl⟩⟩⟩
theorem get_arr {H : List Ob} {i off cap : Nat} {xs : List PV} {e : TypeId} (zs : List Int) (hl : zs.length = 8) (hb : ∀ x ∈ zs, 0 ≤ x ∧ x < 256) (hi : H[i]? = some (.cells xs e)) (hz : (xs.drop off).take 8 = zs.map byteP) :
    HC Try.prog 9 [.arr i off 8 cap] H (.tup [.val (.int .i64 (wrap64 (valB zs))), .val (.int .i64 0)]) H := by
  intro B σ w vs s hv
  match vs, hv with
  | [], hv => unfold RepL at hv; obtain ⟨u, us, h1, _⟩ := hv; cases h1
  | v :: vs, hv =>
    rw [repL_cons, repL_nil] at hv
    obtain ⟨hv, rfl⟩ := hv
    unfold Rep at hv
    obtain ⟨hN, b, hσ, rfl⟩ := hv
    obtain ⟨b', ws, hσ', hg, hwl⟩ := s.holds i _ hi
    simp only [cx] at hσ hσ' hg
    rw [hσ] at hσ'
    cases hσ'
    have hrl := (hwl.drop off).take 8
    rw [hz] at hrl
    have hws := repL_bytes hrl
    refine Calls.mono (cell_Get b off cap zs w hl hb (fun j hj => ?_)) ?_
    · rw [cell_of_heap hg]
      have : ((ws.drop off).take 8)[j]? = some (.int .u8 (zs.getD j 0)) := by rw [hws, List.getElem?_map, List.getElem?_eq_getElem (by omega)]; simp [List.getD, show j < zs.length by omega]
      rw [List.getElem?_take, if_pos hj, List.getElem?_drop] at this
      exact this
    · rintro e' w' ⟨rfl, rfl⟩
      refine ⟨_, σ, rfl, ?_, s, Step.refl _ _ _ _⟩
      unfold Rep
      exact ⟨[_, _], rfl, repL_cons.2 ⟨rep_val _ _, repL_cons.2 ⟨rep_val _ _, repL_nil.2 rfl⟩⟩⟩
theorem pure_shown1 : PureC Try.prog 8 [] (.val (.bool true)) := by
  have := pure_of_calls (P := Try.prog) (f := 8) (args := []) (r := .val (.bool true)) (v := .bool true) (fun c => rep_val _ _) (fun w => Calls.mono (cell_shown w) (by rintro e w' ⟨rfl, h⟩; exact ⟨rfl, Grows.of_below h⟩))
  exact this

theorem list_of_nums (xs : List Int) (hb : ∀ x ∈ xs, 0 ≤ x ∧ x < 256) : (strOfNums xs).data.toList.map (fun b => (b.toNat : Int)) = xs := by
  rw [strOfNums_data]
  induction xs with
  | nil => rfl
  | cons x l ih =>
    simp only [List.map_cons, List.cons.injEq]
    refine ⟨?_, ih (fun y hy => hb y (by simp [hy]))⟩
    have := hb x (by simp)
    rw [UInt8.toNat_ofNat']
    omega
theorem back_same (n m : Int) (hn : Fit n) (hm : Fit m) : (strEq (strOfNums (bytes8 (U n))) (strOfNums (bytes8 (U m))) == (n == m)) = true := by
  have e : strOfNums (bytes8 (U n)) = strOfNums (bytes8 (U m)) ↔ n = m := by
    constructor
    · intro h
      have h1 := list_of_nums (bytes8 (U n)) (bytes8_rng _)
      have h2 := list_of_nums (bytes8 (U m)) (bytes8_rng _)
      rw [h] at h1
      have h3 := bytes8_inj (U_lt n) (U_lt m) (h1.symm.trans h2)
      have h4 := S_U n hn
      have h5 := S_U m hm
      rw [← h4, ← h5, h3]
    · rintro rfl; rfl
  rw [strEq_eq]
  by_cases h : n = m
  · subst h; simp
  · have h' : ¬ strOfNums (bytes8 (U n)) = strOfNums (bytes8 (U m)) := fun k => h (e.1 k)
    simp [h, h']

set_option maxRecDepth 100000 in
set_option maxHeartbeats 4000000 in
theorem eng_CellBack (n m : Int) (x0 x1 x2 x3 x4 x5 x6 x7 : Int) (hn : Fit n) (hm : Fit m) (hb : ∀ x ∈ [x0, x1, x2, x3, x4, x5, x6, x7], 0 ≤ x ∧ x < 256) :
    PureC Try.prog 3 [.val (.int .i64 n), .val (.int .i64 m), .agg [byteP x0, byteP x1, byteP x2, byteP x3, byteP x4, byteP x5, byteP x6, byteP x7]] (.val (.bool true)) := by
  have hpg := put_got [x0, x1, x2, x3, x4, x5, x6, x7] rfl hb
  have hsame := back_same n m hn hm
  refine pure_of_W (ts := [6]) Try.func3 rfl rfl rfl (by simp [FlatL, Flat, byteP]) (by simp [Flat, FlatL]) (fun B => ?_)
  refine W_seq ?_
  refine W_region rfl ?_
  refine WO_ev tysGood rfl rfl rfl trivial ?_
  refine WO_ev tysGood rfl rfl rfl trivial ?_
  refine WO_nil ?_
  refine W_seq ?_
  refine W_region rfl ?_
  refine WO_call rfl rfl (doesC_func rfl Try.func8 rfl rfl ((pure_shown1) _)) ?_
  refine WO_ev tysGood rfl rfl rfl trivial ?_
  refine WO_nil ?_
  refine W_seq ?_
  refine W_region rfl ?_
  refine WO_ev tysGood rfl rfl rfl trivial ?_
  refine WO_call rfl rfl (doesC_func rfl Try.func10 rfl rfl ((pure_Put n) _)) ?_
  refine WO_call rfl rfl (doesC_func rfl Try.func9 rfl rfl ((pure_Get (bytes8 (U n)) rfl (bytes8_rng _) .any) _)) ?_
  refine WO_ev tysGood rfl rfl rfl trivial ?_
  refine WO_ev tysGood rfl rfl rfl trivial ?_
  refine WO_ev tysGood rfl rfl rfl trivial ?_
  refine WO_ev tysGood rfl rfl rfl trivial ?_
  refine WO_ev tysGood rfl rfl rfl trivial ?_
  refine WO_nil ?_
  refine W_seq ?_
  refine W_region rfl ?_
  refine WO_ev tysGood rfl rfl rfl (by first | exact trivial | omega | (refine ⟨?_, ?_⟩ <;> omega) | (simp <;> omega)) ?_
  refine WO_call rfl rfl (doesC_func rfl Try.func9 rfl rfl (get_arr [x0, x1, x2, x3, x4, x5, x6, x7] rfl hb rfl rfl)) ?_
  refine WO_ev tysGood rfl rfl rfl trivial ?_
  refine WO_ev tysGood rfl rfl rfl trivial ?_
  refine WO_ev tysGood rfl rfl rfl trivial ?_
  refine WO_ev tysGood rfl rfl rfl trivial ?_
  refine WO_ev tysGood rfl rfl rfl trivial ?_
  refine WO_nil ?_
  refine W_seq ?_
  refine W_draw mixedGood rfl (by kernel_rfl) ?_
  refine WD_ev tysGood rfl rfl rfl trivial ?_
  refine WD_ev tysGood rfl rfl rfl trivial ?_
  refine WD_true 25 rfl (by simp [got_put n hn, hpg, hsame, strEq_eq]) ?_
  refine WD_ev tysGood rfl rfl rfl trivial ?_
  refine WD_ev tysGood rfl rfl rfl trivial ?_
  refine WD_ev tysGood rfl rfl rfl trivial ?_
  refine WD_ev tysGood rfl rfl rfl trivial ?_
  refine WD_true 29 rfl (by simp [got_put n hn, hpg, hsame, strEq_eq]) ?_
  refine WD_ev tysGood rfl rfl rfl trivial ?_
  refine WD_ev tysGood rfl rfl rfl trivial ?_
  refine WD_ev tysGood rfl rfl rfl trivial ?_
  refine WD_ev tysGood rfl rfl rfl trivial ?_
  refine WD_ev tysGood rfl rfl rfl trivial ?_
  refine WD_true 34 rfl (by simp [got_put n hn, hpg, hsame, strEq_eq]) ?_
  refine WD_ev tysGood rfl rfl rfl trivial ?_
  refine WD_ev tysGood rfl rfl rfl trivial ?_
  refine WD_ev tysGood rfl rfl rfl trivial ?_
  refine WD_ev tysGood rfl rfl rfl trivial ?_
  refine WD_true 38 rfl (by simp [got_put n hn, hpg, hsame, strEq_eq]) ?_
  refine WD_ev tysGood rfl rfl rfl trivial ?_
  refine WD_call rfl rfl (doesC_func rfl Try.func10 rfl rfl ((pure_Put _) _)) ?_
  refine WD_does rfl rfl (does_convert_bytes (look_ok tysGood rfl) rfl (look_ok tysGood rfl) rfl (look_ok tysGood rfl) rfl rfl rfl (by first | rfl | simp)) ?_
  refine WD_ev tysGood rfl rfl rfl (by first | exact trivial | omega | (refine ⟨?_, ?_⟩ <;> omega) | (simp <;> omega)) ?_
  refine WD_does rfl rfl (does_convert_arr (zs := [x0, x1, x2, x3, x4, x5, x6, x7]) (look_ok tysGood rfl) rfl (look_ok tysGood rfl) rfl (look_ok tysGood rfl) rfl rfl (by rfl) (by rfl) (by rfl) (by rfl)) ?_
  refine WD_ev tysGood rfl rfl rfl trivial ?_
  refine WD_ev tysGood rfl rfl rfl trivial ?_
  refine WD_ev tysGood rfl rfl rfl trivial ?_
  refine WD_true 46 rfl (by simp [got_put n hn, hpg, hsame, strEq_eq]) ?_
  refine WD_ev tysGood rfl rfl rfl trivial ?_
  refine WD_call rfl rfl (doesC_func rfl Try.func10 rfl rfl ((pure_Put n) _)) ?_
  refine WD_does rfl rfl (does_convert_bytes (look_ok tysGood rfl) rfl (look_ok tysGood rfl) rfl (look_ok tysGood rfl) rfl rfl rfl (by first | rfl | simp)) ?_
  refine WD_ev tysGood rfl rfl rfl trivial ?_
  refine WD_call rfl rfl (doesC_func rfl Try.func10 rfl rfl ((pure_Put m) _)) ?_
  refine WD_does rfl rfl (does_convert_bytes (look_ok tysGood rfl) rfl (look_ok tysGood rfl) rfl (look_ok tysGood rfl) rfl rfl rfl (by first | rfl | simp)) ?_
  refine WD_ev tysGood rfl rfl rfl trivial ?_
  refine WD_ev tysGood rfl rfl rfl trivial ?_
  refine WD_ev tysGood rfl rfl rfl trivial ?_
  refine WD_ev tysGood rfl rfl rfl trivial ?_
  refine WD_ev tysGood rfl rfl rfl trivial ?_
  refine WD_ev tysGood rfl rfl rfl trivial ?_
  refine WD_ev tysGood rfl rfl rfl trivial ?_
  refine WD_true 59 rfl (by exact hsame) ?_
  refine WD_ev tysGood rfl rfl rfl trivial ?_
  refine WD_call rfl rfl (doesC_func rfl Try.func10 rfl rfl ((pure_Put n) _)) ?_
  refine WD_ev tysGood rfl rfl rfl trivial ?_
  refine WD_ev tysGood rfl rfl rfl trivial ?_
  refine WD_ev tysGood rfl rfl rfl trivial ?_
  refine WD_ev tysGood rfl rfl rfl trivial ?_
  refine WD_nil ?_
  refine W_ret ?_
  first | exact imp_of rfl | exact leaf_bool rfl (by first | (simp_all; done) | (simp_all; omega)) | exact leaf_int rfl (by first | (simp_all; done) | (simp_all; omega) | omega) | exact leaf_val rfl (by simp_all)
end Go.Proofs.Ytkchnmilmepnfaa
