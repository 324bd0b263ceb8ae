import Derived.Test.YtobhnjnffnbbkaaGreatDoorPk8
set_option linter.unusedVariables false
set_option linter.unusedSimpArgs false
namespace Go.Proofs.YtobhnjnffnbbkaaGreatDoor
open Go.RowKit
set_option maxRecDepth 100000
set_option maxHeartbeats 8000000
def tStep (r : VRun × Bool × Int) : PV := tup3 (eRun r.1) (boo r.2.1) (i64 r.2.2)
@[simp] theorem flat_tStep (r : VRun × Bool × Int) : Flat (tStep r) := by simp [tStep]
theorem take_yes {r : VRun} (h : r.dof = true) : wTake r = (wBegin r, r.w) := by unfold wTake; rw [if_pos h]
theorem take_ok {r : VRun} (h : ¬ r.dof = true) (k : isOk (wFetch (wBegin r) r.ip).1.err = true) : wTake r = (wIp (wFetch (wBegin r) r.ip).1 (W64 ((wFetch (wBegin r) r.ip).1.r.ip + 8)), (wFetch (wBegin r) r.ip).2) := by unfold wTake; rw [if_neg h, if_pos k]
theorem take_no {r : VRun} (h : ¬ r.dof = true) (k : ¬ isOk (wFetch (wBegin r) r.ip).1.err = true) : wTake r = ((wFetch (wBegin r) r.ip).1, (wFetch (wBegin r) r.ip).2) := by unfold wTake; rw [if_neg h, if_neg k]
theorem done_yes {r : VRun} (k : isOk (wTake r).1.err = true) : wDone r = wWord (wTake r).1 (wTake r).2 := by unfold wDone; rw [if_pos k]
theorem done_no {r : VRun} (k : ¬ isOk (wTake r).1.err = true) : wDone r = (wTake r).1 := by unfold wDone; rw [if_neg k]
theorem kx_take {r : VRun} {N : Nat} (g : GoodR N r) : KX N (wTake r).1 ∧ Fit64 (wTake r).2 := by
 have b : KX N (wBegin r) := ⟨g.m.x, g.ip, fit64_0⟩
 have f := kx_fetch b r.ip
 unfold wTake
 split
 ·exact ⟨b, g.w⟩
 ·refine ⟨?_, f.2⟩
  dsimp only
  split
  ·exact kx_ip f.1 (fit_w64 _)
  ·exact f.1
theorem halt_is {e : VErr} (h : isHalt e = true) : e = .halt := by cases e <;> first | rfl | cases h
theorem bad_is {e : VErr} (h : isOk e = false) (k : isHalt e = false) : ∃ c, e = .bad c := by
 cases e with
 | ok => cases h
 | bad c => exact ⟨c, rfl⟩
 | halt => cases k
theorem caught_2 {r : VRun} {c : Int} (h : r.vm.f.length ≠ 0) : (caughtS r c).2 = 0 := by unfold caughtS; rw [if_neg h]
theorem caught_0 {r : VRun} {c : Int} (h : r.vm.f.length = 0) : caughtS r c = (r, c) := by unfold caughtS; rw [if_pos h]
def zRun : List PV := [PV.val (Value.int IntKind.i64 0), PV.val (Value.int IntKind.i64 0), PV.val (Value.int IntKind.i64 0), PV.val (Value.int IntKind.i64 0), PV.val (Value.int IntKind.i64 0), PV.seq 0 [] SK.clip, PV.seq 0 [] SK.clip, PV.val (Value.int IntKind.i64 0), PV.seq 0 [] SK.clip, PV.seq 0 [] SK.clip, PV.seq 0 [] SK.clip, PV.seq 0 [] SK.clip, PV.val (Value.int IntKind.i64 0), PV.seq 0 [] SK.clip, PV.seq 0 [] SK.clip, PV.val (Value.bool false), PV.seq 0 [] SK.clip, PV.val (Value.int IntKind.i64 0), PV.val (Value.int IntKind.i64 0), PV.val (Value.int IntKind.i64 0), PV.val (Value.int IntKind.i64 0), PV.val (Value.int IntKind.i64 0), PV.seq 0 [] SK.clip, PV.val (Value.int IntKind.i64 0), PV.val (Value.int IntKind.i64 0), PV.val (Value.bool false), PV.val (Value.int IntKind.i64 0)]
@[simp] theorem flat_zRun : FlatL zRun := by simp [zRun, FlatL, Flat]
theorem inner_Step (a : Addr) (r : VRun) (N : Nat) (g : GoodR N r) (hN : N ≤ 800000) (hfu : Fit64 r.fuel) : ∀ (H : List Ob), (∀ o ∈ globs a, ∃ k : Nat, H[k]? = some o) → HC Tryz.prog 14 [eRun r] H (tStep (wStep r)) H := by
 have kb : KX N (wBegin r) := ⟨g.m.x, g.ip, fit64_0⟩
 have kt := kx_take g
 have hvt : (wTake r).1.r.vm = r.vm := by rw [(rel_take r).2]
 have hvo : VmOk (wTake r).1.r.vm := by rw [hvt]; exact good_ok g.m.v (by omega)
 have gw : GoodM N (wTake r).1.r.vm := by rw [hvt]; exact g.m
 refine pureG_of_WR (globs_ok a) tG (rs := [.cell 2 38, .tmp 3, .tmp 4]) Tryz.func14 rfl rfl rfl (by simp) (by simp) (fun B => ?_)
 refine zu4 ?_
 refine Ws ?_
 refine zu3 ?_
 refine Wi rfl (fun hi1 => ?_) (fun hi1 => ?_)
 ·have q1 : r.fuel < 1 := oT hi1
  refine zu4 ?_
  refine zR ?_
  unfold wStep; rw [if_pos q1]; rfl
 ·have q1 : ¬ r.fuel < 1 := oF hi1
  refine Wj ?_
  refine zu4 ?_
  refine zp5 ?_
  refine zs2 ?_
  refine zu3 ?_
  refine zp5 ?_
  refine WO_storeB (zs := cPW a (wBegin r)) (lO tG rfl) rfl rfl rfl rfl rfl rfl rfl rfl rfl rfl rfl ?_
  refine Wn ?_
  refine W_meet [(1, .ptr 2 0), (2, .ptr 3 0), (5, .ptr 4 0), (6, i64 (wTake r).2)] [.glob 0 (haltV a), .glob 1 etV, .cells (cRun r) 38, .cells zRun 38, .cells (cPW a (wTake r).1) 80] [] ?_ ?_
  ·refine zu3 ?_
   refine Wi rfl (fun hi2 => ?_) (fun hi2 => ?_)
   ·have q2 : ¬ r.dof = true := by simpa using hi2
    refine zp3 ?_
    refine Wc rfl rfl (dC rfl Tryz.func34 rfl rfl ((i_fetch a (wBegin r) kb r.ip g.ip) _ _ rfl)) ?_
    refine zs1 ?_
    refine zp1 ?_
    refine Wd rfl rfl (does_load_ptr (lO tG rfl) rfl rfl rfl rfl) ?_
    refine Wd rfl rfl (does_ifnil rfl (by kernel_rfl) rfl (by exact nil_err _ _)) ?_
    refine Wn ?_
    refine Wi rfl (fun hi3 => ?_) (fun hi3 => ?_)
    ·have q3 : isOk (wFetch (wBegin r) r.ip).1.err = true := hi3
     have hT := take_ok q2 q3
     refine W_region rfl ?_
     refine zy5 ?_
     refine z1 ?_
     refine WO_storeB (zs := cPW a (wTake r).1) (lO tG rfl) rfl rfl rfl rfl rfl rfl rfl (by rw [hT]; rfl) rfl rfl rfl ?_
     refine Wn ?_
     exact ⟨[], (fitT (sub := by repeat (first | exact subL_nil | refine subL_cons (by first | exact imp_of rfl | exact imp_of (congrArg i64 (by rw [hT]))) ?_)))⟩
    ·have q3 : ¬ isOk (wFetch (wBegin r) r.ip).1.err = true := by simpa using hi3
     have hT := take_no q2 q3
     refine W_ob (H' := [.glob 0 (haltV a), .glob 1 etV, .cells (cRun r) 38, .cells zRun 38, .cells (cPW a (wTake r).1) 80]) (by rw [hT]; rfl) ?_
     refine Wj ?_
     exact ⟨[], (fitT (sub := by repeat (first | exact subL_nil | refine subL_cons (by first | exact imp_of rfl | exact imp_of (congrArg i64 (by rw [hT]))) ?_)))⟩
   ·have q2 : r.dof = true := by simpa using hi2
    have hT := take_yes q2
    refine W_ob (H' := [.glob 0 (haltV a), .glob 1 etV, .cells (cRun r) 38, .cells zRun 38, .cells (cPW a (wTake r).1) 80]) (by rw [hT]; rfl) ?_
    refine Wj ?_
    exact ⟨[], (fitT (sub := by repeat (first | exact subL_nil | refine subL_cons (by first | exact imp_of rfl | exact imp_of (congrArg i64 (by rw [hT]))) ?_)))⟩
  ·refine zu4 ?_
   refine W_meet [(1, .ptr 2 0), (2, .ptr 3 0), (5, .ptr 4 0), (6, i64 (wTake r).2), (7, .ptr 5 0)] [.glob 0 (haltV a), .glob 1 etV, .cells (cRun r) 38, .cells zRun 38, .cells (cPW a (wDone r)) 80, .cells (cRun (wTake r).1.r) 38] [] ?_ ?_
   ·refine zp1 ?_
    refine Wd rfl rfl (does_load_ptr (lO tG rfl) rfl rfl rfl rfl) ?_
    refine Wd rfl rfl (does_ifnil rfl (by kernel_rfl) rfl (by exact nil_err _ _)) ?_
    refine Wn ?_
    refine Wi rfl (fun hi4 => ?_) (fun hi4 => ?_)
    ·have q4 : isOk (wTake r).1.err = true := hi4
     refine W_region rfl ?_
     refine z1 ?_
     refine Wc rfl rfl (dC rfl Tryz.func35 rfl rfl (i_word a (wTake r).1 kt.1 (by omega) hvo (wTake r).2 kt.2 _ _ rfl (globs_at 0 1 rfl rfl))) ?_
     refine WO_ob (H' := [.glob 0 (haltV a), .glob 1 etV, .cells (cRun r) 38, .cells zRun 38, .cells (cPW a (wDone r)) 80, .cells (cRun (wTake r).1.r) 38]) (by rw [done_yes q4]; rfl) ?_
     refine Wn ?_
     exact ⟨[], fitT⟩
    ·have q4 : ¬ isOk (wTake r).1.err = true := by simpa using hi4
     refine W_ob (H' := [.glob 0 (haltV a), .glob 1 etV, .cells (cRun r) 38, .cells zRun 38, .cells (cPW a (wDone r)) 80, .cells (cRun (wTake r).1.r) 38]) (by rw [done_no q4]; rfl) ?_
     refine Wj ?_
     exact ⟨[], fitT⟩
   ·refine Ws ?_
    refine zp1 ?_
    refine Wd rfl rfl (does_load_ptr (lO tG rfl) rfl rfl rfl rfl) ?_
    refine Wd rfl rfl (does_ifnot rfl (by kernel_rfl) rfl (by exact nil_err _ _)) ?_
    refine Wn ?_
    refine Wi rfl (fun hi5 => ?_) (fun hi5 => ?_)
    ·have q5 : isOk (wDone r).err = false := by simpa using hi5
     refine W_region rfl ?_
     refine zy2 ?_
     refine Wd rfl rfl (does_load_ptr (lO tG rfl) rfl rfl rfl rfl) ?_
     refine Wd rfl rfl (does_build_struct (out := [i64 (wTake r).2, errP a (wDone r).err]) (lO tG rfl) rfl rfl (by clear q5; generalize (wDone r).err = e0; cases e0 <;> rfl)) ?_
     refine Wd rfl rfl (does_mkI rfl (by kernel_rfl) rfl) ?_
     refine z1 ?_
     refine WO_storeB (zs := cRun (wDone r).r ++ [.ifc 84 (.agg [i64 (wTake r).2, errP a (wDone r).err])]) (lO tG rfl) rfl rfl rfl rfl rfl rfl rfl rfl rfl rfl rfl ?_
     refine Wn ?_
     refine zu1 ?_
     refine Ws ?_
     refine Wl ?_
     refine zp2 ?_
     refine Wd rfl rfl (does_ifnil rfl (by kernel_rfl) rfl (by rfl)) ?_
     refine zs1 ?_
     refine Wf rfl (by rfl) ?_
     refine zp2 ?_
     refine Wd rfl rfl (does_loadG (j := 0) (lO tG rfl) rfl rfl rfl) ?_
     refine Wc rfl rfl (dC rfl Tryz.func36 rfl rfl ((i_is a (wTake r).2 (wDone r).err q5) _)) ?_
     refine zs1 ?_
     refine Wi rfl (fun hi7 => ?_) (fun hi7 => ?_)
     ·have q7 := halt_is hi7
      refine zu5 ?_
      refine zR ?_
      unfold wStep; rw [if_neg q1, q7]; rfl
     ·obtain ⟨c, hc⟩ := bad_is q5 hi7
      refine zp2 ?_
      refine Wa 76 rfl ((congrArg (fun z => PV.ifc 84 (.agg [i64 (wTake r).2, z])) (show errP a (wDone r).err = .ifc 86 (.agg [i64 c]) by rw [hc]; rfl))) ?_
      refine Wd rfl rfl (does_mkI rfl (by kernel_rfl) rfl) ?_
      refine Wc rfl rfl (dC rfl Tryz.func37 rfl rfl (i_as (wTake r).2 c _ 6 1 rfl rfl)) ?_
      refine zs2 ?_
      refine Wf rfl (by rfl) ?_
      refine Wj ?_
      refine Ws ?_
      refine zp3 ?_
      refine Wc rfl rfl (dC rfl Tryz.func38 rfl rfl ((inner_caught (wTake r).1.r c N gw) _)) ?_
      refine zy5 ?_
      refine zs1 ?_
      refine zu1 ?_
      refine Wi rfl (fun hi9 => ?_) (fun hi9 => ?_)
      ·refine zu4 ?_
       refine zR ?_
       unfold wStep; rw [if_neg q1, hc]; exact congrArg (fun z => tup3 (eRun (caughtS (wTake r).1.r c).1) (boo false) (i64 z)) (caught_2 (oT hi9)).symm
      ·refine Wj ?_
       refine Ws ?_
       refine V.W_drawU [14, 0, 16, 11, 0, 0] [0, 1, 2, 3, 4, 5] mG rfl (by kernel_rfl) ?_
       refine V.WU_rd 5 rfl rfl rfl rfl rfl (fun H2 h2 => does_load_ptr (lO tG rfl) rfl rfl h2 rfl) ?_
       refine V.z3 ?_
       refine V.WU_rd 6 rfl rfl rfl rfl rfl (fun H2 h2 => does_load_ptr (lO tG rfl) rfl rfl h2 rfl) ?_
       refine V.WU_wr 3 tG rfl rfl rfl rfl rfl trivial rfl ?_
       iterate 2 refine V.z3 ?_
       refine V.WU_nil ?_
       refine zR ?_
       unfold wStep; rw [if_neg q1, hc]; dsimp only; rw [caught_0 (Decidable.of_not_not (oF hi9))]; rfl
    ·have q5 : isOk (wDone r).err = true := by simpa using hi5
     refine Wj ?_
     refine zu1 ?_
     refine Ws ?_
     refine Wl ?_
     refine zp1 ?_
     refine Wd rfl rfl (does_load_ptr (lO tG rfl) rfl rfl rfl rfl) ?_
     refine Wd rfl rfl (does_ifnil rfl (by kernel_rfl) rfl (by exact nil_err _ _)) ?_
     refine zs1 ?_
     refine Wt rfl (by omega) ?_
     refine zu5 ?_
     refine zR ?_
     unfold wStep; rw [if_neg q1, isOk_iff.1 q5]; rfl
end Go.Proofs.YtobhnjnffnbbkaaGreatDoor
namespace Go.Proofs.YtobhnjnffnbbkaaGreatDoor
open Go.RowKit
set_option maxRecDepth 100000
set_option maxHeartbeats 8000000
theorem inner_bare (v : VVm) : PureC Tryz.prog 43 [eVm v] (eVm (endV v)) := by
 refine pW tG (rs := [.cell 2 36]) Tryz.func43 rfl rfl rfl (by simp) (by simp) (fun B => ?_)
 refine zu2 ?_
 refine zu4 ?_
 refine zu2 ?_
 refine zR ?_
 rfl
theorem inner_Begin (v : VVm) (xt fuel : Int) : PureC Tryz.prog 18 [eVm v, i64 xt, i64 fuel] (eRun (beginS v xt fuel)) := by
 refine pW tG (rs := [.cell 6 38]) Tryz.func18 rfl rfl rfl (by simp) (by simp) (fun B => ?_)
 refine zu2 ?_
 refine zp1 ?_
 refine Wc rfl rfl (dC rfl Tryz.func43 rfl rfl ((inner_bare v) _)) ?_
 refine zs4 ?_
 refine zR ?_
 rfl
theorem inner_Step2 (a : Addr) (r : VRun) (N : Nat) (g : GoodR N r) (hN : N ≤ 800000) (hfu : Fit64 r.fuel) : ∀ (H : List Ob), (∀ o ∈ globs a, ∃ k : Nat, H[k]? = some o) → HC Tryz.prog 14 [eRun r] H (tStep (stepS r)) H := by
 rw [← step_eq r g.m.right.d]
 exact inner_Step a r N g hN hfu
theorem good_step2 {r : VRun} {N : Nat} (g : GoodR N r) : GoodR (N + 2) (stepS r).1 := by rw [← step_eq r g.m.right.d]; exact good_step g
theorem caught_fuel2 (r : VRun) (c : Int) : (caughtS r c).1.fuel = r.fuel := by unfold caughtS; split <;> rfl
theorem step_fuel {r : VRun} (hd : (r.vm.d.length : Int) ≤ r.vm.conf.data) (h : ¬ r.fuel < 1) : (stepS r).1.fuel = W64 (r.fuel - 1) := by
 rw [← step_eq r hd]
 unfold wStep
 rw [if_neg h]
 have e1 : (wTake r).1.r.fuel = W64 (r.fuel - 1) := by rw [(rel_take r).2]
 have e2 : (wDone r).r.fuel = W64 (r.fuel - 1) := by unfold wDone; exact ite_fuel (by rw [word_fuel, e1]) e1
 cases (wDone r).err with
 | ok => exact e2
 | halt => exact e2
 | bad c => show (caughtS _ c).1.fuel = _; rw [caught_fuel2, e1]
theorem step_none {r : VRun} (h : r.fuel < 1) : stepS r = (r, false, -256) := by unfold stepS; rw [if_pos h]
theorem fuel_w {n : Int} (h1 : 1 ≤ n) (h2 : n ≤ 300000) : W64 (n - 1) = n - 1 := by
 show IntKind.i64.wrap (n - 1) = n - 1
 rw [i64w]; unfold wrap64; omega
def tRunR (r : VVm × Int × Int) : PV := tup3 (eVm r.1) (i64 r.2.1) (i64 r.2.2)
@[simp] theorem flat_tRunR (r : VVm × Int × Int) : Flat (tRunR r) := by simp [tRunR]
theorem runs_end {n : Nat} {r : VRun} (h : (stepS r).2.1 = true ∨ (stepS r).2.2 ≠ 0) : runsS (n + 1) r = (endV (stepS r).1.vm, (stepS r).1.fuel, (stepS r).2.2) := by
 show (if _ then _ else _) = _; rw [if_pos h]
theorem runs_go {n : Nat} {r : VRun} (h : ¬ ((stepS r).2.1 = true ∨ (stepS r).2.2 ≠ 0)) : runsS (n + 1) r = runsS n (stepS r).1 := by
 show (if _ then _ else _) = _; rw [if_neg h]
structure RunI (R : VVm × Int × Int) (s : Nat × VRun) : Prop where
 run : runsS s.1 s.2 = R
 f0 : 0 ≤ s.2.fuel
 f1 : s.2.fuel < (s.1 : Int)
 g : GoodR (700000 - 2 * s.1) s.2
 n : s.1 ≤ 300001
theorem RunI.fit {R : VVm × Int × Int} {s : Nat × VRun} (h : RunI R s) : Fit64 s.2.fuel := by have := h.f0; have := h.f1; have := h.n; unfold Fit64; omega
theorem RunI.pos {R : VVm × Int × Int} {s : Nat × VRun} (h : RunI R s) : ∃ n, s.1 = n + 1 := ⟨s.1 - 1, by have := h.f0; have := h.f1; omega⟩
theorem RunI.out {R : VVm × Int × Int} {s : Nat × VRun} (h : RunI R s) (k : (stepS s.2).2.1 = true ∨ (stepS s.2).2.2 ≠ 0) : (endV (stepS s.2).1.vm, (stepS s.2).1.fuel, (stepS s.2).2.2) = R := by
 obtain ⟨n, hn⟩ := h.pos
 rw [← h.run, hn, runs_end k]
theorem RunI.next {R : VVm × Int × Int} {s : Nat × VRun} (h : RunI R s) (k : ¬ ((stepS s.2).2.1 = true ∨ (stepS s.2).2.2 ≠ 0)) : RunI R (s.1 - 1, (stepS s.2).1) ∧ s.1 - 1 < s.1 := by
 obtain ⟨n, hn⟩ := h.pos
 have hr := h.run
 have f0 := h.f0
 have f1 := h.f1
 have hN := h.n
 have hf : ¬ s.2.fuel < 1 := fun q => k (by rw [step_none q]; exact .inr (show (-256 : Int) ≠ 0 by decide))
 have hw := step_fuel h.g.m.right.d hf
 rw [fuel_w (by omega) (by omega)] at hw
 refine ⟨⟨?_, ?_, ?_, ?_, ?_⟩, by omega⟩
 ·show runsS (s.1 - 1) _ = R
  rw [hn, runs_go k] at hr
  rw [hn]; exact hr
 ·show 0 ≤ (stepS s.2).1.fuel; omega
 ·show (stepS s.2).1.fuel < ((s.1 - 1 : Nat) : Int); omega
 ·exact (good_step2 h.g).up (by show _ ≤ 700000 - 2 * (s.1 - 1); omega)
 ·show s.1 - 1 ≤ 300001; omega
theorem good_begin {v : VVm} {N : Nat} (g : GoodM N v) {xt fuel : Int} (hx : Fit64 xt) : GoodR N (beginS v xt fuel) := by
 have hc := g.right.fits
 unfold fitsV at hc
 have a := gm_r g (r := []) (by show (0 : Int) ≤ _; omega) fitL_nil
 have b := gm_f a (f := []) rfl (Nat.zero_le _) (fun x hx => by cases hx)
 exact ⟨b, by unfold Fit64; show -9223372036854775808 ≤ (16 : Int) ∧ (16 : Int) ≤ 9223372036854775807; omega, hx⟩
def zVm : List PV := zRun.take 23
@[simp] theorem flat_zVm : FlatL zVm := by simp [zVm, zRun, FlatL, Flat]
theorem inner_Run (a : Addr) (v : VVm) (xt fuel : Int) (N : Nat) (g : GoodM N v) (hx : Fit64 xt) (hf : fuel ≤ 300000) (hN : N ≤ 90000) : ∀ (H : List Ob), (∀ o ∈ globs a, ∃ k : Nat, H[k]? = some o) → HC Tryz.prog 21 [eVm v, i64 xt, i64 fuel] H (tRunR (runNS v xt fuel)) H := by
 have wm : (if fuel < 0 then 0 else fuel) = max fuel 0 := by split <;> omega
 obtain ⟨R, hR⟩ : ∃ R, runNS v xt fuel = R := ⟨_, rfl⟩
 have h0 : RunI R ((max fuel 0).toNat.succ, beginS v xt (max fuel 0)) :=
  ⟨hR, by show (0 : Int) ≤ max fuel 0; omega, by show max fuel 0 < (((max fuel 0).toNat + 1 : Nat) : Int); omega, (good_begin g hx).up (by show N ≤ 700000 - 2 * ((max fuel 0).toNat + 1); omega), by show (max fuel 0).toNat + 1 ≤ 300001; omega⟩
 rw [hR]
 clear hR
 refine pureG_of_WR (globs_ok a) tG (rs := [.cell 6 36, .tmp 7, .tmp 8]) Tryz.func21 rfl rfl rfl (by simp) (by simp) (fun B => ?_)
 refine zu4 ?_
 refine zp4 ?_
 refine Wa 16 rfl (congrArg (fun z => PV.val (Value.int .i64 z)) wm) ?_
 refine Wc rfl rfl (dC rfl Tryz.func18 rfl rfl ((inner_Begin v xt (max fuel 0)) _)) ?_
 refine zs2 ?_
 refine Wl ?_
 show W _ _ _ _ _ _ _
 refine W_loopS (fun (s : (Nat × VRun)) => [(3, .ptr 2 0), (6, .ptr 3 0), (9, .ptr 4 0)]) (fun (s : (Nat × VRun)) => [.glob 0 (haltV a), .glob 1 etV, .cells (cVm v) 36, .cells zVm 36, .cells (cRun s.2) 38]) (fun (s : (Nat × VRun)) => []) (fun (s : (Nat × VRun)) => RunI R s) (fun (s : (Nat × VRun)) => s.1) (((max fuel 0).toNat.succ, beginS v xt (max fuel 0))) (by exact h0) [] ?_ ?_
 ·exact fitT
 ·intro s hs
  refine Wl ?_
  refine zp1 ?_
  refine Wc rfl rfl (dC rfl Tryz.func14 rfl rfl (inner_Step2 a s.2 (700000 - 2 * s.1) hs.g (by omega) hs.fit _ (globs_at 0 1 rfl rfl))) ?_
  refine zy5 ?_
  refine zs3 ?_
  refine Ws ?_
  refine zp2 ?_
  refine Wb 25 rfl (fun hg1 => ?_) (fun hg1 => ?_)
  ·have q1 : (stepS s.2).2.1 = true := hg1
   iterate 2 refine z6 ?_
   refine zs1 ?_
   refine Wt rfl rfl ?_
   refine Ws ?_
   refine V.W_drawU [0, 14, 0, 0, 14, 0, 11, 0, 0] [0, 1, 2, 3, 4, 5, 6, 7, 8] mG rfl (by kernel_rfl) ?_
   refine V.z3 ?_
   refine V.WU_rd 5 rfl rfl rfl rfl rfl (fun H2 h2 => does_load_ptr (lO tG rfl) rfl rfl h2 rfl) ?_
   refine V.Xc rfl rfl rfl rfl (fun _ => dC rfl Tryz.func43 rfl rfl ((inner_bare _) _)) ?_
   refine V.z3 ?_
   refine V.WU_rd 5 rfl rfl rfl rfl rfl (fun H2 h2 => does_load_ptr (lO tG rfl) rfl rfl h2 rfl) ?_
   refine V.z3 ?_
   refine V.WU_wr 3 tG rfl rfl rfl rfl rfl trivial rfl ?_
   iterate 2 refine V.z3 ?_
   refine V.WU_nil ?_
   refine zR ?_
   rw [← hs.out (.inl q1)]; rfl
  ·have q1 : ¬ (stepS s.2).2.1 = true := by simpa using hg1
   refine zs3 ?_
   refine Wi rfl (fun hi1 => ?_) (fun hi1 => ?_)
   ·have q2 : (stepS s.2).2.2 ≠ 0 := by simpa using hi1
    refine Ws ?_
    refine V.W_drawU [0, 14, 0, 0, 14, 0, 11, 0, 0] [0, 1, 2, 3, 4, 5, 6, 7, 8] mG rfl (by kernel_rfl) ?_
    refine V.z3 ?_
    refine V.WU_rd 5 rfl rfl rfl rfl rfl (fun H2 h2 => does_load_ptr (lO tG rfl) rfl rfl h2 rfl) ?_
    refine V.Xc rfl rfl rfl rfl (fun _ => dC rfl Tryz.func43 rfl rfl ((inner_bare _) _)) ?_
    refine V.z3 ?_
    refine V.WU_rd 5 rfl rfl rfl rfl rfl (fun H2 h2 => does_load_ptr (lO tG rfl) rfl rfl h2 rfl) ?_
    refine V.z3 ?_
    refine V.WU_wr 3 tG rfl rfl rfl rfl rfl trivial rfl ?_
    iterate 2 refine V.z3 ?_
    refine V.WU_nil ?_
    refine zR ?_
    rw [← hs.out (.inr q2)]; rfl
   ·have q2 : ¬ ((stepS s.2).2.1 = true ∨ (stepS s.2).2.2 ≠ 0) := fun q => q.elim q1 (by simpa using hi1)
    refine Wj ?_
    refine W_region rfl ?_
    refine zs2 ?_
    exact ⟨(s.1 - 1, (stepS s.2).1), [], (by exact (hs.next q2).1), (by exact (hs.next q2).2), fitT⟩
end Go.Proofs.YtobhnjnffnbbkaaGreatDoor
namespace Go.Proofs.YtobhnjnffnbbkaaGreatDoor
open Go.RowKit
set_option maxRecDepth 100000
set_option maxHeartbeats 4000000
theorem stepB_of {b : List UInt8} {k n : Nat} {p q : Prop} [Decidable p] [Decidable q] (hn : nval k = n) (h1 : (allN.getD k [] = [40, 104, 97, 108, 116, 41]) = p) (h2 : (allN.getD k [] = [40, 99, 97, 117, 103, 104, 116, 41]) = q) :
  stepB b k = if q then put2 (if p then put2 (put2 b (32 + 8 * k) n) 16 (32 + 8 * k) else put2 b (32 + 8 * k) n) 24 (32 + 8 * k) else (if p then put2 (put2 b (32 + 8 * k) n) 16 (32 + 8 * k) else put2 b (32 + 8 * k) n) := by
 subst h1 h2 hn
 unfold stepB
 simp only
 split <;> split <;> simp_all
theorem ar_1 {k : Nat} (h : k < 167) : IntKind.i64.wrap (32 + IntKind.i64.wrap (8 * (k : Int))) = ((32 + 8 * k : Nat) : Int) := by simp only [i64w]; unfold wrap64; omega
theorem ar_2 {k n : Nat} (h : k < 167) (hn : n = 130) (h3 : 130 ≤ k) : IntKind.i64.wrap (IntKind.i64.wrap (300 + (k : Int)) - (n : Int)) = ((170 + k : Nat) : Int) := by subst hn; simp only [i64w]; unfold wrap64; omega
theorem ar_3 {k : Nat} (h : k < 167) : IntKind.i64.wrap (((32 + 8 * k : Nat) : Int) + 1) = ((32 + 8 * k + 1 : Nat) : Int) := by simp only [i64w]; unfold wrap64; omega
theorem newW (k : Nat) {q : SK} : PV.seq (newL k ++ [wordN k]).length ((newL k ++ [wordN k]).flatMap cWord) q = .seq (newL (k + 1)).length ((newL (k + 1)).flatMap cWord) q := by rw [newL_succ]
theorem frz_b {M : Nat} {b : List UInt8} (h : b.length = M) : PV.seq M ((b.flatMap cByte).take M) .any = sq cByte b := by rw [cB_take, List.take_of_length_le (by omega), ← h]; rfl
def vmOf (c : VConf) (b : List UInt8) (l : List VWord) : VVm := { conf := c, mem := ⟨b, []⟩, here := 1368, d := [], r := [], f := [], dict := l, last := 0, out := [], pic := ⟨[], false⟩, req := [], free := 0, next := 0, arg := 0, self := 0, now := 0, hand := [] }
theorem newVm_of (c : VConf) : newVm c = vmOf c (newB c.mem.toNat 167) (newL 167) := rfl
theorem ref_New (c : VConf) (hc : fitsV c) : PureC Tryz.prog 54 [eConf c] (tVm (newVm c, 0)) := by
 have hM : 2048 ≤ c.mem ∧ c.mem ≤ 65536 := ⟨hc.1, hc.2.1⟩
 obtain ⟨M, hMe⟩ : ∃ M : Nat, c.mem = M := ⟨c.mem.toNat, by omega⟩
 have hMt : c.mem.toNat = M := by omega
 have hN := names_len
 have hS := specials_len
 have hA := allN_len
 have hD : decide (fitsV c) = true := decide_eq_true hc
 refine pW tG (rs := [.cell 2 36, .tmp 3]) Tryz.func54 rfl rfl rfl (by simp) (by simp) (fun B => ?_)
 refine zu3 ?_
 refine zp1 ?_
 refine Wc rfl rfl (dC rfl Tryz.func50 rfl rfl ((ref_Fits c) _)) ?_
 refine zs1 ?_
 refine Ws ?_
 refine zu2 ?_
 refine Wf rfl (by rw [hD]; rfl) ?_
 refine Wj ?_
 refine zp2 ?_
 refine z2 ?_ (q := (by (simp_all; omega)))
 refine WO_obI 2 rfl (zeros_b rfl) rfl ?_
 refine Wa 18 rfl (show PV.arr 2 0 c.mem.toNat c.mem.toNat = .arr 2 0 M M by rw [hMt]) ?_
 refine WO_obI 2 rfl (show Ob.cells ((List.replicate c.mem.toNat (0 : UInt8)).flatMap cByte) 5 = .cells ((List.replicate M (0 : UInt8)).flatMap cByte) 5 by rw [hMt]) rfl ?_
 refine zs1 ?_
 refine zp1 ?_
 refine z2 ?_ (q := (by omega))
 refine Wd rfl rfl (does_store (lO tG rfl) rfl rfl rfl rfl rfl rfl (by rw [Nat.ble_eq, cB_len]; simp; omega)) ?_
 refine WO_obI 2 rfl (congrArg (fun z => Ob.cells z 5) (splice_at (x := 10) (n := 0) rfl (by simp; omega))) rfl ?_
 refine z0 ?_
 refine Wc rfl rfl (dC rfl Tryz.func84 rfl rfl ((ref_NamesC) _)) ?_
 refine Wc rfl rfl (dC rfl Tryz.func99 rfl rfl ((ref_Specials) _)) ?_
 refine Wd rfl rfl (does_append_clip (lO tG rfl) rfl (lO tG rfl) (lO tG rfl) rfl rfl (by exact ⟨_, rfl⟩) (by exact ⟨rfl, rfl, flatMap_len _ 1 (fun _ => rfl) _, okC_flat _ (fun _ => rfl) _⟩) (by exact flatMap_len _ 1 (fun _ => rfl) _) (by (dsimp only; omega)) (by (rw [hN, hS]; decide))) ?_
 refine Wa 23 rfl (sq_append cStr) ?_
 refine Wm 23 rfl (imp_seq _ _ _) ?_
 refine zs1 ?_
 refine zp1 ?_
 refine WO_own 7 0 3 rfl rfl ?_
 refine Wn ?_
 refine Ws ?_
 refine zu1 ?_
 refine Wl ?_
 show W _ _ _ _ _ _ _
 refine W_loopS (fun (k : Nat) => [(1, .ptr 0 0), (2, .ptr 1 0), (5, .arr 2 0 M M), (6, sq cStr allN), (7, .seq (newL k).length ((newL k).flatMap cWord) (.own 5 3)), (8, i64 k)]) (fun (k : Nat) => [.cells (cConf c) 23, .cells vmZ 36, .cells ((newB M k).flatMap cByte) 5, .dead, .dead]) (fun (k : Nat) => [.free ((newL k).length * 3)]) (fun (k : Nat) => k ≤ 167) (fun (k : Nat) => 167 - k) (0) (by omega) [4] ?_ ?_
 ·exact fitT
 ·intro k hk
  refine Ws ?_
  refine zu4 ?_
  refine Wi rfl (fun hi2 => ?_) (fun hi2 => ?_)
  ·have hlt : k < 167 := by have := oT hi2; rw [hA] at this; omega
   have hB := newB_len M k
   have hL := newL_len k
   have w1 := ar_1 hlt
   have w3 := ar_3 hlt
   refine Wj ?_
   refine Ws ?_
   refine Wl ?_
   refine zp3 ?_
   refine Wa 32 rfl (congrArg (fun z => PV.val (Value.int .i64 z)) w1) ?_
   refine zs1 ?_
   refine zu2 ?_
   refine Ws ?_
   refine zp1 ?_
   refine Wc rfl rfl (dC rfl Tryz.func84 rfl rfl ((ref_Names) _)) ?_
   refine zs2 ?_
   refine Wi rfl (fun hi3 => ?_) (fun hi3 => ?_)
   ·have hk3 : 130 ≤ k := by have := oT hi3; rw [hN] at this; omega
    have w2 := ar_2 hlt hN hk3
    have hn : nval k = 170 + k := by unfold nval; rw [if_pos hk3]
    refine W_region rfl ?_
    refine zy2 ?_
    refine Wc rfl rfl (dC rfl Tryz.func84 rfl rfl ((ref_Names) _)) ?_
    refine zy2 ?_
    refine Wa 42 rfl (congrArg (fun z => PV.val (Value.int .i64 z)) w2) ?_
    refine zs1 ?_
    refine zp5 ?_
    refine Wa 47 rfl (u8_mod _) ?_
    refine z2 ?_ (q := (by omega))
    refine Wd rfl rfl (does_store (lO tG rfl) rfl rfl rfl rfl rfl rfl (by rw [Nat.ble_eq, cB_len, hB]; (try dsimp only); simp; omega)) ?_
    refine WO_obI 2 rfl (congrArg (fun z => Ob.cells z 5) (splice_at rfl (by omega))) rfl ?_
    refine Wn ?_
    refine zp3 ?_
    refine Wa 51 rfl (congrArg (fun z => PV.val (Value.int .i64 z)) w3) ?_
    refine zy3 ?_
    refine Wa 54 rfl (u8_quo _ (by omega)) ?_
    refine z2 ?_ (q := (by omega))
    refine Wd rfl rfl (does_store (lO tG rfl) rfl rfl rfl rfl rfl rfl (by rw [Nat.ble_eq, cB_len, List.length_set, hB]; (try dsimp only); simp; omega)) ?_
    refine WO_obI 2 rfl (congrArg (fun z => Ob.cells z 5) (splice_at rfl (by rw [List.length_set]; omega))) rfl ?_
    refine Wn ?_
    refine Ws ?_
    refine W_drawU [0, 0, 0, 0, 0, 0, 0, 0, 0, 0, 0, 0, 0, 0, 3, 0] [0, 1, 2, 3, 4, 5, 6, 7, 8, 9, 10, 11, 12, 13, 14, 15] mG rfl (by kernel_rfl) ?_
    iterate 3 refine z3 ?_
    refine Xi tG rfl rfl rfl rfl (fun _ => rfl) (by omega) (iN cStr 1 (fun _ => rfl) [] (by omega)) ?_
    iterate 4 refine z3 ?_
    refine Xi tG rfl rfl rfl rfl (fun _ => rfl) (by omega) (iN cStr 1 (fun _ => rfl) [] (by omega)) ?_
    iterate 2 refine z3 ?_
    refine Xc rfl rfl rfl rfl (fun _ => dC rfl Tryz.func100 rfl rfl ((ref_flags _ k) _)) ?_
    iterate 2 refine z3 ?_
    refine Xa 69 rfl ((show PV.seq 1 _ .clip = .seq (List.length [wordN k]) (List.flatMap cWord [wordN k]) .clip from rfl)) ?_
    refine WU_does3 rfl rfl rfl rfl (does_append_own (lO tG rfl) rfl (lO tG rfl) (lO tG rfl) rfl rfl rfl rfl (by simp) (by exact ⟨_, rfl⟩) (by exact ⟨rfl, rfl, flatMap_len _ 3 (fun _ => rfl) _, okC_flat _ (fun _ => rfl) _⟩) (by (rw [hL]; dsimp only; simp; omega)) (by (simp; omega))) ?_
    refine Xa 70 rfl (sq_append cWord) ?_
    refine z3 ?_
    skip
    refine WU_nil ?_
    refine Ws ?_
    refine zp2 ?_
    refine Wv tG rfl rfl rfl (by omega) (iN cStr 1 (fun _ => rfl) [] (by omega)) ?_
    refine zy2 ?_
    refine Wa 75 rfl (str_eql _ _) ?_
    refine Wn ?_
    refine Wi rfl (fun hi4 => ?_) (fun hi4 => ?_)
    ·have h1 : (allN.getD k [] = [40, 104, 97, 108, 116, 41]) = True := eq_true (oT hi4)
     refine zp4 ?_
     refine Wa 79 rfl (u8_mod _) ?_
     refine z2 ?_ (q := (by omega))
     refine Wd rfl rfl (does_store (lO tG rfl) rfl rfl rfl rfl rfl rfl (by rw [Nat.ble_eq, cB_len]; simp only [List.length_set, hB]; (try dsimp only); simp; omega)) ?_
     refine WO_obI 2 rfl (congrArg (fun z => Ob.cells z 5) (splice_at rfl (by simp only [List.length_set]; omega))) rfl ?_
     refine Wn ?_
     refine W_region rfl ?_
     refine zy4 ?_
     refine Wa 84 rfl (u8_quo _ (by omega)) ?_
     refine z2 ?_ (q := (by omega))
     refine Wd rfl rfl (does_store (lO tG rfl) rfl rfl rfl rfl rfl rfl (by rw [Nat.ble_eq, cB_len]; simp only [List.length_set, hB]; (try dsimp only); simp; omega)) ?_
     refine WO_obI 2 rfl (congrArg (fun z => Ob.cells z 5) (splice_at rfl (by simp only [List.length_set]; omega))) rfl ?_
     refine Wn ?_
     refine zp2 ?_
     refine Wv tG rfl rfl rfl (by omega) (iN cStr 1 (fun _ => rfl) [] (by omega)) ?_
     refine zy2 ?_
     refine Wa 90 rfl (str_eql _ _) ?_
     refine Wn ?_
     refine Wi rfl (fun hi5 => ?_) (fun hi5 => ?_)
     ·have h2 : (allN.getD k [] = [40, 99, 97, 117, 103, 104, 116, 41]) = True := eq_true (oT hi5)
      refine zp4 ?_
      refine Wa 94 rfl (u8_mod _) ?_
      refine z2 ?_ (q := (by omega))
      refine Wd rfl rfl (does_store (lO tG rfl) rfl rfl rfl rfl rfl rfl (by rw [Nat.ble_eq, cB_len]; simp only [List.length_set, hB]; (try dsimp only); simp; omega)) ?_
      refine WO_obI 2 rfl (congrArg (fun z => Ob.cells z 5) (splice_at rfl (by simp only [List.length_set]; omega))) rfl ?_
      refine Wn ?_
      refine W_region rfl ?_
      refine zy4 ?_
      refine Wa 99 rfl (u8_quo _ (by omega)) ?_
      refine z2 ?_ (q := (by omega))
      refine Wd rfl rfl (does_store (lO tG rfl) rfl rfl rfl rfl rfl rfl (by rw [Nat.ble_eq, cB_len]; simp only [List.length_set, hB]; (try dsimp only); simp; omega)) ?_
      refine WO_obI 2 rfl (congrArg (fun z => Ob.cells z 5) (splice_at rfl (by simp only [List.length_set]; omega))) rfl ?_
      refine Wn ?_
      refine W_region rfl ?_
      refine z1 ?_
      refine WO_obI 2 rfl (congrArg (fun z => Ob.cells (List.flatMap cByte z) 5) (show _ = newB M (k + 1) from (stepB_of hn h1 h2).symm)) rfl ?_
      refine zs2 ?_
      exact ⟨k + 1, [6], (by omega), (by omega), (fitT (sub := by repeat (first | exact subL_nil | refine subL_cons (by first | exact imp_of rfl | exact imp_of (newW k) | exact imp_of (congrArg i64 (by (rw [i64w]; unfold wrap64; omega)))) ?_)))⟩
     ·have h2 : (allN.getD k [] = [40, 99, 97, 117, 103, 104, 116, 41]) = False := eq_false (oF hi5)
      refine Wj ?_
      refine W_region rfl ?_
      refine z1 ?_
      refine WO_obI 2 rfl (congrArg (fun z => Ob.cells (List.flatMap cByte z) 5) (show _ = newB M (k + 1) from (stepB_of hn h1 h2).symm)) rfl ?_
      refine zs2 ?_
      exact ⟨k + 1, [6], (by omega), (by omega), (fitT (sub := by repeat (first | exact subL_nil | refine subL_cons (by first | exact imp_of rfl | exact imp_of (newW k) | exact imp_of (congrArg i64 (by (rw [i64w]; unfold wrap64; omega)))) ?_)))⟩
    ·have h1 : (allN.getD k [] = [40, 104, 97, 108, 116, 41]) = False := eq_false (oF hi4)
     refine Wj ?_
     refine zp2 ?_
     refine Wv tG rfl rfl rfl (by omega) (iN cStr 1 (fun _ => rfl) [] (by omega)) ?_
     refine zy2 ?_
     refine Wa 90 rfl (str_eql _ _) ?_
     refine Wn ?_
     refine Wi rfl (fun hi5 => ?_) (fun hi5 => ?_)
     ·have h2 : (allN.getD k [] = [40, 99, 97, 117, 103, 104, 116, 41]) = True := eq_true (oT hi5)
      refine zp4 ?_
      refine Wa 94 rfl (u8_mod _) ?_
      refine z2 ?_ (q := (by omega))
      refine Wd rfl rfl (does_store (lO tG rfl) rfl rfl rfl rfl rfl rfl (by rw [Nat.ble_eq, cB_len]; simp only [List.length_set, hB]; (try dsimp only); simp; omega)) ?_
      refine WO_obI 2 rfl (congrArg (fun z => Ob.cells z 5) (splice_at rfl (by simp only [List.length_set]; omega))) rfl ?_
      refine Wn ?_
      refine W_region rfl ?_
      refine zy4 ?_
      refine Wa 99 rfl (u8_quo _ (by omega)) ?_
      refine z2 ?_ (q := (by omega))
      refine Wd rfl rfl (does_store (lO tG rfl) rfl rfl rfl rfl rfl rfl (by rw [Nat.ble_eq, cB_len]; simp only [List.length_set, hB]; (try dsimp only); simp; omega)) ?_
      refine WO_obI 2 rfl (congrArg (fun z => Ob.cells z 5) (splice_at rfl (by simp only [List.length_set]; omega))) rfl ?_
      refine Wn ?_
      refine W_region rfl ?_
      refine z1 ?_
      refine WO_obI 2 rfl (congrArg (fun z => Ob.cells (List.flatMap cByte z) 5) (show _ = newB M (k + 1) from (stepB_of hn h1 h2).symm)) rfl ?_
      refine zs2 ?_
      exact ⟨k + 1, [6], (by omega), (by omega), (fitT (sub := by repeat (first | exact subL_nil | refine subL_cons (by first | exact imp_of rfl | exact imp_of (newW k) | exact imp_of (congrArg i64 (by (rw [i64w]; unfold wrap64; omega)))) ?_)))⟩
     ·have h2 : (allN.getD k [] = [40, 99, 97, 117, 103, 104, 116, 41]) = False := eq_false (oF hi5)
      refine Wj ?_
      refine W_region rfl ?_
      refine z1 ?_
      refine WO_obI 2 rfl (congrArg (fun z => Ob.cells (List.flatMap cByte z) 5) (show _ = newB M (k + 1) from (stepB_of hn h1 h2).symm)) rfl ?_
      refine zs2 ?_
      exact ⟨k + 1, [6], (by omega), (by omega), (fitT (sub := by repeat (first | exact subL_nil | refine subL_cons (by first | exact imp_of rfl | exact imp_of (newW k) | exact imp_of (congrArg i64 (by (rw [i64w]; unfold wrap64; omega)))) ?_)))⟩
   ·have hn : nval k = k := by have := oF hi3; rw [hN] at this; unfold nval; rw [if_neg (by omega)]
    refine Wj ?_
    refine zp5 ?_
    refine Wa 47 rfl (u8_mod _) ?_
    refine z2 ?_ (q := (by omega))
    refine Wd rfl rfl (does_store (lO tG rfl) rfl rfl rfl rfl rfl rfl (by rw [Nat.ble_eq, cB_len, hB]; (try dsimp only); simp; omega)) ?_
    refine WO_obI 2 rfl (congrArg (fun z => Ob.cells z 5) (splice_at rfl (by omega))) rfl ?_
    refine Wn ?_
    refine zp3 ?_
    refine Wa 51 rfl (congrArg (fun z => PV.val (Value.int .i64 z)) w3) ?_
    refine zy3 ?_
    refine Wa 54 rfl (u8_quo _ (by omega)) ?_
    refine z2 ?_ (q := (by omega))
    refine Wd rfl rfl (does_store (lO tG rfl) rfl rfl rfl rfl rfl rfl (by rw [Nat.ble_eq, cB_len, List.length_set, hB]; (try dsimp only); simp; omega)) ?_
    refine WO_obI 2 rfl (congrArg (fun z => Ob.cells z 5) (splice_at rfl (by rw [List.length_set]; omega))) rfl ?_
    refine Wn ?_
    refine Ws ?_
    refine W_drawU [0, 0, 0, 0, 0, 0, 0, 0, 0, 0, 0, 0, 0, 0, 3, 0] [0, 1, 2, 3, 4, 5, 6, 7, 8, 9, 10, 11, 12, 13, 14, 15] mG rfl (by kernel_rfl) ?_
    iterate 3 refine z3 ?_
    refine Xi tG rfl rfl rfl rfl (fun _ => rfl) (by omega) (iN cStr 1 (fun _ => rfl) [] (by omega)) ?_
    iterate 4 refine z3 ?_
    refine Xi tG rfl rfl rfl rfl (fun _ => rfl) (by omega) (iN cStr 1 (fun _ => rfl) [] (by omega)) ?_
    iterate 2 refine z3 ?_
    refine Xc rfl rfl rfl rfl (fun _ => dC rfl Tryz.func100 rfl rfl ((ref_flags _ k) _)) ?_
    iterate 2 refine z3 ?_
    refine Xa 69 rfl ((show PV.seq 1 _ .clip = .seq (List.length [wordN k]) (List.flatMap cWord [wordN k]) .clip from rfl)) ?_
    refine WU_does3 rfl rfl rfl rfl (does_append_own (lO tG rfl) rfl (lO tG rfl) (lO tG rfl) rfl rfl rfl rfl (by simp) (by exact ⟨_, rfl⟩) (by exact ⟨rfl, rfl, flatMap_len _ 3 (fun _ => rfl) _, okC_flat _ (fun _ => rfl) _⟩) (by (rw [hL]; dsimp only; simp; omega)) (by (simp; omega))) ?_
    refine Xa 70 rfl (sq_append cWord) ?_
    refine z3 ?_
    skip
    refine WU_nil ?_
    refine Ws ?_
    refine zp2 ?_
    refine Wv tG rfl rfl rfl (by omega) (iN cStr 1 (fun _ => rfl) [] (by omega)) ?_
    refine zy2 ?_
    refine Wa 75 rfl (str_eql _ _) ?_
    refine Wn ?_
    refine Wi rfl (fun hi4 => ?_) (fun hi4 => ?_)
    ·have h1 : (allN.getD k [] = [40, 104, 97, 108, 116, 41]) = True := eq_true (oT hi4)
     refine zp4 ?_
     refine Wa 79 rfl (u8_mod _) ?_
     refine z2 ?_ (q := (by omega))
     refine Wd rfl rfl (does_store (lO tG rfl) rfl rfl rfl rfl rfl rfl (by rw [Nat.ble_eq, cB_len]; simp only [List.length_set, hB]; (try dsimp only); simp; omega)) ?_
     refine WO_obI 2 rfl (congrArg (fun z => Ob.cells z 5) (splice_at rfl (by simp only [List.length_set]; omega))) rfl ?_
     refine Wn ?_
     refine W_region rfl ?_
     refine zy4 ?_
     refine Wa 84 rfl (u8_quo _ (by omega)) ?_
     refine z2 ?_ (q := (by omega))
     refine Wd rfl rfl (does_store (lO tG rfl) rfl rfl rfl rfl rfl rfl (by rw [Nat.ble_eq, cB_len]; simp only [List.length_set, hB]; (try dsimp only); simp; omega)) ?_
     refine WO_obI 2 rfl (congrArg (fun z => Ob.cells z 5) (splice_at rfl (by simp only [List.length_set]; omega))) rfl ?_
     refine Wn ?_
     refine zp2 ?_
     refine Wv tG rfl rfl rfl (by omega) (iN cStr 1 (fun _ => rfl) [] (by omega)) ?_
     refine zy2 ?_
     refine Wa 90 rfl (str_eql _ _) ?_
     refine Wn ?_
     refine Wi rfl (fun hi5 => ?_) (fun hi5 => ?_)
     ·have h2 : (allN.getD k [] = [40, 99, 97, 117, 103, 104, 116, 41]) = True := eq_true (oT hi5)
      refine zp4 ?_
      refine Wa 94 rfl (u8_mod _) ?_
      refine z2 ?_ (q := (by omega))
      refine Wd rfl rfl (does_store (lO tG rfl) rfl rfl rfl rfl rfl rfl (by rw [Nat.ble_eq, cB_len]; simp only [List.length_set, hB]; (try dsimp only); simp; omega)) ?_
      refine WO_obI 2 rfl (congrArg (fun z => Ob.cells z 5) (splice_at rfl (by simp only [List.length_set]; omega))) rfl ?_
      refine Wn ?_
      refine W_region rfl ?_
      refine zy4 ?_
      refine Wa 99 rfl (u8_quo _ (by omega)) ?_
      refine z2 ?_ (q := (by omega))
      refine Wd rfl rfl (does_store (lO tG rfl) rfl rfl rfl rfl rfl rfl (by rw [Nat.ble_eq, cB_len]; simp only [List.length_set, hB]; (try dsimp only); simp; omega)) ?_
      refine WO_obI 2 rfl (congrArg (fun z => Ob.cells z 5) (splice_at rfl (by simp only [List.length_set]; omega))) rfl ?_
      refine Wn ?_
      refine W_region rfl ?_
      refine z1 ?_
      refine WO_obI 2 rfl (congrArg (fun z => Ob.cells (List.flatMap cByte z) 5) (show _ = newB M (k + 1) from (stepB_of hn h1 h2).symm)) rfl ?_
      refine zs2 ?_
      exact ⟨k + 1, [6], (by omega), (by omega), (fitT (sub := by repeat (first | exact subL_nil | refine subL_cons (by first | exact imp_of rfl | exact imp_of (newW k) | exact imp_of (congrArg i64 (by (rw [i64w]; unfold wrap64; omega)))) ?_)))⟩
     ·have h2 : (allN.getD k [] = [40, 99, 97, 117, 103, 104, 116, 41]) = False := eq_false (oF hi5)
      refine Wj ?_
      refine W_region rfl ?_
      refine z1 ?_
      refine WO_obI 2 rfl (congrArg (fun z => Ob.cells (List.flatMap cByte z) 5) (show _ = newB M (k + 1) from (stepB_of hn h1 h2).symm)) rfl ?_
      refine zs2 ?_
      exact ⟨k + 1, [6], (by omega), (by omega), (fitT (sub := by repeat (first | exact subL_nil | refine subL_cons (by first | exact imp_of rfl | exact imp_of (newW k) | exact imp_of (congrArg i64 (by (rw [i64w]; unfold wrap64; omega)))) ?_)))⟩
    ·have h1 : (allN.getD k [] = [40, 104, 97, 108, 116, 41]) = False := eq_false (oF hi4)
     refine Wj ?_
     refine zp2 ?_
     refine Wv tG rfl rfl rfl (by omega) (iN cStr 1 (fun _ => rfl) [] (by omega)) ?_
     refine zy2 ?_
     refine Wa 90 rfl (str_eql _ _) ?_
     refine Wn ?_
     refine Wi rfl (fun hi5 => ?_) (fun hi5 => ?_)
     ·have h2 : (allN.getD k [] = [40, 99, 97, 117, 103, 104, 116, 41]) = True := eq_true (oT hi5)
      refine zp4 ?_
      refine Wa 94 rfl (u8_mod _) ?_
      refine z2 ?_ (q := (by omega))
      refine Wd rfl rfl (does_store (lO tG rfl) rfl rfl rfl rfl rfl rfl (by rw [Nat.ble_eq, cB_len]; simp only [List.length_set, hB]; (try dsimp only); simp; omega)) ?_
      refine WO_obI 2 rfl (congrArg (fun z => Ob.cells z 5) (splice_at rfl (by simp only [List.length_set]; omega))) rfl ?_
      refine Wn ?_
      refine W_region rfl ?_
      refine zy4 ?_
      refine Wa 99 rfl (u8_quo _ (by omega)) ?_
      refine z2 ?_ (q := (by omega))
      refine Wd rfl rfl (does_store (lO tG rfl) rfl rfl rfl rfl rfl rfl (by rw [Nat.ble_eq, cB_len]; simp only [List.length_set, hB]; (try dsimp only); simp; omega)) ?_
      refine WO_obI 2 rfl (congrArg (fun z => Ob.cells z 5) (splice_at rfl (by simp only [List.length_set]; omega))) rfl ?_
      refine Wn ?_
      refine W_region rfl ?_
      refine z1 ?_
      refine WO_obI 2 rfl (congrArg (fun z => Ob.cells (List.flatMap cByte z) 5) (show _ = newB M (k + 1) from (stepB_of hn h1 h2).symm)) rfl ?_
      refine zs2 ?_
      exact ⟨k + 1, [6], (by omega), (by omega), (fitT (sub := by repeat (first | exact subL_nil | refine subL_cons (by first | exact imp_of rfl | exact imp_of (newW k) | exact imp_of (congrArg i64 (by (rw [i64w]; unfold wrap64; omega)))) ?_)))⟩
     ·have h2 : (allN.getD k [] = [40, 99, 97, 117, 103, 104, 116, 41]) = False := eq_false (oF hi5)
      refine Wj ?_
      refine W_region rfl ?_
      refine z1 ?_
      refine WO_obI 2 rfl (congrArg (fun z => Ob.cells (List.flatMap cByte z) 5) (show _ = newB M (k + 1) from (stepB_of hn h1 h2).symm)) rfl ?_
      refine zs2 ?_
      exact ⟨k + 1, [6], (by omega), (by omega), (fitT (sub := by repeat (first | exact subL_nil | refine subL_cons (by first | exact imp_of rfl | exact imp_of (newW k) | exact imp_of (congrArg i64 (by (rw [i64w]; unfold wrap64; omega)))) ?_)))⟩
  ·have hge : k = 167 := by have := oF hi2; rw [hA] at this; omega
   have hB := newB_len M k
   have eN : tVm (newVm c, 0) = tVm (vmOf c (newB M k) (newL k), 0) := by rw [hge, newVm_of, hMt]
   generalize newB M k = b0 at hB eN ⊢
   generalize newL k = l0 at eN ⊢
   refine W_exit ?_
   refine zp2 ?_
   refine Wm 102 rfl (imp_arr_arw (Nat.le_refl _)) ?_
   refine WO_freeze 102 2 _ M rfl rfl (by rw [cB_len, hB]; exact Nat.le_refl _) ?_
   refine Wa 102 rfl (show _ = sq cByte b0 from frz_b hB) ?_
   refine zs5 ?_
   refine zR ?_
   rw [eN]; rfl
end Go.Proofs.YtobhnjnffnbbkaaGreatDoor
namespace Go.Proofs.YtobhnjnffnbbkaaGreatDoor
open Go.RowKit
set_option maxRecDepth 100000
set_option maxHeartbeats 8000000
theorem vm_dec (a b : VVm) : decide (a = b) = (decide (a.conf = b.conf ∧ a.mem = b.mem ∧ a.here = b.here ∧ a.d = b.d ∧ a.r = b.r ∧ a.f = b.f) && (decide (a.dict = b.dict ∧ a.last = b.last ∧ a.out = b.out ∧ a.pic = b.pic) && (decide (a.req = b.req ∧ a.free = b.free ∧ a.next = b.next) && decide (a.arg = b.arg ∧ a.self = b.self ∧ a.now = b.now ∧ a.hand = b.hand)))) := by
 rw [Bool.eq_iff_iff]
 simp only [decide_eq_true_eq, Bool.and_eq_true]
 constructor
 ·rintro rfl; simp
 ·rintro ⟨⟨a1, a2, a3, a4, a5, a6⟩, ⟨a7, a8, a9, a10⟩, ⟨a11, a12, a13⟩, a14, a15, a16, a17⟩
  exact vm_ext a1 a2 a3 a4 a5 a6 a7 a8 a9 a10 a11 a12 a13 a14 a15 a16 a17
theorem vm_Same (a b : VVm) (ha : VSm a) (hb : VSm b) : PureC Tryz.prog 42 [eVm a, eVm b] (boo (decide (a = b))) := by
 rw [vm_dec]
 obtain ⟨b5, h5⟩ : ∃ q, decide (a.conf = b.conf ∧ a.mem = b.mem ∧ a.here = b.here ∧ a.d = b.d ∧ a.r = b.r ∧ a.f = b.f) = q := ⟨_, rfl⟩
 obtain ⟨b6, h6⟩ : ∃ q, decide (a.dict = b.dict ∧ a.last = b.last ∧ a.out = b.out ∧ a.pic = b.pic) = q := ⟨_, rfl⟩
 obtain ⟨b7, h7⟩ : ∃ q, decide (a.req = b.req ∧ a.free = b.free ∧ a.next = b.next) = q := ⟨_, rfl⟩
 obtain ⟨b8, h8⟩ : ∃ q, decide (a.arg = b.arg ∧ a.self = b.self ∧ a.now = b.now ∧ a.hand = b.hand) = q := ⟨_, rfl⟩
 rw [h5, h6, h7, h8]
 refine pW tG (rs := [.tmp 4]) Tryz.func42 rfl rfl rfl (by simp) (by simp) (fun B => ?_)
 refine zu3 ?_
 refine W_meet [(2, .ptr 0 0), (3, .ptr 1 0), (5, boo b5)] [.cells (cVm a) 36, .cells (cVm b) 36] [] ?_ ?_
 ·refine W_region rfl ?_
  refine zy4 ?_
  refine Wd rfl rfl (does_struct_eql rfl rfl rfl rfl rfl (by kernel_rfl)) ?_
  refine z1 ?_
  refine Wb 13 rfl (fun hg1 => ?_) (fun hg1 => ?_)
  ·have q1 : a.conf = b.conf := conf_eq hg1
   refine zy4 ?_
   refine Wc rfl rfl (dC rfl Tryz.func89 rfl rfl ((mem_Same a.mem b.mem ha.old hb.old) _)) ?_
   refine zy2 ?_
   refine Wb 20 rfl (fun hg2 => ?_) (fun hg2 => ?_)
   ·refine zy5 ?_
    refine zy2 ?_
    refine Wb 27 rfl (fun hg3 => ?_) (fun hg3 => ?_)
    ·refine zy4 ?_
     refine Wc rfl rfl (dC rfl Tryz.func90 rfl rfl ((eq_ints a.d b.d ha.d hb.d) _)) ?_
     refine zy2 ?_
     refine Wb 34 rfl (fun hg4 => ?_) (fun hg4 => ?_)
     ·refine zy4 ?_
      refine Wc rfl rfl (dC rfl Tryz.func90 rfl rfl ((eq_ints a.r b.r ha.r hb.r) _)) ?_
      refine zy2 ?_
      refine Wb 41 rfl (fun hg5 => ?_) (fun hg5 => ?_)
      ·refine zy4 ?_
       refine Wc rfl rfl (dC rfl Tryz.func91 rfl rfl ((eq_frames a.f b.f ha.f hb.f) _)) ?_
       refine zs2 ?_
       exact ⟨[], (fitT (sub := by repeat (first | exact subL_nil | refine subL_cons (by first | exact imp_of rfl | exact imp_of (congrArg boo (by rw [← h5]; clear h5 h6 h7 h8; simp_all <;> rfl))) ?_)))⟩
      ·refine z6 ?_
       iterate 4 refine z6 ?_
       refine zs2 ?_
       exact ⟨[], (fitT (sub := by repeat (first | exact subL_nil | refine subL_cons (by first | exact imp_of rfl | exact imp_of (congrArg boo (by rw [← h5]; clear h5 h6 h7 h8; simp_all <;> rfl))) ?_)))⟩
     ·refine z6 ?_
      iterate 4 refine z6 ?_
      refine zy2 ?_
      iterate 5 refine z6 ?_
      refine zs2 ?_
      exact ⟨[], (fitT (sub := by repeat (first | exact subL_nil | refine subL_cons (by first | exact imp_of rfl | exact imp_of (congrArg boo (by rw [← h5]; clear h5 h6 h7 h8; simp_all <;> rfl))) ?_)))⟩
    ·refine z6 ?_
     iterate 4 refine z6 ?_
     refine zy2 ?_
     iterate 5 refine z6 ?_
     refine zy2 ?_
     iterate 5 refine z6 ?_
     refine zs2 ?_
     exact ⟨[], (fitT (sub := by repeat (first | exact subL_nil | refine subL_cons (by first | exact imp_of rfl | exact imp_of (congrArg boo (by rw [← h5]; clear h5 h6 h7 h8; simp_all <;> rfl))) ?_)))⟩
   ·refine z6 ?_
    iterate 4 refine z6 ?_
    refine zy2 ?_
    iterate 5 refine z6 ?_
    refine zy2 ?_
    iterate 5 refine z6 ?_
    refine zy2 ?_
    iterate 5 refine z6 ?_
    refine zs2 ?_
    exact ⟨[], (fitT (sub := by repeat (first | exact subL_nil | refine subL_cons (by first | exact imp_of rfl | exact imp_of (congrArg boo (by rw [← h5]; clear h5 h6 h7 h8; simp_all <;> rfl))) ?_)))⟩
  ·have q1 : ¬ a.conf = b.conf := fun h => by rw [h] at hg1; exact absurd ((conf_self _).symm.trans hg1) (by simp)
   iterate 5 refine z6 ?_
   refine zy2 ?_
   iterate 5 refine z6 ?_
   refine zy2 ?_
   iterate 5 refine z6 ?_
   refine zy2 ?_
   iterate 5 refine z6 ?_
   refine zy2 ?_
   iterate 5 refine z6 ?_
   refine zs2 ?_
   exact ⟨[], (fitT (sub := by repeat (first | exact subL_nil | refine subL_cons (by first | exact imp_of rfl | exact imp_of (congrArg boo (by rw [← h5]; clear h5 h6 h7 h8; simp_all <;> rfl))) ?_)))⟩
 ·refine W_meet [(2, .ptr 0 0), (3, .ptr 1 0), (5, boo b5), (6, boo b6)] [.cells (cVm a) 36, .cells (cVm b) 36] [] ?_ ?_
  ·refine W_region rfl ?_
   refine zy4 ?_
   refine Wc rfl rfl (dC rfl Tryz.func92 rfl rfl ((dict_Same a.dict b.dict ha.dict hb.dict) _)) ?_
   refine z1 ?_
   refine Wb 53 rfl (fun hg6 => ?_) (fun hg6 => ?_)
   ·refine zy5 ?_
    refine zy2 ?_
    refine Wb 60 rfl (fun hg7 => ?_) (fun hg7 => ?_)
    ·refine zy4 ?_
     refine Wc rfl rfl (dC rfl Tryz.func93 rfl rfl ((bytes_eq a.out b.out) _)) ?_
     refine zy2 ?_
     refine Wb 67 rfl (fun hg8 => ?_) (fun hg8 => ?_)
     ·refine zy4 ?_
      refine Wc rfl rfl (dC rfl Tryz.func94 rfl rfl ((pic_Same a.pic b.pic) _)) ?_
      refine zs2 ?_
      exact ⟨[], (fitT (sub := by repeat (first | exact subL_nil | refine subL_cons (by first | exact imp_of rfl | exact imp_of (congrArg boo (by rw [← h6]; clear h5 h6 h7 h8; simp_all <;> rfl))) ?_)))⟩
     ·refine z6 ?_
      iterate 4 refine z6 ?_
      refine zs2 ?_
      exact ⟨[], (fitT (sub := by repeat (first | exact subL_nil | refine subL_cons (by first | exact imp_of rfl | exact imp_of (congrArg boo (by rw [← h6]; clear h5 h6 h7 h8; simp_all <;> rfl))) ?_)))⟩
    ·refine z6 ?_
     iterate 4 refine z6 ?_
     refine zy2 ?_
     iterate 5 refine z6 ?_
     refine zs2 ?_
     exact ⟨[], (fitT (sub := by repeat (first | exact subL_nil | refine subL_cons (by first | exact imp_of rfl | exact imp_of (congrArg boo (by rw [← h6]; clear h5 h6 h7 h8; simp_all <;> rfl))) ?_)))⟩
   ·refine z6 ?_
    iterate 4 refine z6 ?_
    refine zy2 ?_
    iterate 5 refine z6 ?_
    refine zy2 ?_
    iterate 5 refine z6 ?_
    refine zs2 ?_
    exact ⟨[], (fitT (sub := by repeat (first | exact subL_nil | refine subL_cons (by first | exact imp_of rfl | exact imp_of (congrArg boo (by rw [← h6]; clear h5 h6 h7 h8; simp_all <;> rfl))) ?_)))⟩
  ·refine W_meet [(2, .ptr 0 0), (3, .ptr 1 0), (5, boo b5), (6, boo b6), (7, boo b7)] [.cells (cVm a) 36, .cells (cVm b) 36] [] ?_ ?_
   ·refine W_region rfl ?_
    refine zy4 ?_
    refine Wc rfl rfl (dC rfl Tryz.func95 rfl rfl ((eq_reqs a.req b.req ha.req hb.req) _)) ?_
    refine z1 ?_
    refine Wb 79 rfl (fun hg9 => ?_) (fun hg9 => ?_)
    ·refine zy5 ?_
     refine zy2 ?_
     refine Wb 86 rfl (fun hg10 => ?_) (fun hg10 => ?_)
     ·refine zy5 ?_
      refine zs2 ?_
      exact ⟨[], (fitT (sub := by repeat (first | exact subL_nil | refine subL_cons (by first | exact imp_of rfl | exact imp_of (congrArg boo (by rw [← h7]; clear h5 h6 h7 h8; simp_all <;> rfl))) ?_)))⟩
     ·refine z6 ?_
      iterate 4 refine z6 ?_
      refine zs2 ?_
      exact ⟨[], (fitT (sub := by repeat (first | exact subL_nil | refine subL_cons (by first | exact imp_of rfl | exact imp_of (congrArg boo (by rw [← h7]; clear h5 h6 h7 h8; simp_all <;> rfl))) ?_)))⟩
    ·refine z6 ?_
     iterate 4 refine z6 ?_
     refine zy2 ?_
     iterate 5 refine z6 ?_
     refine zs2 ?_
     exact ⟨[], (fitT (sub := by repeat (first | exact subL_nil | refine subL_cons (by first | exact imp_of rfl | exact imp_of (congrArg boo (by rw [← h7]; clear h5 h6 h7 h8; simp_all <;> rfl))) ?_)))⟩
   ·refine zp2 ?_
    refine Wb 94 rfl (fun hg11 => ?_) (fun hg11 => ?_)
    ·refine zy3 ?_
     refine Wb 97 rfl (fun hg12 => ?_) (fun hg12 => ?_)
     ·refine zy3 ?_
      refine Wb 100 rfl (fun hg13 => ?_) (fun hg13 => ?_)
      ·refine zy5 ?_
       refine zy2 ?_
       refine Wb 107 rfl (fun hg14 => ?_) (fun hg14 => ?_)
       ·refine zy5 ?_
        refine zy2 ?_
        refine Wb 114 rfl (fun hg15 => ?_) (fun hg15 => ?_)
        ·refine zy5 ?_
         refine zy2 ?_
         refine Wb 121 rfl (fun hg16 => ?_) (fun hg16 => ?_)
         ·refine zy4 ?_
          refine Wc rfl rfl (dC rfl Tryz.func96 rfl rfl ((eq_hands a.hand b.hand ha.hand hb.hand) _)) ?_
          refine zs2 ?_
          refine zR ?_
          exact congrArg boo (by rw [← h8]; clear h5 h6 h7 h8; simp_all <;> rfl)
         ·refine z6 ?_
          iterate 4 refine z6 ?_
          refine zs2 ?_
          refine zR ?_
          exact congrArg boo (by rw [← h8]; clear h5 h6 h7 h8; simp_all <;> rfl)
        ·refine z6 ?_
         iterate 4 refine z6 ?_
         refine zy2 ?_
         iterate 5 refine z6 ?_
         refine zs2 ?_
         refine zR ?_
         exact congrArg boo (by rw [← h8]; clear h5 h6 h7 h8; simp_all <;> rfl)
       ·refine z6 ?_
        iterate 4 refine z6 ?_
        refine zy2 ?_
        iterate 5 refine z6 ?_
        refine zy2 ?_
        iterate 5 refine z6 ?_
        refine zs2 ?_
        refine zR ?_
        exact congrArg boo (by rw [← h8]; clear h5 h6 h7 h8; simp_all <;> rfl)
      ·refine z6 ?_
       iterate 4 refine z6 ?_
       refine zy2 ?_
       iterate 5 refine z6 ?_
       refine zy2 ?_
       iterate 5 refine z6 ?_
       refine zy2 ?_
       iterate 5 refine z6 ?_
       refine zs2 ?_
       refine zR ?_
       exact congrArg boo (by rw [← h8]; clear h5 h6 h7 h8; simp_all <;> rfl)
     ·refine z6 ?_
      refine zy2 ?_
      iterate 5 refine z6 ?_
      refine zy2 ?_
      iterate 5 refine z6 ?_
      refine zy2 ?_
      iterate 5 refine z6 ?_
      refine zy2 ?_
      iterate 5 refine z6 ?_
      refine zs2 ?_
      refine zR ?_
      exact congrArg boo (by rw [← h8]; clear h5 h6 h7 h8; simp_all <;> rfl)
    ·refine z6 ?_
     refine zy2 ?_
     refine z6 ?_
     refine zy2 ?_
     iterate 5 refine z6 ?_
     refine zy2 ?_
     iterate 5 refine z6 ?_
     refine zy2 ?_
     iterate 5 refine z6 ?_
     refine zy2 ?_
     iterate 5 refine z6 ?_
     refine zs2 ?_
     refine zR ?_
     exact congrArg boo (by rw [← h8]; clear h5 h6 h7 h8; simp_all <;> rfl)
theorem run_dec (a b : VRun) : decide (a = b) = (decide (a.vm = b.vm) && (decide (a.ip = b.ip) && (decide (a.w = b.w) && (decide (a.dof = b.dof) && decide (a.fuel = b.fuel))))) := by
 rw [Bool.eq_iff_iff]
 simp only [decide_eq_true_eq, Bool.and_eq_true]
 constructor
 ·rintro rfl; simp
 ·rintro ⟨a1, a2, a3, a4, a5⟩; cases a; cases b; simp_all
theorem inner_Same (a b : VRun) (ha : VSm a.vm) (hb : VSm b.vm) : PureC Tryz.prog 17 [eRun a, eRun b] (boo (decide (a = b))) := by
 rw [run_dec]
 refine pW tG (rs := [.tmp 4]) Tryz.func17 rfl rfl rfl (by simp) (by simp) (fun B => ?_)
 refine zu3 ?_
 refine zp4 ?_
 refine Wc rfl rfl (dC rfl Tryz.func42 rfl rfl ((vm_Same a.vm b.vm ha hb) _)) ?_
 refine z1 ?_
 refine Wb 10 rfl (fun hg1 => ?_) (fun hg1 => ?_)
 ·refine zy5 ?_
  refine zy2 ?_
  refine Wb 17 rfl (fun hg2 => ?_) (fun hg2 => ?_)
  ·refine zy5 ?_
   refine zy2 ?_
   refine Wb 24 rfl (fun hg3 => ?_) (fun hg3 => ?_)
   ·refine zy5 ?_
    refine zy2 ?_
    refine Wb 31 rfl (fun hg4 => ?_) (fun hg4 => ?_)
    ·refine zy5 ?_
     refine zs2 ?_
     refine zR ?_
     exact congrArg boo (by simp_all <;> rfl)
    ·refine z6 ?_
     iterate 4 refine z6 ?_
     refine zs2 ?_
     refine zR ?_
     exact congrArg boo (by simp_all <;> rfl)
   ·refine z6 ?_
    iterate 4 refine z6 ?_
    refine zy2 ?_
    iterate 5 refine z6 ?_
    refine zs2 ?_
    refine zR ?_
    exact congrArg boo (by simp_all <;> rfl)
  ·refine z6 ?_
   iterate 4 refine z6 ?_
   refine zy2 ?_
   iterate 5 refine z6 ?_
   refine zy2 ?_
   iterate 5 refine z6 ?_
   refine zs2 ?_
   refine zR ?_
   exact congrArg boo (by simp_all <;> rfl)
 ·refine z6 ?_
  iterate 4 refine z6 ?_
  refine zy2 ?_
  iterate 5 refine z6 ?_
  refine zy2 ?_
  iterate 5 refine z6 ?_
  refine zy2 ?_
  iterate 5 refine z6 ?_
  refine zs2 ?_
  refine zR ?_
  exact congrArg boo (by simp_all <;> rfl)
def xtS (name : Str) : Int := W64 (32 + W64 (8 * numberS name))
theorem ref_Xt (name : Str) : PureC Tryz.prog 26 [str name] (i64 (xtS name)) := by
 refine pW tG (rs := [.tmp 2]) Tryz.func26 rfl rfl rfl (by simp) (by simp) (fun B => ?_)
 refine zu1 ?_
 refine zp1 ?_
 refine Wc rfl rfl (dC rfl Tryz.func55 rfl rfl ((ref_Number name) _)) ?_
 refine zs3 ?_
 refine zR ?_
 rfl
theorem ref_Free (m : VMem) : PureC Tryz.prog 56 [eMem m] (eMem ⟨m.b, []⟩) := by
 refine pW tG (rs := [.cell 2 27]) Tryz.func56 rfl rfl rfl (by simp) (by simp) (fun B => ?_)
 refine zu2 ?_
 refine zu4 ?_
 refine zR ?_
 rfl
def laidK (m : VMem) (at_ : Int) (cells : List Int) : Nat → VMem
 | 0 => m
 | k + 1 => (memStore (laidK m at_ cells k) (W64 (W64 (at_ + 8) + W64 (8 * (k : Int)))) (cells.getD k 0)).1
def laidZ (v : VVm) (at_ : Int) (cells : List Int) : VVm := withM v ⟨(laidK (memStore v.mem at_ 256).1 at_ cells cells.length).b, []⟩
theorem laidK_keeps (m : VMem) (at_ : Int) (cells : List Int) : ∀ k, (laidK m at_ cells k).b.length = m.b.length ∧ (laidK m at_ cells k).old.length ≤ m.old.length + k
 | 0 => ⟨rfl, Nat.le_refl _⟩
 | k + 1 => by
  have ih := laidK_keeps m at_ cells k
  have q := keeps_store (laidK m at_ cells k) (W64 (W64 (at_ + 8) + W64 (8 * (k : Int)))) (cells.getD k 0)
  exact ⟨by show (memStore _ _ _).1.b.length = _; rw [q.len, ih.1], by show (memStore _ _ _).1.old.length ≤ _; have := q.old; omega⟩
theorem ref_Laid (v : VVm) (at_ : Int) (cells : List Int) (hm : v.mem.b.length ≤ 65536) (ho : v.mem.old.length ≤ 1000) (ha : Fit64 at_) (hc : cells.length ≤ 1000) : PureC Tryz.prog 27 [eVm v, i64 at_, sq cInt cells] (eVm (laidZ v at_ cells)) := by
 have q0 := keeps_store v.mem at_ 256
 have q1 := q0.len
 have q2 := q0.old
 refine pW tG (rs := [.cell 6 36]) Tryz.func27 rfl rfl rfl (by simp) (by simp) (fun B => ?_)
 refine zu2 ?_
 refine zp3 ?_
 refine Wc rfl rfl (dC rfl Tryz.func30 rfl rfl ((ref_Store v.mem at_ 256 ⟨by omega, by omega⟩ ha) _)) ?_
 refine zy5 ?_
 refine zs1 ?_
 refine Ws ?_
 refine zu1 ?_
 refine Wl ?_
 show W _ _ _ _ _ _ _
 refine W_loopS (fun (k : Nat) => [(1, i64 at_), (2, sq cInt cells), (3, .ptr 0 0), (6, .ptr 1 0), (7, .ptr 2 0), (9, i64 k)]) (fun (k : Nat) => [.cells (cVm v) 36, .cells zVm 36, .cells (cMem (laidK (memStore v.mem at_ 256).1 at_ cells k)) 27]) (fun (k : Nat) => []) (fun (k : Nat) => k ≤ cells.length) (fun (k : Nat) => cells.length - k) (0) (by omega) [] ?_ ?_
 ·exact fitT
 ·intro k hk
  refine Ws ?_
  refine zu4 ?_
  refine Wi rfl (fun hi1 => ?_) (fun hi1 => ?_)
  ·have hlt : k < cells.length := by have := oT hi1; omega
   have hk := laidK_keeps (memStore v.mem at_ 256).1 at_ cells k
   refine Wj ?_
   refine Ws ?_
   refine Wl ?_
   refine Ws ?_
   refine W_drawU [1, 0, 0, 0, 0, 0, 0, 0, 0, 1, 0, 0, 0, 0, 2, 3, 0] [0, 1, 2, 3, 4, 5, 6, 7, 8, 9, 10, 11, 12, 13, 14, 15, 16] mG rfl (by kernel_rfl) ?_
   refine z5 ?_
   iterate 7 refine z3 ?_
   refine Xi tG rfl rfl rfl rfl (fun _ => rfl) (by omega) (iN cInt 1 (fun _ => rfl) 0 (by omega)) ?_
   refine z5 ?_
   refine Xc rfl rfl rfl rfl (fun _ => dC rfl Tryz.func30 rfl rfl ((ref_Store _ _ _ ⟨by rw [hk.1, q1]; omega, by have := hk.2; omega⟩ (fit_w64 _)) _)) ?_
   iterate 3 refine z3 ?_
   refine WU_ev2 tG rfl rfl rfl rfl rfl trivial rfl ?_
   refine WU_ev3 tG rfl rfl rfl rfl rfl trivial ?_
   refine z3 ?_
   refine WU_nil ?_
   refine W_region rfl ?_
   refine zs2 ?_
   refine W_region rfl ?_
   refine zs3 ?_
   exact ⟨k + 1, [], (by omega), (by omega), fitT⟩
  ·have hge : k = cells.length := by have := oF hi1; omega
   refine W_exit ?_
   refine zp1 ?_
   refine Wc rfl rfl (dC rfl Tryz.func56 rfl rfl ((ref_Free _) _)) ?_
   refine zs2 ?_
   refine zu2 ?_
   refine zR ?_
   subst hge; rfl
theorem law_fresh : PureC Tryz.prog 25 [] (eVm (stockS [])) := by
 refine pW tG (rs := [.cell 0 36]) Tryz.func25 rfl rfl rfl (by simp) (by simp) (fun B => ?_)
 refine zu1 ?_
 refine zp1 ?_
 refine Wc rfl rfl (dC rfl Tryz.func54 rfl rfl ((ref_New sC sC_fits) _)) ?_
 refine zy5 ?_
 refine zs1 ?_
 refine zu2 ?_
 refine zR ?_
 rfl
end Go.Proofs.YtobhnjnffnbbkaaGreatDoor
namespace Go.Proofs.YtobhnjnffnbbkaaGreatDoor
open Go.RowKit
set_option maxRecDepth 100000
set_option maxHeartbeats 8000000
theorem stock_goodM {d : List Int} (hd : d.length ≤ 32) (hf : FitL d) : GoodM 0 (stockS d) :=
 ⟨stock_right hd, Nat.le_refl _, hf, fitL_nil, fun x hx => (by cases hx), ⟨fit64_0, fit64_0, fit64_0⟩, fit64_0⟩
theorem good_free {N : Nat} {v : VVm} (g : GoodM N v) {m : VMem} (hl : m.b.length = v.mem.b.length) : GoodM 0 (withM v ⟨m.b, []⟩) := by
 have R := g.right
 have h1 := R.mem
 refine ⟨⟨R.fits, ?_, R.dict, R.pic, ?_, R.here0, R.here1, R.f, R.hand, R.d, R.r, R.fl, R.dl, R.out, R.req, R.free0, R.free1, R.next0, R.next1, R.handl⟩, Nat.le_refl _, g.fd, g.fr, g.ff, g.ints, g.la⟩
 ·unfold memRight at h1 ⊢
  simp only [Bool.and_eq_true, decide_eq_true_eq] at h1 ⊢
  obtain ⟨_, q1, q2⟩ := h1
  refine ⟨rfl, ?_, ?_⟩
  ·show m.b.length ≤ 65536; omega
  ·show m.b.length % 8 = 0; omega
 ·show (m.b.length : Int) = v.conf.mem; rw [hl]; exact R.len
theorem laid_good {N : Nat} {v : VVm} (g : GoodM N v) (at_ : Int) (cells : List Int) : GoodM 0 (laidZ v at_ cells) := by
 have q := (laidK_keeps (memStore v.mem at_ 256).1 at_ cells cells.length).1
 rw [(keeps_store v.mem at_ 256).len] at q
 exact good_free g q
theorem good_sm {N : Nat} {v : VVm} (g : GoodM N v) (h : N ≤ 1000000) : VSm v := right_sm g.right (by have := g.old; omega)
def exV : VVm := laidZ (stockS []) 1368 [xtS [40, 108, 105, 116, 41], 5, xtS [68, 85, 80], xtS [42], xtS [40, 101, 120, 105, 116, 41]]
theorem ex_good : GoodM 0 exV := laid_good (stock_goodM (by decide) fitL_nil) _ _
theorem fit_1368 : Fit64 1368 := by unfold Fit64; omega
theorem ex_10 : ∃ u : VVm, runNS exV 1368 10 = (u, 4, 0) ∧ u.d = [25] := ⟨(runNS exV 1368 10).1, Prod.ext rfl (by kernel_rfl), by kernel_rfl⟩
theorem ex_5 : ∃ u : VVm, runNS exV 1368 5 = (u, 0, -256) ∧ u.d = [25] := ⟨(runNS exV 1368 5).1, Prod.ext rfl (by kernel_rfl), by kernel_rfl⟩
theorem ex_step : ∃ s : VRun, stepS (beginS exV 1368 3) = (s, false, 0) ∧ s.ip = 1376 ∧ s.fuel = 2 := ⟨(stepS (beginS exV 1368 3)).1, Prod.ext rfl (by kernel_rfl), by kernel_rfl, by kernel_rfl⟩
theorem lawI_shown (a : Addr) : ∀ (H : List Ob), (∀ o ∈ globs a, ∃ k : Nat, H[k]? = some o) → HC Tryz.prog 11 [] H (boo true) H := by
 obtain ⟨u1, hu1, hd1⟩ := ex_10
 obtain ⟨u2, hu2, hd2⟩ := ex_5
 obtain ⟨s, hs, hs1, hs2⟩ := ex_step
 have g0 := ex_good
 have gb : GoodR 0 (beginS exV 1368 3) := good_begin g0 fit_1368
 have gs := good_step2 gb
 rw [hs] at gs
 have p1 := inner_Run a exV 1368 10 0 g0 fit_1368 (by decide) (by decide)
 have p2 := inner_Run a exV 1368 5 0 g0 fit_1368 (by decide) (by decide)
 have p3 := inner_Step2 a (beginS exV 1368 3) 0 gb (by decide) (by unfold Fit64 beginS; dsimp only; omega)
 rw [hu1] at p1
 rw [hu2] at p2
 rw [hs] at p3
 have p4 := inner_Same (beginS exV 1368 3) (beginS exV 1368 3) (good_sm gb.m (by decide)) (good_sm gb.m (by decide))
 have p5 := inner_Same (beginS exV 1368 3) s (good_sm gb.m (by decide)) (good_sm gs.m (by decide))
 have hne : ¬ beginS exV 1368 3 = s := fun h => by
  have := congrArg VRun.ip h
  rw [hs1] at this
  exact absurd this (by show ¬ (16 : Int) = 1376; decide)
 have l1 : u1.d.length ≤ 1000000 := by rw [hd1]; decide
 have l2 : u2.d.length ≤ 1000000 := by rw [hd2]; decide
 clear hs gs
 refine pureG_of_WR (globs_ok a) tG (rs := [.tmp 0]) Tryz.func11 rfl rfl rfl (by simp) (by simp) (fun B => ?_)
 refine zu1 ?_
 refine z8 ?_
 refine Wc rfl rfl (dC rfl Tryz.func25 rfl rfl ((law_fresh) _)) ?_
 refine zs2 ?_
 refine Ws ?_
 refine W_drawU [1, 0, 0, 0, 0, 0, 0, 3] [0, 1, 2, 3, 4, 5, 6, 7] mG rfl (by kernel_rfl) ?_
 refine z5 ?_
 refine Xc rfl rfl rfl rfl (fun _ => dC rfl Tryz.func26 rfl rfl ((ref_Xt _) _)) ?_
 refine Xc rfl rfl rfl rfl (fun _ => dC rfl Tryz.func26 rfl rfl ((ref_Xt _) _)) ?_
 refine Xc rfl rfl rfl rfl (fun _ => dC rfl Tryz.func26 rfl rfl ((ref_Xt _) _)) ?_
 refine Xc rfl rfl rfl rfl (fun _ => dC rfl Tryz.func26 rfl rfl ((ref_Xt _) _)) ?_
 refine z3 ?_
 refine Xa 18 rfl (bsL cInt [_, _, _, _, _] rfl rfl) ?_
 refine Xc rfl rfl rfl rfl (fun _ => dC rfl Tryz.func27 rfl rfl ((ref_Laid (stockS []) 1368 [xtS [40, 108, 105, 116, 41], 5, xtS [68, 85, 80], xtS [42], xtS [40, 101, 120, 105, 116, 41]] (oT (by kernel_rfl)) (oT (by kernel_rfl)) fit_1368 (oT (by kernel_rfl))) _)) ?_
 refine WU_ev3 tG rfl rfl rfl rfl rfl trivial ?_
 refine WU_nil ?_
 refine zp1 ?_
 refine Wc rfl rfl (dC rfl Tryz.func21 rfl rfl (p1 _ (globs_at 0 1 rfl rfl))) ?_
 refine zy5 ?_
 refine zs3 ?_
 refine zp1 ?_
 refine Wc rfl rfl (dC rfl Tryz.func21 rfl rfl (p2 _ (globs_at 0 1 rfl rfl))) ?_
 refine zy5 ?_
 refine zs3 ?_
 refine zp1 ?_
 refine Wc rfl rfl (dC rfl Tryz.func18 rfl rfl ((inner_Begin exV 1368 3) _)) ?_
 refine zs2 ?_
 refine zp1 ?_
 refine Wc rfl rfl (dC rfl Tryz.func14 rfl rfl (p3 _ (globs_at 0 1 rfl rfl))) ?_
 refine zy5 ?_
 refine zs3 ?_
 refine zp3 ?_
 refine WO_true 42 rfl (by rfl) ?_
 refine zy3 ?_
 refine Wa 45 rfl (bsL cInt [_] rfl rfl) ?_
 refine Wc rfl rfl (dC rfl Tryz.func28 rfl rfl ((ref_Same4 u1.d [25] l1 (by decide)) _)) ?_
 refine zy2 ?_
 refine WO_true 48 rfl (by exact decide_eq_true hd1) ?_
 refine zy4 ?_
 refine WO_true 52 rfl (by rfl) ?_
 refine zy4 ?_
 refine WO_true 56 rfl (by rfl) ?_
 refine zy4 ?_
 refine WO_true 60 rfl (by rfl) ?_
 refine zy3 ?_
 refine Wa 63 rfl (bsL cInt [_] rfl rfl) ?_
 refine Wc rfl rfl (dC rfl Tryz.func28 rfl rfl ((ref_Same4 u2.d [25] l2 (by decide)) _)) ?_
 refine zy2 ?_
 refine WO_true 66 rfl (by exact decide_eq_true hd2) ?_
 refine zy4 ?_
 refine WO_true 70 rfl (by rfl) ?_
 refine zy4 ?_
 refine WO_true 74 rfl (by rfl) ?_
 refine zy5 ?_
 refine WO_true 79 rfl (by rw [hs1]; rfl) ?_
 refine zy5 ?_
 refine WO_true 84 rfl (by rw [hs2]; rfl) ?_
 refine zy2 ?_
 refine Wc rfl rfl (dC rfl Tryz.func17 rfl rfl ((p4) _)) ?_
 refine zy2 ?_
 refine WO_true 89 rfl (by exact decide_eq_true rfl) ?_
 refine zy2 ?_
 refine Wc rfl rfl (dC rfl Tryz.func17 rfl rfl ((p5) _)) ?_
 refine zs3 ?_
 refine zR ?_
 exact congrArg boo (by rw [decide_eq_false hne]; rfl)
end Go.Proofs.YtobhnjnffnbbkaaGreatDoor
namespace Go.Proofs.YtobhnjnffnbbkaaGreatDoor
open Go.RowKit
open Go.WideShapes
set_option maxRecDepth 100000
set_option maxHeartbeats 8000000
theorem law_callsG {P : Program} {a : Addr} {f : FuncId} {args : List PV} {vs : List Value} {w : World} (hf : FlatL args) (h : ∀ (H : List Ob), (∀ o ∈ globs a, ∃ k : Nat, H[k]? = some o) → HC P f args H (.val (.bool true)) H)
  (h0 : w.cell? ⟨0, 0, none⟩ = some (haltV a)) (h1 : w.cell? ⟨1, 0, none⟩ = some etV) (hr : RepL (c0 w) args vs) :
  Calls P f vs.toArray w fun e w' => e = .returned (.bool true) ∧ Below w.heap.size w w' := by
 have dull : ∀ {j : Nat} {oj : Ob}, (globs a)[j]? = some oj → oj.live = true → False := fun q1 q2 => by
  obtain ⟨g, u, rfl⟩ := globs_ok a _ (List.mem_of_getElem? q1); cases q2
 have nw : ∀ b off, ¬ (False ∨ OwnWr (fun _ => none) (globs a) b off) := by
  rintro b off (q | ⟨i, oi, q1, _, q3⟩)
  ·exact q
  ·obtain ⟨g, u, rfl⟩ := globs_ok a _ (List.mem_of_getElem? q1); cases q3
 have s : Sim (fun _ _ => False) (globs a) (fun _ => none) w := by
  refine ⟨fun i j b oi oj q _ l => (dull q l).elim, fun i b oi q l => (dull q l).elim, fun b off q => q.elim, fun i oi q => ?_⟩
  have hm := List.mem_of_getElem? q
  unfold globs at hm
  simp only [List.mem_cons, List.not_mem_nil, or_false] at hm
  rcases hm with rfl | rfl
  ·exact ⟨h0, nw _ _⟩
  ·exact ⟨h1, nw _ _⟩
 have hr' : RepL (cx (fun _ _ => False) (globs a) (fun _ => none) w) args vs := repL_flat (c := c0 w) (c' := cx (fun _ _ => False) (globs a) (fun _ => none) w) rfl (fun b off q => (nw b off q).elim) hf hr
 refine Calls.mono (h (globs a) (fun o ho => by obtain ⟨k, hk⟩ := List.getElem?_of_mem ho; exact ⟨k, hk⟩) (fun _ _ => False) (fun _ => none) w vs s hr') ?_
 rintro e w' ⟨v, σ', rfl, h1, _, h3⟩
 unfold Rep at h1
 subst h1
 exact ⟨rfl, ⟨h3.os, h3.tape, h3.output, h3.size, fun b hb => h3.block b hb (fun i oi hi hl => (dull hi hl).elim)⟩⟩
structure OkRun (r : VRun) : Prop where
 vm : OkVm r.vm
 ip : Fit64 r.ip
 w : Fit64 r.w
 fuel : Fit64 r.fuel
theorem rd_Run {w : World} {cs : List Value} (h : Rd w 38 cs) : ∃ x : VRun, OkRun x ∧ RepL (c0 w) (cRun x) cs := by
 have h0 := rd_all Tryz.underlying38 [(36, 23), (3, 1), (3, 1), (4, 1), (3, 1)] (by kernel_rfl) (by kernel_rfl) (by kernel_rfl) h
 simp only [RdAll] at h0
 obtain ⟨a0, b0, e0, _, r0, t0⟩ := h0
 obtain ⟨a1, b1, e1, _, r1, t1⟩ := t0
 obtain ⟨a2, b2, e2, _, r2, t2⟩ := t1
 obtain ⟨a3, b3, e3, _, r3, t3⟩ := t2
 obtain ⟨a4, b4, e4, _, r4, t4⟩ := t3
 obtain ⟨x0, k0, p0⟩ := rd_Vm r0
 obtain ⟨x1, k1, p1⟩ := rd_int64 r1
 obtain ⟨x2, k2, p2⟩ := rd_int64 r2
 obtain ⟨x3, k3, p3⟩ := rd_boo r3
 obtain ⟨x4, k4, p4⟩ := rd_int64 r4
 refine ⟨⟨x0, x1, x2, x3, x4⟩, ⟨k0, k1, k2, k4⟩, ?_⟩
 subst e0 e1 e2 e3 e4
 have key := RepL.append p0 (RepL.append p1 (RepL.append p2 (RepL.append p3 (RepL.append p4 (repL_nil.2 t4)))))
 exact key
theorem reads_run {w : World} {v : Value} (h : Reads w 38 v) : ∃ x : VRun, OkRun x ∧ Rep (c0 w) (eRun x) v := by
 obtain ⟨cs, h1, h2⟩ := reads_struct Tryz.underlying38 h
 obtain ⟨x, h3, h4⟩ := rd_Run h2.2
 exact ⟨x, h3, reads_agg (t := 38) ⟨cs, h1, h4⟩⟩
theorem may_goodM {v : VVm} (hv : OkVm v) (h : may10 v = true) : GoodM 60 v := by
 have g := may_good hv h
 exact ⟨(right_iff v).1 g.right, g.old, hv.o_d.1, hv.o_r.1, fun x hx => (hv.o_f.1 x hx).o_ip, ⟨hv.o_arg, hv.o_self, hv.o_now⟩, hv.o_last⟩
theorem may_goodR {r : VRun} (h : OkRun r) (hm : may10 r.vm = true) : GoodR 60 r := ⟨may_goodM h.vm hm, h.ip, h.w⟩
theorem over_aux (b : Int) (x y : VRun × Bool × Int) (hx : x.2.2 = 0) (hy : y.2.1 = false) (h : (if b = 0 then x else y).2.1 = true) : (if b = 0 then x else y).2.2 = 0 := by
 by_cases q : b = 0
 ·rw [if_pos q]; exact hx
 ·rw [if_neg q, hy] at h; cases h
theorem over_ok (r : VRun) (h : (stepS r).2.1 = true) : (stepS r).2.2 = 0 := by
 unfold stepS at h ⊢
 by_cases hf : r.fuel < 1
 ·rw [if_pos hf] at h; cases h
 ·rw [if_neg hf] at h ⊢
  exact over_aux _ _ _ rfl rfl h
theorem ref12_Same (a b : VRun) (ha : VSm a.vm) (hb : VSm b.vm) : PureC Tryz.prog 16 [eRun a, eRun b] (boo (decide (a = b))) := by
 rw [run_dec]
 refine pW tG (rs := [.tmp 4]) Tryz.func16 rfl rfl rfl (by simp) (by simp) (fun B => ?_)
 refine zu3 ?_
 refine zp4 ?_
 refine Wc rfl rfl (dC rfl Tryz.func23 rfl rfl ((ref_Same10 a.vm b.vm ha hb) _)) ?_
 refine zs1 ?_
 refine zp2 ?_
 refine Wb 12 rfl (fun hg1 => ?_) (fun hg1 => ?_)
 ·refine zy5 ?_
  refine zy2 ?_
  refine Wb 19 rfl (fun hg2 => ?_) (fun hg2 => ?_)
  ·refine zy5 ?_
   refine zy2 ?_
   refine Wb 26 rfl (fun hg3 => ?_) (fun hg3 => ?_)
   ·refine zy5 ?_
    refine zy2 ?_
    refine Wb 33 rfl (fun hg4 => ?_) (fun hg4 => ?_)
    ·refine zy5 ?_
     refine zs2 ?_
     refine zR ?_
     exact congrArg boo (by simp_all <;> rfl)
    ·refine z6 ?_
     iterate 4 refine z6 ?_
     refine zs2 ?_
     refine zR ?_
     exact congrArg boo (by simp_all <;> rfl)
   ·refine z6 ?_
    iterate 4 refine z6 ?_
    refine zy2 ?_
    iterate 5 refine z6 ?_
    refine zs2 ?_
    refine zR ?_
    exact congrArg boo (by simp_all <;> rfl)
  ·refine z6 ?_
   iterate 4 refine z6 ?_
   refine zy2 ?_
   iterate 5 refine z6 ?_
   refine zy2 ?_
   iterate 5 refine z6 ?_
   refine zs2 ?_
   refine zR ?_
   exact congrArg boo (by simp_all <;> rfl)
 ·refine z6 ?_
  iterate 4 refine z6 ?_
  refine zy2 ?_
  iterate 5 refine z6 ?_
  refine zy2 ?_
  iterate 5 refine z6 ?_
  refine zy2 ?_
  iterate 5 refine z6 ?_
  refine zs2 ?_
  refine zR ?_
  exact congrArg boo (by simp_all <;> rfl)
theorem ref12_May (r : VRun) (h : VIn2 r.vm) : PureC Tryz.prog 12 [eRun r] (boo (may10 r.vm)) := by
 refine pW tG (rs := [.tmp 2]) Tryz.func12 rfl rfl rfl (by simp) (by simp) (fun B => ?_)
 refine zu2 ?_
 refine zp2 ?_
 refine Wc rfl rfl (dC rfl Tryz.func20 rfl rfl ((ref_May10 r.vm h) _)) ?_
 refine zs1 ?_
 refine zR ?_
 rfl
theorem law_InnerStays (a : Addr) (r : VRun) (hr : OkRun r) : ∀ (H : List Ob), (∀ o ∈ globs a, ∃ k : Nat, H[k]? = some o) → HC Tryz.prog 5 [eRun r] H (boo true) H := by
 obtain ⟨bm, hbm⟩ : ∃ b, may10 r.vm = b := ⟨_, rfl⟩
 have pm := ref12_May r (okVm_in hr.vm)
 rw [hbm] at pm
 refine pureG_of_WR (globs_ok a) tG (rs := [.tmp 2]) Tryz.func5 rfl rfl rfl (by simp) (by simp) (fun B => ?_)
 refine zu2 ?_
 refine z8 ?_
 refine Wc rfl rfl (dC rfl Tryz.func11 rfl rfl (lawI_shown a _ (globs_at 0 1 rfl rfl))) ?_
 refine zs1 ?_
 refine Ws ?_
 refine zp1 ?_
 refine Wc rfl rfl (dC rfl Tryz.func12 rfl rfl ((pm) _)) ?_
 refine zs1 ?_
 refine Wi rfl (fun hi1 => ?_) (fun hi1 => ?_)
 ·refine zu2 ?_
  refine zR ?_
  rfl
 ·have hm : may10 r.vm = true := by rw [hbm]; simpa using hi1
  have g0 := may_goodR hr hm
  clear pm
  refine Wj ?_
  refine zu3 ?_
  refine Ws ?_
  refine zu1 ?_
  refine Wl ?_
  show W _ _ _ _ _ _ _
  refine W_loopS (fun (s : (VRun × Nat)) => [(3, boo true), (4, .ptr 3 0), (5, i64 s.2)]) (fun (s : (VRun × Nat)) => [.glob 0 (haltV a), .glob 1 etV, .cells (cRun r) 38, .cells (cRun s.1) 38]) (fun (s : (VRun × Nat)) => []) (fun (s : (VRun × Nat)) => s.2 ≤ 60 ∧ GoodR (60 + 2 * s.2) s.1 ∧ Fit64 s.1.fuel) (fun (s : (VRun × Nat)) => 60 - s.2) ((r, 0)) (by exact ⟨Nat.zero_le _, g0, hr.fuel⟩) [] ?_ ?_
  ·exact fitT
  ·intro s hs
   refine Ws ?_
   refine zu2 ?_
   refine Wi rfl (fun hi2 => ?_) (fun hi2 => ?_)
   ·have hlt : s.2 < 60 := by have := oT hi2; omega
    obtain ⟨hk, hg, hfu⟩ := hs
    have pd := inner_Step2 a s.1 (60 + 2 * s.2) hg (by omega) hfu
    have gy := good_step2 hg
    have hov := over_ok s.1
    have hn : s.1.fuel < 1 → stepS s.1 = (s.1, false, -256) := step_none
    have hf : ¬ s.1.fuel < 1 → (stepS s.1).1.fuel = W64 (s.1.fuel - 1) := step_fuel hg.m.right.d
    generalize stepS s.1 = R at pd gy hov hn hf
    have hfy : Fit64 R.1.fuel := by
     by_cases q : s.1.fuel < 1
     ·rw [hn q]; exact hfu
     ·rw [hf q]; exact fit_w64 _
    have prr : PureC Tryz.prog 24 [eVm R.1.vm] (boo true) := by have h := ref_Right10 R.1.vm (right_in gy.m.right (by have := gy.m.old; omega)); rw [(right_iff _).2 gy.m.right] at h; exact h
    have ps : R.1 = s.1 → PureC Tryz.prog 16 [eRun R.1, eRun s.1] (boo true) := fun e => by
     have h := ref12_Same R.1 s.1 (good_sm gy.m (by omega)) (good_sm hg.m (by omega)); rw [decide_eq_true e] at h; exact h
    have hgy : GoodR (60 + 2 * (s.2 + 1)) R.1 := gy.up (by omega)
    refine Wj ?_
    refine Ws ?_
    refine Wl ?_
    refine zp1 ?_
    refine Wc rfl rfl (dC rfl Tryz.func14 rfl rfl (pd _ (globs_at 0 1 rfl rfl))) ?_
    refine zy5 ?_
    refine zs3 ?_
    refine Ws ?_
    refine zp2 ?_
    refine Wc rfl rfl (dC rfl Tryz.func24 rfl rfl ((prr) _)) ?_
    refine zy2 ?_
    refine WO_false 29 rfl (by rfl) ?_
    refine zy4 ?_
    refine Wb 33 rfl (fun hg2 => ?_) (fun hg2 => ?_)
    ·have q2 : s.1.fuel < 1 := oT hg2
     have qn := hn q2
     have e1 : R.1 = s.1 := by rw [qn]
     have e2 : R.2.1 = false := by rw [qn]
     have e3 : R.2.2 = -256 := by rw [qn]
     refine zy3 ?_
     refine WO_false 36 rfl (by rw [e3]; rfl) ?_
     refine zy3 ?_
     refine WO_false 39 rfl (by exact e2) ?_
     refine zy2 ?_
     refine Wc rfl rfl (dC rfl Tryz.func16 rfl rfl ((ps e1) _)) ?_
     refine zy5 ?_
     refine WO_false 47 rfl (by rfl) ?_
     refine zy4 ?_
     refine Wb 51 rfl (fun hg6 => ?_) (fun hg6 => ?_)
     ·refine zy5 ?_
      refine zs3 ?_
      refine Wf rfl (by (exfalso; have := oT hg6; omega)) ?_
      refine Wj ?_
      refine Ws ?_
      refine zp2 ?_
      refine Wb 61 rfl (fun hg7 => ?_) (fun hg7 => ?_)
      ·refine z6 ?_
       refine z6 ?_
       refine zs1 ?_
       refine Wt rfl rfl ?_
       refine zp2 ?_
       refine Wb 66 rfl (fun hg8 => ?_) (fun hg8 => ?_)
       ·refine zy2 ?_
        refine Wb 68 rfl (fun hg9 => ?_) (fun hg9 => ?_)
        ·refine zy5 ?_
         refine zs1 ?_
         refine zR ?_
         (rw [hov hg7]; rfl)
        ·refine z6 ?_
         refine z6 ?_
         refine zs4 ?_
         refine zR ?_
         rfl
       ·refine z6 ?_
        iterate 5 refine z6 ?_
        refine zs2 ?_
        refine zR ?_
        (exfalso; simp_all; done)
      ·refine zs3 ?_
       refine Wi rfl (fun hi4 => ?_) (fun hi4 => ?_)
       ·refine zp2 ?_
        refine Wb 66 rfl (fun hg8 => ?_) (fun hg8 => ?_)
        ·refine zy2 ?_
         refine Wb 68 rfl (fun hg9 => ?_) (fun hg9 => ?_)
         ·refine zy5 ?_
          refine zs1 ?_
          refine zR ?_
          (exfalso; simp_all; done)
         ·refine z6 ?_
          refine z6 ?_
          refine zs4 ?_
          refine zR ?_
          rfl
        ·refine z6 ?_
         iterate 5 refine z6 ?_
         refine zs2 ?_
         refine zR ?_
         (exfalso; simp_all; done)
       ·refine Wj ?_
        refine W_region rfl ?_
        refine zs2 ?_
        refine W_region rfl ?_
        refine zs3 ?_
        exact ⟨(R.1, s.2 + 1), [], (by exact ⟨hlt, hgy, hfy⟩), (by simp only; omega), fitT⟩
     ·refine z6 ?_
      iterate 5 refine z6 ?_
      refine zs2 ?_
      refine Wf rfl rfl ?_
      refine Wj ?_
      refine Ws ?_
      refine zp2 ?_
      refine Wb 61 rfl (fun hg7 => ?_) (fun hg7 => ?_)
      ·refine z6 ?_
       refine z6 ?_
       refine zs1 ?_
       refine Wt rfl rfl ?_
       refine zp2 ?_
       refine Wb 66 rfl (fun hg8 => ?_) (fun hg8 => ?_)
       ·refine zy2 ?_
        refine Wb 68 rfl (fun hg9 => ?_) (fun hg9 => ?_)
        ·refine zy5 ?_
         refine zs1 ?_
         refine zR ?_
         (rw [hov hg7]; rfl)
        ·refine z6 ?_
         refine z6 ?_
         refine zs4 ?_
         refine zR ?_
         rfl
       ·refine z6 ?_
        iterate 5 refine z6 ?_
        refine zs2 ?_
        refine zR ?_
        (exfalso; simp_all; done)
      ·refine zs3 ?_
       refine Wi rfl (fun hi4 => ?_) (fun hi4 => ?_)
       ·refine zp2 ?_
        refine Wb 66 rfl (fun hg8 => ?_) (fun hg8 => ?_)
        ·refine zy2 ?_
         refine Wb 68 rfl (fun hg9 => ?_) (fun hg9 => ?_)
         ·refine zy5 ?_
          refine zs1 ?_
          refine zR ?_
          (exfalso; simp_all; done)
         ·refine z6 ?_
          refine z6 ?_
          refine zs4 ?_
          refine zR ?_
          rfl
        ·refine z6 ?_
         iterate 5 refine z6 ?_
         refine zs2 ?_
         refine zR ?_
         (exfalso; simp_all; done)
       ·refine Wj ?_
        refine W_region rfl ?_
        refine zs2 ?_
        refine W_region rfl ?_
        refine zs3 ?_
        exact ⟨(R.1, s.2 + 1), [], (by exact ⟨hlt, hgy, hfy⟩), (by simp only; omega), fitT⟩
    ·have q2 : ¬ s.1.fuel < 1 := oF hg2
     have qf := hf q2
     iterate 11 refine z6 ?_
     refine zy5 ?_
     refine zy2 ?_
     refine Wb 51 rfl (fun hg6 => ?_) (fun hg6 => ?_)
     ·refine zy5 ?_
      refine zs3 ?_
      refine Wf rfl (by (rw [qf]; simp)) ?_
      refine Wj ?_
      refine Ws ?_
      refine zp2 ?_
      refine Wb 61 rfl (fun hg7 => ?_) (fun hg7 => ?_)
      ·refine z6 ?_
       refine z6 ?_
       refine zs1 ?_
       refine Wt rfl rfl ?_
       refine zp2 ?_
       refine Wb 66 rfl (fun hg8 => ?_) (fun hg8 => ?_)
       ·refine zy2 ?_
        refine Wb 68 rfl (fun hg9 => ?_) (fun hg9 => ?_)
        ·refine zy5 ?_
         refine zs1 ?_
         refine zR ?_
         (rw [hov hg7]; rfl)
        ·refine z6 ?_
         refine z6 ?_
         refine zs4 ?_
         refine zR ?_
         rfl
       ·refine z6 ?_
        iterate 5 refine z6 ?_
        refine zs2 ?_
        refine zR ?_
        (exfalso; simp_all; done)
      ·refine zs3 ?_
       refine Wi rfl (fun hi4 => ?_) (fun hi4 => ?_)
       ·refine zp2 ?_
        refine Wb 66 rfl (fun hg8 => ?_) (fun hg8 => ?_)
        ·refine zy2 ?_
         refine Wb 68 rfl (fun hg9 => ?_) (fun hg9 => ?_)
         ·refine zy5 ?_
          refine zs1 ?_
          refine zR ?_
          (exfalso; simp_all; done)
         ·refine z6 ?_
          refine z6 ?_
          refine zs4 ?_
          refine zR ?_
          rfl
        ·refine z6 ?_
         iterate 5 refine z6 ?_
         refine zs2 ?_
         refine zR ?_
         (exfalso; simp_all; done)
       ·refine Wj ?_
        refine W_region rfl ?_
        refine zs2 ?_
        refine W_region rfl ?_
        refine zs3 ?_
        exact ⟨(R.1, s.2 + 1), [], (by exact ⟨hlt, hgy, hfy⟩), (by simp only; omega), fitT⟩
     ·refine z6 ?_
      iterate 5 refine z6 ?_
      refine zs2 ?_
      refine Wf rfl rfl ?_
      refine Wj ?_
      refine Ws ?_
      refine zp2 ?_
      refine Wb 61 rfl (fun hg7 => ?_) (fun hg7 => ?_)
      ·refine z6 ?_
       refine z6 ?_
       refine zs1 ?_
       refine Wt rfl rfl ?_
       refine zp2 ?_
       refine Wb 66 rfl (fun hg8 => ?_) (fun hg8 => ?_)
       ·refine zy2 ?_
        refine Wb 68 rfl (fun hg9 => ?_) (fun hg9 => ?_)
        ·refine zy5 ?_
         refine zs1 ?_
         refine zR ?_
         (rw [hov hg7]; rfl)
        ·refine z6 ?_
         refine z6 ?_
         refine zs4 ?_
         refine zR ?_
         rfl
       ·refine z6 ?_
        iterate 5 refine z6 ?_
        refine zs2 ?_
        refine zR ?_
        (exfalso; simp_all; done)
      ·refine zs3 ?_
       refine Wi rfl (fun hi4 => ?_) (fun hi4 => ?_)
       ·refine zp2 ?_
        refine Wb 66 rfl (fun hg8 => ?_) (fun hg8 => ?_)
        ·refine zy2 ?_
         refine Wb 68 rfl (fun hg9 => ?_) (fun hg9 => ?_)
         ·refine zy5 ?_
          refine zs1 ?_
          refine zR ?_
          (exfalso; simp_all; done)
         ·refine z6 ?_
          refine z6 ?_
          refine zs4 ?_
          refine zR ?_
          rfl
        ·refine z6 ?_
         iterate 5 refine z6 ?_
         refine zs2 ?_
         refine zR ?_
         (exfalso; simp_all; done)
       ·refine Wj ?_
        refine W_region rfl ?_
        refine zs2 ?_
        refine W_region rfl ?_
        refine zs3 ?_
        exact ⟨(R.1, s.2 + 1), [], (by exact ⟨hlt, hgy, hfy⟩), (by simp only; omega), fitT⟩
   ·refine W_exit ?_
    refine zu2 ?_
    refine zR ?_
    rfl
theorem walk_InnerStays (a : Addr) (v0 : Value) (w : World) (h0 : w.cell? ⟨0, 0, none⟩ = some (haltV a)) (h1 : w.cell? ⟨1, 0, none⟩ = some etV) (hv : Reads w 38 v0) :
  Calls Tryz.prog 5 #[v0] w fun e w' => e = .returned (.bool true) ∧ Below w.heap.size w w' := by
 obtain ⟨x, hx, hr⟩ := reads_run hv
 exact law_callsG (args := [eRun x]) (by simp [FlatL]) (law_InnerStays a x hx) h0 h1 (repL_cons.2 ⟨hr, repL_nil.2 rfl⟩)
end Go.Proofs.YtobhnjnffnbbkaaGreatDoor
