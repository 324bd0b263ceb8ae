import Derived.Test.YtobhnjnffnbbkaaGreatDoorPk9
set_option linter.unusedVariables false
set_option linter.unusedSimpArgs false
namespace Go.Proofs.YtobhnjnffnbbkaaGreatDoor
open Go.RowKit
set_option maxRecDepth 100000
set_option maxHeartbeats 4000000
def withF (r : VRun) (g : Int) : VRun := { r with fuel := g }
def stepF (p : VRun × Bool × Int) (g : Int) : VRun × Bool × Int := (withF p.1 g, p.2.1, p.2.2)
theorem caught_with (a : VRun) (c g : Int) : caughtS (withF a g) c = (withF (caughtS a c).1 g, (caughtS a c).2) := by
 unfold caughtS
 by_cases h : a.vm.f.length = 0
 ·have h' : (withF a g).vm.f.length = 0 := h
  rw [if_pos h, if_pos h']
 ·have h' : ¬ (withF a g).vm.f.length = 0 := h
  rw [if_neg h, if_neg h']
  rfl
theorem step_aux (b g : Int) (x y x' y' : VRun × Bool × Int) (h1 : x' = stepF x g) (h2 : y' = stepF y g) : (if b = 0 then x' else y') = stepF (if b = 0 then x else y) g := by
 by_cases q : b = 0
 ·rw [if_pos q, if_pos q]; exact h1
 ·rw [if_neg q, if_neg q]; exact h2
theorem step_key (a' a : VRun) (c g : Int) (h : a' = withF a g) : ((caughtS a' c).1, false, (caughtS a' c).2) = stepF ((caughtS a c).1, false, (caughtS a c).2) g := by
 subst h; rw [caught_with]; rfl
theorem step_with (r : VRun) (g : Int) (hf : ¬ r.fuel < 1) (hg : ¬ g < 1) : stepS (withF r g) = stepF (stepS r) (W64 (g - 1)) := by
 have hg' : ¬ (withF r g).fuel < 1 := hg
 unfold stepS
 rw [if_neg hf, if_neg hg']
 exact step_aux _ _ _ _ _ _ rfl (step_key _ _ _ _ rfl)
def wantF (R : VVm × Int × Int) : Prop := R.2.2 = -256 ∧ R.2.1 = 0
theorem run_more (N : Nat) : ∀ (n : Nat) (r : VRun), (GoodR (700000 - 2 * n) r) → n ≤ 300001 → 0 ≤ r.fuel → r.fuel < (n : Int) →
  (0 ≤ (runsS n r).2.1 ∧ (runsS n r).2.1 ≤ r.fuel) ∧ (¬ wantF (runsS n r) →
   ((runsS n r).2.1 < r.fuel ∧
   (∀ (m : Int) (n' : Nat), 0 ≤ m → r.fuel + m ≤ 300000 → r.fuel + m < (n' : Int) → runsS n' (withF r (r.fuel + m)) = ((runsS n r).1, (runsS n r).2.1 + m, (runsS n r).2.2)) ∧
   (∀ (g : Int) (n' : Nat), 0 ≤ g → g < (n' : Int) → g < r.fuel - (runsS n r).2.1 → (runsS n' (withF r g)).2.1 = 0 ∧ (runsS n' (withF r g)).2.2 = -256)))
 | 0, r, _, _, h0, h1 => by exfalso; omega
 | n + 1, r, hgd, hn, h0, h1 => by
  by_cases hf : r.fuel < 1
  ·have hz : r.fuel = 0 := by omega
   have e : runsS (n + 1) r = (endV r.vm, r.fuel, -256) := by
    rw [runs_end (.inr (by rw [step_none hf]; show (-256 : Int) ≠ 0; decide)), step_none hf]
   rw [e]
   exact ⟨⟨by show 0 ≤ r.fuel; omega, Int.le_refl _⟩, fun q => (q ⟨rfl, hz⟩).elim⟩
  ·have hw := step_fuel hgd.m.right.d hf
   rw [fuel_w (by omega) (by omega)] at hw
   have hgy := good_step2 hgd
   by_cases he : (stepS r).2.1 = true ∨ (stepS r).2.2 ≠ 0
   ·rw [runs_end he]
    refine ⟨⟨by show 0 ≤ (stepS r).1.fuel; omega, by show (stepS r).1.fuel ≤ r.fuel; omega⟩, fun _ => ⟨by show (stepS r).1.fuel < r.fuel; omega, fun m n' hm hm2 hn' => ?_, fun g n' hg hn' hlt => ?_⟩⟩
    ·obtain ⟨k, rfl⟩ : ∃ k, n' = k + 1 := ⟨n' - 1, by omega⟩
     have hs := step_with r (r.fuel + m) hf (by omega)
     have hs2 : (stepS (withF r (r.fuel + m))).2 = (stepS r).2 := by rw [hs]; rfl
     rw [runs_end (by rw [hs2]; exact he), hs, fuel_w (by omega) (by omega)]
     show (endV (stepS r).1.vm, r.fuel + m - 1, (stepS r).2.2) = (endV (stepS r).1.vm, (stepS r).1.fuel + m, (stepS r).2.2)
     rw [hw, show r.fuel + m - 1 = r.fuel - 1 + m by omega]
    ·have hlt' : g < r.fuel - (stepS r).1.fuel := hlt
     obtain ⟨k, rfl⟩ : ∃ k, n' = k + 1 := ⟨n' - 1, by omega⟩
     have hg0 : (withF r g).fuel < 1 := by show g < 1; omega
     rw [runs_end (.inr (by rw [step_none hg0]; show (-256 : Int) ≠ 0; decide)), step_none hg0]
     exact ⟨by show g = 0; omega, rfl⟩
   ·rw [runs_go he]
    obtain ⟨i1, i2⟩ := run_more N n (stepS r).1 (hgy.up (by omega)) (by omega) (by omega) (by omega)
    rw [hw] at i1 i2
    refine ⟨⟨i1.1, by omega⟩, fun q => ?_⟩
    obtain ⟨j1, j2, j3⟩ := i2 q
    refine ⟨by omega, fun m n' hm hm2 hn' => ?_, fun g n' hg hn' hlt => ?_⟩
    ·obtain ⟨k, rfl⟩ : ∃ k, n' = k + 1 := ⟨n' - 1, by omega⟩
     have hs := step_with r (r.fuel + m) hf (by omega)
     have hs2 : (stepS (withF r (r.fuel + m))).2 = (stepS r).2 := by rw [hs]; rfl
     rw [runs_go (by rw [hs2]; exact he), hs, fuel_w (by omega) (by omega)]
     have h := j2 m k hm (by omega) (by omega)
     rw [← h]
     show runsS k (withF (stepS r).1 (r.fuel + m - 1)) = _
     rw [show r.fuel + m - 1 = r.fuel - 1 + m by omega]
    ·obtain ⟨k, rfl⟩ : ∃ k, n' = k + 1 := ⟨n' - 1, by omega⟩
     by_cases hg1 : g < 1
     ·have hg0 : (withF r g).fuel < 1 := hg1
      rw [runs_end (.inr (by rw [step_none hg0]; show (-256 : Int) ≠ 0; decide)), step_none hg0]
      exact ⟨by show g = 0; omega, rfl⟩
     ·have hs := step_with r g hf hg1
      have hs2 : (stepS (withF r g)).2 = (stepS r).2 := by rw [hs]; rfl
      rw [runs_go (by rw [hs2]; exact he), hs, fuel_w (by omega) (by omega)]
      exact j3 (g - 1) k (by omega) (by omega) (by omega)
end Go.Proofs.YtobhnjnffnbbkaaGreatDoor
namespace Go.Proofs.YtobhnjnffnbbkaaGreatDoor
open Go.RowKit
open Go.WideShapes
set_option maxRecDepth 100000
set_option maxHeartbeats 8000000
structure VMoreIn where
 v : VVm
 xt : Int
 fuel : Nat
 more : Nat
 deriving Inhabited
def cMoreIn (x : VMoreIn) : List PV := cVm x.v ++ [i64 x.xt, .val (.int .u8 (x.fuel : Int)), .val (.int .u16 (x.more : Int))]
@[simp] theorem flat_cMoreIn (x : VMoreIn) : FlatL (cMoreIn x) := by simp [cMoreIn, cVm]
def eMoreIn (x : VMoreIn) : PV := .agg (cMoreIn x)
@[simp] theorem flat_eMoreIn (x : VMoreIn) : Flat (eMoreIn x) := by unfold eMoreIn Flat; exact flat_cMoreIn x
structure OkMoreIn (x : VMoreIn) : Prop where
 v : OkVm x.v
 xt : Fit64 x.xt
 fuel : x.fuel ≤ 255
 more : x.more ≤ 65535
theorem u16wf {n : Int} (h : (Lit.int .u16 n).wf = true) : 0 ≤ n ∧ n ≤ 65535 := by
 have := h; simp [Lit.wf, IntKind.min, IntKind.max, IntKind.bits, IntKind.signed] at this; omega
theorem rd_MoreIn {w : World} {cs : List Value} (h : Rd w 60 cs) : ∃ x : VMoreIn, OkMoreIn x ∧ RepL (c0 w) (cMoreIn x) cs := by
 have h0 := rd_all Tryz.underlying60 [(36, 23), (3, 1), (5, 1), (58, 1)] (by kernel_rfl) (by kernel_rfl) (by kernel_rfl) h
 simp only [RdAll] at h0
 obtain ⟨a0, b0, e0, _, r0, t0⟩ := h0
 obtain ⟨a1, b1, e1, _, r1, t1⟩ := t0
 obtain ⟨a2, b2, e2, _, r2, t2⟩ := t1
 obtain ⟨a3, b3, e3, _, r3, t3⟩ := t2
 obtain ⟨x0, k0, p0⟩ := rd_Vm r0
 obtain ⟨x1, k1, p1⟩ := rd_int64 r1
 obtain ⟨x2, _, p2⟩ := rd_byte r2
 obtain ⟨n, hn, p3⟩ := rd_int_rep Tryz.underlying58 r3
 have hb := u16wf hn
 obtain ⟨m, rfl⟩ : ∃ m : Nat, n = (m : Int) := ⟨n.toNat, by omega⟩
 refine ⟨⟨x0, x1, x2.toNat, m⟩, ⟨k0, k1, by have := x2.toNat_lt; show x2.toNat ≤ 255; omega, by show m ≤ 65535; omega⟩, ?_⟩
 subst e0 e1 e2 e3
 have key := RepL.append p0 (RepL.append p1 (RepL.append p2 (RepL.append p3 (repL_nil.2 t3))))
 exact key
theorem reads_morein {w : World} {v : Value} (h : Reads w 60 v) : ∃ x : VMoreIn, OkMoreIn x ∧ Rep (c0 w) (eMoreIn x) v := by
 obtain ⟨cs, h1, h2⟩ := reads_struct Tryz.underlying60 h
 obtain ⟨x, h3, h4⟩ := rd_MoreIn h2.2
 exact ⟨x, h3, reads_agg (t := 60) ⟨cs, h1, h4⟩⟩
theorem runN_more {v : VVm} {xt : Int} {N : Nat} (g : GoodM N v) (hN : N ≤ 90000) (hx : Fit64 xt) (f : Int) (h0 : 0 ≤ f) (h1 : f ≤ 300) :
  (0 ≤ (runNS v xt f).2.1 ∧ (runNS v xt f).2.1 ≤ f) ∧ (¬ wantF (runNS v xt f) → ((runNS v xt f).2.1 < f ∧
   (∀ m : Int, 0 ≤ m → m ≤ 100000 → runNS v xt (f + m) = ((runNS v xt f).1, (runNS v xt f).2.1 + m, (runNS v xt f).2.2)) ∧
   (∀ q : Int, 0 ≤ q → q < f - (runNS v xt f).2.1 → (runNS v xt q).2.1 = 0 ∧ (runNS v xt q).2.2 = -256))) := by
 have mx : ∀ k : Int, 0 ≤ k → max k 0 = k := fun k hk => by omega
 have hg : GoodR (700000 - 2 * ((max f 0).toNat.succ)) (beginS v xt (max f 0)) := (good_begin g hx).up (by rw [mx f h0]; omega)
 have hb : (beginS v xt (max f 0)).fuel = f := mx f h0
 have e : ∀ k : Int, 0 ≤ k → runNS v xt k = runsS (k.toNat.succ) (withF (beginS v xt (max f 0)) k) := fun k hk => by
  unfold runNS; rw [mx k hk]; rfl
 have e0 : runNS v xt f = runsS ((max f 0).toNat.succ) (beginS v xt (max f 0)) := rfl
 obtain ⟨i1, i2⟩ := run_more N ((max f 0).toNat.succ) (beginS v xt (max f 0)) hg (by rw [mx f h0]; omega) (by rw [hb]; exact h0) (by rw [hb, mx f h0]; omega)
 rw [← e0, hb] at i1 i2
 refine ⟨i1, fun hw => ?_⟩
 obtain ⟨j1, j2, j3⟩ := i2 hw
 refine ⟨j1, fun m hm hm2 => ?_, fun q hq hlt => ?_⟩
 ·rw [e (f + m) (by omega)]
  exact j2 m _ hm (by omega) (by omega)
 ·rw [e q hq]
  exact j3 q _ hq (by omega) hlt
theorem i64_fit {n : Int} (h0 : -1000000 ≤ n) (h1 : n ≤ 1000000) : IntKind.i64.wrap n = n := by rw [i64w]; unfold wrap64; omega
theorem sm_end {v : VVm} (h : VSm v) : VSm (endV v) := ⟨h.old, h.d, Nat.zero_le _, Nat.zero_le _, h.dict, h.req, h.hand⟩
theorem law_InnerMore (a : Addr) (x : VMoreIn) (hx : OkMoreIn x) : ∀ (H : List Ob), (∀ o ∈ globs a, ∃ k : Nat, H[k]? = some o) → HC Tryz.prog 6 [eMoreIn x] H (boo true) H := by
 obtain ⟨v, xt, fu, mo⟩ := x
 have hfu : fu ≤ 255 := hx.fuel
 have hmo : mo ≤ 65535 := hx.more
 obtain ⟨bm, hbm⟩ : ∃ b, may10 v = b := ⟨_, rfl⟩
 have pm := ref_May10 v (okVm_in (show OkVm v from hx.v))
 rw [hbm] at pm
 have cf : IntKind.i64.wrap (fu : Int) = (fu : Int) := i64_fit (by omega) (by omega)
 have cm : IntKind.i64.wrap (mo : Int) = (mo : Int) := i64_fit (by omega) (by omega)
 obtain ⟨R, hR⟩ : ∃ R, runNS v xt (fu : Int) = R := ⟨_, rfl⟩
 refine pureG_of_WR (globs_ok a) tG (rs := [.tmp 2]) Tryz.func6 rfl rfl rfl (by simp) (by simp) (fun B => ?_)
 refine zu2 ?_
 refine zu4 ?_
 refine zu3 ?_
 refine zu3 ?_
 refine zu3 ?_
 refine z8 ?_
 refine Wc rfl rfl (dC rfl Tryz.func11 rfl rfl (lawI_shown a _ (globs_at 0 1 rfl rfl))) ?_
 refine zs1 ?_
 refine Ws ?_
 refine zp1 ?_
 refine Wc rfl rfl (dC rfl Tryz.func20 rfl rfl ((pm) _)) ?_
 refine zy2 ?_
 refine Wb 35 rfl (fun hg1 => ?_) (fun hg1 => ?_)
 ·refine z6 ?_
  refine z6 ?_
  refine zs1 ?_
  refine Wt rfl rfl ?_
  refine zu2 ?_
  refine zR ?_
  first | rfl | (rw [zB]; rfl) | exact congrArg boo (decide_eq_true i1.2)
 ·have hm : may10 v = true := by rw [hbm]; simpa using hg1
  refine zs3 ?_
  refine Wi rfl (fun hi1 => ?_) (fun hi1 => ?_)
  ·refine zu2 ?_
   refine zR ?_
   first | rfl | (rw [zB]; rfl) | exact congrArg boo (decide_eq_true i1.2)
  ·have hF : (fu : Int) ≤ 200 := by have := oF hi1; dsimp only at this; omega
   have hxv : OkVm v := hx.v
   have g0 := may_goodM hxv hm
   have hxt : Fit64 xt := hx.xt
   have p3 := inner_Run a v xt (fu : Int) 60 g0 hxt (by omega) (by omega)
   rw [hR] at p3
   have hN := runN_more g0 (by omega) hxt (fu : Int) (by omega) (by omega)
   rw [hR] at hN
   obtain ⟨i1, i2⟩ := hN
   have mx : max (fu : Int) 0 = (fu : Int) := by omega
   have h0 : RunI R ((fu : Nat).succ, beginS v xt (fu : Int)) := by
    refine ⟨?_, by show (0 : Int) ≤ (fu : Int); omega, by show (fu : Int) < ((fu + 1 : Nat) : Int); omega, (good_begin g0 hxt).up (by show 60 ≤ 700000 - 2 * (fu + 1); omega), by show fu + 1 ≤ 300001; omega⟩
    rw [← hR]; unfold runNS; rw [mx]; rfl
   have p7 : ¬ wantF R → ∀ (H : List Ob), (∀ o ∈ globs a, ∃ k : Nat, H[k]? = some o) → HC Tryz.prog 21 [eVm v, i64 xt, i64 ((fu : Int) + (mo : Int))] H (tRunR (R.1, R.2.1 + (mo : Int), R.2.2)) H := fun hw => by
    have h := inner_Run a v xt ((fu : Int) + (mo : Int)) 60 g0 hxt (by omega) (by omega)
    rw [(i2 hw).2.1 (mo : Int) (by omega) (by omega)] at h
    exact h
   have p8 : ¬ wantF R → ∃ Z : VVm × Int × Int, Z.2.1 = 0 ∧ Z.2.2 = -256 ∧ ∀ (H : List Ob), (∀ o ∈ globs a, ∃ k : Nat, H[k]? = some o) → HC Tryz.prog 21 [eVm v, i64 xt, i64 ((fu : Int) - R.2.1 - 1)] H (tRunR Z) H := fun hw => by
    obtain ⟨j1, _, j3⟩ := i2 hw
    obtain ⟨zA, zB⟩ := j3 ((fu : Int) - R.2.1 - 1) (by omega) (by omega)
    exact ⟨_, zA, zB, inner_Run a v xt ((fu : Int) - R.2.1 - 1) 60 g0 hxt (by omega) (by omega)⟩
   have cl : IntKind.i64.wrap (R.2.1 + (mo : Int)) = R.2.1 + (mo : Int) := i64_fit (by omega) (by omega)
   have cs : IntKind.i64.wrap ((fu : Int) + (mo : Int)) = (fu : Int) + (mo : Int) := i64_fit (by omega) (by omega)
   have ct : IntKind.i64.wrap ((fu : Int) - R.2.1) = (fu : Int) - R.2.1 := i64_fit (by omega) (by omega)
   have cu : IntKind.i64.wrap ((fu : Int) - R.2.1 - 1) = (fu : Int) - R.2.1 - 1 := i64_fit (by omega) (by omega)
   clear pm hR
   refine Wj ?_
   refine zp4 ?_
   refine Wa 44 rfl (congrArg (fun z => PV.val (Value.int .i64 z)) cf) ?_
   refine Wc rfl rfl (dC rfl Tryz.func21 rfl rfl (p3 _ (globs_at 0 1 rfl rfl))) ?_
   refine zy5 ?_
   refine zs3 ?_
   refine zp4 ?_
   refine Wa 52 rfl (congrArg (fun z => PV.val (Value.int .i64 z)) cf) ?_
   refine Wc rfl rfl (dC rfl Tryz.func18 rfl rfl ((inner_Begin v xt (fu : Int)) _)) ?_
   refine zs2 ?_
   refine zu1 ?_
   refine Ws ?_
   refine Wl ?_
   show W _ _ _ _ _ _ _
   refine W_loopS (fun (s : (Nat × VRun × Nat)) => [(3, .ptr 3 0), (4, i64 xt), (5, .val (.int .u8 (fu : Int))), (6, .val (.int .u16 (mo : Int))), (7, boo true), (8, .ptr 4 0), (9, i64 R.2.1), (10, i64 R.2.2), (11, .ptr 5 0), (12, i64 s.2.2)]) (fun (s : (Nat × VRun × Nat)) => [.glob 0 (haltV a), .glob 1 etV, .cells (cMoreIn ⟨v, xt, fu, mo⟩) 60, .cells (cVm v) 36, .cells (cVm R.1) 36, .cells (cRun s.2.1) 38]) (fun (s : (Nat × VRun × Nat)) => []) (fun (s : (Nat × VRun × Nat)) => RunI R (s.1, s.2.1) ∧ (s.2.2 : Int) + s.2.1.fuel = (fu : Int)) (fun (s : (Nat × VRun × Nat)) => s.1) (((fu : Nat).succ, beginS v xt (fu : Int), 0)) (by exact ⟨h0, by show ((0 : Nat) : Int) + (fu : Int) = (fu : Int); omega⟩) [] ?_ ?_
   ·exact fitT
   ·intro s hs
    refine Wl ?_
    refine zp1 ?_
    refine Wc rfl rfl (dC rfl Tryz.func14 rfl rfl (inner_Step2 a s.2.1 (700000 - 2 * s.1) hs.1.g (by omega) hs.1.fit _ (globs_at 0 1 rfl rfl))) ?_
    refine zy5 ?_
    refine zs3 ?_
    refine Ws ?_
    refine zp2 ?_
    refine Wb 61 rfl (fun hg2 => ?_) (fun hg2 => ?_)
    ·have q1 : (stepS s.2.1).2.1 = true := hg2
     have ho := hs.1.out (.inl q1)
     have hl : (stepS s.2.1).1.fuel = R.2.1 := congrArg (fun p => p.2.1) ho
     have he : (stepS s.2.1).2.2 = R.2.2 := congrArg (fun p => p.2.2) ho
     have hsm : VSm R.1 := by rw [← congrArg (fun p => p.1) ho]; exact sm_end (good_sm (good_step2 hs.1.g).m (by omega))
     have pS : PureC Tryz.prog 23 [eVm R.1, eVm R.1] (boo true) := by have h := ref_Same10 R.1 R.1 hsm hsm; rw [decide_eq_true rfl] at h; exact h
     iterate 2 refine z6 ?_
     refine zs1 ?_
     refine Wt rfl rfl ?_
     refine Ws ?_
     refine zp4 ?_
     refine WO_false 68 rfl (by rw [he]; simp) ?_
     refine zs5 ?_
     refine Wf rfl (by rw [hl]; simp) ?_
     refine Wj ?_
     refine W_exit ?_
     refine Ws ?_
     refine zp3 ?_
     refine WO_false 81 rfl (by exact decide_eq_false (by omega)) ?_
     refine zy3 ?_
     refine Wa 84 rfl (congrArg (fun z => PV.val (Value.int .i64 z)) cf) ?_
     refine zy3 ?_
     refine WO_false 87 rfl (by exact decide_eq_false (by omega)) ?_
     refine zy3 ?_
     refine Wb 90 rfl (fun hg6 => ?_) (fun hg6 => ?_)
     ·have k1 : R.2.2 = -256 := by simpa using hg6
      refine zs4 ?_
      refine Wi rfl (fun hi3 => ?_) (fun hi3 => ?_)
      ·refine zp2 ?_
       refine WO_true 96 rfl (by rfl) ?_
       refine zy4 ?_
       refine WO_true 100 rfl (by exact decide_eq_true i1.1) ?_
       refine zy3 ?_
       refine Wa 103 rfl (congrArg (fun z => PV.val (Value.int .i64 z)) cf) ?_
       refine zs3 ?_
       refine zR ?_
       first | rfl | (rw [zB]; rfl) | exact congrArg boo (decide_eq_true i1.2)
      ·have hnw : ¬ wantF R := fun q => by rw [q.2] at hi3; simp at hi3
       obtain ⟨j1, j2, j3⟩ := i2 hnw
       obtain ⟨Z, zA, zB, p9⟩ := p8 hnw
       refine Wj ?_
       refine zp4 ?_
       refine Wa 110 rfl (congrArg (fun z => PV.val (Value.int .i64 z)) cf) ?_
       refine zy2 ?_
       refine Wa 112 rfl (congrArg (fun z => PV.val (Value.int .i64 z)) cm) ?_
       refine z1 ?_
       refine Wa 113 rfl (congrArg (fun z => PV.val (Value.int .i64 z)) cs) ?_
       refine Wc rfl rfl (dC rfl Tryz.func21 rfl rfl (p7 hnw _ (globs_at 0 1 rfl rfl))) ?_
       refine zy5 ?_
       refine zs3 ?_
       refine Ws ?_
       refine zp2 ?_
       refine Wc rfl rfl (dC rfl Tryz.func23 rfl rfl ((pS) _)) ?_
       refine zy2 ?_
       refine WO_false 122 rfl (by rfl) ?_
       refine zy4 ?_
       refine Wa 126 rfl (congrArg (fun z => PV.val (Value.int .i64 z)) cm) ?_
       refine z1 ?_
       refine Wa 127 rfl (congrArg (fun z => PV.val (Value.int .i64 z)) cl) ?_
       refine zy3 ?_
       refine WO_false 130 rfl (by simp) ?_
       refine zs4 ?_
       refine Wf rfl (by simp) ?_
       refine Wj ?_
       refine zp2 ?_
       refine Wa 136 rfl (congrArg (fun z => PV.val (Value.int .i64 z)) cf) ?_
       refine zy2 ?_
       refine Wa 138 rfl (congrArg (fun z => PV.val (Value.int .i64 z)) ct) ?_
       refine zs1 ?_
       refine Ws ?_
       refine zu2 ?_
       refine Wf rfl (by exact decide_eq_false (by omega)) ?_
       refine Wj ?_
       refine zp4 ?_
       refine Wa 154 rfl (congrArg (fun z => PV.val (Value.int .i64 z)) cu) ?_
       refine Wc rfl rfl (dC rfl Tryz.func21 rfl rfl (p9 _ (globs_at 0 1 rfl rfl))) ?_
       refine zy5 ?_
       refine zs3 ?_
       refine zp2 ?_
       refine WO_true 160 rfl (by rfl) ?_
       refine zy4 ?_
       refine WO_true 164 rfl (by rw [zA]; rfl) ?_
       refine zs4 ?_
       refine zR ?_
       first | rfl | (rw [zB]; rfl) | exact congrArg boo (decide_eq_true i1.2)
     ·have k1 : ¬ R.2.2 = -256 := by simpa using hg6
      have hnw : ¬ wantF R := fun q => k1 q.1
      obtain ⟨j1, j2, j3⟩ := i2 hnw
      obtain ⟨Z, zA, zB, p9⟩ := p8 hnw
      iterate 2 refine z6 ?_
      refine zs2 ?_
      refine Wf rfl rfl ?_
      refine Wj ?_
      refine zp4 ?_
      refine Wa 110 rfl (congrArg (fun z => PV.val (Value.int .i64 z)) cf) ?_
      refine zy2 ?_
      refine Wa 112 rfl (congrArg (fun z => PV.val (Value.int .i64 z)) cm) ?_
      refine z1 ?_
      refine Wa 113 rfl (congrArg (fun z => PV.val (Value.int .i64 z)) cs) ?_
      refine Wc rfl rfl (dC rfl Tryz.func21 rfl rfl (p7 hnw _ (globs_at 0 1 rfl rfl))) ?_
      refine zy5 ?_
      refine zs3 ?_
      refine Ws ?_
      refine zp2 ?_
      refine Wc rfl rfl (dC rfl Tryz.func23 rfl rfl ((pS) _)) ?_
      refine zy2 ?_
      refine WO_false 122 rfl (by rfl) ?_
      refine zy4 ?_
      refine Wa 126 rfl (congrArg (fun z => PV.val (Value.int .i64 z)) cm) ?_
      refine z1 ?_
      refine Wa 127 rfl (congrArg (fun z => PV.val (Value.int .i64 z)) cl) ?_
      refine zy3 ?_
      refine WO_false 130 rfl (by simp) ?_
      refine zs4 ?_
      refine Wf rfl (by simp) ?_
      refine Wj ?_
      refine zp2 ?_
      refine Wa 136 rfl (congrArg (fun z => PV.val (Value.int .i64 z)) cf) ?_
      refine zy2 ?_
      refine Wa 138 rfl (congrArg (fun z => PV.val (Value.int .i64 z)) ct) ?_
      refine zs1 ?_
      refine Ws ?_
      refine zu2 ?_
      refine Wf rfl (by exact decide_eq_false (by omega)) ?_
      refine Wj ?_
      refine zp4 ?_
      refine Wa 154 rfl (congrArg (fun z => PV.val (Value.int .i64 z)) cu) ?_
      refine Wc rfl rfl (dC rfl Tryz.func21 rfl rfl (p9 _ (globs_at 0 1 rfl rfl))) ?_
      refine zy5 ?_
      refine zs3 ?_
      refine zp2 ?_
      refine WO_true 160 rfl (by rfl) ?_
      refine zy4 ?_
      refine WO_true 164 rfl (by rw [zA]; rfl) ?_
      refine zs4 ?_
      refine zR ?_
      first | rfl | (rw [zB]; rfl) | exact congrArg boo (decide_eq_true i1.2)
    ·have q1 : ¬ (stepS s.2.1).2.1 = true := by simpa using hg2
     refine zs3 ?_
     refine Wi rfl (fun hi6 => ?_) (fun hi6 => ?_)
     ·have q2 : (stepS s.2.1).2.2 ≠ 0 := by simpa using hi6
      have ho := hs.1.out (.inr q2)
      have hl : (stepS s.2.1).1.fuel = R.2.1 := congrArg (fun p => p.2.1) ho
      have he : (stepS s.2.1).2.2 = R.2.2 := congrArg (fun p => p.2.2) ho
      have hsm : VSm R.1 := by rw [← congrArg (fun p => p.1) ho]; exact sm_end (good_sm (good_step2 hs.1.g).m (by omega))
      have pS : PureC Tryz.prog 23 [eVm R.1, eVm R.1] (boo true) := by have h := ref_Same10 R.1 R.1 hsm hsm; rw [decide_eq_true rfl] at h; exact h
      refine Ws ?_
      refine zp4 ?_
      refine WO_false 68 rfl (by rw [he]; simp) ?_
      refine zs5 ?_
      refine Wf rfl (by rw [hl]; simp) ?_
      refine Wj ?_
      refine W_exit ?_
      refine Ws ?_
      refine zp3 ?_
      refine WO_false 81 rfl (by exact decide_eq_false (by omega)) ?_
      refine zy3 ?_
      refine Wa 84 rfl (congrArg (fun z => PV.val (Value.int .i64 z)) cf) ?_
      refine zy3 ?_
      refine WO_false 87 rfl (by exact decide_eq_false (by omega)) ?_
      refine zy3 ?_
      refine Wb 90 rfl (fun hg6 => ?_) (fun hg6 => ?_)
      ·have k1 : R.2.2 = -256 := by simpa using hg6
       refine zs4 ?_
       refine Wi rfl (fun hi3 => ?_) (fun hi3 => ?_)
       ·refine zp2 ?_
        refine WO_true 96 rfl (by rfl) ?_
        refine zy4 ?_
        refine WO_true 100 rfl (by exact decide_eq_true i1.1) ?_
        refine zy3 ?_
        refine Wa 103 rfl (congrArg (fun z => PV.val (Value.int .i64 z)) cf) ?_
        refine zs3 ?_
        refine zR ?_
        first | rfl | (rw [zB]; rfl) | exact congrArg boo (decide_eq_true i1.2)
       ·have hnw : ¬ wantF R := fun q => by rw [q.2] at hi3; simp at hi3
        obtain ⟨j1, j2, j3⟩ := i2 hnw
        obtain ⟨Z, zA, zB, p9⟩ := p8 hnw
        refine Wj ?_
        refine zp4 ?_
        refine Wa 110 rfl (congrArg (fun z => PV.val (Value.int .i64 z)) cf) ?_
        refine zy2 ?_
        refine Wa 112 rfl (congrArg (fun z => PV.val (Value.int .i64 z)) cm) ?_
        refine z1 ?_
        refine Wa 113 rfl (congrArg (fun z => PV.val (Value.int .i64 z)) cs) ?_
        refine Wc rfl rfl (dC rfl Tryz.func21 rfl rfl (p7 hnw _ (globs_at 0 1 rfl rfl))) ?_
        refine zy5 ?_
        refine zs3 ?_
        refine Ws ?_
        refine zp2 ?_
        refine Wc rfl rfl (dC rfl Tryz.func23 rfl rfl ((pS) _)) ?_
        refine zy2 ?_
        refine WO_false 122 rfl (by rfl) ?_
        refine zy4 ?_
        refine Wa 126 rfl (congrArg (fun z => PV.val (Value.int .i64 z)) cm) ?_
        refine z1 ?_
        refine Wa 127 rfl (congrArg (fun z => PV.val (Value.int .i64 z)) cl) ?_
        refine zy3 ?_
        refine WO_false 130 rfl (by simp) ?_
        refine zs4 ?_
        refine Wf rfl (by simp) ?_
        refine Wj ?_
        refine zp2 ?_
        refine Wa 136 rfl (congrArg (fun z => PV.val (Value.int .i64 z)) cf) ?_
        refine zy2 ?_
        refine Wa 138 rfl (congrArg (fun z => PV.val (Value.int .i64 z)) ct) ?_
        refine zs1 ?_
        refine Ws ?_
        refine zu2 ?_
        refine Wf rfl (by exact decide_eq_false (by omega)) ?_
        refine Wj ?_
        refine zp4 ?_
        refine Wa 154 rfl (congrArg (fun z => PV.val (Value.int .i64 z)) cu) ?_
        refine Wc rfl rfl (dC rfl Tryz.func21 rfl rfl (p9 _ (globs_at 0 1 rfl rfl))) ?_
        refine zy5 ?_
        refine zs3 ?_
        refine zp2 ?_
        refine WO_true 160 rfl (by rfl) ?_
        refine zy4 ?_
        refine WO_true 164 rfl (by rw [zA]; rfl) ?_
        refine zs4 ?_
        refine zR ?_
        first | rfl | (rw [zB]; rfl) | exact congrArg boo (decide_eq_true i1.2)
      ·have k1 : ¬ R.2.2 = -256 := by simpa using hg6
       have hnw : ¬ wantF R := fun q => k1 q.1
       obtain ⟨j1, j2, j3⟩ := i2 hnw
       obtain ⟨Z, zA, zB, p9⟩ := p8 hnw
       iterate 2 refine z6 ?_
       refine zs2 ?_
       refine Wf rfl rfl ?_
       refine Wj ?_
       refine zp4 ?_
       refine Wa 110 rfl (congrArg (fun z => PV.val (Value.int .i64 z)) cf) ?_
       refine zy2 ?_
       refine Wa 112 rfl (congrArg (fun z => PV.val (Value.int .i64 z)) cm) ?_
       refine z1 ?_
       refine Wa 113 rfl (congrArg (fun z => PV.val (Value.int .i64 z)) cs) ?_
       refine Wc rfl rfl (dC rfl Tryz.func21 rfl rfl (p7 hnw _ (globs_at 0 1 rfl rfl))) ?_
       refine zy5 ?_
       refine zs3 ?_
       refine Ws ?_
       refine zp2 ?_
       refine Wc rfl rfl (dC rfl Tryz.func23 rfl rfl ((pS) _)) ?_
       refine zy2 ?_
       refine WO_false 122 rfl (by rfl) ?_
       refine zy4 ?_
       refine Wa 126 rfl (congrArg (fun z => PV.val (Value.int .i64 z)) cm) ?_
       refine z1 ?_
       refine Wa 127 rfl (congrArg (fun z => PV.val (Value.int .i64 z)) cl) ?_
       refine zy3 ?_
       refine WO_false 130 rfl (by simp) ?_
       refine zs4 ?_
       refine Wf rfl (by simp) ?_
       refine Wj ?_
       refine zp2 ?_
       refine Wa 136 rfl (congrArg (fun z => PV.val (Value.int .i64 z)) cf) ?_
       refine zy2 ?_
       refine Wa 138 rfl (congrArg (fun z => PV.val (Value.int .i64 z)) ct) ?_
       refine zs1 ?_
       refine Ws ?_
       refine zu2 ?_
       refine Wf rfl (by exact decide_eq_false (by omega)) ?_
       refine Wj ?_
       refine zp4 ?_
       refine Wa 154 rfl (congrArg (fun z => PV.val (Value.int .i64 z)) cu) ?_
       refine Wc rfl rfl (dC rfl Tryz.func21 rfl rfl (p9 _ (globs_at 0 1 rfl rfl))) ?_
       refine zy5 ?_
       refine zs3 ?_
       refine zp2 ?_
       refine WO_true 160 rfl (by rfl) ?_
       refine zy4 ?_
       refine WO_true 164 rfl (by rw [zA]; rfl) ?_
       refine zs4 ?_
       refine zR ?_
       first | rfl | (rw [zB]; rfl) | exact congrArg boo (decide_eq_true i1.2)
     ·have q2 : ¬ ((stepS s.2.1).2.1 = true ∨ (stepS s.2.1).2.2 ≠ 0) := fun q => q.elim q1 (by simpa using hi6)
      have hnx := hs.1.next q2
      have hk : (s.2.2 : Int) ≤ 200 := by have := hs.1.f0; have := hs.2; dsimp only at *; omega
      have hfk : ((s.2.2 + 1 : Nat) : Int) + (stepS s.2.1).1.fuel = (fu : Int) := by
       have hf : ¬ s.2.1.fuel < 1 := fun q => q2 (by rw [step_none q]; exact .inr (show (-256 : Int) ≠ 0 by decide))
       have hw : (stepS s.2.1).1.fuel = W64 (s.2.1.fuel - 1) := step_fuel hs.1.g.m.right.d hf
       have hb0 : 0 ≤ s.2.1.fuel := hs.1.f0
       have hb1 := hs.2
       rw [fuel_w (by omega) (by omega)] at hw
       omega
      have ck : IntKind.i64.wrap ((s.2.2 : Int) + 1) = ((s.2.2 + 1 : Nat) : Int) := by rw [i64_fit (by omega) (by omega)]; omega
      refine Wj ?_
      refine zu2 ?_
      refine zp2 ?_
      refine Wa 76 rfl (congrArg (fun z => PV.val (Value.int .i64 z)) ck) ?_
      refine zs1 ?_
      refine zu2 ?_
      refine Wf rfl (by exact decide_eq_false (by omega)) ?_
      refine Wj ?_
      exact ⟨(s.1 - 1, (stepS s.2.1).1, s.2.2 + 1), [], (by exact ⟨hnx.1, hfk⟩), (by exact hnx.2), fitT⟩
theorem walk_InnerMore (a : Addr) (v0 : Value) (w : World) (h0 : w.cell? ⟨0, 0, none⟩ = some (haltV a)) (h1 : w.cell? ⟨1, 0, none⟩ = some etV) (hv : Reads w 60 v0) :
  Calls Tryz.prog 6 #[v0] w fun e w' => e = .returned (.bool true) ∧ Below w.heap.size w w' := by
 obtain ⟨x, hx, hr⟩ := reads_morein hv
 exact law_callsG (args := [eMoreIn x]) (by simp [FlatL]) (law_InnerMore a x hx) h0 h1 (repL_cons.2 ⟨hr, repL_nil.2 rfl⟩)
end Go.Proofs.YtobhnjnffnbbkaaGreatDoor
