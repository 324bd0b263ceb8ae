import Derived.ArgAppend
import Derived.LaidEql
import Derived.RowKitTokens
import Derived.Stop.Asserts
import Derived.Stop.IfaceNil
import Derived.Test.YtobhnjnffnbbkaaGreatDoorPk4
set_option linter.unusedVariables false
set_option linter.unusedSimpArgs false
namespace Go.Proofs.YtobhnjnffnbbkaaGreatDoor
open Go.RowKit
set_option maxRecDepth 100000
structure VRun where
 vm : VVm
 ip : Int
 w : Int
 dof : Bool
 fuel : Int
 deriving DecidableEq, Inhabited
def cRun (x : VRun) : List PV := cVm x.vm ++ [i64 x.ip, i64 x.w, boo x.dof, i64 x.fuel]
@[simp] theorem flat_cRun (x : VRun) : FlatL (cRun x) := by simp [cRun, cVm]
def eRun (x : VRun) : PV := .agg (cRun x)
@[simp] theorem flat_eRun (x : VRun) : Flat (eRun x) := by unfold eRun Flat; exact flat_cRun x
structure VWk where
 v : VVm
 ip : Int
 w : Int
 dof : Bool
 over : Bool
 bad : Int
 deriving DecidableEq, Inhabited
def stkPush (s : List Int) (n limit : Int) : List Int × Int := if limit ≤ (s.length : Int) then (s, -3) else (s ++ [n], 0)
def vmPush (v : VVm) (n : Int) : VVm × Int := ({ v with d := (stkPush v.d n v.conf.data).1 }, (stkPush v.d n v.conf.data).2)
def vmPop (v : VVm) : Int × VVm × Int := ((stkPop v.d).1, { v with d := (stkPop v.d).2.1 }, (stkPop v.d).2.2)
def vmRPush (v : VVm) (n : Int) : VVm × Int := if v.conf.ret ≤ (v.r.length : Int) then (v, -5) else ({ v with r := v.r ++ [n] }, 0)
def vmRPop (v : VVm) : Int × VVm × Int := if v.r.length = 0 then (0, v, -6) else (v.r.getD (v.r.length - 1) 0, { v with r := v.r.take (v.r.length - 1) }, 0)
def dFail (k : VWk) (e : Int) : VWk := if k.bad = 0 then { k with bad := e } else k
def dPush (k : VWk) (n : Int) : VWk := { dFail k (vmPush k.v n).2 with v := (vmPush k.v n).1 }
def dPop (k : VWk) : VWk × Int := ({ dFail k (vmPop k.v).2.2 with v := (vmPop k.v).2.1 }, (vmPop k.v).1)
def dRPush (k : VWk) (n : Int) : VWk := { dFail k (vmRPush k.v n).2 with v := (vmRPush k.v n).1 }
def dRPop (k : VWk) : VWk × Int := ({ dFail k (vmRPop k.v).2.2 with v := (vmRPop k.v).2.1 }, (vmRPop k.v).1)
def dFetch (k : VWk) (at_ : Int) : VWk × Int := (dFail k (memFetch k.v.mem at_).2, (memFetch k.v.mem at_).1)
def dStore (k : VWk) (at_ n : Int) : VWk := { dFail k (memStore k.v.mem at_ n).2 with v := withM k.v (memStore k.v.mem at_ n).1 }
def dTop (k : VWk) (n : Int) : VWk × Int := if (k.v.r.length : Int) ≤ n then (dFail k (-6), 0) else (k, k.v.r.getD (k.v.r.length - 1 - n.toNat) 0)
def dTo (k : VWk) : VWk := { (dFetch k k.ip).1 with ip := (dFetch k k.ip).2 }
def dSkip (k : VWk) : VWk := { k with ip := W64 (k.ip + 8) }
def dNext (k : VWk) (xt : Int) : VWk := { k with w := xt, dof := true }
def stepN (i l n : Int) : Int × Bool := (W64 (i + n), if 0 ≤ n then decide (W64 (i - l) < 0) && decide (0 ≤ W64 (W64 (i - l) + n)) else decide (0 ≤ W64 (i - l)) && decide (W64 (W64 (i - l) + n) < 0))
def dLoop (k : VWk) (n : Int) : VWk :=
 let a := dTop k 1
 let b := dTop a.1 0
 if b.1.bad ≠ 0 then b.1 else
  let c := (dRPop b.1).1
  if (stepN b.2 a.2 n).2 then dSkip (dRPop c).1 else dTo (dRPush c (stepN b.2 a.2 n).1)
def dTwo (k : VWk) : VWk × Int × Int := let a := dPop k; let b := dPop a.1; (b.1, a.2, b.2)
def dCaught (k : VWk) : VWk := if k.v.f.length = 0 then dFail k (-6) else
 dPush { k with ip := (k.v.f.getD (k.v.f.length - 1) default).ip, v := { k.v with f := k.v.f.take (k.v.f.length - 1) } } 0
def dDoes (k : VWk) : VWk :=
 if k.v.last = 0 ∨ (vmKind k.v k.v.last).2 ≠ 0 ∨ ((vmKind k.v k.v.last).1 ≠ 257 ∧ (vmKind k.v k.v.last).1 ≠ 259) then dFail k (-31) else
  let b := dStore (dStore k k.v.last 259) (W64 ((dStore k k.v.last 259).v.last + 8)) (dStore k k.v.last 259).ip
  { (dRPop b).1 with ip := (dRPop b).2 }
def dStr (k : VWk) : VWk :=
 let a := dFetch k k.ip
 let at_ := W64 (k.ip + 8)
 let b := if memThere a.1.v.mem at_ a.2 then a.1 else dFail a.1 (-9)
 { dPush (dPush b at_) a.2 with ip := (oneS [65, 76, 73, 71, 78, 69, 68] (W64 (at_ + a.2))).1 }
def dCode (k : VWk) (name : Str) : VWk × Bool :=
 if name = [40, 101, 120, 105, 116, 41] then ({ (dRPop k).1 with ip := (dRPop k).2 }, true) else
 if name = [40, 108, 105, 116, 41] then (dSkip (dPush (dFetch k k.ip).1 (dFetch k k.ip).2), true) else
 if name = [40, 98, 114, 97, 110, 99, 104, 41] then (dTo k, true) else
 if name = [40, 48, 98, 114, 97, 110, 99, 104, 41] then (if (dPop k).2 = 0 then dTo (dPop k).1 else dSkip (dPop k).1, true) else
 if name = [40, 100, 111, 41] then (let t := dTwo k; dRPush (dRPush t.1 t.2.2) t.2.1, true) else
 if name = [40, 63, 100, 111, 41] then (let t := dTwo k; if t.2.1 = t.2.2 then dTo t.1 else dSkip (dRPush (dRPush t.1 t.2.2) t.2.1), true) else
 if name = [40, 108, 111, 111, 112, 41] then (dLoop k 1, true) else
 if name = [40, 43, 108, 111, 111, 112, 41] then (dLoop (dPop k).1 (dPop k).2, true) else
 if name = [40, 104, 97, 108, 116, 41] then ({ k with over := true }, true) else
 if name = [40, 99, 97, 117, 103, 104, 116, 41] then (dCaught k, true) else
 if name = [40, 100, 111, 101, 115, 41] then (dDoes k, true) else
 if name = [40, 115, 116, 114, 41] then (dStr k, true) else (k, false)
def dCatch (k : VWk) : VWk :=
 let a := dPop k
 let b := if 64 ≤ (a.1.v.f.length : Int) then dFail a.1 (-5) else a.1
 dNext { b with ip := 24, v := { b.v with f := b.v.f ++ [⟨(b.v.d.length : Int), (b.v.r.length : Int), b.ip⟩] } } a.2
def dWord (k : VWk) (name : Str) : VWk :=
 if name = [69, 88, 69, 67, 85, 84, 69] then dNext (dPop k).1 (dPop k).2 else
 if name = [67, 65, 84, 67, 72] then dCatch k else
 if name = [84, 72, 82, 79, 87] then dFail (dPop k).1 (dPop k).2 else
 if name = [73] ∨ name = [82, 64] then dPush (dTop k 0).1 (dTop k 0).2 else
 if name = [74] then dPush (dTop k 2).1 (dTop k 2).2 else
 if name = [85, 78, 76, 79, 79, 80] then (dRPop (dRPop (dTop k 1).1).1).1 else
 if name = [62, 82] then dRPush (dPop k).1 (dPop k).2 else
 if name = [82, 62] then dPush (dRPop k).1 (dRPop k).2 else
 if name = [50, 62, 82] then (let t := dTwo k; dRPush (dRPush t.1 t.2.2) t.2.1) else
 if name = [50, 82, 62] then (let a := dRPop k; let b := dRPop a.1; dPush (dPush b.1 b.2) a.2) else k
def dMachine (k : VWk) (xt : Int) : VWk :=
 let a := dFetch k (W64 (xt + 16))
 let b := dFetch a.1 (W64 (xt + 24))
 let c := if a.2 < 0 ∨ b.2 ≤ a.2 then dFail b.1 (-24) else b.1
 let d := dFetch c (W64 (W64 (xt + 32) + W64 (8 * a.2)))
 if d.2 = 0 then d.1 else dNext d.1 d.2
def dDone (k : VWk) (xt : Int) : VWk :=
 let q := vmKind k.v xt
 if q.2 ≠ 0 then dFail k q.2 else
 if 300 ≤ q.1 then dFail k (-14) else
 if q.1 = 256 then { dRPush k k.ip with ip := W64 (xt + 8) } else
 if q.1 = 257 then dPush k (W64 (xt + 16)) else
 if q.1 = 258 then dPush (dFetch k (W64 (xt + 16))).1 (dFetch k (W64 (xt + 16))).2 else
 if q.1 = 259 then (let a := dFetch k (W64 (xt + 8)); { dRPush (dPush a.1 (W64 (xt + 16))) (dPush a.1 (W64 (xt + 16))).ip with ip := a.2 }) else
 if q.1 = 260 then dMachine k xt else
 if 23 ≤ q.1 then { dFail k (doS k.v q.1).2 with v := (doS k.v q.1).1 } else
 if (dCode k (names.getD q.1.toNat [])).2 then (dCode k (names.getD q.1.toNat [])).1 else dWord (dCode k (names.getD q.1.toNat [])).1 (names.getD q.1.toNat [])
def deepL (s : List Int) (n : Nat) : List Int := s.take n ++ List.replicate (n - s.length) 0
def caughtS (a : VRun) (bad : Int) : VRun × Int :=
 if a.vm.f.length = 0 then (a, bad) else
  let f := a.vm.f.getD (a.vm.f.length - 1) default
  ({ a with vm := { a.vm with f := a.vm.f.take (a.vm.f.length - 1), d := deepL a.vm.d (min f.d (a.vm.conf.data - 1)).toNat ++ [bad], r := deepL a.vm.r (min f.r a.vm.conf.ret).toNat }, ip := f.ip }, 0)
def stepS (r : VRun) : VRun × Bool × Int :=
 if r.fuel < 1 then (r, false, -256) else
  let k0 : VWk := ⟨r.vm, r.ip, 0, false, false, 0⟩
  let q := if r.dof then (k0, r.w) else (let a := dFetch k0 r.ip; (if a.1.bad = 0 then dSkip a.1 else a.1, a.2))
  let ahead : VRun := ⟨r.vm, q.1.ip, 0, false, W64 (r.fuel - 1)⟩
  let k := if q.1.bad = 0 then dDone q.1 q.2 else q.1
  if k.bad = 0 then (⟨k.v, k.ip, k.w, k.dof, W64 (r.fuel - 1)⟩, k.over, 0) else ((caughtS ahead k.bad).1, false, (caughtS ahead k.bad).2)
def beginS (v : VVm) (xt fuel : Int) : VRun := ⟨{ v with r := [], f := [] }, 16, xt, true, fuel⟩
def endV (v : VVm) : VVm := { v with r := [], f := [] }
def runsS : Nat → VRun → VVm × Int × Int
 | 0, r => (endV r.vm, r.fuel, -256)
 | n + 1, r => if (stepS r).2.1 = true ∨ (stepS r).2.2 ≠ 0 then (endV (stepS r).1.vm, (stepS r).1.fuel, (stepS r).2.2) else runsS n (stepS r).1
def runNS (v : VVm) (xt fuel : Int) : VVm × Int × Int := runsS (max fuel 0).toNat.succ (beginS v xt (max fuel 0))
end Go.Proofs.YtobhnjnffnbbkaaGreatDoor
namespace Go.Proofs.YtobhnjnffnbbkaaGreatDoor
open Go.RowKit
set_option maxRecDepth 100000
set_option maxHeartbeats 4000000
def frameVs (x : VFrame) : List Value := [.int .i64 x.d, .int .i64 x.r, .int .i64 x.ip]
theorem frame_eq {x y : VFrame} (h : eqVs (frameVs x) (frameVs y) = true) : x = y := by cases x; cases y; simp [frameVs, eqVs, eqV] at h; simp [h]
theorem frame_self (x : VFrame) : eqVs (frameVs x) (frameVs x) = true := by simp [frameVs, eqVs, eqV]
def wordVs (x : VWord) : List Value := [.string ⟨x.name.toArray⟩, .int .i64 x.xt, .int .i64 x.flags]
theorem word_eq {x y : VWord} (h : eqVs (wordVs x) (wordVs y) = true) : x = y := by
 obtain ⟨n1, x1, f1⟩ := x; obtain ⟨n2, x2, f2⟩ := y
 simp only [wordVs, eqVs, eqV, Bool.and_eq_true, strEq_iff, beq_iff_eq, ByteArray.mk.injEq] at h
 have h1 : n1 = n2 := by have q := congrArg Array.toList h.1; exact q
 have h2 : x1 = x2 := h.2.1
 have h3 : f1 = f2 := h.2.2.1
 subst h1 h2 h3; rfl
theorem word_self (x : VWord) : eqVs (wordVs x) (wordVs x) = true := by simp [wordVs, eqVs, eqV, (strEq_iff _ _).2 rfl]
theorem eq_ints (a b : List Int) (ha : a.length ≤ 1000000) (hb : b.length ≤ 1000000) : PureC Tryz.prog 90 [sq cInt a, sq cInt b] (boo (decide (a = b))) := by
 refine pW tG (rs := [.tmp 4]) Tryz.func90 rfl rfl rfl (by simp) (by simp) (fun B => ?_)
 refine zu1 ?_
 refine Ws ?_
 refine zu5 ?_
 refine Wi rfl (fun hi1 => ?_) (fun hi1 => ?_)
 ·have hne : a ≠ b := fun h => by subst h; simp at hi1
  refine zu1 ?_
  refine zR ?_
  exact congrArg boo (decide_eq_false hne).symm
 ·have hl : a.length = b.length := by (try simp only [dnL] at *); omega
  refine Wj ?_
  refine Ws ?_
  refine zu3 ?_
  refine Wl ?_
  show W _ _ _ _ _ _ _
  refine W_loopS (fun (k : Nat) => [(0, sq cInt a), (1, sq cInt b), (12, i64 a.length), (13, i64 k)]) (fun (k : Nat) => []) (fun (k : Nat) => []) (fun (k : Nat) => k ≤ a.length ∧ a.take k = b.take k) (fun (k : Nat) => a.length - k) (0) (by simp) [] ?_ ?_
  ·exact fitT
  ·intro k hk
   refine zu1 ?_
   refine Ws ?_
   refine Wi rfl (fun hi2 => ?_) (fun hi2 => ?_)
   ·have hlt : k < a.length := by have := oT hi2; omega
    refine Wj ?_
    refine Ws ?_
    refine Wl ?_
    refine zu2 ?_
    refine Ws ?_
    refine W_drawU [0, 0, 0, 1, 0, 0, 0, 1, 0] [0, 1, 2, 3, 4, 5, 6, 7, 8] mG rfl (by kernel_rfl) ?_
    iterate 2 refine z3 ?_
    refine Xi tG rfl rfl rfl rfl (fun _ => rfl) (by omega) (iN cInt 1 (fun _ => rfl) 0 (by omega)) ?_
    refine z5 ?_
    iterate 2 refine z3 ?_
    refine Xi tG rfl rfl rfl rfl (fun _ => rfl) (by omega) (iN cInt 1 (fun _ => rfl) 0 (by omega)) ?_
    refine z5 ?_
    refine z3 ?_
    refine WU_nil ?_
    refine Wi rfl (fun hi3 => ?_) (fun hi3 => ?_)
    ·have hne : a ≠ b := not_same 0 (k := k) (by simpa using hi3)
     refine zu1 ?_
     refine zR ?_
     exact congrArg boo (decide_eq_false hne).symm
    ·have he : a.getD k 0 = b.getD k 0 := by simpa using hi3
     refine Wj ?_
     refine W_region rfl ?_
     refine zs2 ?_
     exact ⟨k + 1, [], (by exact ⟨by omega, take_same 0 hl hlt hk.2 he⟩), (by omega), fitT⟩
   ·have hge : a.length ≤ k := by have := oF hi2; omega
    refine W_exit ?_
    refine zu1 ?_
    refine zR ?_
    exact congrArg boo (decide_eq_true (by have h1 := hk.2; rw [take_all' a k hge, take_all' b k (by omega)] at h1; exact h1)).symm
theorem eq_frames (a b : List VFrame) (ha : a.length ≤ 1000000) (hb : b.length ≤ 1000000) : PureC Tryz.prog 91 [sq cFrame a, sq cFrame b] (boo (decide (a = b))) := by
 refine pW tG (rs := [.tmp 4]) Tryz.func91 rfl rfl rfl (by simp) (by simp) (fun B => ?_)
 refine zu1 ?_
 refine Ws ?_
 refine zu5 ?_
 refine Wi rfl (fun hi1 => ?_) (fun hi1 => ?_)
 ·have hne : a ≠ b := fun h => by subst h; simp at hi1
  refine zu1 ?_
  refine zR ?_
  exact congrArg boo (decide_eq_false hne).symm
 ·have hl : a.length = b.length := by (try simp only [dnL] at *); omega
  refine Wj ?_
  refine Ws ?_
  refine zu3 ?_
  refine Wl ?_
  show W _ _ _ _ _ _ _
  refine W_loopS (fun (k : Nat) => [(0, sq cFrame a), (1, sq cFrame b), (12, i64 a.length), (13, i64 k)]) (fun (k : Nat) => []) (fun (k : Nat) => []) (fun (k : Nat) => k ≤ a.length ∧ a.take k = b.take k) (fun (k : Nat) => a.length - k) (0) (by simp) [] ?_ ?_
  ·exact fitT
  ·intro k hk
   refine zu1 ?_
   refine Ws ?_
   refine Wi rfl (fun hi2 => ?_) (fun hi2 => ?_)
   ·have hlt : k < a.length := by have := oT hi2; omega
    refine Wj ?_
    refine Ws ?_
    refine Wl ?_
    refine zu2 ?_
    refine Ws ?_
    refine W_drawU [0, 0, 0, 1, 0, 0, 0, 1, 0] [0, 1, 2, 3, 4, 5, 6, 7, 8] mG rfl (by kernel_rfl) ?_
    iterate 2 refine z3 ?_
    refine Xi tG rfl rfl rfl rfl (fun _ => rfl) (by omega) (iN cFrame 3 (fun _ => rfl) default (by omega)) ?_
    refine z5 ?_
    iterate 2 refine z3 ?_
    refine Xi tG rfl rfl rfl rfl (fun _ => rfl) (by omega) (iN cFrame 3 (fun _ => rfl) default (by omega)) ?_
    refine z5 ?_
    refine WU_does0 rfl rfl rfl rfl (fun _ => does_struct_neq rfl rfl rfl rfl rfl (by kernel_rfl)) ?_
    refine WU_nil ?_
    refine Wi rfl (fun hi3 => ?_) (fun hi3 => ?_)
    ·have hne : a ≠ b := fun h => by have h1 := not_t hi3; rw [h] at h1; exact absurd ((frame_self _).symm.trans h1) (by simp)
     refine zu1 ?_
     refine zR ?_
     exact congrArg boo (decide_eq_false hne).symm
    ·have he : a.getD k default = b.getD k default := frame_eq (not_f hi3)
     refine Wj ?_
     refine W_region rfl ?_
     refine zs2 ?_
     exact ⟨k + 1, [], (by exact ⟨by omega, take_same default hl hlt hk.2 he⟩), (by omega), fitT⟩
   ·have hge : a.length ≤ k := by have := oF hi2; omega
    refine W_exit ?_
    refine zu1 ?_
    refine zR ?_
    exact congrArg boo (decide_eq_true (by have h1 := hk.2; rw [take_all' a k hge, take_all' b k (by omega)] at h1; exact h1)).symm
theorem eq_reqs (a b : List VReq) (ha : a.length ≤ 1000000) (hb : b.length ≤ 1000000) : PureC Tryz.prog 95 [sq cReq a, sq cReq b] (boo (decide (a = b))) := by
 refine pW tG (rs := [.tmp 4]) Tryz.func95 rfl rfl rfl (by simp) (by simp) (fun B => ?_)
 refine zu1 ?_
 refine Ws ?_
 refine zu5 ?_
 refine Wi rfl (fun hi1 => ?_) (fun hi1 => ?_)
 ·have hne : a ≠ b := fun h => by subst h; simp at hi1
  refine zu1 ?_
  refine zR ?_
  exact congrArg boo (decide_eq_false hne).symm
 ·have hl : a.length = b.length := by (try simp only [dnL] at *); omega
  refine Wj ?_
  refine Ws ?_
  refine zu3 ?_
  refine Wl ?_
  show W _ _ _ _ _ _ _
  refine W_loopS (fun (k : Nat) => [(0, sq cReq a), (1, sq cReq b), (12, i64 a.length), (13, i64 k)]) (fun (k : Nat) => []) (fun (k : Nat) => []) (fun (k : Nat) => k ≤ a.length ∧ a.take k = b.take k) (fun (k : Nat) => a.length - k) (0) (by simp) [] ?_ ?_
  ·exact fitT
  ·intro k hk
   refine zu1 ?_
   refine Ws ?_
   refine Wi rfl (fun hi2 => ?_) (fun hi2 => ?_)
   ·have hlt : k < a.length := by have := oT hi2; omega
    refine Wj ?_
    refine Ws ?_
    refine Wl ?_
    refine zu2 ?_
    refine Ws ?_
    refine W_drawU [0, 0, 0, 1, 0, 0, 0, 1, 0] [0, 1, 2, 3, 4, 5, 6, 7, 8] mG rfl (by kernel_rfl) ?_
    iterate 2 refine z3 ?_
    refine Xi tG rfl rfl rfl rfl (fun _ => rfl) (by omega) (iN cReq 6 (fun _ => rfl) default (by omega)) ?_
    refine z5 ?_
    iterate 2 refine z3 ?_
    refine Xi tG rfl rfl rfl rfl (fun _ => rfl) (by omega) (iN cReq 6 (fun _ => rfl) default (by omega)) ?_
    refine z5 ?_
    refine WU_does0 rfl rfl rfl rfl (fun _ => does_struct_neq rfl rfl rfl rfl rfl (by kernel_rfl)) ?_
    refine WU_nil ?_
    refine Wi rfl (fun hi3 => ?_) (fun hi3 => ?_)
    ·have hne : a ≠ b := fun h => by have h1 := not_t hi3; rw [h] at h1; exact absurd ((req_self _).symm.trans h1) (by simp)
     refine zu1 ?_
     refine zR ?_
     exact congrArg boo (decide_eq_false hne).symm
    ·have he : a.getD k default = b.getD k default := req_eq (not_f hi3)
     refine Wj ?_
     refine W_region rfl ?_
     refine zs2 ?_
     exact ⟨k + 1, [], (by exact ⟨by omega, take_same default hl hlt hk.2 he⟩), (by omega), fitT⟩
   ·have hge : a.length ≤ k := by have := oF hi2; omega
    refine W_exit ?_
    refine zu1 ?_
    refine zR ?_
    exact congrArg boo (decide_eq_true (by have h1 := hk.2; rw [take_all' a k hge, take_all' b k (by omega)] at h1; exact h1)).symm
theorem eq_hands (a b : List VHand) (ha : a.length ≤ 1000000) (hb : b.length ≤ 1000000) : PureC Tryz.prog 96 [sq cHand a, sq cHand b] (boo (decide (a = b))) := by
 refine pW tG (rs := [.tmp 4]) Tryz.func96 rfl rfl rfl (by simp) (by simp) (fun B => ?_)
 refine zu1 ?_
 refine Ws ?_
 refine zu5 ?_
 refine Wi rfl (fun hi1 => ?_) (fun hi1 => ?_)
 ·have hne : a ≠ b := fun h => by subst h; simp at hi1
  refine zu1 ?_
  refine zR ?_
  exact congrArg boo (decide_eq_false hne).symm
 ·have hl : a.length = b.length := by (try simp only [dnL] at *); omega
  refine Wj ?_
  refine Ws ?_
  refine zu3 ?_
  refine Wl ?_
  show W _ _ _ _ _ _ _
  refine W_loopS (fun (k : Nat) => [(0, sq cHand a), (1, sq cHand b), (12, i64 a.length), (13, i64 k)]) (fun (k : Nat) => []) (fun (k : Nat) => []) (fun (k : Nat) => k ≤ a.length ∧ a.take k = b.take k) (fun (k : Nat) => a.length - k) (0) (by simp) [] ?_ ?_
  ·exact fitT
  ·intro k hk
   refine zu1 ?_
   refine Ws ?_
   refine Wi rfl (fun hi2 => ?_) (fun hi2 => ?_)
   ·have hlt : k < a.length := by have := oT hi2; omega
    refine Wj ?_
    refine Ws ?_
    refine Wl ?_
    refine zu2 ?_
    refine Ws ?_
    refine W_drawU [0, 0, 0, 1, 0, 0, 0, 1, 0] [0, 1, 2, 3, 4, 5, 6, 7, 8] mG rfl (by kernel_rfl) ?_
    iterate 2 refine z3 ?_
    refine Xi tG rfl rfl rfl rfl (fun _ => rfl) (by omega) (iN cHand 4 (fun _ => rfl) default (by omega)) ?_
    refine z5 ?_
    iterate 2 refine z3 ?_
    refine Xi tG rfl rfl rfl rfl (fun _ => rfl) (by omega) (iN cHand 4 (fun _ => rfl) default (by omega)) ?_
    refine z5 ?_
    refine WU_does0 rfl rfl rfl rfl (fun _ => does_struct_neq rfl rfl rfl rfl rfl (by kernel_rfl)) ?_
    refine WU_nil ?_
    refine Wi rfl (fun hi3 => ?_) (fun hi3 => ?_)
    ·have hne : a ≠ b := fun h => by have h1 := not_t hi3; rw [h] at h1; exact absurd ((hand_self _).symm.trans h1) (by simp)
     refine zu1 ?_
     refine zR ?_
     exact congrArg boo (decide_eq_false hne).symm
    ·have he : a.getD k default = b.getD k default := hand_eq (not_f hi3)
     refine Wj ?_
     refine W_region rfl ?_
     refine zs2 ?_
     exact ⟨k + 1, [], (by exact ⟨by omega, take_same default hl hlt hk.2 he⟩), (by omega), fitT⟩
   ·have hge : a.length ≤ k := by have := oF hi2; omega
    refine W_exit ?_
    refine zu1 ?_
    refine zR ?_
    exact congrArg boo (decide_eq_true (by have h1 := hk.2; rw [take_all' a k hge, take_all' b k (by omega)] at h1; exact h1)).symm
theorem eq_words (a b : List VWord) (ha : a.length ≤ 1000000) (hb : b.length ≤ 1000000) : PureC Tryz.prog 139 [sq cWord a, sq cWord b] (boo (decide (a = b))) := by
 refine pW tG (rs := [.tmp 4]) Tryz.func139 rfl rfl rfl (by simp) (by simp) (fun B => ?_)
 refine zu1 ?_
 refine Ws ?_
 refine zu5 ?_
 refine Wi rfl (fun hi1 => ?_) (fun hi1 => ?_)
 ·have hne : a ≠ b := fun h => by subst h; simp at hi1
  refine zu1 ?_
  refine zR ?_
  exact congrArg boo (decide_eq_false hne).symm
 ·have hl : a.length = b.length := by (try simp only [dnL] at *); omega
  refine Wj ?_
  refine Ws ?_
  refine zu3 ?_
  refine Wl ?_
  show W _ _ _ _ _ _ _
  refine W_loopS (fun (k : Nat) => [(0, sq cWord a), (1, sq cWord b), (12, i64 a.length), (13, i64 k)]) (fun (k : Nat) => []) (fun (k : Nat) => []) (fun (k : Nat) => k ≤ a.length ∧ a.take k = b.take k) (fun (k : Nat) => a.length - k) (0) (by simp) [] ?_ ?_
  ·exact fitT
  ·intro k hk
   refine zu1 ?_
   refine Ws ?_
   refine Wi rfl (fun hi2 => ?_) (fun hi2 => ?_)
   ·have hlt : k < a.length := by have := oT hi2; omega
    refine Wj ?_
    refine Ws ?_
    refine Wl ?_
    refine zu2 ?_
    refine Ws ?_
    refine W_drawU [0, 0, 0, 1, 0, 0, 0, 1, 0] [0, 1, 2, 3, 4, 5, 6, 7, 8] mG rfl (by kernel_rfl) ?_
    iterate 2 refine z3 ?_
    refine Xi tG rfl rfl rfl rfl (fun _ => rfl) (by omega) (iN cWord 3 (fun _ => rfl) default (by omega)) ?_
    refine z5 ?_
    iterate 2 refine z3 ?_
    refine Xi tG rfl rfl rfl rfl (fun _ => rfl) (by omega) (iN cWord 3 (fun _ => rfl) default (by omega)) ?_
    refine z5 ?_
    refine WU_does0 rfl rfl rfl rfl (fun _ => does_struct_neq rfl rfl rfl rfl rfl (by kernel_rfl)) ?_
    refine WU_nil ?_
    refine Wi rfl (fun hi3 => ?_) (fun hi3 => ?_)
    ·have hne : a ≠ b := fun h => by have h1 := not_t hi3; rw [h] at h1; exact absurd ((word_self _).symm.trans h1) (by simp)
     refine zu1 ?_
     refine zR ?_
     exact congrArg boo (decide_eq_false hne).symm
    ·have he : a.getD k default = b.getD k default := word_eq (not_f hi3)
     refine Wj ?_
     refine W_region rfl ?_
     refine zs2 ?_
     exact ⟨k + 1, [], (by exact ⟨by omega, take_same default hl hlt hk.2 he⟩), (by omega), fitT⟩
   ·have hge : a.length ≤ k := by have := oF hi2; omega
    refine W_exit ?_
    refine zu1 ?_
    refine zR ?_
    exact congrArg boo (decide_eq_true (by have h1 := hk.2; rw [take_all' a k hge, take_all' b k (by omega)] at h1; exact h1)).symm
theorem bytes_eq (a b : List UInt8) : PureC Tryz.prog 93 [sq cByte a, sq cByte b] (boo (decide (a = b))) := by
 refine pW tG (rs := [.tmp 4]) Tryz.func93 rfl rfl rfl (by simp) (by simp) (fun B => ?_)
 refine zu1 ?_
 refine zp1 ?_
 refine Wd rfl rfl (does_bytes_str (lO tG rfl) rfl (lO tG rfl) rfl (lO tG rfl) rfl rfl rfl) ?_
 refine z1 ?_
 refine Wd rfl rfl (does_bytes_str (lO tG rfl) rfl (lO tG rfl) rfl (lO tG rfl) rfl rfl rfl) ?_
 refine z1 ?_
 refine Wa 9 rfl (str_eql _ _) ?_
 refine zs1 ?_
 refine zR ?_
 rfl
theorem patch_same (x y : VPatch) : PureC Tryz.prog 137 [.agg (cPatch x), .agg (cPatch y)] (boo (decide (x = y))) := by
 refine pW tG (rs := [.tmp 4]) Tryz.func137 rfl rfl rfl (by simp) (by simp) (fun B => ?_)
 refine zu3 ?_
 refine zp5 ?_
 refine z1 ?_
 refine Wb 10 rfl (fun hg1 => ?_) (fun hg1 => ?_)
 ·refine zy4 ?_
  refine Wc rfl rfl (dC rfl Tryz.func93 rfl rfl ((bytes_eq x.old y.old) _)) ?_
  refine zs2 ?_
  refine zR ?_
  refine congrArg boo ?_; cases x; cases y; simp_all
 ·refine z6 ?_
  iterate 4 refine z6 ?_
  refine zs2 ?_
  refine zR ?_
  refine congrArg boo ?_; cases x; cases y; simp_all
@[simp] theorem flat_fn0 (f : Fn) : Flat (.fn f [] []) := by unfold Flat; exact ⟨by simp [FlatL], by simp [FlatL]⟩
theorem eq_patches (a b : List VPatch) (ha : a.length ≤ 1000000) (hb : b.length ≤ 1000000) : PureC Tryz.prog 138 [sq cPatch a, sq cPatch b, .fn (.func 137) [] []] (boo (decide (a = b))) := by
 refine pW tG (rs := [.tmp 6]) Tryz.func138 rfl rfl rfl (by simp) (by simp) (fun B => ?_)
 refine zu1 ?_
 refine Ws ?_
 refine zu5 ?_
 refine Wi rfl (fun hi1 => ?_) (fun hi1 => ?_)
 ·have hne : a ≠ b := fun h => by subst h; simp at hi1
  refine zu1 ?_
  refine zR ?_
  exact congrArg boo (decide_eq_false hne).symm
 ·have hl : a.length = b.length := by (try simp only [dnL] at *); omega
  refine Wj ?_
  refine Ws ?_
  refine zu3 ?_
  refine Wl ?_
  show W _ _ _ _ _ _ _
  refine W_loopS (fun (k : Nat) => [(1, sq cPatch b), (2, .fn (.func 137) [] []), (15, sq cPatch a), (16, i64 a.length), (17, i64 k)]) (fun (k : Nat) => []) (fun (k : Nat) => []) (fun (k : Nat) => k ≤ a.length ∧ a.take k = b.take k) (fun (k : Nat) => a.length - k) (0) (by simp) [] ?_ ?_
  ·exact fitT
  ·intro k hk
   refine zu1 ?_
   refine Ws ?_
   refine Wi rfl (fun hi2 => ?_) (fun hi2 => ?_)
   ·have hlt : k < a.length := by have := oT hi2; omega
    refine Wj ?_
    refine Ws ?_
    refine Wl ?_
    refine zp1 ?_
    refine Wv tG rfl rfl rfl (by omega) (iN cPatch 2 (fun _ => rfl) default (by omega)) ?_
    refine zs4 ?_
    refine zp2 ?_
    refine Wv tG rfl rfl rfl (by omega) (iN cPatch 2 (fun _ => rfl) default (by omega)) ?_
    refine zs3 ?_
    refine zp3 ?_
    refine Wc rfl rfl (doesCWv rfl rfl Tryz.func137 rfl rfl ((patch_same (a.getD k default) (b.getD k default)) _)) ?_
    refine zs1 ?_
    refine Wi rfl (fun hi3 => ?_) (fun hi3 => ?_)
    ·have hne : a ≠ b := not_same default (k := k) (by simpa using hi3)
     refine zu1 ?_
     refine zR ?_
     exact congrArg boo (decide_eq_false hne).symm
    ·have he : a.getD k default = b.getD k default := by simpa using hi3
     refine Wj ?_
     refine W_region rfl ?_
     refine zs2 ?_
     exact ⟨k + 1, [], (by exact ⟨by omega, take_same default hl hlt hk.2 he⟩), (by omega), fitT⟩
   ·have hge : a.length ≤ k := by have := oF hi2; omega
    refine W_exit ?_
    refine zu1 ?_
    refine zR ?_
    exact congrArg boo (decide_eq_true (by have h1 := hk.2; rw [take_all' a k hge, take_all' b k (by omega)] at h1; exact h1)).symm
theorem mem_Same (a b : VMem) (ha : a.old.length ≤ 1000000) (hb : b.old.length ≤ 1000000) : PureC Tryz.prog 89 [eMem a, eMem b] (boo (decide (a = b))) := by
 refine pW tG (rs := [.tmp 4]) Tryz.func89 rfl rfl rfl (by simp) (by simp) (fun B => ?_)
 refine zu3 ?_
 refine zu1 ?_
 refine zp4 ?_
 refine Wc rfl rfl (dC rfl Tryz.func93 rfl rfl ((bytes_eq a.b b.b) _)) ?_
 refine z1 ?_
 refine Wb 11 rfl (fun hg1 => ?_) (fun hg1 => ?_)
 ·refine zy5 ?_
  refine Wc rfl rfl (dC rfl Tryz.func138 rfl rfl ((eq_patches a.old b.old ha hb) _)) ?_
  refine zs2 ?_
  refine zR ?_
  refine congrArg boo ?_; cases a; cases b; simp_all
 ·refine z6 ?_
  iterate 5 refine z6 ?_
  refine zs2 ?_
  refine zR ?_
  refine congrArg boo ?_; cases a; cases b; simp_all
theorem dict_Same (a b : List VWord) (ha : a.length ≤ 1000000) (hb : b.length ≤ 1000000) : PureC Tryz.prog 92 [sq cWord a, sq cWord b] (boo (decide (a = b))) := by
 refine pW tG (rs := [.tmp 4]) Tryz.func92 rfl rfl rfl (by simp) (by simp) (fun B => ?_)
 refine zu1 ?_
 refine zp2 ?_
 refine Wc rfl rfl (dC rfl Tryz.func139 rfl rfl ((eq_words a b ha hb) _)) ?_
 refine zs1 ?_
 refine zR ?_
 rfl
theorem pic_Same (a b : VPic) : PureC Tryz.prog 94 [ePic a, ePic b] (boo (decide (a = b))) := by
 refine pW tG (rs := [.tmp 4]) Tryz.func94 rfl rfl rfl (by simp) (by simp) (fun B => ?_)
 refine zu3 ?_
 refine zp5 ?_
 refine z1 ?_
 refine Wb 10 rfl (fun hg1 => ?_) (fun hg1 => ?_)
 ·refine zy4 ?_
  refine Wc rfl rfl (dC rfl Tryz.func93 rfl rfl ((bytes_eq a.b b.b) _)) ?_
  refine zs2 ?_
  refine zR ?_
  refine congrArg boo ?_; cases a; cases b; simp_all
 ·refine z6 ?_
  iterate 4 refine z6 ?_
  refine zs2 ?_
  refine zR ?_
  refine congrArg boo ?_; cases a; cases b; simp_all
end Go.Proofs.YtobhnjnffnbbkaaGreatDoor
namespace Go.Proofs.YtobhnjnffnbbkaaGreatDoor
open Go.RowKit
set_option maxRecDepth 100000
inductive VErr where
 | ok
 | bad (e : Int)
 | halt
 deriving DecidableEq, Inhabited
structure PW where
 r : VRun
 err : VErr
 deriving DecidableEq, Inhabited
def pOk (k : PW) (v : VVm) (e : Int) : PW := match k.err with
 | .ok => if e = 0 then { k with r := { k.r with vm := v } } else { k with err := .bad e }
 | _ => k
def isOk : VErr → Bool
 | .ok => true
 | _ => false
def wPush (k : PW) (n : Int) : PW := pOk k (vmPush k.r.vm n).1 (vmPush k.r.vm n).2
def wPop (k : PW) : PW × Int := (pOk k (vmPop k.r.vm).2.1 (vmPop k.r.vm).2.2, if isOk (pOk k (vmPop k.r.vm).2.1 (vmPop k.r.vm).2.2).err then (vmPop k.r.vm).1 else 0)
def wRPush (k : PW) (n : Int) : PW := pOk k (vmRPush k.r.vm n).1 (vmRPush k.r.vm n).2
def wRPop (k : PW) : PW × Int := (pOk k (vmRPop k.r.vm).2.1 (vmRPop k.r.vm).2.2, if isOk (pOk k (vmRPop k.r.vm).2.1 (vmRPop k.r.vm).2.2).err then (vmRPop k.r.vm).1 else 0)
def wFetch (k : PW) (a : Int) : PW × Int := (pOk k k.r.vm (memFetch k.r.vm.mem a).2, (memFetch k.r.vm.mem a).1)
def wStore (k : PW) (a n : Int) : PW := pOk k (withM k.r.vm (memStore k.r.vm.mem a n).1) (memStore k.r.vm.mem a n).2
def wNext (k : PW) (xt : Int) : PW := { k with r := { k.r with w := xt, dof := true } }
def wIp (k : PW) (a : Int) : PW := { k with r := { k.r with ip := a } }
def wErr (k : PW) (e : VErr) : PW := { k with err := e }
def wDeep (k : PW) (n : Nat) : PW × Int := if k.r.vm.r.length ≤ n then (pOk k k.r.vm (-6), 0) else (k, k.r.vm.r.getD (k.r.vm.r.length - 1 - n) 0)
def wSkip (k : PW) (b : Bool) : PW := if b then wIp (wFetch k k.r.ip).1 (wFetch k k.r.ip).2 else wIp k (W64 (k.r.ip + 8))
def wLoop (k : PW) (n : Int) : PW :=
 if isOk (wDeep (wDeep k 1).1 0).1.err then
  wSkip (if (stepN (wDeep (wDeep k 1).1 0).2 (wDeep k 1).2 n).2 then (wRPop (wRPop (wDeep (wDeep k 1).1 0).1).1).1 else wRPush (wRPop (wDeep (wDeep k 1).1 0).1).1 (stepN (wDeep (wDeep k 1).1 0).2 (wDeep k 1).2 n).1) (!(stepN (wDeep (wDeep k 1).1 0).2 (wDeep k 1).2 n).2)
 else (wDeep (wDeep k 1).1 0).1
def wDoes (k : PW) : PW :=
 if k.r.vm.last = 0 ∨ (vmKind k.r.vm k.r.vm.last).2 ≠ 0 ∨ ((vmKind k.r.vm k.r.vm.last).1 ≠ 257 ∧ (vmKind k.r.vm k.r.vm.last).1 ≠ 259) then pOk k k.r.vm (-31) else
  wStore (wStore k k.r.vm.last 259) (W64 (k.r.vm.last + 8)) (wStore k k.r.vm.last 259).r.ip
def wExit (k : PW) : PW := wIp (wRPop k).1 (wRPop k).2
def wDo (k : PW) : PW := wRPush (wRPush (wPop (wPop k).1).1 (wPop (wPop k).1).2) (wPop k).2
def wQDo (k : PW) : PW :=
 if (wPop k).2 = (wPop (wPop k).1).2 then wSkip (wPop (wPop k).1).1 true else
  wDo (wIp (wPush (wPush (wPop (wPop k).1).1 (wPop (wPop k).1).2) (wPop k).2) (W64 ((wPush (wPush (wPop (wPop k).1).1 (wPop (wPop k).1).2) (wPop k).2).r.ip + 8)))
def wLit (k : PW) : PW := wIp (wPush (wFetch k k.r.ip).1 (wFetch k k.r.ip).2) (W64 ((wPush (wFetch k k.r.ip).1 (wFetch k k.r.ip).2).r.ip + 8))
def wCaught (k : PW) : PW := if k.r.vm.f.length = 0 then pOk k k.r.vm (-6) else
 wPush { k with r := { k.r with ip := (k.r.vm.f.getD (k.r.vm.f.length - 1) default).ip, vm := { k.r.vm with f := k.r.vm.f.take (k.r.vm.f.length - 1) } } } 0
def wStr (k : PW) : PW :=
 wIp (wPush (wPush (pOk (wFetch k k.r.ip).1 (wFetch k k.r.ip).1.r.vm (memText (wFetch k k.r.ip).1.r.vm.mem (W64 (k.r.ip + 8)) (wFetch k k.r.ip).2).2) (W64 (k.r.ip + 8))) (wFetch k k.r.ip).2)
  (oneS [65, 76, 73, 71, 78, 69, 68] (W64 (W64 (k.r.ip + 8) + (wFetch k k.r.ip).2))).1
def wFr (b : PW) : PW := { b with r := { b.r with ip := 24, vm := { b.r.vm with f := b.r.vm.f ++ [⟨(b.r.vm.d.length : Int), (b.r.vm.r.length : Int), b.r.ip⟩] } } }
def wCatch (k : PW) : PW := wNext (wFr (if 64 ≤ ((wPop k).1.r.vm.f.length : Int) then pOk (wPop k).1 (wPop k).1.r.vm (-5) else (wPop k).1)) (wPop k).2
def wTwoTo (k : PW) : PW := wRPush (wRPush (wPop (wPop k).1).1 (wPop (wPop k).1).2) (wPop k).2
def wTwoFrom (k : PW) : PW := wPush (wPush (wRPop (wRPop k).1).1 (wRPop (wRPop k).1).2) (wRPop k).2
def wMore (k : PW) (name : Str) : PW :=
 if name = [40, 99, 97, 117, 103, 104, 116, 41] then wCaught k else
 if name = [40, 115, 116, 114, 41] then wStr k else
 if name = [69, 88, 69, 67, 85, 84, 69] then wNext (wPop k).1 (wPop k).2 else
 if name = [67, 65, 84, 67, 72] then wCatch k else
 if name = [84, 72, 82, 79, 87] then pOk (wPop k).1 (wPop k).1.r.vm (wPop k).2 else
 if name = [73] then wPush (wDeep k 0).1 (wDeep k 0).2 else
 if name = [74] then wPush (wDeep k 2).1 (wDeep k 2).2 else
 if name = [85, 78, 76, 79, 79, 80] then (wRPop (wRPop (wDeep k 1).1).1).1 else
 if name = [62, 82] then wRPush (wPop k).1 (wPop k).2 else
 if name = [82, 62] then wPush (wRPop k).1 (wRPop k).2 else
 if name = [82, 64] then wPush (wDeep k 0).1 (wDeep k 0).2 else
 if name = [50, 62, 82] then wTwoTo k else
 if name = [50, 82, 62] then wTwoFrom k else k
def wControl (k : PW) (name : Str) : PW :=
 if name = [40, 100, 111, 101, 115, 41] then wExit (wDoes k) else
 if name = [40, 101, 120, 105, 116, 41] then wExit k else
 if name = [40, 108, 105, 116, 41] then wLit k else
 if name = [40, 98, 114, 97, 110, 99, 104, 41] then wSkip k true else
 if name = [40, 48, 98, 114, 97, 110, 99, 104, 41] then wSkip (wPop k).1 (decide ((wPop k).2 = 0)) else
 if name = [40, 63, 100, 111, 41] then wQDo k else
 if name = [40, 100, 111, 41] then wDo k else
 if name = [40, 108, 111, 111, 112, 41] then wLoop k 1 else
 if name = [40, 43, 108, 111, 111, 112, 41] then wLoop (wPop k).1 (wPop k).2 else
 if name = [40, 104, 97, 108, 116, 41] then wErr k .halt else wMore k name
def wMachine (k : PW) (b : Int) : PW :=
 let p := wFetch k b
 let q := wFetch p.1 (W64 (b + 8))
 let c := if isOk q.1.err && (decide (p.2 < 0) || decide (q.2 ≤ p.2)) then pOk q.1 q.1.r.vm (-24) else q.1
 let x := wFetch c (W64 (W64 (b + 16) + W64 (8 * p.2)))
 if x.2 = 0 then x.1 else wNext x.1 x.2
def wWord (k0 : PW) (xt : Int) : PW :=
 let n := (vmKind k0.r.vm xt).1
 let k := pOk k0 k0.r.vm (vmKind k0.r.vm xt).2
 if isOk k.err then
  if 300 ≤ n then pOk k k.r.vm (-14) else
  if n = 256 then wIp (wRPush k k.r.ip) (W64 (xt + 8)) else
  if n = 257 then wPush k (W64 (xt + 16)) else
  if n = 258 then wPush (wFetch k (W64 (xt + 16))).1 (wFetch k (W64 (xt + 16))).2 else
  if n = 259 then wIp (wRPush (wPush (wFetch k (W64 (xt + 8))).1 (W64 (xt + 16))) (wPush (wFetch k (W64 (xt + 8))).1 (W64 (xt + 16))).r.ip) (wFetch k (W64 (xt + 8))).2 else
  if n = 260 then wMachine k (W64 (xt + 16)) else
  if 23 ≤ n ∧ n ≤ 129 then pOk k (doS k.r.vm n).1 (doS k.r.vm n).2 else wControl k (names.getD n.toNat [])
 else k
def wBegin (r : VRun) : PW := ⟨{ r with w := 0, dof := false, fuel := W64 (r.fuel - 1) }, .ok⟩
def wTake (r : VRun) : PW × Int :=
 if r.dof then (wBegin r, r.w) else
  (if isOk (wFetch (wBegin r) r.ip).1.err then wIp (wFetch (wBegin r) r.ip).1 (W64 ((wFetch (wBegin r) r.ip).1.r.ip + 8)) else (wFetch (wBegin r) r.ip).1, (wFetch (wBegin r) r.ip).2)
def wDone (r : VRun) : PW := if isOk (wTake r).1.err then wWord (wTake r).1 (wTake r).2 else (wTake r).1
def wStep (r : VRun) : VRun × Bool × Int :=
 if r.fuel < 1 then (r, false, -256) else
  match (wDone r).err with
  | .ok => ((wDone r).r, false, 0)
  | .halt => ((wDone r).r, true, 0)
  | .bad e => ((caughtS (wTake r).1.r e).1, false, (caughtS (wTake r).1.r e).2)
def Rel (p : PW) (d : VWk) : Prop := match p.err with
 | .ok => d = ⟨p.r.vm, p.r.ip, p.r.w, p.r.dof, false, 0⟩
 | .bad e => d.bad = e ∧ e ≠ 0
 | .halt => False
def RelN (p : PW × Int) (d : VWk × Int) : Prop := Rel p.1 d.1 ∧ (p.1.err = .ok → p.2 = d.2)
theorem Rel.ok {p : PW} {d : VWk} (h : Rel p d) (k : p.err = .ok) : d = ⟨p.r.vm, p.r.ip, p.r.w, p.r.dof, false, 0⟩ := by unfold Rel at h; rw [k] at h; exact h
theorem Rel.bad {p : PW} {d : VWk} {e : Int} (h : Rel p d) (k : p.err = .bad e) : d.bad = e ∧ e ≠ 0 := by unfold Rel at h; rw [k] at h; exact h
theorem Rel.cases {p : PW} {d : VWk} (h : Rel p d) : (p.err = .ok) ∨ ∃ e, p.err = .bad e := by
 unfold Rel at h
 cases k : p.err with
 | ok => exact .inl rfl
 | bad e => exact .inr ⟨e, rfl⟩
 | halt => rw [k] at h; exact h.elim
theorem rel_mk {p : PW} {d : VWk} (k : p.err = .ok) (h : d = ⟨p.r.vm, p.r.ip, p.r.w, p.r.dof, false, 0⟩) : Rel p d := by unfold Rel; rw [k]; exact h
theorem rel_mkb {p : PW} {d : VWk} {e : Int} (k : p.err = .bad e) (h : d.bad = e) (h0 : e ≠ 0) : Rel p d := by unfold Rel; rw [k]; exact ⟨h, h0⟩
theorem pOk_bad {k : PW} {c e : Int} {v : VVm} (h : k.err = .bad c) : pOk k v e = k := by unfold pOk; rw [h]
theorem pOk_ok {k : PW} {e : Int} {v : VVm} (h : (pOk k v e).err = .ok) : k.err = .ok ∧ e = 0 := by
 unfold pOk at h
 cases k1 : k.err with
 | ok =>
  rw [k1] at h; simp only at h
  by_cases he : e = 0
  ·exact ⟨rfl, he⟩
  ·rw [if_neg he] at h; cases h
 | bad c => rw [k1] at h; simp only at h; rw [k1] at h; cases h
 | halt => rw [k1] at h; simp only at h; rw [k1] at h; cases h
theorem isOk_iff {e : VErr} : isOk e = true ↔ e = .ok := by cases e <;> simp [isOk]
theorem fail_bad {d : VWk} {e : Int} (h : d.bad ≠ 0) : dFail d e = d := by unfold dFail; rw [if_neg h]
theorem rel_ok {p : PW} {d : VWk} {v v' : VVm} {e e' : Int} (h : Rel p d) (he : p.err = .ok → e = e' ∧ (e = 0 → v = v')) : Rel (pOk p v e) { dFail d e' with v := v' } := by
 rcases h.cases with k | ⟨c, k⟩
 ·obtain ⟨rfl, hv⟩ := he k
  have hd := h.ok k
  subst hd
  unfold pOk dFail; rw [k]; simp only [if_true]
  by_cases he : e = 0
  ·rw [if_pos he]; exact rel_mk rfl (by rw [hv he, he])
  ·rw [if_neg he]; exact rel_mkb rfl rfl he
 ·have hb := h.bad k
  rw [pOk_bad k]
  exact rel_mkb k (by rw [fail_bad (by rw [hb.1]; exact hb.2)]; exact hb.1) hb.2
theorem rel_fail {p : PW} {d : VWk} {e : Int} (h : Rel p d) : Rel (pOk p p.r.vm e) (dFail d e) := by
 have k := rel_ok (v := p.r.vm) (v' := d.v) (e := e) (e' := e) h (fun k => ⟨rfl, fun _ => by rw [h.ok k]⟩)
 have e2 : ({ dFail d e with v := d.v } : VWk) = dFail d e := by unfold dFail; split <;> rfl
 rw [e2] at k; exact k
theorem rel_push {p : PW} {d : VWk} (h : Rel p d) {n n' : Int} (hn : p.err = .ok → n = n') : Rel (wPush p n) (dPush d n') :=
 rel_ok h (fun k => by rw [h.ok k, hn k]; exact ⟨rfl, fun _ => rfl⟩)
theorem rel_rpush {p : PW} {d : VWk} (h : Rel p d) {n n' : Int} (hn : p.err = .ok → n = n') : Rel (wRPush p n) (dRPush d n') :=
 rel_ok h (fun k => by rw [h.ok k, hn k]; exact ⟨rfl, fun _ => rfl⟩)
theorem rel_store {p : PW} {d : VWk} (h : Rel p d) {a a' n n' : Int} (hn : p.err = .ok → a = a' ∧ n = n') : Rel (wStore p a n) (dStore d a' n') :=
 rel_ok h (fun k => by rw [h.ok k, (hn k).1, (hn k).2]; exact ⟨rfl, fun _ => rfl⟩)
theorem rel_pop {p : PW} {d : VWk} (h : Rel p d) : RelN (wPop p) (dPop d) :=
 ⟨rel_ok h (fun k => by rw [h.ok k]; exact ⟨rfl, fun _ => rfl⟩), fun k => by
  have k' : (pOk p (vmPop p.r.vm).2.1 (vmPop p.r.vm).2.2).err = .ok := k
  show (if isOk _ then _ else _) = _
  rw [if_pos (isOk_iff.2 k'), h.ok (pOk_ok k).1]; rfl⟩
theorem rel_rpop {p : PW} {d : VWk} (h : Rel p d) : RelN (wRPop p) (dRPop d) :=
 ⟨rel_ok h (fun k => by rw [h.ok k]; exact ⟨rfl, fun _ => rfl⟩), fun k => by
  have k' : (pOk p (vmRPop p.r.vm).2.1 (vmRPop p.r.vm).2.2).err = .ok := k
  show (if isOk _ then _ else _) = _
  rw [if_pos (isOk_iff.2 k'), h.ok (pOk_ok k).1]; rfl⟩
theorem rel_fetch {p : PW} {d : VWk} (h : Rel p d) {a a' : Int} (ha : p.err = .ok → a = a') : RelN (wFetch p a) (dFetch d a') := by
 refine ⟨?_, fun k => by
  show (memFetch _ _).1 = (memFetch _ _).1
  rw [h.ok (pOk_ok k).1, ha (pOk_ok k).1]⟩
 have k := rel_ok (v := p.r.vm) (v' := d.v) (e := (memFetch p.r.vm.mem a).2) (e' := (memFetch d.v.mem a').2) h (fun k => ⟨by rw [h.ok k, ha k], fun _ => by rw [h.ok k]⟩)
 have e2 : ({ dFail d (memFetch d.v.mem a').2 with v := d.v } : VWk) = (dFetch d a').1 := by unfold dFetch dFail; dsimp only; split <;> rfl
 rw [e2] at k; exact k
theorem rel_ip {p : PW} {d : VWk} (h : Rel p d) {a a' : Int} (ha : p.err = .ok → a = a') : Rel (wIp p a) { d with ip := a' } := by
 rcases h.cases with k | ⟨c, k⟩
 ·exact rel_mk k (by rw [h.ok k, ha k]; rfl)
 ·exact rel_mkb k (h.bad k).1 (h.bad k).2
theorem rel_next {p : PW} {d : VWk} (h : Rel p d) {a a' : Int} (ha : p.err = .ok → a = a') : Rel (wNext p a) (dNext d a') := by
 rcases h.cases with k | ⟨c, k⟩
 ·exact rel_mk k (by rw [h.ok k, ha k]; rfl)
 ·exact rel_mkb k (h.bad k).1 (h.bad k).2
theorem rel_ite {p A B : PW} {d A' B' : VWk} {c c' : Prop} [Decidable c] [Decidable c'] (h : Rel p d) (hc : p.err = .ok → (c ↔ c')) (h1 : Rel A A') (h2 : Rel B B')
  (hp : ∀ e, p.err = .bad e → A.err = .bad e ∧ B.err = .bad e) (hd : d.bad ≠ 0 → A'.bad = d.bad ∧ B'.bad = d.bad) : Rel (if c then A else B) (if c' then A' else B') := by
 rcases h.cases with k | ⟨e, k⟩
 ·by_cases q : c
  ·rw [if_pos q, if_pos ((hc k).1 q)]; exact h1
  ·rw [if_neg q, if_neg (fun q' => q ((hc k).2 q'))]; exact h2
 ·have hb := h.bad k
  have h3 := hp e k
  have h4 := hd (by rw [hb.1]; exact hb.2)
  have a1 : (if c then A else B).err = .bad e := by split; exact h3.1; exact h3.2
  have a2 : (if c' then A' else B').bad = e := by split; rw [h4.1, hb.1]; rw [h4.2, hb.1]
  exact rel_mkb a1 a2 hb.2
section
variable {p : PW} {e : Int} (h : p.err = .bad e)
include h
theorem b_push {n : Int} : wPush p n = p := pOk_bad h
theorem b_rpush {n : Int} : wRPush p n = p := pOk_bad h
theorem b_store {a n : Int} : wStore p a n = p := pOk_bad h
theorem b_pop : (wPop p).1 = p := pOk_bad h
theorem b_rpop : (wRPop p).1 = p := pOk_bad h
theorem b_fetch {a : Int} : (wFetch p a).1 = p := pOk_bad h
theorem b_deep {n : Nat} : (wDeep p n).1 = p := by unfold wDeep; split; exact pOk_bad h; rfl
end
section
variable {d : VWk} (h : d.bad ≠ 0)
include h
theorem c_fail {e : Int} : (dFail d e).bad = d.bad := by rw [fail_bad h]
theorem c_rpush {n : Int} : (dRPush d n).bad = d.bad := c_fail h
theorem c_store {a n : Int} : (dStore d a n).bad = d.bad := c_fail h
theorem c_rpop : (dRPop d).1.bad = d.bad := c_fail h
theorem c_fetch {a : Int} : (dFetch d a).1.bad = d.bad := c_fail h
theorem c_top {n : Int} : (dTop d n).1.bad = d.bad := by unfold dTop; split; exact c_fail h; rfl
theorem c_to : (dTo d).bad = d.bad := c_fetch h
end
theorem rel_deep {p : PW} {d : VWk} (h : Rel p d) (n : Nat) : RelN (wDeep p n) (dTop d (n : Int)) := by
 rcases h.cases with k | ⟨e, k⟩
 ·have hd := h.ok k
  by_cases q : p.r.vm.r.length ≤ n
  ·have q' : (d.v.r.length : Int) ≤ (n : Int) := by rw [hd]; dsimp only; omega
   unfold wDeep dTop; rw [if_pos q, if_pos q']
   exact ⟨rel_fail h, fun _ => rfl⟩
  ·have q' : ¬ (d.v.r.length : Int) ≤ (n : Int) := by rw [hd]; dsimp only; omega
   unfold wDeep dTop; rw [if_neg q, if_neg q']
   exact ⟨h, fun _ => by rw [hd]; rfl⟩
 ·have hb := h.bad k
  have hb0 : d.bad ≠ 0 := by rw [hb.1]; exact hb.2
  exact ⟨rel_mkb (by rw [b_deep k]; exact k) (by rw [c_top hb0, hb.1]) hb.2, fun q => by rw [b_deep k, k] at q; cases q⟩
theorem rel_to {p : PW} {d : VWk} (h : Rel p d) : Rel (wSkip p true) (dTo d) := by
 have f := rel_fetch h (a := p.r.ip) (a' := d.ip) (fun k => by rw [h.ok k])
 exact rel_ip f.1 f.2
theorem rel_skip {p : PW} {d : VWk} (h : Rel p d) : Rel (wSkip p false) (dSkip d) := rel_ip h (fun k => by rw [h.ok k])
theorem b_skip {p : PW} {e : Int} (h : p.err = .bad e) (b : Bool) : (wSkip p b).err = .bad e := by
 unfold wSkip; split
 ·show (wFetch p p.r.ip).1.err = _; rw [b_fetch h]; exact h
 ·exact h
theorem deep_ok {p : PW} {n : Nat} (h : (wDeep p n).1.err = .ok) : p.err = .ok := by
 unfold wDeep at h; split at h
 ·exact (pOk_ok h).1
 ·exact h
theorem pop_ok {p : PW} (h : (wPop p).1.err = .ok) : p.err = .ok := (pOk_ok h).1
theorem rpop_ok {p : PW} (h : (wRPop p).1.err = .ok) : p.err = .ok := (pOk_ok h).1
theorem push_ok {p : PW} {n : Int} (h : (wPush p n).err = .ok) : p.err = .ok := (pOk_ok h).1
theorem rpush_ok {p : PW} {n : Int} (h : (wRPush p n).err = .ok) : p.err = .ok := (pOk_ok h).1
theorem fetch_ok {p : PW} {n : Int} (h : (wFetch p n).1.err = .ok) : p.err = .ok := (pOk_ok h).1
theorem fetch_r {p : PW} {n : Int} : (wFetch p n).1.r = p.r := by
 unfold wFetch pOk; dsimp only; cases p.err <;> dsimp only; split <;> rfl
theorem pOk_ip {p : PW} {v : VVm} {e : Int} : (pOk p v e).r.ip = p.r.ip := by
 unfold pOk; cases p.err <;> dsimp only; split <;> rfl
theorem rel_exit {p : PW} {d : VWk} (h : Rel p d) : Rel (wExit p) { (dRPop d).1 with ip := (dRPop d).2 } := rel_ip (rel_rpop h).1 (rel_rpop h).2
theorem rel_lit {p : PW} {d : VWk} (h : Rel p d) : Rel (wLit p) (dSkip (dPush (dFetch d d.ip).1 (dFetch d d.ip).2)) := by
 have f := rel_fetch h (a := p.r.ip) (a' := d.ip) (fun k => by rw [h.ok k])
 exact rel_skip (rel_push f.1 f.2)
theorem rel_br {p : PW} {d : VWk} (h : Rel p d) : Rel (wSkip (wPop p).1 (decide ((wPop p).2 = 0))) (if (dPop d).2 = 0 then dTo (dPop d).1 else dSkip (dPop d).1) := by
 have f := rel_pop h
 have e : wSkip (wPop p).1 (decide ((wPop p).2 = 0)) = if (wPop p).2 = 0 then wSkip (wPop p).1 true else wSkip (wPop p).1 false := by
  by_cases q : (wPop p).2 = 0
  ·rw [if_pos q, decide_eq_true q]
  ·rw [if_neg q, decide_eq_false q]
 rw [e]
 exact rel_ite f.1 (fun k => by rw [f.2 k]) (rel_to f.1) (rel_skip f.1) (fun e k => ⟨b_skip k _, b_skip k _⟩) (fun k => ⟨c_to k, rfl⟩)
theorem rel_loop {p : PW} {d : VWk} (h : Rel p d) {n n' : Int} (hn : p.err = .ok → n = n') : Rel (wLoop p n) (dLoop d n') := by
 have a : RelN (wDeep p 1) (dTop d 1) := rel_deep h 1
 have b : RelN (wDeep (wDeep p 1).1 0) (dTop (dTop d 1).1 0) := rel_deep a.1 0
 rcases b.1.cases with k | ⟨e, k⟩
 ·have hb : (dTop (dTop d 1).1 0).1.bad = 0 := by rw [b.1.ok k]
  have a2 := a.2 (deep_ok k)
  have b2 := b.2 k
  have n2 := hn (deep_ok (deep_ok k))
  have c := (rel_rpop b.1).1
  unfold wLoop dLoop
  dsimp only
  have hb' : ¬ (dTop (dTop d 1).1 0).1.bad ≠ 0 := fun q => q hb
  rw [if_pos (isOk_iff.2 k), if_neg hb', a2, b2, n2]
  by_cases q : (stepN (dTop (dTop d 1).1 0).2 (dTop d 1).2 n').2 = true
  ·rw [if_pos q, if_pos q, q]
   exact rel_skip (rel_rpop c).1
  ·have q' : (stepN (dTop (dTop d 1).1 0).2 (dTop d 1).2 n').2 = false := by simpa using q
   rw [if_neg q, if_neg q, q']
   exact rel_to (rel_rpush c (fun _ => rfl))
 ·have hb := b.1.bad k
  unfold wLoop dLoop
  dsimp only
  rw [if_neg (by rw [k]; simp [isOk]), if_pos (fun q => hb.2 (hb.1.symm.trans q))]
  exact b.1
theorem rel_two {p : PW} {d : VWk} (h : Rel p d) : Rel (wTwoTo p) (dRPush (dRPush (dTwo d).1 (dTwo d).2.2) (dTwo d).2.1) := by
 have a := rel_pop h
 have b := rel_pop a.1
 exact rel_rpush (rel_rpush b.1 b.2) (fun k => a.2 (pop_ok (rpush_ok k)))
theorem rel_from {p : PW} {d : VWk} (h : Rel p d) : Rel (wTwoFrom p) (dPush (dPush (dRPop (dRPop d).1).1 (dRPop (dRPop d).1).2) (dRPop d).2) := by
 have a := rel_rpop h
 have b := rel_rpop a.1
 exact rel_push (rel_push b.1 b.2) (fun k => a.2 (rpop_ok (push_ok k)))
theorem pop_push {q : PW} {n : Int} (k : q.err = .ok) (h : (q.r.vm.d.length : Int) < q.r.vm.conf.data) : wPop (wPush q n) = (q, n) := by
 obtain ⟨⟨v, ip, w, df, fu⟩, err⟩ := q
 simp only at k; subst k
 have e : wPush ⟨⟨v, ip, w, df, fu⟩, .ok⟩ n = ⟨⟨{ v with d := v.d ++ [n] }, ip, w, df, fu⟩, .ok⟩ := by
  unfold wPush vmPush stkPush pOk
  simp only at h
  simp only [if_neg (show ¬ v.conf.data ≤ (v.d.length : Int) by omega), if_true]
 rw [e]
 have e2 : stkPop (v.d ++ [n]) = (n, v.d, 0) := by
  unfold stkPop
  rw [if_neg (by simp)]
  simp
 unfold wPop vmPop pOk
 simp only [e2, if_true, isOk]
theorem pop_ip {q : PW} {a : Int} : wPop (wIp q a) = (wIp (wPop q).1 a, (wPop q).2) := by
 obtain ⟨r, err⟩ := q
 unfold wPop wIp pOk
 cases err <;> dsimp only
 split <;> rfl
theorem rpush_skip {d : VWk} {n : Int} : dSkip (dRPush d n) = dRPush (dSkip d) n := by
 unfold dSkip dRPush dFail; dsimp only; split <;> rfl
theorem pop_d {p : PW} (k : (wPop p).1.err = .ok) : (wPop p).1.r.vm.d.length + 1 = p.r.vm.d.length ∧ (wPop p).1.r.vm.conf = p.r.vm.conf := by
 obtain ⟨r, err⟩ := p
 have h1 := pOk_ok k
 simp only at h1
 obtain ⟨rfl, h2⟩ := h1
 have hl : r.vm.d.length ≠ 0 := by
  intro q
  unfold vmPop stkPop at h2; rw [if_pos q] at h2; cases h2
 unfold wPop pOk
 simp only [h2, if_true]
 unfold vmPop stkPop
 simp only [if_neg hl, List.length_take]
 exact ⟨by omega, trivial⟩
theorem rel_qdo {p : PW} {d : VWk} (h : Rel p d) (hd : (p.r.vm.d.length : Int) ≤ p.r.vm.conf.data) :
  Rel (wQDo p) (if (dTwo d).2.1 = (dTwo d).2.2 then dTo (dTwo d).1 else dSkip (dRPush (dRPush (dTwo d).1 (dTwo d).2.2) (dTwo d).2.1)) := by
 have a := rel_pop h
 have b := rel_pop a.1
 rcases b.1.cases with k | ⟨e, k⟩
 ·have a2 := a.2 (pop_ok k)
  have b2 := b.2 k
  have l1 := pop_d (pop_ok k)
  have l2 := pop_d k
  unfold wQDo dTwo
  dsimp only
  by_cases q : (wPop p).2 = (wPop (wPop p).1).2
  ·rw [if_pos q, if_pos (show (dPop d).2 = (dPop (dPop d).1).2 by rw [← a2, ← b2]; exact q)]
   exact rel_to b.1
  ·rw [if_neg q, if_neg (show ¬ (dPop d).2 = (dPop (dPop d).1).2 by rw [← a2, ← b2]; exact q)]
   have b1 : Rel (wPop (wPop p).1).1 (dPop (dPop d).1).1 := b.1
   generalize hP : (wPop (wPop p).1).1 = P at *
   have e1 := pop_push (n := (wPop (wPop p).1).2) k (by rw [l2.2, l1.2]; omega)
   have l3 : (wPush P (wPop (wPop p).1).2).err = .ok := by
    have : (pOk P (vmPush P.r.vm (wPop (wPop p).1).2).1 (vmPush P.r.vm (wPop (wPop p).1).2).2).err = .ok := by
     unfold pOk vmPush stkPush
     simp only [k, if_neg (show ¬ P.r.vm.conf.data ≤ (P.r.vm.d.length : Int) by rw [l2.2, l1.2]; omega), if_true]
    exact this
   have l4 : (wPush P (wPop (wPop p).1).2).r.vm.d.length = P.r.vm.d.length + 1 ∧ (wPush P (wPop (wPop p).1).2).r.vm.conf = P.r.vm.conf := by
    unfold wPush pOk vmPush stkPush
    simp only [k, if_neg (show ¬ P.r.vm.conf.data ≤ (P.r.vm.d.length : Int) by rw [l2.2, l1.2]; omega), if_true]
    simp
   have e2 := pop_push (n := (wPop p).2) l3 (by rw [l4.2, l2.2, l1.2]; omega)
   have ip1 : (wPush (wPush P (wPop (wPop p).1).2) (wPop p).2).r.ip = P.r.ip := by
    show (pOk (pOk P _ _) _ _).r.ip = _
    rw [pOk_ip, pOk_ip]
   unfold wDo
   simp only [pop_ip, e2, e1, ip1]
   rw [rpush_skip, rpush_skip]
   exact rel_rpush (rel_rpush (rel_skip b1) (fun k => b2)) (fun k => a2)
 ·have hb := b.1.bad k
  have hb0 : (dPop (dPop d).1).1.bad ≠ 0 := by rw [hb.1]; exact hb.2
  have w1 : ∀ A : PW, A.err = .bad e → ∀ n m a, (wDo (wIp (wPush (wPush A n) m) a)).err = .bad e := by
   intro A kA n m a
   rw [b_push kA, b_push kA]
   unfold wDo
   have k1 : (wIp A a).err = .bad e := kA
   rw [b_pop k1, b_pop k1, b_rpush k1, b_rpush k1]; exact k1
  refine rel_ite b.1 (fun q => by rw [k] at q; cases q) (rel_to b.1) (rel_mkb (e := e) (w1 _ k _ _ _) ?_ hb.2) (fun e' k' => ⟨b_skip k' _, ?_⟩) (fun _ => ⟨c_to hb0, ?_⟩)
  ·show (dRPush (dRPush (dPop (dPop d).1).1 _) _).bad = e
   rw [c_rpush (by rw [c_rpush hb0]; exact hb0), c_rpush hb0]; exact hb.1
  ·rw [k] at k'; cases k'; exact w1 _ k _ _ _
  ·show (dRPush (dRPush (dPop (dPop d).1).1 _) _).bad = (dPop (dPop d).1).1.bad
   rw [c_rpush (by rw [c_rpush hb0]; exact hb0), c_rpush hb0]
theorem rel_does {p : PW} {d : VWk} (h : Rel p d) : Rel (wExit (wDoes p)) (dDoes d) := by
 rcases h.cases with k | ⟨e, k⟩
 ·have hd := h.ok k
  unfold wDoes dDoes
  have hv : d.v = p.r.vm := by rw [hd]
  rw [hv]
  split
  ·have k2 : (pOk p p.r.vm (-31)).err = .bad (-31) := by unfold pOk; rw [k]; rfl
   refine rel_mkb (e := -31) ?_ ?_ (by decide)
   ·show (wRPop _).1.err = _; rw [b_rpop k2]; exact k2
   ·unfold dFail; rw [hd]; rfl
  ·have s1 := rel_store h (a := p.r.vm.last) (a' := d.v.last) (n := 259) (n' := 259) (fun _ => ⟨by rw [hv], rfl⟩)
   rw [hv] at s1
   have e1 : (wStore p p.r.vm.last 259).err = .ok → (dStore d p.r.vm.last 259).v.last = p.r.vm.last ∧ (dStore d p.r.vm.last 259).ip = (wStore p p.r.vm.last 259).r.ip := fun k3 => by
    rw [s1.ok k3]
    refine ⟨?_, rfl⟩
    unfold wStore pOk; rw [k]; dsimp only; split <;> rfl
   exact rel_exit (rel_store s1 (fun k3 => ⟨by rw [(e1 k3).1], by rw [(e1 k3).2]⟩))
 ·have hb := h.bad k
  have hb0 : d.bad ≠ 0 := by rw [hb.1]; exact hb.2
  refine rel_mkb (e := e) ?_ ?_ hb.2
  ·unfold wExit wDoes
   show (wRPop _).1.err = _
   split
   ·rw [pOk_bad k, b_rpop k]; exact k
   ·rw [b_store k, b_store k, b_rpop k]; exact k
  ·unfold dDoes
   split
   ·rw [c_fail hb0]; exact hb.1
   ·show (dRPop _).1.bad = e
    have s1 : (dStore d d.v.last 259).bad ≠ 0 := by rw [c_store hb0]; exact hb0
    have s2 := c_store s1 (a := W64 ((dStore d d.v.last 259).v.last + 8)) (n := (dStore d d.v.last 259).ip)
    rw [c_rpop (by rw [s2]; exact s1), s2, c_store hb0]; exact hb.1
theorem rel_caught {p : PW} {d : VWk} (h : Rel p d) : Rel (wCaught p) (dCaught d) := by
 unfold wCaught dCaught
 refine rel_ite h (fun k => by rw [h.ok k]) (rel_fail h) (rel_push ?_ (fun _ => rfl)) (fun e k => ⟨by rw [pOk_bad k]; exact k, ?_⟩) (fun k => ⟨c_fail k, ?_⟩)
 ·rcases h.cases with k | ⟨e, k⟩
  ·exact rel_mk k (by rw [h.ok k])
  ·exact rel_mkb k (h.bad k).1 (h.bad k).2
 ·have hX : ∀ X : PW, X.err = .bad e → (wPush X 0).err = .bad e := fun X hX => by rw [b_push hX]; exact hX
  exact hX _ k
 ·exact c_fail (d := { d with ip := _, v := _ }) (by exact k)
theorem fail_zero {d : VWk} : dFail d 0 = d := by
 obtain ⟨v, ip, w, df, ov, bad⟩ := d
 unfold dFail; dsimp only; split
 ·rename_i q; rw [q]
 ·rfl
theorem rel_str {p : PW} {d : VWk} (h : Rel p d) : Rel (wStr p) (dStr d) := by
 have f := rel_fetch h (a := p.r.ip) (a' := d.ip) (fun k => by rw [h.ok k])
 have ip1 : (wFetch p p.r.ip).1.err = .ok → p.r.ip = d.ip := fun k => by rw [h.ok (fetch_ok k)]
 have g : Rel (pOk (wFetch p p.r.ip).1 (wFetch p p.r.ip).1.r.vm (memText (wFetch p p.r.ip).1.r.vm.mem (W64 (p.r.ip + 8)) (wFetch p p.r.ip).2).2) (if memThere (dFetch d d.ip).1.v.mem (W64 (d.ip + 8)) (dFetch d d.ip).2 then (dFetch d d.ip).1 else dFail (dFetch d d.ip).1 (-9)) := by
  rcases f.1.cases with k | ⟨e, k⟩
  ·have e1 : (if memThere (dFetch d d.ip).1.v.mem (W64 (d.ip + 8)) (dFetch d d.ip).2 then (dFetch d d.ip).1 else dFail (dFetch d d.ip).1 (-9)) = dFail (dFetch d d.ip).1 (memText (wFetch p p.r.ip).1.r.vm.mem (W64 (p.r.ip + 8)) (wFetch p p.r.ip).2).2 := by
    rw [← f.2 k, f.1.ok k, ← ip1 k]
    unfold memText
    split
    ·rw [fail_zero]
    ·rfl
   rw [e1]; exact rel_fail f.1
  ·have hb := f.1.bad k
   have hb0 : (dFetch d d.ip).1.bad ≠ 0 := by rw [hb.1]; exact hb.2
   exact rel_mkb (by rw [pOk_bad k]; exact k) (by split; exact hb.1; rw [c_fail hb0]; exact hb.1) hb.2
 refine rel_ip (rel_push (rel_push g ?_) ?_) ?_
 ·intro k; rw [ip1 (pOk_ok k).1]
 ·intro k; exact f.2 (pOk_ok (push_ok k)).1
 ·intro k
  have k1 := (pOk_ok (push_ok (push_ok k))).1
  rw [f.2 k1, ip1 k1]
theorem rel_catch {p : PW} {d : VWk} (h : Rel p d) : Rel (wCatch p) (dCatch d) := by
 have a := rel_pop h
 have b : Rel (if 64 ≤ ((wPop p).1.r.vm.f.length : Int) then pOk (wPop p).1 (wPop p).1.r.vm (-5) else (wPop p).1) (if 64 ≤ ((dPop d).1.v.f.length : Int) then dFail (dPop d).1 (-5) else (dPop d).1) :=
  rel_ite a.1 (fun k => by rw [a.1.ok k]) (rel_fail a.1) a.1 (fun e k => ⟨by rw [pOk_bad k]; exact k, k⟩) (fun k => ⟨c_fail k, rfl⟩)
 have hk : (if 64 ≤ ((wPop p).1.r.vm.f.length : Int) then pOk (wPop p).1 (wPop p).1.r.vm (-5) else (wPop p).1).err = .ok → (wPop p).2 = (dPop d).2 := fun k => a.2 (by
  split at k
  ·exact (pOk_ok k).1
  ·exact k)
 unfold wCatch wFr dCatch
 dsimp only
 generalize (if 64 ≤ ((wPop p).1.r.vm.f.length : Int) then pOk (wPop p).1 (wPop p).1.r.vm (-5) else (wPop p).1) = P at *
 generalize (if 64 ≤ ((dPop d).1.v.f.length : Int) then dFail (dPop d).1 (-5) else (dPop d).1) = D at *
 rcases b.cases with k | ⟨e, k⟩
 ·rw [b.ok k, hk k]; exact rel_mk k rfl
 ·exact rel_mkb (e := e) k (b.bad k).1 (b.bad k).2
theorem W64_add (a b : Int) : W64 (W64 a + b) = W64 (a + b) := by show IntKind.i64.wrap (IntKind.i64.wrap a + b) = IntKind.i64.wrap (a + b); rw [i64w, i64w, i64w]; exact wrap64_add_l a b
theorem rel_throw {p : PW} {d : VWk} (h : Rel p d) : Rel (pOk (wPop p).1 (wPop p).1.r.vm (wPop p).2) (dFail (dPop d).1 (dPop d).2) := by
 have a := rel_pop h
 rcases a.1.cases with k | ⟨e, k⟩
 ·rw [a.2 k]; exact rel_fail a.1
 ·have hb := a.1.bad k
  exact rel_mkb (by rw [pOk_bad k]; exact k) (by rw [c_fail (by rw [hb.1]; exact hb.2)]; exact hb.1) hb.2
theorem rel_machine {p : PW} {d : VWk} (h : Rel p d) (xt : Int) : Rel (wMachine p (W64 (xt + 16))) (dMachine d xt) := by
 have a := rel_fetch h (a := W64 (xt + 16)) (a' := W64 (xt + 16)) (fun _ => rfl)
 have b := rel_fetch a.1 (a := W64 (W64 (xt + 16) + 8)) (a' := W64 (xt + 24)) (fun _ => by rw [W64_add]; exact congrArg W64 (by omega))
 unfold wMachine dMachine
 dsimp only
 generalize hb : dFetch (dFetch d (W64 (xt + 16))).1 (W64 (xt + 24)) = B at *
 generalize ha : dFetch d (W64 (xt + 16)) = A at *
 generalize hb' : wFetch (wFetch p (W64 (xt + 16))).1 (W64 (W64 (xt + 16) + 8)) = B' at *
 have hba : B'.1.err = .ok → (wFetch p (W64 (xt + 16))).2 = A.2 := fun k => a.2 (fetch_ok (by rw [hb']; exact k))
 generalize ha' : wFetch p (W64 (xt + 16)) = A' at *
 have c : Rel (if isOk B'.1.err && (decide (A'.2 < 0) || decide (B'.2 ≤ A'.2)) then pOk B'.1 B'.1.r.vm (-24) else B'.1) (if A.2 < 0 ∨ B.2 ≤ A.2 then dFail B.1 (-24) else B.1) :=
  rel_ite b.1 (fun k => by rw [hba k, b.2 k, isOk_iff.2 k]; simp) (rel_fail b.1) b.1 (fun e k => ⟨by rw [pOk_bad k]; exact k, k⟩) (fun k => ⟨c_fail k, rfl⟩)
 have hc : (if isOk B'.1.err && (decide (A'.2 < 0) || decide (B'.2 ≤ A'.2)) then pOk B'.1 B'.1.r.vm (-24) else B'.1).err = .ok → B'.1.err = .ok := fun k => by
  split at k
  ·exact (pOk_ok k).1
  ·exact k
 generalize (if isOk B'.1.err && (decide (A'.2 < 0) || decide (B'.2 ≤ A'.2)) then pOk B'.1 B'.1.r.vm (-24) else B'.1) = C' at *
 generalize (if A.2 < 0 ∨ B.2 ≤ A.2 then dFail B.1 (-24) else B.1) = C at *
 have x := rel_fetch c (a := W64 (W64 (W64 (xt + 16) + 16) + W64 (8 * A'.2))) (a' := W64 (W64 (xt + 32) + W64 (8 * A.2))) (fun k => by rw [hba (hc k), W64_add (xt + 16)]; exact congrArg W64 (congrArg (· + W64 (8 * A.2)) (congrArg W64 (by omega))))
 exact rel_ite x.1 (fun k => by rw [x.2 k]) x.1 (rel_next x.1 x.2) (fun e k => ⟨k, k⟩) (fun _ => ⟨rfl, rfl⟩)
def RelF (p : PW) (d : VWk) : Prop := match p.err with
 | .halt => d = ⟨p.r.vm, p.r.ip, p.r.w, p.r.dof, true, 0⟩
 | _ => Rel p d
theorem relF_of {p : PW} {d : VWk} (h : Rel p d) : RelF p d := by
 unfold RelF
 rcases h.cases with k | ⟨e, k⟩ <;> rw [k] <;> exact h
theorem rel_halt {p : PW} {d : VWk} (h : Rel p d) (k : p.err = .ok) : RelF (wErr p .halt) { d with over := true } := by
 unfold RelF wErr; dsimp only; rw [h.ok k]
theorem rel_ctl {p : PW} {d : VWk} (h : Rel p d) (k : p.err = .ok) (hd : (p.r.vm.d.length : Int) ≤ p.r.vm.conf.data) (m : Nat) (hm : m < 23) :
  RelF (wControl p (names.getD m [])) (if (dCode d (names.getD m [])).2 then (dCode d (names.getD m [])).1 else dWord (dCode d (names.getD m [])).1 (names.getD m [])) := by
 match m, hm with
 | 0, _ => exact relF_of (rel_exit h)
 | 1, _ => exact relF_of (rel_lit h)
 | 2, _ => exact relF_of (rel_to h)
 | 3, _ => exact relF_of (rel_br h)
 | 4, _ => exact relF_of (rel_two h)
 | 5, _ => exact relF_of (rel_qdo h hd)
 | 6, _ => exact relF_of (rel_loop h (fun _ => rfl))
 | 7, _ => exact relF_of (rel_loop (rel_pop h).1 (rel_pop h).2)
 | 8, _ => exact rel_halt h k
 | 9, _ => exact relF_of (rel_caught h)
 | 10, _ => exact relF_of (rel_does h)
 | 11, _ => exact relF_of (rel_str h)
 | 12, _ => exact relF_of (rel_next (rel_pop h).1 (rel_pop h).2)
 | 13, _ => exact relF_of (rel_catch h)
 | 14, _ => exact relF_of (rel_throw h)
 | 15, _ => exact relF_of (rel_push (rel_deep h 0).1 (rel_deep h 0).2)
 | 16, _ => exact relF_of (rel_push (rel_deep h 2).1 (rel_deep h 2).2)
 | 17, _ => exact relF_of (rel_rpop (rel_rpop (rel_deep h 1).1).1).1
 | 18, _ => exact relF_of (rel_rpush (rel_pop h).1 (rel_pop h).2)
 | 19, _ => exact relF_of (rel_push (rel_rpop h).1 (rel_rpop h).2)
 | 20, _ => exact relF_of (rel_push (rel_deep h 0).1 (rel_deep h 0).2)
 | 21, _ => exact relF_of (rel_two h)
 | 22, _ => exact relF_of (rel_from h)
 | m + 23, hm => exact absurd hm (by omega)
theorem kind_ok {v : VVm} {xt : Int} (h : (vmKind v xt).2 = 0) : kindOk (vmKind v xt).1 := by
 unfold vmKind at h ⊢
 split
 ·rename_i h1
  rw [if_pos h1] at h
  split
  ·assumption
  ·rename_i h2
   rw [if_neg h2] at h; cases h
 ·rename_i h1; rw [if_neg h1] at h; exact absurd h h1
theorem pOk_fuel {k : PW} {v : VVm} {e : Int} : (pOk k v e).r.fuel = k.r.fuel := by
 unfold pOk; cases k.err <;> dsimp only; split <;> rfl
theorem push_fuel {k : PW} {n : Int} : (wPush k n).r.fuel = k.r.fuel := pOk_fuel
theorem rpush_fuel {k : PW} {n : Int} : (wRPush k n).r.fuel = k.r.fuel := pOk_fuel
theorem pop_fuel {k : PW} : (wPop k).1.r.fuel = k.r.fuel := pOk_fuel
theorem rpop_fuel {k : PW} : (wRPop k).1.r.fuel = k.r.fuel := pOk_fuel
theorem fetch_fuel {k : PW} {n : Int} : (wFetch k n).1.r.fuel = k.r.fuel := pOk_fuel
theorem store_fuel {k : PW} {a n : Int} : (wStore k a n).r.fuel = k.r.fuel := pOk_fuel
theorem ip_fuel {k : PW} {n : Int} : (wIp k n).r.fuel = k.r.fuel := rfl
theorem next_fuel {k : PW} {n : Int} : (wNext k n).r.fuel = k.r.fuel := rfl
theorem ite_fuel {c : Prop} [Decidable c] {a b : PW} {f : Int} (ha : a.r.fuel = f) (hb : b.r.fuel = f) : (if c then a else b).r.fuel = f := by split <;> assumption
theorem deep_fuel {k : PW} {n : Nat} : (wDeep k n).1.r.fuel = k.r.fuel := by unfold wDeep; split; exact pOk_fuel; rfl
theorem skip_fuel {k : PW} {b : Bool} : (wSkip k b).r.fuel = k.r.fuel := by unfold wSkip; exact ite_fuel (by rw [ip_fuel, fetch_fuel]) rfl
theorem exit_fuel {k : PW} : (wExit k).r.fuel = k.r.fuel := by unfold wExit; rw [ip_fuel, rpop_fuel]
theorem does_fuel {k : PW} : (wDoes k).r.fuel = k.r.fuel := by unfold wDoes; exact ite_fuel pOk_fuel (by rw [store_fuel, store_fuel])
theorem lit_fuel {k : PW} : (wLit k).r.fuel = k.r.fuel := by unfold wLit; rw [ip_fuel, push_fuel, fetch_fuel]
theorem two_fuel {k : PW} : (wTwoTo k).r.fuel = k.r.fuel := by unfold wTwoTo; rw [rpush_fuel, rpush_fuel, pop_fuel, pop_fuel]
theorem do_fuel {k : PW} : (wDo k).r.fuel = k.r.fuel := two_fuel
theorem from_fuel {k : PW} : (wTwoFrom k).r.fuel = k.r.fuel := by unfold wTwoFrom; rw [push_fuel, push_fuel, rpop_fuel, rpop_fuel]
theorem qdo_fuel {k : PW} : (wQDo k).r.fuel = k.r.fuel := by
 unfold wQDo; exact ite_fuel (by rw [skip_fuel, pop_fuel, pop_fuel]) (by rw [do_fuel, ip_fuel, push_fuel, push_fuel, pop_fuel, pop_fuel])
theorem loop_fuel {k : PW} {n : Int} : (wLoop k n).r.fuel = k.r.fuel := by
 unfold wLoop; exact ite_fuel (by rw [skip_fuel]; exact ite_fuel (by rw [rpop_fuel, rpop_fuel, deep_fuel, deep_fuel]) (by rw [rpush_fuel, rpop_fuel, deep_fuel, deep_fuel])) (by rw [deep_fuel, deep_fuel])
theorem caught_fuel {k : PW} : (wCaught k).r.fuel = k.r.fuel := by unfold wCaught; exact ite_fuel pOk_fuel (by rw [push_fuel])
theorem str_fuel {k : PW} : (wStr k).r.fuel = k.r.fuel := by unfold wStr; rw [ip_fuel, push_fuel, push_fuel, pOk_fuel, fetch_fuel]
theorem catch_fuel {k : PW} : (wCatch k).r.fuel = k.r.fuel := by unfold wCatch; rw [next_fuel]; show (ite _ _ _ : PW).r.fuel = _; exact ite_fuel (by rw [pOk_fuel, pop_fuel]) pop_fuel
theorem machine_fuel {k : PW} {b : Int} : (wMachine k b).r.fuel = k.r.fuel := by
 have h : ∀ (c : Bool) (x : PW), (if c then pOk x x.r.vm (-24) else x).r.fuel = x.r.fuel := fun c x => ite_fuel pOk_fuel rfl
 unfold wMachine; dsimp only; exact ite_fuel (by rw [fetch_fuel, h, fetch_fuel, fetch_fuel]) (by rw [next_fuel, fetch_fuel, h, fetch_fuel, fetch_fuel])
theorem control_fuel {k : PW} {name : Str} : (wControl k name).r.fuel = k.r.fuel := by
 unfold wControl wMore
 refine ite_fuel (by rw [exit_fuel, does_fuel]) (ite_fuel exit_fuel (ite_fuel lit_fuel (ite_fuel skip_fuel (ite_fuel (by rw [skip_fuel, pop_fuel]) (ite_fuel qdo_fuel (ite_fuel do_fuel (ite_fuel loop_fuel (ite_fuel (by rw [loop_fuel, pop_fuel]) (ite_fuel rfl ?_)))))))))
 refine ite_fuel caught_fuel (ite_fuel str_fuel (ite_fuel (by rw [next_fuel, pop_fuel]) (ite_fuel catch_fuel (ite_fuel (by rw [pOk_fuel, pop_fuel]) ?_))))
 refine ite_fuel (by rw [push_fuel, deep_fuel]) (ite_fuel (by rw [push_fuel, deep_fuel]) (ite_fuel (by rw [rpop_fuel, rpop_fuel, deep_fuel]) (ite_fuel (by rw [rpush_fuel, pop_fuel]) (ite_fuel (by rw [push_fuel, rpop_fuel]) (ite_fuel (by rw [push_fuel, deep_fuel]) (ite_fuel two_fuel (ite_fuel from_fuel rfl)))))))
theorem word_fuel {p : PW} {xt : Int} : (wWord p xt).r.fuel = p.r.fuel := by
 unfold wWord; dsimp only
 refine ite_fuel (ite_fuel (by rw [pOk_fuel, pOk_fuel]) (ite_fuel (by rw [ip_fuel, rpush_fuel, pOk_fuel]) (ite_fuel (by rw [push_fuel, pOk_fuel]) (ite_fuel (by rw [push_fuel, fetch_fuel, pOk_fuel]) (ite_fuel (by rw [ip_fuel, rpush_fuel, push_fuel, fetch_fuel, pOk_fuel]) (ite_fuel (by rw [machine_fuel, pOk_fuel]) (ite_fuel (by rw [pOk_fuel, pOk_fuel]) (by rw [control_fuel, pOk_fuel])))))))) pOk_fuel
theorem rel_word {p : PW} {d : VWk} (h : Rel p d) (k : p.err = .ok) (hd : (p.r.vm.d.length : Int) ≤ p.r.vm.conf.data) (xt : Int) : RelF (wWord p xt) (dDone d xt) := by
 have hv : d.v = p.r.vm := by rw [h.ok k]
 have hip : d.ip = p.r.ip := by rw [h.ok k]
 have hK := kind_ok (v := p.r.vm) (xt := xt)
 unfold wWord dDone
 dsimp only
 rw [hv]
 generalize vmKind p.r.vm xt = q at *
 by_cases he : q.2 = 0
 ·have e1 : pOk p p.r.vm q.2 = p := by unfold pOk; rw [k]; dsimp only; rw [if_pos he, ← k]
  have hk := hK he
  unfold kindOk at hk
  rw [e1, if_pos (isOk_iff.2 k), if_neg (show ¬ q.2 ≠ 0 from fun h => h he)]
  by_cases c1 : 300 ≤ q.1
  ·rw [if_pos c1, if_pos c1]; exact relF_of (rel_fail h)
  rw [if_neg c1, if_neg c1]
  by_cases c2 : q.1 = 256
  ·rw [if_pos c2, if_pos c2]; exact relF_of (rel_ip (rel_rpush h (fun _ => hip.symm)) (fun _ => rfl))
  rw [if_neg c2, if_neg c2]
  by_cases c3 : q.1 = 257
  ·rw [if_pos c3, if_pos c3]; exact relF_of (rel_push h (fun _ => rfl))
  rw [if_neg c3, if_neg c3]
  by_cases c4 : q.1 = 258
  ·rw [if_pos c4, if_pos c4]
   have f := rel_fetch h (a := W64 (xt + 16)) (a' := W64 (xt + 16)) (fun _ => rfl)
   exact relF_of (rel_push f.1 f.2)
  rw [if_neg c4, if_neg c4]
  by_cases c5 : q.1 = 259
  ·rw [if_pos c5, if_pos c5]
   have f := rel_fetch h (a := W64 (xt + 8)) (a' := W64 (xt + 8)) (fun _ => rfl)
   have g := rel_push f.1 (n := W64 (xt + 16)) (n' := W64 (xt + 16)) (fun _ => rfl)
   refine relF_of (rel_ip (rel_rpush g (fun k => by rw [g.ok k])) (fun k => f.2 (push_ok (rpush_ok k))))
  rw [if_neg c5, if_neg c5]
  by_cases c6 : q.1 = 260
  ·rw [if_pos c6, if_pos c6]; exact relF_of (rel_machine h xt)
  rw [if_neg c6, if_neg c6]
  by_cases c7 : 23 ≤ q.1
  ·rw [if_pos ⟨c7, by omega⟩, if_pos c7]
   exact relF_of (rel_ok h (fun _ => ⟨rfl, fun _ => rfl⟩))
  rw [if_neg (fun h => c7 h.1), if_neg c7]
  exact rel_ctl h k hd q.1.toNat (by omega)
 ·have e1 : (pOk p p.r.vm q.2).err = .bad q.2 := by unfold pOk; rw [k]; dsimp only; rw [if_neg he]
  rw [if_neg (by rw [e1]; simp [isOk]), if_pos (show q.2 ≠ 0 from he)]
  exact relF_of (rel_fail h)
def dTake (r : VRun) : VWk × Int :=
 if r.dof then (⟨r.vm, r.ip, 0, false, false, 0⟩, r.w) else
  (if (dFetch ⟨r.vm, r.ip, 0, false, false, 0⟩ r.ip).1.bad = 0 then dSkip (dFetch ⟨r.vm, r.ip, 0, false, false, 0⟩ r.ip).1 else (dFetch ⟨r.vm, r.ip, 0, false, false, 0⟩ r.ip).1, (dFetch ⟨r.vm, r.ip, 0, false, false, 0⟩ r.ip).2)
theorem rel_take (r : VRun) : RelN (wTake r) (dTake r) ∧ (wTake r).1.r = ⟨r.vm, (dTake r).1.ip, 0, false, W64 (r.fuel - 1)⟩ := by
 have h0 : Rel (wBegin r) ⟨r.vm, r.ip, 0, false, false, 0⟩ := rel_mk rfl rfl
 have f := rel_fetch h0 (a := r.ip) (a' := r.ip) (fun _ => rfl)
 unfold wTake dTake
 by_cases q : r.dof = true
 ·rw [if_pos q, if_pos q]; exact ⟨⟨h0, fun _ => rfl⟩, rfl⟩
 ·rw [if_neg q, if_neg q]
  rcases f.1.cases with k | ⟨e, k⟩
  ·have hb : (dFetch ⟨r.vm, r.ip, 0, false, false, 0⟩ r.ip).1.bad = 0 := by rw [f.1.ok k]
   rw [if_pos (isOk_iff.2 k), if_pos hb]
   refine ⟨⟨rel_skip f.1, fun _ => f.2 k⟩, ?_⟩
   dsimp only
   unfold dSkip wIp
   dsimp only
   rw [f.1.ok k, fetch_r]; rfl
  ·have hb := f.1.bad k
   rw [if_neg (by rw [k]; simp [isOk]), if_neg (by rw [hb.1]; exact hb.2)]
   refine ⟨⟨f.1, fun q => by rw [k] at q; cases q⟩, ?_⟩
   dsimp only
   rw [fetch_r]
   unfold dFetch dFail
   dsimp only
   split <;> rfl
theorem step_eq (r : VRun) (hd : (r.vm.d.length : Int) ≤ r.vm.conf.data) : wStep r = stepS r := by
 unfold wStep stepS
 by_cases hf : r.fuel < 1
 ·rw [if_pos hf, if_pos hf]
 rw [if_neg hf, if_neg hf]
 obtain ⟨⟨h1, h2⟩, h3⟩ := rel_take r
 have e0 : (if r.dof then ((⟨r.vm, r.ip, 0, false, false, 0⟩ : VWk), r.w) else (let a := dFetch ⟨r.vm, r.ip, 0, false, false, 0⟩ r.ip; (if a.1.bad = 0 then dSkip a.1 else a.1, a.2))) = dTake r := rfl
 dsimp only at e0 ⊢
 rw [e0]
 unfold wDone
 rcases h1.cases with k | ⟨e, k⟩
 ·have hb : (dTake r).1.bad = 0 := by rw [h1.ok k]
  rw [if_pos (isOk_iff.2 k), if_pos hb, ← h2 k, ← h3]
  have hw := rel_word h1 k (by rw [h3]; exact hd) (wTake r).2
  have hfu : (wWord (wTake r).1 (wTake r).2).r.fuel = W64 (r.fuel - 1) := by rw [word_fuel, h3]
  generalize wWord (wTake r).1 (wTake r).2 = P at *
  generalize dDone (dTake r).1 (wTake r).2 = D at *
  unfold RelF at hw
  cases kp : P.err with
  | ok =>
   rw [kp] at hw; simp only at hw
   rw [hw.ok kp]
   simp only [if_true]
   rw [← hfu]
  | halt =>
   rw [kp] at hw; simp only at hw
   rw [hw]
   simp only [if_true]
   rw [← hfu]
  | bad c =>
   rw [kp] at hw; simp only at hw
   have hb := hw.bad kp
   simp only [hb.1, if_neg hb.2]
 ·have hb := h1.bad k
  have hz : ¬ (dTake r).1.bad = 0 := by rw [hb.1]; exact hb.2
  rw [if_neg (by rw [k]; simp [isOk]), if_neg hz, if_neg hz, k, hb.1, h3]
end Go.Proofs.YtobhnjnffnbbkaaGreatDoor
namespace Go.Proofs.YtobhnjnffnbbkaaGreatDoor
open Go.RowKit
namespace V
section
variable {P : Program} {B : Nat → Nat → Prop} {n : Nat} {md : Region.Mode} {ops : Array Oper} {cl : Nat → Nat}
def YU (P : Program) (B : Nat → Nat → Prop) (ops : Array Oper) (o : Oper) (T : Nat → PV) (H : List Ob) (x : PV) (H' : List Ob) : Prop :=
 (wantedA ops T o = some true ∧ (Does P B o T H x H' ∨ DoesC P B o T H x H')) ∨ (wantedA ops T o = some false ∧ x = .val undef ∧ H' = H)
def FU (P : Program) (B : Nat → Nat → Prop) (ops : Array Oper) (c : Nat) (o : Oper) (T : Nat → PV) (H : List Ob) (x : PV) (H' : List Ob) : Prop :=
 match c with
 | 0 => H' = H ∧ ∀ H2, YU P B ops o T H2 x H2
 | 1 => H' = H ∧ ∀ E, YU P B ops o T (H ++ E) x (H ++ E)
 | 2 => ∃ E, H' = H ++ E
 | 3 => True
 | c + 4 => match Nat.beq (c % 2) 0 with
  | true => H' = H ∧ c / 2 < H.length ∧ ∀ H2 : List Ob, H2[c / 2]? = H[c / 2]? → YU P B ops o T H2 x H2
  | false => ∃ ob, H' = H.set (c / 2) ob
def rdB (c : Nat) : Bool := Nat.ble 4 c && Nat.beq (c % 2) 0
def wrB (c : Nat) : Bool := Nat.ble 4 c && Nat.beq (c % 2) 1
def blk (c : Nat) : Nat := (c - 4) / 2
def compatU (a b : Nat) : Bool := Nat.beq a 0 || Nat.beq b 0 || (Nat.beq a 1 && Nat.ble b 2) || (rdB a && (Nat.ble b 2 || rdB b || (wrB b && !Nat.beq (blk a) (blk b)))) || (wrB a && rdB b && !Nat.beq (blk a) (blk b))
theorem YU.congr {o : Oper} {T T' : Nat → PV} {H H' : List Ob} {x : PV} (h : ∀ t ∈ o.looksAt ops, T' t = T t) (y : YU P B ops o T H x H') : YU P B ops o T' H x H' := by
 have hw : wantedA ops T' o = wantedA ops T o := by
  unfold wantedA
  cases hg : o.guard with
  | none => rfl
  | some q =>
   obtain ⟨g, b⟩ := q
   simp only
   cases hd : (ops[g]?).bind (·.dst) with
   | none => rfl
   | some d => simp only; rw [h d (looks_guard hg hd)]
 have ho : ∀ z ∈ o.op.operands.toList, opv T' z = opv T z := fun z hz => opv_congr fun t ht => h t (looks_op (by rw [← ht]; exact hz))
 rcases y with ⟨h1, h2 | h2⟩ | ⟨h1, h2⟩
 ·exact .inl ⟨by rw [hw]; exact h1, .inl fun σ w a s k => h2 σ w a s (fun z hz => by rw [← ho z hz]; exact k z hz)⟩
 ·exact .inl ⟨by rw [hw]; exact h1, .inr fun σ w a s k => h2 σ w a s (fun z hz => by rw [← ho z hz]; exact k z hz)⟩
 ·exact .inr ⟨by rw [hw]; exact h1, h2⟩
theorem FU.congr {c : Nat} {o : Oper} {T T' : Nat → PV} {H H' : List Ob} {x : PV} (h : ∀ t ∈ o.looksAt ops, T' t = T t) (y : FU P B ops c o T H x H') : FU P B ops c o T' H x H' := by
 match c, y with
 | 0, y => exact ⟨y.1, fun H2 => (y.2 H2).congr h⟩
 | 1, y => exact ⟨y.1, fun E => (y.2 E).congr h⟩
 | 2, y => exact y
 | 3, _ => trivial
 | c + 4, y =>
  simp only [FU] at y ⊢
  split at y
  ·exact ⟨y.1, y.2.1, fun H2 h2 => (y.2.2 H2 h2).congr h⟩
  ·exact y
theorem FU.rd {c : Nat} {o : Oper} {T : Nat → PV} {H H' : List Ob} {x : PV} (hc : rdB c = true) (f : FU P B ops c o T H x H') : H' = H ∧ blk c < H.length ∧ ∀ H2 : List Ob, H2[blk c]? = H[blk c]? → YU P B ops o T H2 x H2 := by
 simp only [rdB, Bool.and_eq_true, Nat.ble_eq, Nat.beq_eq] at hc
 obtain ⟨d, rfl⟩ : ∃ d, c = d + 4 := ⟨c - 4, by omega⟩
 have hd : Nat.beq (d % 2) 0 = true := by rw [Nat.beq_eq]; omega
 simp only [FU, hd] at f
 exact f
theorem FU.of_rd {c : Nat} {o : Oper} {T : Nat → PV} {H H' : List Ob} {x : PV} (hc : rdB c = true) (f : H' = H ∧ blk c < H.length ∧ ∀ H2 : List Ob, H2[blk c]? = H[blk c]? → YU P B ops o T H2 x H2) : FU P B ops c o T H x H' := by
 simp only [rdB, Bool.and_eq_true, Nat.ble_eq, Nat.beq_eq] at hc
 obtain ⟨d, rfl⟩ : ∃ d, c = d + 4 := ⟨c - 4, by omega⟩
 have hd : Nat.beq (d % 2) 0 = true := by rw [Nat.beq_eq]; omega
 simp only [FU, hd]
 exact f
theorem FU.wr {c : Nat} {o : Oper} {T : Nat → PV} {H H' : List Ob} {x : PV} (hc : wrB c = true) (f : FU P B ops c o T H x H') : ∃ ob, H' = H.set (blk c) ob := by
 simp only [wrB, Bool.and_eq_true, Nat.ble_eq, Nat.beq_eq] at hc
 obtain ⟨d, rfl⟩ : ∃ d, c = d + 4 := ⟨c - 4, by omega⟩
 have hd : Nat.beq (d % 2) 0 = false := by rw [← Bool.not_eq_true, Nat.beq_eq]; omega
 simp only [FU, hd] at f
 exact f
theorem FU.of_wr {c : Nat} {o : Oper} {T : Nat → PV} {H H' : List Ob} {x : PV} (hc : wrB c = true) (f : ∃ ob, H' = H.set (blk c) ob) : FU P B ops c o T H x H' := by
 simp only [wrB, Bool.and_eq_true, Nat.ble_eq, Nat.beq_eq] at hc
 obtain ⟨d, rfl⟩ : ∃ d, c = d + 4 := ⟨c - 4, by omega⟩
 have hd : Nat.beq (d % 2) 0 = false := by rw [← Bool.not_eq_true, Nat.beq_eq]; omega
 simp only [FU, hd]
 exact f
def qU (P : Program) (B : Nat → Nat → Prop) (ops : Array Oper) (cl : Nat → Nat) (i : Nat) (K : (Nat → PV) → List Ob → Prop) (T : Nat → PV) (H : List Ob) : Prop :=
 match ops[i]? with
 | none => K T H
 | some o => ∃ x H', YU P B ops o T H x H' ∧ FU P B ops (cl i) o T H x H' ∧ K (updD o.dst x T) H'
def anyU (P : Program) (B : Nat → Nat → Prop) (md : Region.Mode) (ops : Array Oper) (cl : Nat → Nat) (Q : (Nat → PV) → List Ob → Prop) : Nat → Array Bool → (Nat → PV) → List Ob → Prop
 | 0, listed, T, H => Region.ready md ops listed = [] ∧ Q T H
 | fuel + 1, listed, T, H => (Region.ready md ops listed = [] → Q T H) ∧ ∀ i ∈ Region.ready md ops listed, qU P B ops cl i (anyU P B md ops cl Q fuel (listed.setIfInBounds i true)) T H
theorem anyU_sound (hall : dstsOk n ops = true) {Q' : Exit → Act → World → Prop} {Q : (Nat → PV) → List Ob → Prop} {H0 : List Ob} {σ0 : Nat → Option Nat} {w0 : World} (hQ : ∀ T H σ w a, Good B n T H σ w a → Step B H0 σ0 w0 H σ w → Q T H → Q' .normal a w) :
  ∀ (fuel : Nat) (listed : Array Bool) (T : Nat → PV) (H : List Ob) (σ : Nat → Option Nat) (w : World) (a : Act), Good B n T H σ w a → Step B H0 σ0 w0 H σ w → anyU P B md ops cl Q fuel listed T H → wpAny P md ops Q' fuel listed a w
 | 0, _, _, _, _, _, _, g, st, h => ⟨h.1, hQ _ _ _ _ _ g st h.2⟩
 | fuel + 1, listed, T, H, σ, w, a, g, st, h => by
  refine ⟨fun h0 => hQ _ _ _ _ _ g st (h.1 h0), fun i hi => ?_⟩
  have h1 := h.2 i hi
  unfold qU at h1
  unfold wpOp
  cases ho : ops[i]? with
  | none => simp only [ho] at h1 ⊢; exact anyU_sound hall hQ fuel _ T H σ w a g st h1
  | some o =>
   simp only [ho] at h1 ⊢
   obtain ⟨x, H', hy, _, hk⟩ := h1
   have hd : ∀ j, o.dst = some j → Nat.blt j n = true := fun j hj => dstsOk_spec hall i j (by rw [ho]; exact hj)
   have hgd : ∀ q, wantedA ops T o = some q → Region.wanted o (yielded ops a.tmps) = q := fun q hq => guard_ok (dstsOk_spec hall) g hq
   rcases hy with ⟨hw, hdo | hdo⟩ | ⟨hw, rfl, rfl⟩
   ·rw [if_pos (hgd true hw)]
    refine .inl ?_
    obtain ⟨v, w', σ', h2, h3, h4, h5⟩ := hdo σ w a g.sim (fun y _ => rep_opv g.rep y)
    have k := anyU_sound hall hQ fuel _ _ _ σ' w' _ (good_put hd g h3 h4 h5) (st.trans h5) hk
    unfold Oper.wp
    rcases h2 with h2 | ⟨h2, rfl⟩
    ·rw [h2]; exact k
    ·rw [h2]; exact k
   ·rw [if_pos (hgd true hw)]
    refine .inl ?_
    obtain ⟨f, args, h2, hc⟩ := hdo σ w a g.sim (fun y _ => rep_opv g.rep y)
    unfold Oper.wp
    rw [h2]
    refine Calls.mono hc ?_
    rintro e w' ⟨v, σ', rfl, h3, h4, h5⟩
    exact anyU_sound hall hQ fuel _ _ _ σ' w' _ (good_put hd g h3 h4 h5) (st.trans h5) hk
   ·rw [if_neg (by rw [hgd false hw]; simp)]
    exact anyU_sound hall hQ fuel _ _ _ σ w _ (good_put hd g (rep_val _ _) g.sim (Step.refl _ _ _ _)) st hk
theorem swapU {ci cj : Nat} {oi oj : Oper} {T : Nat → PV} {H Hi Hj : List Ob} {x y : PV} (hc : compatU ci cj = true) (h1 : ∀ t ∈ oj.looksAt ops, updD oi.dst x T t = T t) (h2 : ∀ t ∈ oi.looksAt ops, updD oj.dst y T t = T t)
  (yi : YU P B ops oi T H x Hi) (fi : FU P B ops ci oi T H x Hi) (yj : YU P B ops oj (updD oi.dst x T) Hi y Hj) (fj : FU P B ops cj oj (updD oi.dst x T) Hi y Hj) :
  ∃ H', YU P B ops oj T H y H' ∧ FU P B ops cj oj T H y H' ∧ YU P B ops oi (updD oj.dst y T) H' x Hj ∧ FU P B ops ci oi (updD oj.dst y T) H' x Hj := by
 have b1 : ∀ t ∈ oj.looksAt ops, T t = updD oi.dst x T t := fun t ht => (h1 t ht).symm
 have yj' := yj.congr b1
 have fj' := fj.congr b1
 simp only [compatU, Bool.or_eq_true, Bool.and_eq_true, Nat.beq_eq, Nat.ble_eq] at hc
 rcases hc with (((rfl | rfl) | ⟨rfl, hj⟩) | ⟨hr, hj⟩) | ⟨⟨hw, hr⟩, hne⟩
 ·obtain ⟨rfl, hl⟩ := fi
  exact ⟨Hj, yj', fj', (hl Hj).congr h2, rfl, fun H2 => (hl H2).congr h2⟩
 ·obtain ⟨rfl, hl⟩ := fj'
  exact ⟨H, hl H, ⟨rfl, hl⟩, yi.congr h2, fi.congr h2⟩
 ·obtain ⟨rfl, hl⟩ := fi
  have : ∃ E, Hj = Hi ++ E := by
   match cj, hj, fj' with
   | 0, _, fj' => exact ⟨[], by rw [fj'.1]; simp⟩
   | 1, _, fj' => exact ⟨[], by rw [fj'.1]; simp⟩
   | 2, _, fj' => exact fj'
   | c + 3, hj, _ => omega
  obtain ⟨E, rfl⟩ := this
  exact ⟨Hi ++ E, yj', fj', (hl E).congr h2, rfl, fun E2 => by rw [List.append_assoc]; exact (hl (E ++ E2)).congr h2⟩
 ·obtain ⟨rfl, hlt, hl⟩ := fi.rd hr
  have key : Hj[blk ci]? = Hi[blk ci]? ∧ blk ci < Hj.length := by
   rcases hj with (hj | hj) | ⟨hj, hne⟩
   ·have : ∃ E, Hj = Hi ++ E := by
     match cj, hj, fj' with
     | 0, _, fj' => exact ⟨[], by rw [fj'.1]; simp⟩
     | 1, _, fj' => exact ⟨[], by rw [fj'.1]; simp⟩
     | 2, _, fj' => exact fj'
     | c + 3, hj, _ => omega
    obtain ⟨E, rfl⟩ := this
    exact ⟨List.getElem?_append_left hlt, by simp; omega⟩
   ·obtain ⟨rfl, _⟩ := fj'.rd hj
    exact ⟨rfl, hlt⟩
   ·obtain ⟨ob, rfl⟩ := fj'.wr hj
    refine ⟨List.getElem?_set_ne ?_, by simpa using hlt⟩
    intro h; rw [h] at hne; simp at hne
  exact ⟨Hj, yj', fj', (hl Hj key.1).congr h2, FU.of_rd hr ⟨rfl, key.2, fun H2 h3 => (hl H2 (h3.trans key.1)).congr h2⟩⟩
 ·obtain ⟨ob, rfl⟩ := fi.wr hw
  obtain ⟨rfl, hlt, hl⟩ := fj'.rd hr
  have hk : H[blk cj]? = (H.set (blk ci) ob)[blk cj]? := by
   rw [List.getElem?_set_ne]
   intro h; rw [h] at hne; simp at hne
  exact ⟨H, hl H hk, FU.of_rd hr ⟨rfl, by simpa using hlt, fun H2 h3 => hl H2 (h3.trans hk)⟩, yi.congr h2, fi.congr h2⟩
theorem anyU_first {Q : (Nat → PV) → List Ob → Prop} {i : Nat} {oi : Oper} {x : PV} (hi : ops[i]? = some oi) : ∀ (fuel : Nat) (listed : Array Bool) (T : Nat → PV) (H Hi : List Ob),
  (∀ j oj, ops[j]? = some oj → j ≠ i → listed.getD j true = false → (∀ e ∈ oj.after, Region.binds md e = true → e.on ≠ i) → oi.apart ops oj = true ∧ compatU (cl i) (cl j) = true) →
  i ∈ Region.ready md ops listed → YU P B ops oi T H x Hi → FU P B ops (cl i) oi T H x Hi → anyU P B md ops cl Q fuel (listed.setIfInBounds i true) (updD oi.dst x T) Hi → anyU P B md ops cl Q (fuel + 1) listed T H := by
 intro fuel
 have self : ∀ (fuel : Nat) (listed : Array Bool) (T : Nat → PV) (H Hi : List Ob), YU P B ops oi T H x Hi → FU P B ops (cl i) oi T H x Hi → anyU P B md ops cl Q fuel (listed.setIfInBounds i true) (updD oi.dst x T) Hi → qU P B ops cl i (anyU P B md ops cl Q fuel (listed.setIfInBounds i true)) T H := by
  intro fuel listed T H Hi hy hf h
  unfold qU
  simp only [hi]
  exact ⟨x, Hi, hy, hf, h⟩
 induction fuel with
 | zero =>
  intro listed T H Hi _ hr hy hf h
  refine ⟨fun h0 => (by rw [h0] at hr; cases hr), fun j hj => ?_⟩
  by_cases hji : j = i
  ·subst hji; exact self 0 listed T H Hi hy hf h
  ·have := ready_mono hj hji
   rw [h.1] at this
   cases this
 | succ fuel ih =>
  intro listed T H Hi hfree hr hy hf h
  refine ⟨fun h0 => (by rw [h0] at hr; cases hr), fun j hj => ?_⟩
  by_cases hji : j = i
  ·subst hji; exact self (fuel + 1) listed T H Hi hy hf h
  ·have h1 := h.2 j (ready_mono hj hji)
   obtain ⟨hjun, oj, hoj, hall⟩ := mem_ready.1 hj
   have hnot : ∀ e ∈ oj.after, Region.binds md e = true → e.on ≠ i := fun e he hb heq => by
    have a1 := hall e he hb
    have a0 := (mem_ready.1 hr).1
    rw [heq] at a1
    rcases Nat.lt_or_ge i listed.size with h' | h'
    ·simp [h'] at a0 a1; rw [a0] at a1; cases a1
    ·simp [Array.getElem?_eq_none h'] at a1
   obtain ⟨hap, hcp⟩ := hfree j oj hoj hji hjun hnot
   obtain ⟨l1, l2, l3⟩ := apart_looks hap
   unfold qU at h1 ⊢
   simp only [hoj] at h1 ⊢
   obtain ⟨y, Hj, hyj, hfj, hk⟩ := h1
   obtain ⟨H', k1, k2, k3, k4⟩ := swapU hcp (fun t ht => updD_look (l1 t ht)) (fun t ht => updD_look (l2 t ht)) hy hf hyj hfj
   refine ⟨y, H', k1, k2, ih (listed.setIfInBounds j true) _ H' Hj (fun k ok hk hki hun hno => ?_) (ready_mono hr (Ne.symm hji)) k3 k4 ?_⟩
   ·refine hfree k ok hk hki ?_ hno
    by_cases hjk : j = k
    ·subst hjk; exact hjun
    ·rw [getD_set_ne true hjk] at hun; exact hun
   ·rw [Array.setIfInBounds_comm _ _ hji, updD_comm _ _ _ l3]
    exact hk
def freeU (md : Region.Mode) (ops : Array Oper) (cl : Nat → Nat) (listed : Array Bool) (i : Nat) (oi : Oper) : Bool :=
 ops.toList.zipIdx.all fun q => Nat.beq q.2 i || listed.getD q.2 true || (q.1.after.any fun e => Region.binds md e && Nat.beq e.on i) || (oi.apart ops q.1 && compatU (cl i) (cl q.2))
def lexU (md : Region.Mode) (ops : Array Oper) (cl : Nat → Nat) : List Nat → Array Bool → Bool
 | [], listed => (Region.ready md ops listed).isEmpty
 | i :: l, listed => (Region.ready md ops listed).contains i && (match ops[i]? with | some oi => freeU md ops cl listed i oi | none => false) && lexU md ops cl l (listed.setIfInBounds i true)
theorem freeU_spec {listed : Array Bool} {i : Nat} {oi : Oper} (h : freeU md ops cl listed i oi = true) : ∀ j oj, ops[j]? = some oj → j ≠ i → listed.getD j true = false → (∀ e ∈ oj.after, Region.binds md e = true → e.on ≠ i) → oi.apart ops oj = true ∧ compatU (cl i) (cl j) = true := by
 intro j oj hj hji hun hno
 have h1 := List.all_eq_true.1 h (oj, j) (zip_get (by rw [Array.getElem?_toList]; exact hj))
 simp only [Bool.or_eq_true, Bool.and_eq_true, Nat.beq_eq] at h1
 rcases h1 with ((h1 | h1) | h1) | h1
 ·exact absurd h1 hji
 ·rw [hun] at h1; cases h1
 ·obtain ⟨e, he, h3⟩ := Array.any_eq_true'.1 h1
  simp only [Bool.and_eq_true, Nat.beq_eq] at h3
  exact absurd h3.2 (hno e he h3.1)
 ·exact h1
def WU (P : Program) (B : Nat → Nat → Prop) (n : Nat) (ops : Array Oper) (cl : Nat → Nat) : List Nat → (Nat → PV) → List Ob → ((Nat → PV) → List Ob → Prop) → Prop
 | [], T, H, K => K T H
 | i :: l, T, H, K => ∃ o, ops[i]? = some o ∧ ∃ x H', YU P B ops o T H x H' ∧ FU P B ops (cl i) o T H x H' ∧ WU P B n ops cl l (updD o.dst x T) H' K
theorem anyU_lex {Q : (Nat → PV) → List Ob → Prop} : ∀ (l : List Nat) (listed : Array Bool) (T : Nat → PV) (H : List Ob), lexU md ops cl l listed = true → WU P B n ops cl l T H Q → anyU P B md ops cl Q l.length listed T H
 | [], listed, T, H, hB, h => ⟨by simpa [lexU] using hB, h⟩
 | i :: l, listed, T, H, hB, h => by
  simp only [lexU, Bool.and_eq_true] at hB
  obtain ⟨⟨hr, hf⟩, hB'⟩ := hB
  obtain ⟨o, ho, x, H', hy, hfu, hK⟩ := h
  rw [ho] at hf
  exact anyU_first ho l.length listed T H H' (freeU_spec hf) (by simpa using hr) hy hfu (anyU_lex l _ _ _ hB' hK)
def clOf (l : List Nat) (i : Nat) : Nat := l.getD i 3
def lexUB (md : Region.Mode) (ops : Array Oper) (cl : List Nat) (ord : List Nat) : Bool := Nat.beq ord.length ops.size && lexU md ops (clOf cl) ord (Array.replicate ops.size false)
variable {T : Nat → PV} {H : List Ob} {Q : Exit → (Nat → PV) → List Ob → Prop}
theorem W_drawU {id : Nat} (cl ord : List Nat) (hm : P.follows .mixedOrders = true) (hall : dstsOk n ops = true) (hB : lexUB .any ops cl ord = true) (h : WU P B n ops (clOf cl) ord T H (fun T' H' => Q .normal T' H')) : W P B n (.region id ops true) T H Q := by
 intro σ w a g
 simp only [lexUB, Bool.and_eq_true, Nat.beq_eq] at hB
 refine wp_region_any hm ?_
 have hd : Grows w { w with drawn := w.drawn + 1 } := Grows.drew w
 obtain ⟨s', st⟩ := grow_sim g.sim hd
 have hA := anyU_lex (P := P) (B := B) (n := n) (md := .any) ord (Array.replicate ops.size false) T H hB.2 h
 rw [hB.1] at hA
 exact anyU_sound (P := P) (md := .any) hall (H0 := H) (σ0 := σ) (w0 := w) (Q' := Post B n H σ w Q) (fun T' H' σ' w' a' g' st' hq => ⟨T', H', σ', hq, g', st'⟩) ops.size _ T H σ _ a ⟨s', fun i => (g.rep i).mono st.le, g.size, g.defers⟩ st hA
variable {o : Oper} {l : List Nat} {i : Nat} {K : (Nat → PV) → List Ob → Prop} {x : PV} {H' : List Ob} {G : List (Nat × TD)} {p : Prop} {d : Option Tmp}
theorem WU_nil (h : K T H) : WU P B n ops cl [] T H K := h
theorem WU_does0 (h0 : ops[i]? = some o) (hc : cl i = 0) (hd : nfD n o.dst = some d) (hw : wantedA ops T o = some true) (h : ∀ H2, Does P B o T H2 x H2) (k : WU P B n ops cl l (updD d x T) H K) : WU P B n ops cl (i :: l) T H K :=
 ⟨o, h0, x, H, .inl ⟨hw, .inl (h H)⟩, by rw [hc]; exact ⟨rfl, fun H2 => .inl ⟨hw, .inl (h H2)⟩⟩, (nfD_eq hd).1 ▸ k⟩
theorem Xc (h0 : ops[i]? = some o) (hc : cl i = 0) (hd : nfD n o.dst = some d) (hw : wantedA ops T o = some true) (h : ∀ H2, DoesC P B o T H2 x H2) (k : WU P B n ops cl l (updD d x T) H K) : WU P B n ops cl (i :: l) T H K :=
 ⟨o, h0, x, H, .inl ⟨hw, .inr (h H)⟩, by rw [hc]; exact ⟨rfl, fun H2 => .inl ⟨hw, .inr (h H2)⟩⟩, (nfD_eq hd).1 ▸ k⟩
theorem Xe (hG : tysOk P G = true) (h0 : ops[i]? = some o) (hc : cl i = 0) (hd : nfD n o.dst = some d) (hw : wantedA ops T o = some true) (h : ∀ H2, evS G T H2 o.type o.op = some (x, H2, p)) (hp : p) (k : WU P B n ops cl l (updD d x T) H K) : WU P B n ops cl (i :: l) T H K :=
 WU_does0 h0 hc hd hw (fun H2 => evOp_ok hG rfl (evS_ok (h H2)) hp) k
theorem Xi {y : PV} (hG : tysOk P G = true) (h0 : ops[i]? = some o) (hc : cl i = 0) (hd : nfD n o.dst = some d) (hw : wantedA ops T o = some true) (h : ∀ H2, evS G T H2 o.type o.op = some (x, H2, p)) (hp : p) (hi : Imp x y) (k : WU P B n ops cl l (updD d y T) H K) : WU P B n ops cl (i :: l) T H K :=
 WU_does0 h0 hc hd hw (fun H2 => (evOp_ok hG rfl (evS_ok (h H2)) hp).imp hi) k
theorem WU_skip (h0 : ops[i]? = some o) (hc : Nat.ble (cl i) 3 = true) (hd : nfD n o.dst = some d) (hw : wantedA ops T o = some false) (k : WU P B n ops cl l (updD d (.val undef) T) H K) : WU P B n ops cl (i :: l) T H K := by
 refine ⟨o, h0, _, H, .inr ⟨hw, rfl, rfl⟩, ?_, (nfD_eq hd).1 ▸ k⟩
 generalize cl i = q at hc
 match q, hc with
 | 0, _ => exact ⟨rfl, fun H2 => .inr ⟨hw, rfl, rfl⟩⟩
 | 1, _ => exact ⟨rfl, fun E => .inr ⟨hw, rfl, rfl⟩⟩
 | 2, _ => exact ⟨[], by simp⟩
 | 3, _ => trivial
 | c + 4, hc => rw [Nat.ble_eq] at hc; omega
theorem Xf (hG : tysOk P G = true) (h0 : ops[i]? = some o) (hc : cl i = 1) (hd : nfD n o.dst = some d) (hw : wantedA ops T o = some true) (h : ∀ E, evS G T (H ++ E) o.type o.op = some (x, H ++ E, p)) (hp : p) (k : WU P B n ops cl l (updD d x T) H K) : WU P B n ops cl (i :: l) T H K :=
 ⟨o, h0, x, H, .inl ⟨hw, .inl (by have := evOp_ok (P := P) (B := B) (o := o) hG rfl (evS_ok (h [])) hp; rwa [List.append_nil] at this)⟩, by rw [hc]; exact ⟨rfl, fun E => .inl ⟨hw, .inl (evOp_ok hG rfl (evS_ok (h E)) hp)⟩⟩, (nfD_eq hd).1 ▸ k⟩
theorem WU_ev2 {E : List Ob} (hG : tysOk P G = true) (h0 : ops[i]? = some o) (hc : cl i = 2) (hd : nfD n o.dst = some d) (hw : wantedA ops T o = some true) (h : evN G T H o.type o.op = some (x, H', p)) (hp : p) (hH : H' = H ++ E) (k : WU P B n ops cl l (updD d x T) H' K) : WU P B n ops cl (i :: l) T H K :=
 ⟨o, h0, x, H', .inl ⟨hw, .inl (evOp_ok hG rfl (evN_ok h) hp)⟩, by rw [hc]; exact ⟨E, hH⟩, (nfD_eq hd).1 ▸ k⟩
theorem WU_ev3 (hG : tysOk P G = true) (h0 : ops[i]? = some o) (hc : cl i = 3) (hd : nfD n o.dst = some d) (hw : wantedA ops T o = some true) (h : evN G T H o.type o.op = some (x, H', p)) (hp : p) (k : WU P B n ops cl l (updD d x T) H' K) : WU P B n ops cl (i :: l) T H K :=
 ⟨o, h0, x, H', .inl ⟨hw, .inl (evOp_ok hG rfl (evN_ok h) hp)⟩, by rw [hc]; trivial, (nfD_eq hd).1 ▸ k⟩
theorem WU_does3 (h0 : ops[i]? = some o) (hc : cl i = 3) (hd : nfD n o.dst = some d) (hw : wantedA ops T o = some true) (h : Does P B o T H x H') (k : WU P B n ops cl l (updD d x T) H' K) : WU P B n ops cl (i :: l) T H K :=
 ⟨o, h0, x, H', .inl ⟨hw, .inl h⟩, by rw [hc]; trivial, (nfD_eq hd).1 ▸ k⟩
theorem WU_call3 (h0 : ops[i]? = some o) (hc : cl i = 3) (hd : nfD n o.dst = some d) (hw : wantedA ops T o = some true) (h : DoesC P B o T H x H') (k : WU P B n ops cl l (updD d x T) H' K) : WU P B n ops cl (i :: l) T H K :=
 ⟨o, h0, x, H', .inl ⟨hw, .inr h⟩, by rw [hc]; trivial, (nfD_eq hd).1 ▸ k⟩
theorem WU_split (d : Nat) {b : Bool} (hT : T d = .val (.bool b)) (h1 : b = true → WU P B n ops cl l (upd d (.val (.bool true)) T) H K) (h2 : b = false → WU P B n ops cl l (upd d (.val (.bool false)) T) H K) : WU P B n ops cl l T H K := by
 have e : ∀ q, b = q → upd d (.val (.bool q)) T = T := by
  rintro q rfl
  funext i
  by_cases hi : i = d
  ·subst hi; rw [upd_same, hT]
  ·rw [upd_other _ _ _ _ hi]
 cases hb : b with
 | true => have := h1 hb; rwa [e true hb] at this
 | false => have := h2 hb; rwa [e false hb] at this
theorem Xa (d : Nat) {x y : PV} (hT : T d = x) (hxy : x = y) (h1 : WU P B n ops cl l (upd d y T) H K) : WU P B n ops cl l T H K := by
 have e : upd d y T = T := by
  funext i
  by_cases hi : i = d
  ·subst hi; rw [upd_same, hT, hxy]
  ·rw [upd_other _ _ _ _ hi]
 rwa [e] at h1
theorem WU_ob {H' : List Ob} (hH : H' = H) (h1 : WU P B n ops cl l T H' K) : WU P B n ops cl l T H K := by subst hH; exact h1
theorem WU_rd (b : Nat) {ob : Ob} (h0 : ops[i]? = some o) (hc : cl i = 4 + 2 * b) (hd : nfD n o.dst = some d) (hw : wantedA ops T o = some true) (hb : H[b]? = some ob) (h : ∀ H2 : List Ob, H2[b]? = some ob → Does P B o T H2 x H2) (k : WU P B n ops cl l (updD d x T) H K) : WU P B n ops cl (i :: l) T H K := by
 have hk : blk (4 + 2 * b) = b := by unfold blk; omega
 exact ⟨o, h0, x, H, .inl ⟨hw, .inl (h H hb)⟩, by rw [hc]; exact FU.of_rd (by simp only [rdB, Bool.and_eq_true, Nat.ble_eq, Nat.beq_eq]; omega) ⟨rfl, by rw [hk]; exact lt_of_get hb, fun H2 h2 => .inl ⟨hw, .inl (h H2 (by rw [hk, hb] at h2; exact h2))⟩⟩, (nfD_eq hd).1 ▸ k⟩
theorem WU_wr (b : Nat) {ob : Ob} (hG : tysOk P G = true) (h0 : ops[i]? = some o) (hc : cl i = 5 + 2 * b) (hd : nfD n o.dst = some d) (hw : wantedA ops T o = some true) (h : evN G T H o.type o.op = some (x, H', p)) (hp : p) (hH : H' = H.set b ob) (k : WU P B n ops cl l (updD d x T) H' K) : WU P B n ops cl (i :: l) T H K := by
 have hk : blk (5 + 2 * b) = b := by unfold blk; omega
 exact ⟨o, h0, x, H', .inl ⟨hw, .inl (evOp_ok hG rfl (evN_ok h) hp)⟩, by rw [hc]; exact FU.of_wr (by simp only [wrB, Bool.and_eq_true, Nat.ble_eq, Nat.beq_eq]; omega) ⟨ob, by rw [hk]; exact hH⟩, (nfD_eq hd).1 ▸ k⟩
theorem WU_wrC (b : Nat) {ob : Ob} (h0 : ops[i]? = some o) (hc : cl i = 5 + 2 * b) (hd : nfD n o.dst = some d) (hw : wantedA ops T o = some true) (h : DoesC P B o T H x H') (hH : H' = H.set b ob) (k : WU P B n ops cl l (updD d x T) H' K) : WU P B n ops cl (i :: l) T H K := by
 have hk : blk (5 + 2 * b) = b := by unfold blk; omega
 exact ⟨o, h0, x, H', .inl ⟨hw, .inr h⟩, by rw [hc]; exact FU.of_wr (by simp only [wrB, Bool.and_eq_true, Nat.ble_eq, Nat.beq_eq]; omega) ⟨ob, by rw [hk]; exact hH⟩, (nfD_eq hd).1 ▸ k⟩
end
section
variable {B : Nat → Nat → Prop} {n : Nat} {all ops : Array Oper} {cl : Nat → Nat} {i : Nat} {li : List Nat} {T : Nat → PV} {H H' : List Ob} {K : (Nat → PV) → List Ob → Prop} {Q : Exit → (Nat → PV) → List Ob → Prop} {l : List Oper} {o : Oper} {x : PV} {d : Option Tmp} {p : Prop}
theorem z3 (k : WU Tryz.prog B n ops cl li (updD d x T) H K) (h0 : ops[i]? = some o := by exact rfl) (hc : cl i = 0 := by exact rfl) (hd : nfD n o.dst = some d := by exact rfl) (hw : wantedA ops T o = some true := by exact rfl) (h : ∀ H2, evS tys T H2 o.type o.op = some (x, H2, True) := by exact fun _ => rfl) : WU Tryz.prog B n ops cl (i :: li) T H K :=
 Xe tG h0 hc hd hw h trivial k
theorem z4 (k : WU Tryz.prog B n ops cl li (updD d x T) H K) (h0 : ops[i]? = some o := by exact rfl) (hc : cl i = 0 := by exact rfl) (hd : nfD n o.dst = some d := by exact rfl) (hw : wantedA ops T o = some true := by exact rfl) (h : ∀ H2, evS tys T H2 o.type o.op = some (x, H2, p) := by exact fun _ => rfl) (q : p) : WU Tryz.prog B n ops cl (i :: li) T H K :=
 Xe tG h0 hc hd hw h q k
theorem z5 (k : WU Tryz.prog B n ops cl li (updD d x T) H K) (h0 : ops[i]? = some o := by exact rfl) (hc : cl i = 1 := by exact rfl) (hd : nfD n o.dst = some d := by exact rfl) (hw : wantedA ops T o = some true := by exact rfl) (h : ∀ E, evS tys T (H ++ E) o.type o.op = some (x, H ++ E, True) := by exact fun _ => rfl) : WU Tryz.prog B n ops cl (i :: li) T H K :=
 Xf tG h0 hc hd hw h trivial k
theorem z7 (k : WU Tryz.prog B n ops cl li (updD d (.val undef) T) H K) (h0 : ops[i]? = some o := by exact rfl) (hc : Nat.ble (cl i) 3 = true := by exact rfl) (hd : nfD n o.dst = some d := by exact rfl) (hw : wantedA ops T o = some false := by exact rfl) : WU Tryz.prog B n ops cl (i :: li) T H K :=
 WU_skip h0 hc hd hw k
end
end V
end Go.Proofs.YtobhnjnffnbbkaaGreatDoor
namespace Go.Proofs.YtobhnjnffnbbkaaGreatDoor
open Go.RowKit
section
variable {P : Program} {B : Nat → Nat → Prop} {n : Nat} {all : Array Oper} {T : Nat → PV} {H : List Ob} {o : Oper}
theorem does_loadG {t g j : Nat} {td : TD} {u : Value} (f : TyFacts P t td) (ha : td.agg = false) (ho : o.op = .load t (.global g)) (hj : H[j]? = some (.glob g u)) : Does P B o T H (.val u) H :=
 does_pure fun σ w a s h => by
  obtain ⟨q1, _⟩ := s.holds j _ hj
  obtain ⟨v, h2, h3⟩ := run_loadVar_row (P := P) (w := w) (b := g) (off := 0) (k := 0) (x := .val u) f (c := cx B H σ w) (repL_cons.2 ⟨rep_val _ u, repL_nil.2 rfl⟩) (fun i u' hi => by
   match i, hi with
   | 0, hi => cases hi; exact q1
   | i + 1, hi => simp at hi) (by unfold loadPV; rw [ha]; rfl)
  have h1 : a.eval (.global g) = .pointer (some ⟨g, 0, none⟩) := rfl
  exact ⟨v, by simp [execOp, ho, h1, Instr.loadAt, Instr.sureAddr, h2], h3⟩
theorem does_mkI {t : TypeId} {x : Operand} {v : PV} (ho : o.op = .makeInterface t x) (hc : P.concrete t = true) (hx : opv T x = v) : Does P B o T H (.ifc t v) H :=
 does_pure fun σ w a s h => by
  have h1 := h x (by simp [ho, Op.operands])
  rw [hx] at h1
  exact ⟨.iface t (a.eval x), by simp [execOp, ho, run_makeInterface w t (a.eval x) hc], by unfold Rep; exact ⟨_, rfl, h1⟩⟩
def isNilI : PV → Option Bool
 | .val .nilIface => some true
 | .val (.iface _ _) => some false
 | .ifc _ _ => some false
 | _ => none
theorem nilI_rep {c : Cx} {x : PV} {v : Value} {b : Bool} (h : isNilI x = some b) (k : Rep c x v) : (v = .nilIface ∧ b = true) ∨ ∃ t u, v = .iface t u ∧ b = false := by
 unfold isNilI at h
 split at h
 ·unfold Rep at k; cases h; exact .inl ⟨k, rfl⟩
 ·unfold Rep at k; cases h; exact .inr ⟨_, _, k, rfl⟩
 ·unfold Rep at k; obtain ⟨u, k1, _⟩ := k; cases h; exact .inr ⟨_, u, k1, rfl⟩
 ·cases h
theorem does_ifnil {t yt : TypeId} {x : Operand} {y : PV} {b : Bool} (ho : o.op = .binOp .eql t x (.const .nilIface) yt) (ht : P.isIface t = true) (hx : opv T x = y) (hy : isNilI y = some b) : Does P B o T H (.val (.bool b)) H :=
 does_pure fun σ w a s h => by
  have h1 := h x (by simp [ho, Op.operands])
  rw [hx] at h1
  have hc : a.eval (.const .nilIface) = .nilIface := rfl
  rcases nilI_rep hy h1 with ⟨h2, rfl⟩ | ⟨u, z, h2, rfl⟩
  ·exact ⟨_, by simp [execOp, ho, h2, hc, eqGuard, run_eql_nil_nil_at w t ht], rep_val _ _⟩
  ·exact ⟨_, by simp [execOp, ho, h2, hc, eqGuard, run_eql_iface_nil w t ht], rep_val _ _⟩
theorem does_ifnot {t yt : TypeId} {x : Operand} {y : PV} {b : Bool} (ho : o.op = .binOp .neq t x (.const .nilIface) yt) (ht : P.isIface t = true) (hx : opv T x = y) (hy : isNilI y = some b) : Does P B o T H (.val (.bool (!b))) H :=
 does_pure fun σ w a s h => by
  have h1 := h x (by simp [ho, Op.operands])
  rw [hx] at h1
  have hc : a.eval (.const .nilIface) = .nilIface := rfl
  rcases nilI_rep hy h1 with ⟨h2, rfl⟩ | ⟨u, z, h2, rfl⟩
  ·exact ⟨_, by simp [execOp, ho, h2, hc, eqGuard, run_neq_nil_nil_at w t ht], rep_val _ _⟩
  ·exact ⟨_, by simp [execOp, ho, h2, hc, eqGuard, run_neq_iface_nil w t ht], rep_val _ _⟩
theorem WO_storeB {n : Nat} {all : Array Oper} {K : (Nat → PV) → List Ob → Prop} {l : List Oper} {dd : Option Tmp} {H' : List Ob} {t : TypeId} {d : TD} {x y : Operand} {i off : Nat} {xs ys zs : List PV} {e : TypeId} (f : TyFacts P t d) (ho : o.op = .store t x y) (hx : opv T x = .ptr i off) (hi : H[i]? = some (.cells xs e)) (hy : cellsPV (opv T y) = some ys) (hl : Nat.beq ys.length d.size = true) (hok : ys.all okC = true)
  (hle : Nat.ble (off + ys.length) xs.length = true) (hz : splice xs off ys = zs) (hH : nfH (H.set i (.cells zs e)) = some H') (hd : nfD n o.dst = some dd) (hw : wantedA all T o = some true) (k : WO P B n all l (updD dd (.val undef) T) H' K) : WO P B n all (o :: l) T H K :=
 Wd hd hw (does_store f ho hx hi hy hl hok hle) (by rw [hz, ← nfH_eq hH]; exact k)
theorem freezeA_good {n : Nat} {σ : Nat → Option Nat} {w : World} {a : Act} (g : Good B n T H σ w a) {d i m q : Nat} {xs : List PV} {e : TypeId} (hT : T d = .arr i 0 m m) (hi : H[i]? = some (.cells xs e)) (hq : q ≤ xs.length) :
  Good B n (upd d (.seq m (xs.take q) .clip) T) (H.set i .dead) σ w a ∧ Step B H σ w (H.set i .dead) σ w := by
 obtain ⟨s', st⟩ := drop_name g.sim hi
 refine ⟨⟨s', fun j => ?_, g.size, g.defers⟩, st⟩
 by_cases hj : j = d
 ·subst hj
  rw [upd_same]
  have h1 := g.rep j
  rw [hT] at h1
  unfold Rep at h1
  obtain ⟨_, b, hb, hv⟩ := h1
  obtain ⟨b', vs, fr, hb', hg, _, hp⟩ := g.sim.holds i _ hi
  simp only [cx] at hb hb' hg
  rw [hb] at hb'
  cases hb'
  rw [hv]
  unfold Rep
  refine ⟨_, m, vs.take q, rfl, Nat.le_refl _, (fun h => by cases h), RepL.mono st.le (hp.take hq), fun b1 hb1 => .inl ?_, rfl⟩
  cases hb1
  refine ⟨rfl, fun j' u hu => ⟨?_, ?_⟩⟩
  ·rw [List.getElem?_take] at hu
   split at hu
   ·show w.cell? ⟨b, 0 + j', none⟩ = some u
    rw [Nat.zero_add, cell_of_heap hg]; exact hu
   ·cases hu
  ·rintro (h2 | ⟨k, ok, h2, h3, h4⟩)
   ·exact g.sim.sep i b _ hi rfl hb _ h2
   ·have hlk : ok.live = true := by cases ok <;> first | rfl | cases h4
    by_cases hki : k = i
    ·subst hki
     rw [List.getElem?_set_self (lt_of_get hi)] at h2; cases h2; cases h4
    ·rw [List.getElem?_set_ne (Ne.symm hki)] at h2
     exact hki (g.sim.inj k i b _ _ h2 hi hlk rfl h3 hb)
 ·rw [upd_other _ _ _ _ hj]; exact (g.rep j).mono st.le
theorem WO_freezeA {n : Nat} {all : Array Oper} {K : (Nat → PV) → List Ob → Prop} {l : List Oper} (d i m q : Nat) {xs : List PV} {e : TypeId} (hT : T d = .arr i 0 m m) (hi : H[i]? = some (.cells xs e)) (hq : q ≤ xs.length) (h1 : WO P B n all l (upd d (.seq m (xs.take q) .clip) T) (H.set i .dead) K) : WO P B n all l T H K := by
 intro hall σ w a g
 obtain ⟨g', st⟩ := freezeA_good g hT hi hq
 exact wpL_mono (fun _ _ _ h => post_mono st (fun _ _ _ h => h) h) _ _ _ (h1 hall σ w a g')
theorem repL_self {c : Cx} : ∀ l : List Value, RepL c (l.map .val) l
 | [] => repL_nil.2 rfl
 | x :: l => repL_cons.2 ⟨rep_val _ _, repL_self l⟩
theorem pure_of_calls2 {f : FuncId} {args : List PV} {l : List Value} {r : PV} {v : Value} (hl : ∀ (c : Cx) vs, RepL c args vs → vs = l) (hr : ∀ c, Rep c r v) (h : ∀ w, Calls P f l.toArray w fun e w' => e = .returned v ∧ Grows w w') : PureC P f args r := by
 intro H B σ w vs s hv
 have := hl _ _ hv
 subst this
 exact pure_of_calls (args := vs) hr h H B σ w vs s (repL_self vs)
end
end Go.Proofs.YtobhnjnffnbbkaaGreatDoor
namespace Go.Proofs.YtobhnjnffnbbkaaGreatDoor
open Go.RowKit
set_option maxRecDepth 100000
set_option maxHeartbeats 4000000
theorem clip_ints (l : List Int) (hl : l.length ≤ 1000000) : PureC Tryz.prog 184 [sq cInt l] (sqc cInt l) := by
 refine pW tG (rs := [.tmp 2]) Tryz.func184 rfl rfl rfl (by simp) (by simp) (fun B => ?_)
 refine zu1 ?_
 refine zp5 ?_
 refine z2 ?_ (q := (by (simp_all; done)))
 refine Wa 8 rfl (sq_slice cInt 1 (fun _ => rfl) (by omega)) ?_
 refine zs1 ?_
 refine Wq ?_
 exact leafPx rfl (by simp [sqc]; rfl)
@[simp] theorem flatc_frame (l : List VFrame) : Flat (sqc cFrame l) := flat_sqc (fun x => by simp) l
theorem clip_frames (l : List VFrame) (hl : l.length ≤ 1000000) : PureC Tryz.prog 166 [sq cFrame l] (sqc cFrame l) := by
 refine pW tG (rs := [.tmp 2]) Tryz.func166 rfl rfl rfl (by simp) (by simp) (fun B => ?_)
 refine zu1 ?_
 refine zp5 ?_
 refine z2 ?_ (q := (by (simp_all; done)))
 refine Wa 8 rfl (sq_slice cFrame 3 (fun _ => rfl) (by omega)) ?_
 refine zs1 ?_
 refine Wq ?_
 exact leafPx rfl (by simp [sqc]; rfl)
def tPush (r : List Int × Int) : PV := tup2 (sq cInt r.1) (i64 r.2)
@[simp] theorem flat_tPush (r : List Int × Int) : Flat (tPush r) := by simp [tPush]
theorem stk_Push (s : List Int) (n limit : Int) (hs : s.length ≤ 100000) (hm : Fit64 limit) : PureC Tryz.prog 142 [sq cInt s, i64 n, i64 limit] (tPush (stkPush s n limit)) := by
 unfold Fit64 at hm
 refine pW tG (rs := [.tmp 6, .tmp 7]) Tryz.func142 rfl rfl rfl (by simp) (by simp) (fun B => ?_)
 refine zu2 ?_
 refine Ws ?_
 refine zu4 ?_
 refine Wi rfl (fun hi1 => ?_) (fun hi1 => ?_)
 ·have h0 : limit ≤ (s.length : Int) := by (try simp only [dnL] at *); omega
  refine zu3 ?_
  refine zR ?_
  rw [stkPush, if_pos h0]; rfl
 ·have h0 : ¬ limit ≤ (s.length : Int) := by (try simp only [dnL] at *); omega
  refine Wj ?_
  refine zp1 ?_
  refine Wc rfl rfl (dC rfl Tryz.func184 rfl rfl ((clip_ints s (by omega)) _)) ?_
  refine zy2 ?_
  refine Wa 16 rfl (bsL cInt [_] rfl rfl) ?_
  refine Wd rfl rfl (does_append_clip (lO tG rfl) rfl (lO tG rfl) (lO tG rfl) rfl rfl (by exact ⟨_, rfl⟩) (by exact ⟨rfl, rfl, flatMap_len _ 1 (fun _ => rfl) _, okC_flat _ (fun _ => rfl) _⟩) (by exact flatMap_len _ 1 (fun _ => rfl) _) (by ((simp_all; omega))) (by ((simp_all; omega)))) ?_
  refine Wa 17 rfl (sq_append cInt) ?_
  refine zs2 ?_
  refine zR ?_
  rw [stkPush, if_neg h0]; rfl
def tVPop (r : Int × VVm × Int) : PV := tup3 (i64 r.1) (eVm r.2.1) (i64 r.2.2)
@[simp] theorem flat_tVPop (r : Int × VVm × Int) : Flat (tVPop r) := by simp [tVPop]
theorem vm_Push (v : VVm) (n : Int) (hs : v.d.length ≤ 100000) (hm : Fit64 v.conf.data) : PureC Tryz.prog 108 [eVm v, i64 n] (tVm (vmPush v n)) := by
 refine pW tG (rs := [.cell 4 36, .tmp 5]) Tryz.func108 rfl rfl rfl (by simp) (by simp) (fun B => ?_)
 refine zu3 ?_
 refine zp5 ?_
 refine z1 ?_
 refine Wc rfl rfl (dC rfl Tryz.func142 rfl rfl ((stk_Push v.d n v.conf.data hs hm) _)) ?_
 refine zs5 ?_
 refine zu3 ?_
 refine zu4 ?_
 refine zR ?_
 rfl
theorem vm_Pop (v : VVm) (hs : v.d.length ≤ 100000) : PureC Tryz.prog 162 [eVm v] (tVPop (vmPop v)) := by
 refine pW tG (rs := [.tmp 2, .cell 3 36, .tmp 4]) Tryz.func162 rfl rfl rfl (by simp) (by simp) (fun B => ?_)
 refine zu4 ?_
 refine zp2 ?_
 refine Wc rfl rfl (dC rfl Tryz.func185 rfl rfl ((stk_Pop v.d hs) _)) ?_
 refine zy5 ?_
 refine zs2 ?_
 refine zu3 ?_
 refine Ws ?_
 refine W_drawU [0, 1, 0, 0, 3, 0] [0, 1, 2, 3, 4, 5] mG rfl (by kernel_rfl) ?_
 refine z3 ?_
 refine z5 ?_
 iterate 2 refine z3 ?_
 refine WU_ev3 tG rfl rfl rfl rfl rfl trivial ?_
 refine z3 ?_
 refine WU_nil ?_
 refine zR ?_
 rfl
def backS (e : Int) : Int := if e = -3 then -5 else if e = -4 then -6 else e
theorem vm_back (e : Int) : PureC Tryz.prog 143 [i64 e] (i64 (backS e)) := by
 refine pW tG (rs := [.tmp 2]) Tryz.func143 rfl rfl rfl (by simp) (by simp) (fun B => ?_)
 refine zu1 ?_
 refine Ws ?_
 refine zu1 ?_
 refine Wl ?_
 refine zu2 ?_
 refine Wi rfl (fun hi1 => ?_) (fun hi1 => ?_)
 ·refine zu1 ?_
  refine zR ?_
  exact congrArg i64 (by unfold backS; (try simp only [dnL] at *); split <;> (try split) <;> omega)
 ·refine zu2 ?_
  refine Wi rfl (fun hi2 => ?_) (fun hi2 => ?_)
  ·refine zu1 ?_
   refine zR ?_
   exact congrArg i64 (by unfold backS; (try simp only [dnL] at *); split <;> (try split) <;> omega)
  ·refine Wj ?_
   refine zu2 ?_
   refine zR ?_
   exact congrArg i64 (by unfold backS; (try simp only [dnL] at *); split <;> (try split) <;> omega)
theorem rpush_eq (v : VVm) (n : Int) : vmRPush v n = ({ v with r := (stkPush v.r n v.conf.ret).1 }, backS (stkPush v.r n v.conf.ret).2) := by
 unfold vmRPush stkPush backS; split <;> rfl
theorem rpop_eq (v : VVm) : vmRPop v = ((stkPop v.r).1, { v with r := (stkPop v.r).2.1 }, backS (stkPop v.r).2.2) := by
 unfold vmRPop stkPop backS; split <;> rfl
theorem vm_RPush (v : VVm) (n : Int) (hs : v.r.length ≤ 100000) (hm : Fit64 v.conf.ret) : PureC Tryz.prog 107 [eVm v, i64 n] (tVm (vmRPush v n)) := by
 rw [rpush_eq]
 refine pW tG (rs := [.cell 4 36, .tmp 5]) Tryz.func107 rfl rfl rfl (by simp) (by simp) (fun B => ?_)
 refine zu3 ?_
 refine zp5 ?_
 refine z1 ?_
 refine Wc rfl rfl (dC rfl Tryz.func142 rfl rfl ((stk_Push v.r n v.conf.ret hs hm) _)) ?_
 refine zs5 ?_
 refine zu3 ?_
 refine Ws ?_
 refine W_drawU [1, 0, 0, 3, 0] [0, 1, 2, 3, 4] mG rfl (by kernel_rfl) ?_
 refine z5 ?_
 refine z3 ?_
 refine Xc rfl rfl rfl rfl (fun _ => dC rfl Tryz.func143 rfl rfl ((vm_back _) _)) ?_
 refine WU_ev3 tG rfl rfl rfl rfl rfl trivial ?_
 refine z3 ?_
 refine WU_nil ?_
 refine zR ?_
 rfl
theorem vm_RPop (v : VVm) (hs : v.r.length ≤ 100000) : PureC Tryz.prog 161 [eVm v] (tVPop (vmRPop v)) := by
 rw [rpop_eq]
 refine pW tG (rs := [.tmp 2, .cell 3 36, .tmp 4]) Tryz.func161 rfl rfl rfl (by simp) (by simp) (fun B => ?_)
 refine zu4 ?_
 refine zp2 ?_
 refine Wc rfl rfl (dC rfl Tryz.func185 rfl rfl ((stk_Pop v.r hs) _)) ?_
 refine zy5 ?_
 refine zs2 ?_
 refine zu3 ?_
 refine Ws ?_
 refine W_drawU [0, 1, 0, 0, 0, 3, 0] [0, 1, 2, 3, 4, 5, 6] mG rfl (by kernel_rfl) ?_
 refine z3 ?_
 refine z5 ?_
 refine z3 ?_
 refine Xc rfl rfl rfl rfl (fun _ => dC rfl Tryz.func143 rfl rfl ((vm_back _) _)) ?_
 refine z3 ?_
 refine WU_ev3 tG rfl rfl rfl rfl rfl trivial ?_
 refine z3 ?_
 refine WU_nil ?_
 refine zR ?_
 rfl
theorem alu_Step (i l n : Int) : PureC Tryz.prog 164 [i64 i, i64 l, i64 n] (tOne (stepN i l n)) := by
 refine pW tG (rs := [.tmp 6, .tmp 7]) Tryz.func164 rfl rfl rfl (by simp) (by simp) (fun B => ?_)
 refine zu2 ?_
 refine zu4 ?_
 refine Ws ?_
 refine zu2 ?_
 refine Wi rfl (fun hi1 => ?_) (fun hi1 => ?_)
 ·have h0 : 0 ≤ n := by (try simp only [dnL] at *); omega
  refine zp5 ?_
  refine z1 ?_
  refine Wb 19 rfl (fun hg1 => ?_) (fun hg1 => ?_)
  ·have q1 : decide (W64 (i - l) < 0) = true := hg1
   refine zy5 ?_
   refine zs2 ?_
   refine zR ?_
   (rw [stepN, if_pos h0, q1]; rfl)
  ·have q1 : decide (W64 (i - l) < 0) = false := hg1
   iterate 4 refine z6 ?_
   refine zs3 ?_
   refine zR ?_
   (rw [stepN, if_pos h0, q1]; rfl)
 ·have h0 : ¬ 0 ≤ n := by (try simp only [dnL] at *); omega
  refine Wj ?_
  refine zp5 ?_
  refine z1 ?_
  refine Wb 30 rfl (fun hg2 => ?_) (fun hg2 => ?_)
  ·have q1 : decide (0 ≤ W64 (i - l)) = true := hg2
   refine zy5 ?_
   refine zs2 ?_
   refine zR ?_
   (rw [stepN, if_neg h0, q1]; rfl)
  ·have q1 : decide (0 ≤ W64 (i - l)) = false := hg2
   iterate 4 refine z6 ?_
   refine zs3 ?_
   refine zR ?_
   (rw [stepN, if_neg h0, q1]; rfl)
def haltV (a : Addr) : Value := .iface 349 (.pointer (some a))
def errP (a : Addr) : VErr → PV
 | .ok => .val .nilIface
 | .bad e => .ifc 86 (.agg [i64 e])
 | .halt => .val (haltV a)
@[simp] theorem flat_errP (a : Addr) (e : VErr) : Flat (errP a e) := by cases e <;> simp [errP, Flat, FlatL]
theorem nil_err (a : Addr) (e : VErr) : isNilI (errP a e) = some (isOk e) := by cases e <;> rfl
def cPW (a : Addr) (k : PW) : List PV := cRun k.r ++ [errP a k.err]
@[simp] theorem flat_cPW (a : Addr) (k : PW) : FlatL (cPW a k) := by simp [cPW, cRun, cVm]
def mustE (e : Int) : VErr := if e = 0 then .ok else .bad e
theorem inner_must (a : Addr) (e : Int) : PureC Tryz.prog 104 [i64 e] (errP a (mustE e)) := by
 refine pW tG (rs := [.tmp 2]) Tryz.func104 rfl rfl rfl (by simp) (by simp) (fun B => ?_)
 refine zu1 ?_
 refine Ws ?_
 refine zu2 ?_
 refine Wi rfl (fun hi1 => ?_) (fun hi1 => ?_)
 ·have h0 : e = 0 := by (try simp only [dnL] at *); omega
  refine zu1 ?_
  refine zR ?_
  rw [mustE, if_pos h0]; rfl
 ·have h0 : ¬ e = 0 := by (try simp only [dnL] at *); omega
  refine Wj ?_
  refine zp2 ?_
  refine Wd rfl rfl (does_mkI rfl (by kernel_rfl) rfl) ?_
  refine zs1 ?_
  refine zR ?_
  rw [mustE, if_neg h0]; rfl
section
variable (a : Addr)
theorem i_ok_ok (r : VRun) (v : VVm) : ∀ (H : List Ob) (i : Nat), H[i]? = some (.cells (cPW a ⟨r, .ok⟩) 80) → HC Tryz.prog 61 (.ptr i 0 :: [eVm v, i64 0]) H (boo true) (H.set i (.cells (cPW a ⟨{ r with vm := v }, .ok⟩) 80)) := by
 refine mut_of_W tG (rs := [.tmp 6]) Tryz.func61 rfl rfl rfl (by simp) (by simp) (by simp) (by simp) (fun B => ?_)
 refine zu2 ?_
 refine Ws ?_
 refine zp4 ?_
 refine Wd rfl rfl (does_ifnil rfl (by kernel_rfl) rfl (by rfl)) ?_
 refine Wn ?_
 refine Wt rfl (by rfl) ?_
 refine W_region rfl ?_
 refine zy2 ?_
 refine Wc rfl rfl (dC rfl Tryz.func104 rfl rfl ((inner_must a 0) _)) ?_
 refine Wa 14 rfl ((show _ = PV.val .nilIface from rfl)) ?_
 refine zs3 ?_
 refine Ws ?_
 refine zp4 ?_
 refine Wd rfl rfl (does_ifnil rfl (by kernel_rfl) rfl (by rfl)) ?_
 refine Wn ?_
 refine Wt rfl (by rfl) ?_
 refine W_region rfl ?_
 refine zy5 ?_
 refine zs1 ?_
 refine zp4 ?_
 refine Wd rfl rfl (does_ifnil rfl (by kernel_rfl) rfl (by rfl)) ?_
 refine zs1 ?_
 refine Wq ?_
 refine leafM rfl rfl ?_ ?_
 ·rfl
 ·rfl
theorem i_ok_bad (r : VRun) (v : VVm) (e : Int) (he : e ≠ 0) : ∀ (H : List Ob) (i : Nat), H[i]? = some (.cells (cPW a ⟨r, .ok⟩) 80) → HC Tryz.prog 61 (.ptr i 0 :: [eVm v, i64 e]) H (boo false) (H.set i (.cells (cPW a ⟨r, .bad e⟩) 80)) := by
 have hm : errP a (mustE e) = .ifc 86 (.agg [i64 e]) := by rw [mustE, if_neg he]; rfl
 refine mut_of_W tG (rs := [.tmp 6]) Tryz.func61 rfl rfl rfl (by simp) (by simp) (by simp) (by simp) (fun B => ?_)
 refine zu2 ?_
 refine Ws ?_
 refine zp4 ?_
 refine Wd rfl rfl (does_ifnil rfl (by kernel_rfl) rfl (by rfl)) ?_
 refine Wn ?_
 refine Wt rfl (by rfl) ?_
 refine W_region rfl ?_
 refine zy2 ?_
 refine Wc rfl rfl (dC rfl Tryz.func104 rfl rfl ((inner_must a e) _)) ?_
 refine Wa 14 rfl (hm) ?_
 refine zs3 ?_
 refine Ws ?_
 refine zp4 ?_
 refine Wd rfl rfl (does_ifnil rfl (by kernel_rfl) rfl (by rfl)) ?_
 refine Wn ?_
 refine Wf rfl (by rfl) ?_
 refine Wj ?_
 refine zp4 ?_
 refine Wd rfl rfl (does_ifnil rfl (by kernel_rfl) rfl (by rfl)) ?_
 refine zs1 ?_
 refine Wq ?_
 refine leafM rfl rfl ?_ ?_
 ·rfl
 ·rfl
theorem i_ok_no (r : VRun) (v : VVm) (e c : Int) : ∀ (H : List Ob) (i : Nat), H[i]? = some (.cells (cPW a ⟨r, .bad c⟩) 80) → HC Tryz.prog 61 (.ptr i 0 :: [eVm v, i64 e]) H (boo false) (H.set i (.cells (cPW a ⟨r, .bad c⟩) 80)) := by
 refine mut_of_W tG (rs := [.tmp 6]) Tryz.func61 rfl rfl rfl (by simp) (by simp) (by simp) (by simp) (fun B => ?_)
 refine zu2 ?_
 refine Ws ?_
 refine zp4 ?_
 refine Wd rfl rfl (does_ifnil rfl (by kernel_rfl) rfl (by rfl)) ?_
 refine Wn ?_
 refine Wf rfl (by rfl) ?_
 refine Wj ?_
 refine Ws ?_
 refine zp4 ?_
 refine Wd rfl rfl (does_ifnil rfl (by kernel_rfl) rfl (by rfl)) ?_
 refine Wn ?_
 refine Wf rfl (by rfl) ?_
 refine Wj ?_
 refine zp4 ?_
 refine Wd rfl rfl (does_ifnil rfl (by kernel_rfl) rfl (by rfl)) ?_
 refine zs1 ?_
 refine Wq ?_
 refine leafM rfl rfl ?_ ?_
 ·rfl
 ·rfl
theorem i_ok_end (r : VRun) (v : VVm) (e : Int) : ∀ (H : List Ob) (i : Nat), H[i]? = some (.cells (cPW a ⟨r, .halt⟩) 80) → HC Tryz.prog 61 (.ptr i 0 :: [eVm v, i64 e]) H (boo false) (H.set i (.cells (cPW a ⟨r, .halt⟩) 80)) := by
 refine mut_of_W tG (rs := [.tmp 6]) Tryz.func61 rfl rfl rfl (by simp) (by simp) (by simp) (by simp) (fun B => ?_)
 refine zu2 ?_
 refine Ws ?_
 refine zp4 ?_
 refine Wd rfl rfl (does_ifnil rfl (by kernel_rfl) rfl (by rfl)) ?_
 refine Wn ?_
 refine Wf rfl (by rfl) ?_
 refine Wj ?_
 refine Ws ?_
 refine zp4 ?_
 refine Wd rfl rfl (does_ifnil rfl (by kernel_rfl) rfl (by rfl)) ?_
 refine Wn ?_
 refine Wf rfl (by rfl) ?_
 refine Wj ?_
 refine zp4 ?_
 refine Wd rfl rfl (does_ifnil rfl (by kernel_rfl) rfl (by rfl)) ?_
 refine zs1 ?_
 refine Wq ?_
 refine leafM rfl rfl ?_ ?_
 ·rfl
 ·rfl
theorem i_ok (k : PW) (v : VVm) (e : Int) : ∀ (H : List Ob) (i : Nat), H[i]? = some (.cells (cPW a k) 80) → HC Tryz.prog 61 (.ptr i 0 :: [eVm v, i64 e]) H (boo (isOk (pOk k v e).err)) (H.set i (.cells (cPW a (pOk k v e)) 80)) := by
 intro H i hi
 obtain ⟨r, err⟩ := k
 cases err with
 | ok =>
  by_cases he : e = 0
  ·subst he; exact i_ok_ok a r v H i hi
  ·have e1 : pOk ⟨r, .ok⟩ v e = ⟨r, .bad e⟩ := by unfold pOk; dsimp only; rw [if_neg he]
   rw [e1]; exact i_ok_bad a r v e he H i hi
 | bad c => exact i_ok_no a r v e c H i hi
 | halt => exact i_ok_end a r v e H i hi
end
end Go.Proofs.YtobhnjnffnbbkaaGreatDoor
namespace Go.Proofs.YtobhnjnffnbbkaaGreatDoor
open Go.RowKit Go.Extern.Stop Go.Stop Go.Extern
set_option maxRecDepth 100000
def atV (xt : Int) (v : Value) : Value := .iface 84 (.agg #[.int .i64 xt, v])
def thrV (c : Int) : Value := .iface 86 (.agg #[.int .i64 c])
def rtV (n : Nat) : Value := .agg #[.pointer (some ⟨5, n, none⟩)]
theorem er_typeOf (n : Nat) (v : Value) (w : World) : (ReflectliteType.typeOf #[.iface 349 v]).run Tryz.prog w = .ok (.iface 178 (rtV 349)) w := by kernel_rfl
theorem er_cmp (w : World) : (callFunc 378 #[rtV 349]).run Tryz.prog w = .ok (.value (.bool true)) w :=
 (@run_callFunc_extern Tryz.prog 378 _ (ReflectliteType.method fun t => do Rtype.noPackHeld "Comparable" t; pure (.bool (← typeInfo t).comparable)) Tryz.func378 (by kernel_rfl) (by kernel_rfl) (by kernel_rfl) (by kernel_rfl) _ w).trans (by kernel_rfl)
theorem er_mComparable (v : Value) (w : World) : (Go.method 478 178 v "Comparable").run Tryz.prog w = .ok (378, v) w := by kernel_rfl
theorem er_comp : (Tryz.prog.info? 349).map (·.comparable) = some true := by kernel_rfl
theorem er_size : (Tryz.prog.info? 367).map (·.size) = some 1 := by kernel_rfl
theorem er_noIsA (v : Value) (xT : TypeId) (w : World) : (Instr.typeAssert (.iface 84 v) xT 180 true).run Tryz.prog w = .ok (.tuple #[.nilIface, .bool false]) w := run_typeAssert_lacksB (Tryz.underlying180) (by kernel_rfl) (by kernel_rfl) v xT w
theorem er_noIsT (v : Value) (xT : TypeId) (w : World) : (Instr.typeAssert (.iface 86 v) xT 180 true).run Tryz.prog w = .ok (.tuple #[.nilIface, .bool false]) w := run_typeAssert_lacksB (Tryz.underlying180) (by kernel_rfl) (by kernel_rfl) v xT w
theorem er_unwrapA (v : Value) (xT : TypeId) (w : World) : (Instr.typeAssert (.iface 84 v) xT 183 true).run Tryz.prog w = .ok (.tuple #[.iface 84 v, .bool true]) w := run_typeAssert_hasB (Tryz.underlying183) (by kernel_rfl) v xT w
theorem er_noUnT (v : Value) (xT : TypeId) (w : World) : (Instr.typeAssert (.iface 86 v) xT 183 true).run Tryz.prog w = .ok (.tuple #[.nilIface, .bool false]) w := run_typeAssert_lacksB (Tryz.underlying183) (by kernel_rfl) (by kernel_rfl) v xT w
theorem er_noUnsT (v : Value) (xT : TypeId) (w : World) : (Instr.typeAssert (.iface 86 v) xT 185 true).run Tryz.prog w = .ok (.tuple #[.nilIface, .bool false]) w := run_typeAssert_lacksB (Tryz.underlying185) (by kernel_rfl) (by kernel_rfl) v xT w
theorem er_mUnwrap (v : Value) (w : World) : (Go.method 478 84 v "Unwrap").run Tryz.prog w = .ok (371, v) w := by kernel_rfl
theorem un_at (a : Addr) (xt : Int) (v : Value) (w : World) : Calls Tryz.prog 371 #[.agg #[.int .i64 xt, v]] w fun e w' => e = .returned v ∧ w' = w.alloc (.cells #[.int .i64 xt, v] 84) := by
 go_enter Tryz.func371, Tryz.ntmps371
 go_wp2
 go_ret
 exact ⟨rfl, rfl⟩
theorem is_end (a : Addr) (xt : Int) (w : World) :
  Calls Tryz.prog 36 #[atV xt (haltV a), haltV a] w fun e w' => e = .returned (.bool true) ∧ Grows w w' := by
 obtain ⟨i, hi, hcmp⟩ := Option.map_eq_some_iff.1 er_comp
 obtain ⟨j, hj, hjs⟩ := Option.map_eq_some_iff.1 er_size
 have h8 := @run_callFunc_extern Tryz.prog 70 _ ReflectliteType.typeOf Tryz.func70 (by kernel_rfl) (by kernel_rfl) (by kernel_rfl) (by kernel_rfl)
 have h32 := er_cmp
 have tT := er_typeOf 0
 have mR := er_mComparable
 have nA := er_noIsA
 have uA := er_unwrapA
 have mU := er_mUnwrap
 have heq := run_eql_iface_ptr_same (P := Tryz.prog) (w.alloc (.cells #[.int .i64 xt, .iface 349 (.pointer (some a))] 84)) a Tryz.underlying78 Tryz.underlying349 hi hcmp hj
 have hty := run_eql_iface_types (P := Tryz.prog) 84 349 (.agg #[.int .i64 xt, .iface 349 (.pointer (some a))]) (.pointer (some a)) Tryz.underlying78 (by decide) w
 unfold atV haltV
 unfold rtV at *
 go_enter Tryz.func36, Tryz.ntmps36
 go_wp2
 refine wp_loop_rounds 2 ?_
 rw [rounds_succ]
 go_wp2_with (go_at_call 371; refine (un_at a _ _ _).mono ?_; rintro e w' ⟨rfl, rfl⟩)
 rw [rounds_succ]
 go_wp2
 go_ret
 exact ⟨rfl, Grows.alloc _ _⟩
theorem is_bad (a : Addr) (xt c : Int) (w : World) :
  Calls Tryz.prog 36 #[atV xt (thrV c), haltV a] w fun e w' => e = .returned (.bool false) ∧ Grows w w' := by
 have h8 := @run_callFunc_extern Tryz.prog 70 _ ReflectliteType.typeOf Tryz.func70 (by kernel_rfl) (by kernel_rfl) (by kernel_rfl) (by kernel_rfl)
 have h32 := er_cmp
 have tT := er_typeOf 0
 have mR := er_mComparable
 have nA := er_noIsA
 have nT := er_noIsT
 have uA := er_unwrapA
 have uT := er_noUnT
 have vT := er_noUnsT
 have mU := er_mUnwrap
 have hty := run_eql_iface_types (P := Tryz.prog) 84 349 (.agg #[.int .i64 xt, .iface 86 (.agg #[.int .i64 c])]) (.pointer (some a)) Tryz.underlying78 (by decide) w
 have hty2 := run_eql_iface_types (P := Tryz.prog) 86 349 (.agg #[.int .i64 c]) (.pointer (some a)) Tryz.underlying78 (by decide) (w.alloc (.cells #[.int .i64 xt, .iface 86 (.agg #[.int .i64 c])] 84))
 unfold atV thrV haltV
 unfold rtV at *
 go_enter Tryz.func36, Tryz.ntmps36
 go_wp2
 refine wp_loop_rounds 2 ?_
 rw [rounds_succ]
 go_wp2_with (go_at_call 371; refine (un_at a _ _ _).mono ?_; rintro e w' ⟨rfl, rfl⟩)
 rw [rounds_succ]
 go_wp2
 go_ret
 exact ⟨rfl, Grows.alloc _ _⟩
end Go.Proofs.YtobhnjnffnbbkaaGreatDoor
namespace Go.Proofs.YtobhnjnffnbbkaaGreatDoor
open Go.RowKit Go.Extern.Stop Go.Stop Go.Extern
set_option maxRecDepth 100000
theorem ea_valueOf (t : Addr) (w : World) : (ReflectliteValue.unpack (.iface 89 (.pointer (some t)))).run Tryz.prog w
  = .ok (.agg #[.pointer (some ⟨5, 89, none⟩), .pointer (some ⟨w.heap.size, 0, none⟩), .int .u64 150]) (w.alloc (.cells #[.pointer (some t)] 89)) := by kernel_rfl
theorem ea_type (a : Addr) (w : World) : (ReflectliteValue.methodAny (ReflectliteValue.valueError "reflectlite.Value.Type" 0) (fun t _ _ _ => ReflectliteType.toType t) #[.agg #[.pointer (some ⟨5, 89, none⟩), .pointer (some a), .int .u64 150]]).run Tryz.prog w
  = .ok (.iface 178 (.agg #[.pointer (some ⟨5, 89, none⟩)])) w := by kernel_rfl
theorem ea_mKind (h : Value) (w : World) : (Go.method 478 178 (.agg #[h]) "Kind").run Tryz.prog w = .ok (367, h) w := by kernel_rfl
theorem ea_kindP (w : World) : ((ReflectliteType.abiMethod fun t => (fun a : Nat => Value.int IntKind.u8 (a : Int)) <$> Rtype.kind t) #[.pointer (some ⟨5, 89, none⟩)]).run Tryz.prog w = .ok (.int .u8 22) w := by kernel_rfl
theorem ea_kindT (w : World) : ((ReflectliteType.abiMethod fun t => (fun a : Nat => Value.int IntKind.u8 (a : Int)) <$> Rtype.kind t) #[.pointer (some ⟨5, 86, none⟩)]).run Tryz.prog w = .ok (.int .u8 25) w := by kernel_rfl
theorem ea_rlm (z : Sem Value) (f : TypeId → Addr → Nat → Nat → Sem Value) (v : Value) :
  ReflectliteValue.method z f #[v] = (do match ← ReflectliteValue.parts v with | none => z | some (t, a, fl) => f t a fl (fl % 32)) := rfl
theorem ea_partsP (a : Addr) (w : World) : (ReflectliteValue.parts (.agg #[.pointer (some ⟨5, 89, none⟩), .pointer (some a), .int .u64 150])).run Tryz.prog w = .ok (some (89, a, 150)) w := by kernel_rfl
theorem ea_isNil (a p : Addr) (W : World) (ha : W.cell? a = some (.pointer (some p))) :
  (ReflectliteValue.method (ReflectliteValue.valueError "reflectlite.Value.IsNil" 0) ReflectliteValue.isNil #[.agg #[.pointer (some ⟨5, 89, none⟩), .pointer (some a), .int .u64 150]]).run Tryz.prog W = .ok (.bool false) W := by
 rw [ea_rlm]
 simp only [Sem.run_bind, ea_partsP, Result.andThen]
 simp [ReflectliteValue.isNil, loadVar, isAgg, underlying, Tryz.underlying89, ha, Result.andThen]
theorem ea_mElem (h : Value) (w : World) : (Go.method 478 178 (.agg #[h]) "Elem").run Tryz.prog w = .ok (379, .agg #[h]) w := by kernel_rfl
theorem ea_mImpl (h : Value) (w : World) : (Go.method 478 178 (.agg #[h]) "Implements").run Tryz.prog w = .ok (380, .agg #[h]) w := by kernel_rfl
theorem ea_mAssign (h : Value) (w : World) : (Go.method 478 178 (.agg #[h]) "AssignableTo").run Tryz.prog w = .ok (377, .agg #[h]) w := by kernel_rfl
theorem ea_elem (w : World) : (ReflectliteType.method ReflectliteType.elem #[.agg #[.pointer (some ⟨5, 89, none⟩)]]).run Tryz.prog w = .ok (.iface 178 (.agg #[.pointer (some ⟨5, 86, none⟩)])) w := by kernel_rfl
theorem ea_impl (w : World) : (ReflectliteType.relation "Implements" ReflectliteType.implements_ #[.agg #[.pointer (some ⟨5, 86, none⟩)], .iface 178 (.agg #[.pointer (some ⟨5, 78, none⟩)])]).run Tryz.prog w = .ok (.bool true) w := by kernel_rfl
theorem ea_typeA (v : Value) (w : World) : (ReflectliteType.typeOf #[.iface 84 v]).run Tryz.prog w = .ok (.iface 178 (.agg #[.pointer (some ⟨5, 84, none⟩)])) w := by kernel_rfl
theorem ea_typeT (v : Value) (w : World) : (ReflectliteType.typeOf #[.iface 86 v]).run Tryz.prog w = .ok (.iface 178 (.agg #[.pointer (some ⟨5, 86, none⟩)])) w := by kernel_rfl
theorem ea_assA (w : World) : (ReflectliteType.relation "AssignableTo" ReflectliteType.assignableTo #[.agg #[.pointer (some ⟨5, 84, none⟩)], .iface 178 (.agg #[.pointer (some ⟨5, 86, none⟩)])]).run Tryz.prog w = .ok (.bool false) w := by kernel_rfl
theorem ea_assT (w : World) : (ReflectliteType.relation "AssignableTo" ReflectliteType.assignableTo #[.agg #[.pointer (some ⟨5, 86, none⟩)], .iface 178 (.agg #[.pointer (some ⟨5, 86, none⟩)])]).run Tryz.prog w = .ok (.bool true) w := by kernel_rfl
theorem ea_noAs (v : Value) (xT : TypeId) (w : World) : (Instr.typeAssert (.iface 84 v) xT 190 true).run Tryz.prog w = .ok (.tuple #[.nilIface, .bool false]) w := run_typeAssert_lacksB (Tryz.underlying190) (by kernel_rfl) (by kernel_rfl) v xT w
theorem ea_valueT (c : Int) (w : World) : (ReflectliteValue.unpack (.iface 86 (.agg #[.int .i64 c]))).run Tryz.prog w
  = .ok (.agg #[.pointer (some ⟨5, 86, none⟩), .pointer (some ⟨w.heap.size, 0, none⟩), .int .u64 153]) (w.alloc (.cells #[.int .i64 c] 86)) := by kernel_rfl
theorem ea_elemOf (w : World) : (Rtype.elem? 89).run Tryz.prog w = .ok (some 86) w := by kernel_rfl
theorem ea_mk (p : Addr) (w : World) : (ReflectliteValue.mk 86 p ReflectliteValue.flagAddr).run Tryz.prog w = .ok (.agg #[.pointer (some ⟨5, 86, none⟩), .pointer (some p), .int .u64 409]) w := by kernel_rfl
theorem ea_elemV (a p : Addr) (W : World) (ha : W.cell? a = some (.pointer (some p))) :
  (ReflectliteValue.method (ReflectliteValue.valueError "reflectlite.Value.Elem" 0) ReflectliteValue.elem #[.agg #[.pointer (some ⟨5, 89, none⟩), .pointer (some a), .int .u64 150]]).run Tryz.prog W
   = .ok (.agg #[.pointer (some ⟨5, 86, none⟩), .pointer (some p), .int .u64 409]) W := by
 rw [ea_rlm]
 simp only [Sem.run_bind, ea_partsP, Result.andThen]
 simp [ReflectliteValue.elem, loadVar, isAgg, underlying, Tryz.underlying89, ha, Result.andThen, ea_elemOf, ea_mk]
theorem ea_partsA (a : Addr) (w : World) : (ReflectliteValue.parts (.agg #[.pointer (some ⟨5, 86, none⟩), .pointer (some a), .int .u64 409])).run Tryz.prog w = .ok (some (86, a, 409)) w := by kernel_rfl
theorem ea_partsB (a : Addr) (w : World) : (ReflectliteValue.parts (.agg #[.pointer (some ⟨5, 86, none⟩), .pointer (some a), .int .u64 153])).run Tryz.prog w = .ok (some (86, a, 153)) w := by kernel_rfl
theorem ea_direct (w : World) : (Rtype.directlyAssignable 86 86).run Tryz.prog w = .ok true w := by kernel_rfl
theorem ea_rls (v x : Value) : ReflectliteValue.set #[v, x] = (do
  let (some (dst, a, fl), some (src, b, _)) := (← ReflectliteValue.parts v, ← ReflectliteValue.parts x)
   | unsupported (.noEntry "extern/(internal/reflectlite.Value).Set.zeroValue")
  if fl / ReflectliteValue.flagAddr % 2 == 0 then unsupported (.noEntry "extern/(internal/reflectlite.Value).Set.unaddressable")
  let val ← loadVar src b
  if ← Rtype.directlyAssignable dst src then storeVar dst a val
  else if ← Rtype.implements dst src then
   if (← Rtype.kind src) == 20 then
    match val with
    | .nilIface => unsupported (.noEntry "extern/reflectlite: a nil value of one interface type handed on as a value of another")
    | _ => storeVar dst a val
   else storeVar dst a (.iface src val)
  else panicString ("reflectlite.Set: value of type " ++ (← Rtype.spelt src) ++ " is not assignable to type " ++ (← Rtype.spelt dst))
  pure (.tuple #[])) := rfl
theorem ea_size (w : World) : (sizeOf 86).run Tryz.prog w = .ok 1 w := by kernel_rfl
theorem ea_set (ta b : Addr) (c : Int) (old : Value) (W : World) (hb : W.cell? b = some (.int .i64 c)) (ht : W.cell? ta = some old) (hf : W.frozen? ta = false) :
  (ReflectliteValue.set #[.agg #[.pointer (some ⟨5, 86, none⟩), .pointer (some ta), .int .u64 409], .agg #[.pointer (some ⟨5, 86, none⟩), .pointer (some b), .int .u64 153]]).run Tryz.prog W
   = .ok (.tuple #[]) (W.setCell ta (.int .i64 c)) := by
 have hl : (loadVar 86 b).run Tryz.prog W = .ok (.agg #[.int .i64 c]) W := by
  have h1 := run_loadCells_list (P := Tryz.prog) W b [.int .i64 c] (fun j v hj => by
   match j, hj with
   | 0, hj => cases hj; rw [show b.add 0 = b from by simp [Addr.add]]; exact hb
   | j + 1, hj => simp at hj)
  unfold loadVar
  have h2 : (loadCells b 1).run Tryz.prog W = .ok #[.int .i64 c] W := by simpa using h1
  simp [isAgg, underlying, Tryz.underlying86, Result.andThen, ea_size, h2]
 have hs : (storeVar 86 ta (.agg #[.int .i64 c])).run Tryz.prog W = .ok () (W.setCell ta (.int .i64 c)) := by
  simp [storeVar, Value.cells, storeCells, Addr.add, ea_size, Result.andThen]
  rw [run_store Tryz.prog W ta _ _ (by rfl)]
  simp [ht, hf]
 rw [ea_rls]
 simp only [Sem.run_bind, ea_partsA, ea_partsB, Result.andThen]
 simp [ReflectliteValue.flagAddr, hl, hs, Result.andThen, ea_direct]
set_option maxHeartbeats 4000000 in
theorem as_hit (xt c : Int) (t : Addr) (old : Value) (w : World) (hg : w.cell? ⟨1, 0, none⟩ = some (.iface 178 (.agg #[.pointer (some ⟨5, 78, none⟩)]))) (ht0 : w.cell? t = some old) (hf0 : w.frozen? t = false) :
  Calls Tryz.prog 37 #[.iface 84 (.agg #[.int .i64 xt, .iface 86 (.agg #[.int .i64 c])]), .iface 89 (.pointer (some t))] w fun ev w' => ev = .returned (.bool true) ∧ ∃ w1, Grows w w1 ∧ w' = w1.setCell t (.int .i64 c) := by
 have h6 := @run_callFunc_extern Tryz.prog 72 _ (fun args => ReflectliteValue.unpack (args.getD 0 (.tuple #[]))) Tryz.func72 (by kernel_rfl) (by kernel_rfl) (by kernel_rfl) (by kernel_rfl)
 have h7 := @run_callFunc_extern Tryz.prog 73 _ (ReflectliteValue.methodAny (ReflectliteValue.valueError "reflectlite.Value.Type" 0) (fun t _ _ _ => ReflectliteType.toType t)) Tryz.func73 (by kernel_rfl) (by kernel_rfl) (by kernel_rfl) (by kernel_rfl)
 have h8 := @run_callFunc_extern Tryz.prog 74 _ (ReflectliteValue.method (ReflectliteValue.valueError "reflectlite.Value.IsNil" 0) ReflectliteValue.isNil) Tryz.func74 (by kernel_rfl) (by kernel_rfl) (by kernel_rfl) (by kernel_rfl)
 have h27 := @run_callFunc_extern Tryz.prog 367 _ (ReflectliteType.abiMethod fun t => do pure (.int .u8 (← Rtype.kind t))) Tryz.func367 (by kernel_rfl) (by kernel_rfl) (by kernel_rfl) (by kernel_rfl)
 have h37 := @run_callFunc_extern Tryz.prog 379 _ (ReflectliteType.method ReflectliteType.elem) Tryz.func379 (by kernel_rfl) (by kernel_rfl) (by kernel_rfl) (by kernel_rfl)
 have h38 := @run_callFunc_extern Tryz.prog 380 _ (ReflectliteType.relation "Implements" ReflectliteType.implements_) Tryz.func380 (by kernel_rfl) (by kernel_rfl) (by kernel_rfl) (by kernel_rfl)
 have h10 := @run_callFunc_extern Tryz.prog 70 _ ReflectliteType.typeOf Tryz.func70 (by kernel_rfl) (by kernel_rfl) (by kernel_rfl) (by kernel_rfl)
 have h35 := @run_callFunc_extern Tryz.prog 377 _ (ReflectliteType.relation "AssignableTo" ReflectliteType.assignableTo) Tryz.func377 (by kernel_rfl) (by kernel_rfl) (by kernel_rfl) (by kernel_rfl)
 have h11 := @run_callFunc_extern Tryz.prog 120 _ (ReflectliteValue.method (ReflectliteValue.valueError "reflectlite.Value.Elem" 0) ReflectliteValue.elem) Tryz.func120 (by kernel_rfl) (by kernel_rfl) (by kernel_rfl) (by kernel_rfl)
 have h12 := @run_callFunc_extern Tryz.prog 121 _ ReflectliteValue.set Tryz.func121 (by kernel_rfl) (by kernel_rfl) (by kernel_rfl) (by kernel_rfl)
 have tA := ea_typeA
 have tT := ea_typeT
 have mA := ea_mAssign
 have aA := ea_assA
 have aT := ea_assT
 have vT := ea_valueT
 have f6 := ea_valueOf
 have f7 := ea_type
 have mK := ea_mKind
 have mE := ea_mElem
 have mI := ea_mImpl
 have kP := ea_kindP
 have kT := ea_kindT
 have eP := ea_elem
 have iT := ea_impl
 have nA := ea_noAs
 have uA := er_unwrapA
 have mU := er_mUnwrap
 have hlt : 1 < w.heap.size := by
  rcases Nat.lt_or_ge 1 w.heap.size with h | h
  ·exact h
  ·simp [World.cell?, Array.getElem?_eq_none h] at hg
 have htl : t.block < w.heap.size := by
  rcases Nat.lt_or_ge t.block w.heap.size with h | h
  ·exact h
  ·simp [World.cell?, Array.getElem?_eq_none h] at ht0
 let A1 : Obj := .cells #[.pointer (some t)] 89
 let A2 : Obj := .cells #[.pointer (some ⟨5, 89, none⟩), .pointer (some ⟨w.heap.size, 0, none⟩), .int .u64 150] 138
 let A4 : Obj := .cells #[.int .i64 xt, .iface 86 (.agg #[.int .i64 c])] 84
 let A5 : Obj := .cells #[.int .i64 c] 86
 have n8 := ea_isNil ⟨w.heap.size, 0, none⟩ t ((w.alloc A1).alloc A2) (by simp [A1])
 have hg2 : ((w.alloc A1).alloc A2).cell? ⟨1, 0, none⟩ = some (.iface 178 (.agg #[.pointer (some ⟨5, 78, none⟩)])) := by
  rw [World.cell?_alloc_lt _ _ ⟨1, 0, none⟩ (by simp; omega), World.cell?_alloc_lt _ _ ⟨1, 0, none⟩ hlt]; exact hg
 have el := ea_elemV ⟨w.heap.size, 0, none⟩ t ((((w.alloc A1).alloc A2).alloc A2).alloc A4) (by rw [World.cell?_alloc_lt _ _ ⟨w.heap.size, 0, none⟩ (by simp; omega), World.cell?_alloc_lt _ _ ⟨w.heap.size, 0, none⟩ (by simp; omega)]; simp [A1])
 have st := ea_set t ⟨w.heap.size + 1 + 1 + 1 + 1, 0, none⟩ c old (((((w.alloc A1).alloc A2).alloc A2).alloc A4).alloc A5)
  (by rw [World.cell?_alloc_at _ _ _ _ (by simp)]; rfl)
  (by rw [World.cell?_alloc_lt _ _ t (by simp; omega), World.cell?_alloc_lt _ _ t (by simp; omega), World.cell?_alloc_lt _ _ t (by simp; omega), World.cell?_alloc_lt _ _ t (by simp; omega), World.cell?_alloc_lt _ _ t htl]; exact ht0)
  (by rw [World.frozen?_alloc_old _ _ t (by simp; omega), World.frozen?_alloc_old _ _ t (by simp; omega), World.frozen?_alloc_old _ _ t (by simp; omega), World.frozen?_alloc_old _ _ t (by simp; omega), World.frozen?_alloc_old _ _ t (Nat.ne_of_lt htl)]; exact hf0)
 simp only [A1, A2, A4, A5] at n8 hg2 el st
 clear A1 A2 A4 A5
 go_enter Tryz.func37, Tryz.ntmps37
 go_wp2
 refine wp_loop_rounds 2 ?_
 rw [rounds_succ]
 go_wp2_with (go_at_call 371; refine (un_at t xt _ _).mono ?_; rintro e w' ⟨rfl, rfl⟩)
 rw [rounds_succ]
 go_wp2
 go_ret
 exact ⟨rfl, _, ((((Grows.alloc _ _).trans (Grows.alloc _ _)).trans (Grows.alloc _ _)).trans (Grows.alloc _ _)).trans (Grows.alloc _ _), rfl⟩
end Go.Proofs.YtobhnjnffnbbkaaGreatDoor
namespace Go.Proofs.YtobhnjnffnbbkaaGreatDoor
open Go.RowKit
def RowAt (w : World) (size : Nat) (sl : Value) (n : Nat) (xs : List Value) : Prop :=
 xs.length = n * size ∧ ∃ (a : Option Addr) (cap : Nat), sl = .slice a n cap ∧ (a = none → n = 0 ∧ cap = 0) ∧ n ≤ cap ∧ ∀ b, a = some b → ∀ (j : Nat) (u : Value), xs[j]? = some u → w.cell? (b.add j) = some u
def BytesAt (w : World) (sl : Value) (xs : List Int) : Prop := RowAt w 1 sl xs.length (xs.map (Value.int .u8)) ∧ ∀ x ∈ xs, 0 ≤ x ∧ x < 256
theorem rowAt_below {w w' : World} {size n : Nat} {sl : Value} {xs : List Value} (h : RowAt w size sl n xs) (hb : Below w.heap.size w w') : RowAt w' size sl n xs := by
 obtain ⟨hl, a, cap, rfl, hn, hc, hx⟩ := h
 refine ⟨hl, a, cap, rfl, hn, hc, fun b hb' j u hj => ?_⟩
 have h1 := hx b hb' j u hj
 rw [hb.cell (World.block_lt_of_cell? w (b.add j) h1)]
 exact h1
theorem bytesAt_below {w w' : World} {sl : Value} {xs : List Int} (h : BytesAt w sl xs) (hb : Below w.heap.size w w') : BytesAt w' sl xs := ⟨rowAt_below h.1 hb, h.2⟩
end Go.Proofs.YtobhnjnffnbbkaaGreatDoor
namespace Go.Proofs.YtobhnjnffnbbkaaGreatDoor
open Go.RowKit
set_option maxRecDepth 100000
abbrev PicL := List Int × Bool
def PicAt (w : World) (v : Value) (p : PicL) : Prop := ∃ sl, v = .agg #[sl, .bool p.2] ∧ BytesAt w sl p.1
theorem clone_at (w : World) (sl : Value) (xs : List Int) (h : BytesAt w sl xs) (hl : xs.length ≤ 140737488355328) :
  Calls Tryz.prog 332 #[sl] w fun e w' => ∃ v', e = .returned v' ∧ w'.ownsRow w.heap.size 5 1 v' xs.length (xs.map (Value.int .u8)) ∧ Below w.heap.size w w' := by
 obtain ⟨⟨hlen, a, cap, rfl, hn, hc, hx⟩, _⟩ := h
 match a with
 | none =>
  obtain ⟨h0, rfl⟩ := hn rfl
  refine (AnyE.slices_Clone_nil Tryz.lClone xs.length 0 w).mono ?_
  rintro e w' ⟨rfl, rfl⟩
  have hx0 : xs = [] := List.eq_nil_of_length_eq_zero h0
  subst hx0
  exact ⟨_, rfl, ⟨rfl, .inl ⟨rfl, rfl⟩⟩, Below.refl _ _⟩
 | some ad =>
  obtain ⟨i0, hi, hz0, hz1, hz2⟩ := info_parts info8
  have q22 : ∀ (w : World) (a : Option Addr) (n c n' c' : Nat), (binOp .eql 24 (.slice a n c) (.slice none n' c')).run Tryz.prog w = .ok (.bool a.isNone) w := fun w a n c n' c' => Lib.run_eql_slice_nil w _ _ a n c n' c' Tryz.underlying24
  have HX := Lib.hid (hx ad rfl)
  have HL := Lib.hid hlen
  clear hx hlen
  go_enter Tryz.func332, Tryz.ntmps332
  go_wp2_with (at_builtin; refine wpList_append_own _ rfl _ _ 24 rfl w.heap.size 5 i0 (.int .u8 0) 1 1 Tryz.underlying24 hi hz0 hz1 hz2 rfl (by decide) _ _ _ rfl (World.ownsRow_made w #[] 0 (Nat.le_refl _) (Nat.zero_le _) (by simp)) ad xs.length cap (xs.map (Value.int .u8)) rfl ?qc1 ?qc2 ?qc3 ?qc4 ?qc5 ?qc6 ?_)
  case qc1 => exact HL.out
  case qc2 => intro j u hj; exact Lib.cell?_alloc_some _ (HX.out j u hj)
  case qc3 => simp [Value.oneCell']
  case qc4 => unfold maxLen; omega
  case qc5 => omega
  case qc6 => simp
  intro v' w1 hown hgrow _
  go_wp2
  go_ret
  refine ⟨v', rfl, by simpa using hown, ?_⟩
  exact ((Below.refl _ w).alloc (Nat.le_refl _) _).grown hgrow (by simp) (by intro k hk; simp [Value.ownBlock] at hk; omega)
def endS (p : PicL) : List UInt8 × Int := if p.2 then ((p.1.map (fun n => UInt8.ofNat n.toNat)).reverse, 0) else ([], -17)
theorem end_text (xs : List Int) : strOfNums xs.reverse = ⟨((xs.map (fun n => UInt8.ofNat n.toNat)).reverse).toArray⟩ := by unfold strOfNums; rw [List.map_reverse]
theorem w_End (v : Value) (p : PicL) (w : World) (h : PicAt w v p) (hl : p.1.length ≤ 140737488355328) : Calls Tryz.prog 265 #[v] w fun e w' => e = .returned (.tuple #[.string ⟨(endS p).1.toArray⟩, .int .i64 (endS p).2]) ∧ Below w.heap.size w w' := by
 obtain ⟨sl, rfl, hs⟩ := h
 obtain ⟨xs, on⟩ := p
 have b0 := fun o => (Below.refl w.heap.size w).alloc (Nat.le_refl _) o
 cases on with
 | false =>
  go_enter Tryz.func265, Tryz.ntmps265
  go_wp2
  go_ret2
  exact ⟨rfl, b0 _⟩
 | true =>
  have hC := fun o => clone_at (w.alloc o) sl xs (bytesAt_below hs (b0 o)) hl
  have HC := Lib.hid hC
  have HL := Lib.hid hl
  clear hC hs hl
  go_enter Tryz.func265, Tryz.ntmps265
  go_wp2_with fail
  refine (HC.out _).mono ?_
  rintro e w1 ⟨v', rfl, hown, hb1⟩
  have c1 := (b0 _).trans (hb1.mono (b0 _).size)
  have hown1 := own_base hown (b0 _).size
  have HR := Lib.hid (rev_own w1 _ v' _ xs hown1 (Nat.le_trans HL.out (by omega)))
  clear hown hown1 hb1 b0
  go_wp2_with fail
  refine HR.out.mono ?_
  rintro e w2 ⟨rfl, hown2, hb2⟩
  have c2 := hb2 w c1
  have hcv := text_own hown2
  rw [end_text] at hcv
  clear hown2 hb2 c1 HR
  go_wp2
  go_ret2
  exact ⟨rfl, c2⟩
set_option maxHeartbeats 4000000
theorem rep_bytes {c : Cx} {l : List UInt8} {v : Value} (h : Rep c (sq cByte l) v) : BytesAt c.w v (l.map fun b => (b.toNat : Int)) := by
 unfold sq at h
 obtain ⟨ad, cap, vs, hv, hle, hnil, hrl, hlies, hk⟩ := rep_seq h
 have hvs : vs = (l.map fun b => (b.toNat : Int)).map (Value.int .u8) := by
  rw [cByte_map] at hrl
  have : ((l.map fun b => (b.toNat : Int)).map byteP) = ((l.map fun b => (b.toNat : Int)).map (Value.int .u8)).map PV.val := by simp only [List.map_map]; rfl
  rw [this] at hrl
  exact repL_vals hrl
 refine ⟨⟨by simp, ad, cap, by rw [hv]; simp, (fun h => by have := hnil h; exact ⟨by simpa using this.1, this.2.1⟩), by simpa using hle, fun b hb j u hj => ?_⟩, fun x hx => ?_⟩
 ·rw [← hvs] at hj
  have hL := (hlies b hb).resolve_right (by rintro ⟨_, h3⟩; rw [h3] at hj; simp at hj)
  rw [lies_addr hL, Addr.add_lit]
  exact (hL.2 j u hj).1
 ·obtain ⟨b, _, rfl⟩ := List.mem_map.1 hx
  have := b.toNat_lt
  omega
theorem pic_End (p : VPic) (hp : p.b.length ≤ 1000000) : PureC Tryz.prog 265 [ePic p] (tShow (picEnd p)) := by
 intro H B σ w vs s hr
 match vs, hr with
 | [], hr => unfold RepL at hr; obtain ⟨u, us, h1, _⟩ := hr; cases h1
 | v :: v2 :: vs, hr => rw [repL_cons] at hr; have := RepL.length hr.2; simp at this
 | [v], hr =>
 rw [repL_cons] at hr
 have h1 := hr.1
 unfold ePic Rep at h1
 obtain ⟨us, rfl, h2⟩ := h1
 match us, h2 with
 | [], h2 => unfold cPic RepL at h2; obtain ⟨u, us, h1, _⟩ := h2; cases h1
 | [a], h2 => have := RepL.length h2; simp [cPic] at this
 | a :: b :: d :: us, h2 => have := RepL.length h2; simp [cPic] at this
 | [a, b], h2 =>
 unfold cPic at h2
 rw [repL_cons, repL_cons] at h2
 have h3 := rep_bytes h2.1
 have h4 := h2.2.1
 unfold boo Rep at h4
 subst h4
 have hw := w_End (.agg #[a, .bool p.on]) (List.map (fun b : UInt8 => (b.toNat : Int)) p.b, p.on) w ⟨a, rfl, h3⟩ (by simp; omega)
 refine Calls.mono hw ?_
 rintro e w' ⟨rfl, hb⟩
 obtain ⟨s', st⟩ := grow_sim s (Grows.of_below hb)
 refine ⟨_, σ, rfl, ?_, s', st⟩
 have e1 : endS (List.map (fun b : UInt8 => (b.toNat : Int)) p.b, p.on) = picEnd p := by
  unfold endS picEnd
  cases p.on with
  | true => simp [List.map_map, Function.comp_def]
  | false => rfl
 rw [e1]
 unfold tShow tup2 Rep
 exact ⟨[_, _], rfl, repL_cons.2 ⟨by unfold str; exact rep_val _ _, repL_cons.2 ⟨by unfold i64; exact rep_val _ _, repL_nil.2 rfl⟩⟩⟩
theorem picHold_len {p : VPic} {c : Int} (h : (picHold p c).2 = 0) : (picHold p c).1.b.length = p.b.length + 1 ∧ p.b.length < 130 := by
 unfold picHold at h ⊢
 split at h
 ·rename_i hc; rw [if_pos hc]; simp [hc.2]
 ·cases h
theorem picDigit_len {q : VPic} {lo hi base : Int} (h : (picDigit q lo hi base).2.2.2 = 0) : (picDigit q lo hi base).1.b.length = q.b.length + 1 ∧ q.b.length < 130 := by
 unfold picDigit at h ⊢
 split at h
 ·cases h
 ·rename_i hb
  rw [if_neg hb]
  split at h
  ·rename_i h0
   rw [if_pos h0]
   exact picHold_len h0
  ·rename_i h0; exact absurd h h0
theorem picAllF_step (q : VPic) (lo hi base : Int) : picAllF q lo hi base = if (picDigit q lo hi base).2.2.2 ≠ 0 then (q, (picDigit q lo hi base).2.2.2) else if (picDigit q lo hi base).2.1 = 0 ∧ (picDigit q lo hi base).2.2.1 = 0 then ((picDigit q lo hi base).1, 0) else picAllF (picDigit q lo hi base).1 (picDigit q lo hi base).2.1 (picDigit q lo hi base).2.2.1 base := by
 by_cases h : (picDigit q lo hi base).2.2.2 = 0
 ·obtain ⟨h1, h2⟩ := picDigit_len h
  unfold picAllF
  rw [h1, show 131 - q.b.length = (131 - (q.b.length + 1)) + 1 by omega]
  rfl
 ·rw [if_pos h]
  unfold picAllF
  cases hn : 131 - q.b.length with
  | zero => rfl
  | succ n => unfold picAllN; rw [if_pos h]
def picZ : List PV := [.seq 0 [] .clip, .val (.bool false)]
@[simp] theorem nl_picZ {n : Nat} : NL1L n picZ := by unfold picZ; exact ⟨flat_clip0, flat_val (.bool false), trivial⟩
theorem pic_step (p q : VPic) (lo hi base : Int) (hq : q.b.length ≤ 1000000) :
  HC Tryz.prog 331 [.ptr 5 0, .ptr 1 0, .ptr 2 0, .ptr 3 0] [.cells (cPic p) 32, .cells [i64 lo] 3, .cells [i64 hi] 3, .cells [i64 base] 3, .cells picZ 32, .cells (cPic q) 32] (i64 (picDigit q lo hi base).2.2.2)
   [.cells (cPic p) 32, .cells [i64 (picDigit q lo hi base).2.1] 3, .cells [i64 (picDigit q lo hi base).2.2.1] 3, .cells [i64 base] 3, .cells picZ 32, .cells (cPic (picDigit q lo hi base).1) 32, .cells (cPic (picDigit q lo hi base).1) 32] := by
 refine hc_of_WR tG (rs := [.tmp 4]) Tryz.func331 rfl rfl rfl (fun B => ?_)
 refine zu1 ?_
 refine zp4 ?_
 refine Wc rfl rfl (dC rfl Tryz.func259 rfl rfl ((pic_Digit q lo hi base hq) _)) ?_
 refine zy5 ?_
 refine zs5 ?_
 refine zp5 ?_
 refine zs1 ?_
 refine zu2 ?_
 refine Wq ?_
 refine leafH rfl ?_ ?_
 ·rfl
 ·rfl
theorem pic_All (p : VPic) (lo hi base : Int) (hp : p.b.length ≤ 1000000) : PureC Tryz.prog 261 [ePic p, i64 lo, i64 hi, i64 base] (tPic (picAll p lo hi base)) := by
 refine pW tG (rs := [.cell 8 32, .tmp 9]) Tryz.func261 rfl rfl rfl (by simp) (by simp) (fun B => ?_)
 refine zp5 ?_
 refine zs1 ?_
 refine zu3 ?_
 refine zu2 ?_
 refine Wl ?_
 show W _ _ _ _ _ _ _
 refine W_loopS (fun (v : VPic × Int × Int) => [(4, .ptr 0 0), (5, .ptr 1 0), (6, .ptr 2 0), (8, .ptr 4 0), (10, .ptr 5 0), (11, .fn (.func 331) [] [.ptr 5 0, .ptr 1 0, .ptr 2 0, .ptr 3 0])]) (fun (v : VPic × Int × Int) => [.cells (cPic p) 32, .cells [i64 v.2.1] 3, .cells [i64 v.2.2] 3, .cells [i64 base] 3, .cells picZ 32, .cells (cPic v.1) 32]) (fun (v : VPic × Int × Int) => []) (fun (v : VPic × Int × Int) => v.1.b.length ≤ 1000000 ∧ picAll p lo hi base = finP p (picAllF v.1 v.2.1 v.2.2 base)) (fun (v : VPic × Int × Int) => 131 - v.1.b.length) ((p, lo, hi)) (by exact ⟨hp, rfl⟩) [] ?_ ?_
 ·exact fitT
 ·intro v hv
  refine Wl ?_
  refine Ws ?_
  refine zp1 ?_
  refine Wc rfl rfl (doesCWv rfl rfl Tryz.func331 rfl rfl (pic_step p v.1 v.2.1 v.2.2 base hv.1)) ?_
  refine zs1 ?_
  refine zu2 ?_
  refine Wi rfl (fun hi1 => ?_) (fun hi1 => ?_)
  ·have h0 : (picDigit v.1 v.2.1 v.2.2 base).2.2.2 ≠ 0 := by simpa using hi1
   refine zu4 ?_
   refine zR ?_
   rw [hv.2, picAllF_step, if_pos h0, finP, if_neg h0]; rfl
  ·have h0 : (picDigit v.1 v.2.1 v.2.2 base).2.2.2 = 0 := by simpa using hi1
   have hl := picDigit_len h0
   refine Wj ?_
   refine zp3 ?_
   refine Wb 23 rfl (fun hg1 => ?_) (fun hg1 => ?_)
   ·have h1 : (picDigit v.1 v.2.1 v.2.2 base).2.1 = 0 := by simpa using hg1
    refine zs3 ?_
    refine Wi rfl (fun hi2 => ?_) (fun hi2 => ?_)
    ·have h2 : (picDigit v.1 v.2.1 v.2.2 base).2.1 = 0 ∧ (picDigit v.1 v.2.1 v.2.2 base).2.2.1 = 0 := by (try simp only [dnL] at *); exact ⟨h1, hi2⟩
     refine zu3 ?_
     refine zR ?_
     rw [hv.2, picAllF_step, if_neg (by rw [h0]; simp), if_pos h2, finP, if_pos rfl]; rfl
    ·have h2 : ¬ ((picDigit v.1 v.2.1 v.2.2 base).2.1 = 0 ∧ (picDigit v.1 v.2.1 v.2.2 base).2.2.1 = 0) := by rintro ⟨q1, q2⟩; (try simp only [dnL] at *); exact hi2 q2
     refine Wj ?_
     exact ⟨((picDigit v.1 v.2.1 v.2.2 base).1, (picDigit v.1 v.2.1 v.2.2 base).2.1, (picDigit v.1 v.2.1 v.2.2 base).2.2.1), [], (by exact ⟨by show (picDigit v.1 v.2.1 v.2.2 base).1.b.length ≤ _; omega, by rw [hv.2, picAllF_step, if_neg (by rw [h0]; simp), if_neg (by exact h2)]⟩), (by show 131 - (picDigit v.1 v.2.1 v.2.2 base).1.b.length < _; omega), fitT⟩
   ·have h1 : ¬ (picDigit v.1 v.2.1 v.2.2 base).2.1 = 0 := by simpa using hg1
    iterate 2 refine z6 ?_
    refine zs1 ?_
    refine Wf rfl rfl ?_
    refine Wj ?_
    exact ⟨((picDigit v.1 v.2.1 v.2.2 base).1, (picDigit v.1 v.2.1 v.2.2 base).2.1, (picDigit v.1 v.2.1 v.2.2 base).2.2.1), [], (by exact ⟨by show (picDigit v.1 v.2.1 v.2.2 base).1.b.length ≤ _; omega, by rw [hv.2, picAllF_step, if_neg (by rw [h0]; simp), if_neg (by (rintro ⟨q1, q2⟩; exact h1 q1))]⟩), (by show 131 - (picDigit v.1 v.2.1 v.2.2 base).1.b.length < _; omega), fitT⟩
end Go.Proofs.YtobhnjnffnbbkaaGreatDoor
