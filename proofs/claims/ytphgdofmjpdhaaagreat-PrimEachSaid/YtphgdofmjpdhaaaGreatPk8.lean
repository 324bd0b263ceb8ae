import Derived.Test.YtphgdofmjpdhaaaGreatPk7
set_option linter.unusedVariables false
set_option linter.unusedSimpArgs false
namespace Go.Proofs.YtphgdofmjpdhaaaGreat
open Go.RowKit
set_option maxRecDepth 100000
set_option maxHeartbeats 4000000
def reqVs (x : VReq) : List Value := [.int .i64 x.kind, .int .i64 x.arg, .int .i64 x.hand, .int .i64 x.rank, .int .i64 x.delay, .int .i64 x.id]
theorem req_eq {x y : VReq} (h : eqVs (reqVs x) (reqVs y) = true) : x = y := by cases x; cases y; simp [reqVs, eqVs, eqV] at h; simp [h]
theorem req_self (x : VReq) : eqVs (reqVs x) (reqVs x) = true := by simp [reqVs, eqVs, eqV]
def handVs (x : VHand) : List Value := [.int .i64 x.xt, .int .i64 x.fuel, .int .i64 x.strikes, .bool x.out]
theorem hand_eq {x y : VHand} (h : eqVs (handVs x) (handVs y) = true) : x = y := by cases x; cases y; simp [handVs, eqVs, eqV] at h; simp [h]
theorem hand_self (x : VHand) : eqVs (handVs x) (handVs x) = true := by simp [handVs, eqVs, eqV]
def confVs (x : VConf) : List Value := [.int .i64 x.mem, .int .i64 x.data, .int .i64 x.ret, .int .i64 x.words, .int .i64 x.out]
theorem conf_eq {x y : VConf} (h : eqVs (confVs x) (confVs y) = true) : x = y := by cases x; cases y; simp [confVs, eqVs, eqV] at h; simp [h]
theorem conf_self (x : VConf) : eqVs (confVs x) (confVs x) = true := by simp [confVs, eqVs, eqV]
theorem not_f {b : Bool} (h : (!b) = false) : b = true := by cases b <;> simp_all
theorem not_t {b : Bool} (h : (!b) = true) : b = false := by cases b <;> simp_all
theorem ref_Reqs (a b : List VReq) (ha : a.length ≤ 1000000) (hb : b.length ≤ 1000000) : PureC Tryz.prog 38 [sq cReq a, sq cReq b] (boo (decide (a = b))) := by
 refine pW tG (rs := [.tmp 4]) Tryz.func38 rfl rfl rfl (by simp) (by simp) (fun B => ?_)
 refine zu1 ?_
 refine Ws ?_
 refine zu5 ?_
 refine Wi rfl (fun hi1 => ?_) (fun hi1 => ?_)
 ·have hne : a ≠ b := fun h => by subst h; simp at hi1
  refine zu1 ?_
  refine zR ?_
  exact congrArg boo (decide_eq_false hne).symm
 ·have hl : a.length = b.length := by (try simp only [dnL] at *); omega
  refine Wj ?_
  refine Ws ?_
  refine zu1 ?_
  refine Wl ?_
  show W _ _ _ _ _ _ _
  refine W_loopS (fun (k : Nat) => [(0, sq cReq a), (1, sq cReq b), (5, i64 k)]) (fun (k : Nat) => []) (fun (k : Nat) => []) (fun (k : Nat) => k ≤ a.length ∧ a.take k = b.take k) (fun (k : Nat) => a.length - k) (0) (by simp) [] ?_ ?_
  ·exact fitT
  ·intro k hk
   refine Ws ?_
   refine zu4 ?_
   refine Wi rfl (fun hi2 => ?_) (fun hi2 => ?_)
   ·have hlt : k < a.length := by have := oT hi2; omega
    refine Wj ?_
    refine Ws ?_
    refine Wl ?_
    refine Ws ?_
    refine W_drawU [0, 0, 0, 1, 0, 0, 0, 1, 0] [0, 1, 2, 3, 4, 5, 6, 7, 8] mG rfl (by kernel_rfl) ?_
    iterate 2 refine z3 ?_
    refine Xi tG rfl rfl rfl rfl (fun _ => rfl) (by omega) (iN cReq 6 (fun _ => rfl) default (by omega)) ?_
    refine z5 ?_
    iterate 2 refine z3 ?_
    refine Xi tG rfl rfl rfl rfl (fun _ => rfl) (by omega) (iN cReq 6 (fun _ => rfl) default (by omega)) ?_
    refine z5 ?_
    refine WU_does0 rfl rfl rfl rfl (fun _ => does_struct_neq rfl rfl rfl rfl rfl (by kernel_rfl)) ?_
    refine WU_nil ?_
    refine Wi rfl (fun hi3 => ?_) (fun hi3 => ?_)
    ·have hne : a ≠ b := fun h => by have h1 := not_t hi3; rw [h] at h1; exact absurd ((req_self _).symm.trans h1) (by simp)
     refine zu1 ?_
     refine zR ?_
     exact congrArg boo (decide_eq_false hne).symm
    ·have he : a.getD k default = b.getD k default := req_eq (not_f hi3)
     refine Wj ?_
     refine W_region rfl ?_
     refine zs3 ?_
     exact ⟨k + 1, [], (by exact ⟨by omega, take_same default hl hlt hk.2 he⟩), (by omega), fitT⟩
   ·have hge : a.length ≤ k := by have := oF hi2; omega
    refine W_exit ?_
    refine zu1 ?_
    refine zR ?_
    exact congrArg boo (decide_eq_true (by have h1 := hk.2; rw [take_all' a k hge, take_all' b k (by omega)] at h1; exact h1)).symm
theorem ref_Hands (a b : List VHand) (ha : a.length ≤ 1000000) (hb : b.length ≤ 1000000) : PureC Tryz.prog 39 [sq cHand a, sq cHand b] (boo (decide (a = b))) := by
 refine pW tG (rs := [.tmp 4]) Tryz.func39 rfl rfl rfl (by simp) (by simp) (fun B => ?_)
 refine zu1 ?_
 refine Ws ?_
 refine zu5 ?_
 refine Wi rfl (fun hi1 => ?_) (fun hi1 => ?_)
 ·have hne : a ≠ b := fun h => by subst h; simp at hi1
  refine zu1 ?_
  refine zR ?_
  exact congrArg boo (decide_eq_false hne).symm
 ·have hl : a.length = b.length := by (try simp only [dnL] at *); omega
  refine Wj ?_
  refine Ws ?_
  refine zu1 ?_
  refine Wl ?_
  show W _ _ _ _ _ _ _
  refine W_loopS (fun (k : Nat) => [(0, sq cHand a), (1, sq cHand b), (5, i64 k)]) (fun (k : Nat) => []) (fun (k : Nat) => []) (fun (k : Nat) => k ≤ a.length ∧ a.take k = b.take k) (fun (k : Nat) => a.length - k) (0) (by simp) [] ?_ ?_
  ·exact fitT
  ·intro k hk
   refine Ws ?_
   refine zu4 ?_
   refine Wi rfl (fun hi2 => ?_) (fun hi2 => ?_)
   ·have hlt : k < a.length := by have := oT hi2; omega
    refine Wj ?_
    refine Ws ?_
    refine Wl ?_
    refine Ws ?_
    refine W_drawU [0, 0, 0, 1, 0, 0, 0, 1, 0] [0, 1, 2, 3, 4, 5, 6, 7, 8] mG rfl (by kernel_rfl) ?_
    iterate 2 refine z3 ?_
    refine Xi tG rfl rfl rfl rfl (fun _ => rfl) (by omega) (iN cHand 4 (fun _ => rfl) default (by omega)) ?_
    refine z5 ?_
    iterate 2 refine z3 ?_
    refine Xi tG rfl rfl rfl rfl (fun _ => rfl) (by omega) (iN cHand 4 (fun _ => rfl) default (by omega)) ?_
    refine z5 ?_
    refine WU_does0 rfl rfl rfl rfl (fun _ => does_struct_neq rfl rfl rfl rfl rfl (by kernel_rfl)) ?_
    refine WU_nil ?_
    refine Wi rfl (fun hi3 => ?_) (fun hi3 => ?_)
    ·have hne : a ≠ b := fun h => by have h1 := not_t hi3; rw [h] at h1; exact absurd ((hand_self _).symm.trans h1) (by simp)
     refine zu1 ?_
     refine zR ?_
     exact congrArg boo (decide_eq_false hne).symm
    ·have he : a.getD k default = b.getD k default := hand_eq (not_f hi3)
     refine Wj ?_
     refine W_region rfl ?_
     refine zs3 ?_
     exact ⟨k + 1, [], (by exact ⟨by omega, take_same default hl hlt hk.2 he⟩), (by omega), fitT⟩
   ·have hge : a.length ≤ k := by have := oF hi2; omega
    refine W_exit ?_
    refine zu1 ?_
    refine zR ?_
    exact congrArg boo (decide_eq_true (by have h1 := hk.2; rw [take_all' a k hge, take_all' b k (by omega)] at h1; exact h1)).symm
theorem word_ext {x y : VWord} (h1 : x.name = y.name) (h2 : x.xt = y.xt) (h3 : x.flags = y.flags) : x = y := by cases x; cases y; simp_all
theorem ref_Same9 (a b : List VWord) (ha : a.length ≤ 1000000) (hb : b.length ≤ 1000000) : PureC Tryz.prog 36 [sq cWord a, sq cWord b] (boo (decide (a = b))) := by
 refine pW tG (rs := [.tmp 4]) Tryz.func36 rfl rfl rfl (by simp) (by simp) (fun B => ?_)
 refine zu1 ?_
 refine Ws ?_
 refine zu5 ?_
 refine Wi rfl (fun hi1 => ?_) (fun hi1 => ?_)
 ·have hne : a ≠ b := fun h => by subst h; simp at hi1
  refine zu1 ?_
  refine zR ?_
  exact congrArg boo (decide_eq_false hne).symm
 ·have hl : a.length = b.length := by (try simp only [dnL] at *); omega
  refine Wj ?_
  refine Ws ?_
  refine zu1 ?_
  refine Wl ?_
  show W _ _ _ _ _ _ _
  refine W_loopS (fun (k : Nat) => [(0, sq cWord a), (1, sq cWord b), (5, i64 k)]) (fun (k : Nat) => []) (fun (k : Nat) => []) (fun (k : Nat) => k ≤ a.length ∧ a.take k = b.take k) (fun (k : Nat) => a.length - k) (0) (by simp) [] ?_ ?_
  ·exact fitT
  ·intro k hk
   refine Ws ?_
   refine zu4 ?_
   refine Wi rfl (fun hi2 => ?_) (fun hi2 => ?_)
   ·have hlt : k < a.length := by have := oT hi2; omega
    refine Wj ?_
    refine Ws ?_
    refine Wl ?_
    refine Ws ?_
    refine W_drawU [0, 0, 0, 0, 1, 0, 0, 0, 0, 1, 0, 0, 0, 0, 0, 0, 1, 0, 0, 0, 0, 1, 0, 0, 0, 0, 0, 0, 0, 1, 0, 0, 0, 0, 1, 0, 0] [0, 1, 2, 3, 4, 5, 6, 7, 8, 9, 10, 11, 12, 13, 14, 15, 16, 17, 18, 19, 20, 21, 22, 23, 24, 25, 26, 27, 28, 29, 30, 31, 32, 33, 34, 35, 36] mG rfl (by kernel_rfl) ?_
    iterate 2 refine z3 ?_
    refine Xi tG rfl rfl rfl rfl (fun _ => rfl) (by omega) (iN cWord 3 (fun _ => rfl) default (by omega)) ?_
    refine z3 ?_
    refine z5 ?_
    iterate 2 refine z3 ?_
    refine Xi tG rfl rfl rfl rfl (fun _ => rfl) (by omega) (iN cWord 3 (fun _ => rfl) default (by omega)) ?_
    refine z3 ?_
    refine z5 ?_
    refine z3 ?_
    refine Xa 27 rfl (str_neq _ _) ?_
    refine z3 ?_
    refine WU_split 28 rfl (fun hg1 => ?_) (fun hg1 => ?_)
    ·have hne : a ≠ b := fun h => by have h1 := oF (not_t hg1); rw [h] at h1; exact h1 rfl
     iterate 11 refine z7 ?_
     iterate 2 refine z3 ?_
     iterate 11 refine z7 ?_
     refine z3 ?_
     refine WU_nil ?_
     refine Wt rfl rfl ?_
     refine zu1 ?_
     refine zR ?_
     exact congrArg boo (decide_eq_false hne).symm
    ·have h1 : (a.getD k default).name = (b.getD k default).name := oT (not_f hg1)
     iterate 2 refine z3 ?_
     refine Xi tG rfl rfl rfl rfl (fun _ => rfl) (by omega) (iN cWord 3 (fun _ => rfl) default (by omega)) ?_
     refine z3 ?_
     refine z5 ?_
     iterate 2 refine z3 ?_
     refine Xi tG rfl rfl rfl rfl (fun _ => rfl) (by omega) (iN cWord 3 (fun _ => rfl) default (by omega)) ?_
     refine z3 ?_
     refine z5 ?_
     iterate 3 refine z3 ?_
     refine WU_split 41 rfl (fun hg2 => ?_) (fun hg2 => ?_)
     ·have hne : a ≠ b := fun h => by have h1 := bne_iff_ne.1 hg2; rw [h] at h1; exact h1 rfl
      iterate 11 refine z7 ?_
      refine z3 ?_
      refine WU_nil ?_
      refine Wt rfl rfl ?_
      refine zu1 ?_
      refine zR ?_
      exact congrArg boo (decide_eq_false hne).symm
     ·have h2 : (a.getD k default).xt = (b.getD k default).xt := bne_eq_false_iff_eq.1 hg2
      iterate 2 refine z3 ?_
      refine Xi tG rfl rfl rfl rfl (fun _ => rfl) (by omega) (iN cWord 3 (fun _ => rfl) default (by omega)) ?_
      refine z3 ?_
      refine z5 ?_
      iterate 2 refine z3 ?_
      refine Xi tG rfl rfl rfl rfl (fun _ => rfl) (by omega) (iN cWord 3 (fun _ => rfl) default (by omega)) ?_
      refine z3 ?_
      refine z5 ?_
      iterate 2 refine z3 ?_
      refine WU_nil ?_
      refine Wi rfl (fun hi3 => ?_) (fun hi3 => ?_)
      ·have hne : a ≠ b := fun h => by have h1 := bne_iff_ne.1 hi3; rw [h] at h1; exact h1 rfl
       refine zu1 ?_
       refine zR ?_
       exact congrArg boo (decide_eq_false hne).symm
      ·have he : a.getD k default = b.getD k default := word_ext h1 h2 (bne_eq_false_iff_eq.1 hi3)
       refine Wj ?_
       refine W_region rfl ?_
       refine zs3 ?_
       exact ⟨k + 1, [], (by exact ⟨by omega, take_same default hl hlt hk.2 he⟩), (by omega), fitT⟩
   ·have hge : a.length ≤ k := by have := oF hi2; omega
    refine W_exit ?_
    refine zu1 ?_
    refine zR ?_
    exact congrArg boo (decide_eq_true (by have h1 := hk.2; rw [take_all' a k hge, take_all' b k (by omega)] at h1; exact h1)).symm
structure VSm (v : VVm) : Prop where
 old : v.mem.old.length ≤ 1000000
 d : v.d.length ≤ 1000000
 r : v.r.length ≤ 1000000
 f : v.f.length ≤ 1000000
 dict : v.dict.length ≤ 1000000
 req : v.req.length ≤ 1000000
 hand : v.hand.length ≤ 1000000
theorem vm_ext {a b : VVm} (h1 : a.conf = b.conf) (h2 : a.mem = b.mem) (h3 : a.here = b.here) (h4 : a.d = b.d) (h5 : a.r = b.r) (h6 : a.f = b.f) (h7 : a.dict = b.dict) (h8 : a.last = b.last) (h9 : a.out = b.out) (h10 : a.pic = b.pic) (h11 : a.req = b.req) (h12 : a.free = b.free) (h13 : a.next = b.next) (h14 : a.arg = b.arg) (h15 : a.self = b.self) (h16 : a.now = b.now) (h17 : a.hand = b.hand) : a = b := by
 cases a; cases b; simp only [VVm.mk.injEq]; exact ⟨h1, h2, h3, h4, h5, h6, h7, h8, h9, h10, h11, h12, h13, h14, h15, h16, h17⟩
theorem ref_Same10 (a b : VVm) (ha : VSm a) (hb : VSm b) : PureC Tryz.prog 18 [eVm a, eVm b] (boo (decide (a = b))) := by
 refine pW tG (rs := [.tmp 4]) Tryz.func18 rfl rfl rfl (by simp) (by simp) (fun B => ?_)
 refine zu3 ?_
 refine zp4 ?_
 refine Wc rfl rfl (dC rfl Tryz.func34 rfl rfl ((ref_Same3 a.mem b.mem ha.old hb.old) _)) ?_
 refine zs1 ?_
 refine zp4 ?_
 refine Wc rfl rfl (dC rfl Tryz.func23 rfl rfl ((ref_Same4 a.d b.d ha.d hb.d) _)) ?_
 refine zs1 ?_
 refine zp4 ?_
 refine Wc rfl rfl (dC rfl Tryz.func23 rfl rfl ((ref_Same4 a.r b.r ha.r hb.r) _)) ?_
 refine zs1 ?_
 refine zp4 ?_
 refine Wc rfl rfl (dC rfl Tryz.func35 rfl rfl ((ref_frames a.f b.f ha.f hb.f) _)) ?_
 refine zs1 ?_
 refine zp4 ?_
 refine Wc rfl rfl (dC rfl Tryz.func36 rfl rfl ((ref_Same9 a.dict b.dict ha.dict hb.dict) _)) ?_
 refine zs1 ?_
 refine zp4 ?_
 refine Wc rfl rfl (dC rfl Tryz.func37 rfl rfl ((ref_Same7 a.pic b.pic) _)) ?_
 refine zs1 ?_
 refine zp4 ?_
 refine Wc rfl rfl (dC rfl Tryz.func38 rfl rfl ((ref_Reqs a.req b.req ha.req hb.req) _)) ?_
 refine zs1 ?_
 refine zp4 ?_
 refine Wc rfl rfl (dC rfl Tryz.func39 rfl rfl ((ref_Hands a.hand b.hand ha.hand hb.hand) _)) ?_
 refine zs1 ?_
 refine Ws ?_
 refine zp3 ?_
 refine Wb 55 rfl (fun hg1 => ?_) (fun hg1 => ?_)
 ·have hne : a ≠ b := fun h => oF (not_t hg1) (by rw [h])
  iterate 2 refine z6 ?_
  refine zy2 ?_
  iterate 2 refine z6 ?_
  refine zy2 ?_
  iterate 2 refine z6 ?_
  refine zy2 ?_
  iterate 2 refine z6 ?_
  refine zy2 ?_
  iterate 2 refine z6 ?_
  refine zy2 ?_
  iterate 2 refine z6 ?_
  refine zy2 ?_
  iterate 2 refine z6 ?_
  refine zy2 ?_
  iterate 5 refine z6 ?_
  refine zy2 ?_
  iterate 7 refine z6 ?_
  refine zs1 ?_
  refine Wt rfl rfl ?_
  refine zu1 ?_
  refine zR ?_
  exact congrArg boo (decide_eq_false hne).symm
 ·have h1 := oT (not_f hg1)
  refine zy4 ?_
  refine Wb 59 rfl (fun hg2 => ?_) (fun hg2 => ?_)
  ·have hne : a ≠ b := fun h => oF (not_t hg2) (by rw [h])
   iterate 2 refine z6 ?_
   refine zy2 ?_
   iterate 2 refine z6 ?_
   refine zy2 ?_
   iterate 2 refine z6 ?_
   refine zy2 ?_
   iterate 2 refine z6 ?_
   refine zy2 ?_
   iterate 2 refine z6 ?_
   refine zy2 ?_
   iterate 2 refine z6 ?_
   refine zy2 ?_
   iterate 5 refine z6 ?_
   refine zy2 ?_
   iterate 7 refine z6 ?_
   refine zs1 ?_
   refine Wt rfl rfl ?_
   refine zu1 ?_
   refine zR ?_
   exact congrArg boo (decide_eq_false hne).symm
  ·have h2 := oT (not_f hg2)
   refine zy4 ?_
   refine Wb 63 rfl (fun hg3 => ?_) (fun hg3 => ?_)
   ·have hne : a ≠ b := fun h => oF (not_t hg3) (by rw [h])
    iterate 2 refine z6 ?_
    refine zy2 ?_
    iterate 2 refine z6 ?_
    refine zy2 ?_
    iterate 2 refine z6 ?_
    refine zy2 ?_
    iterate 2 refine z6 ?_
    refine zy2 ?_
    iterate 2 refine z6 ?_
    refine zy2 ?_
    iterate 5 refine z6 ?_
    refine zy2 ?_
    iterate 7 refine z6 ?_
    refine zs1 ?_
    refine Wt rfl rfl ?_
    refine zu1 ?_
    refine zR ?_
    exact congrArg boo (decide_eq_false hne).symm
   ·have h3 := oT (not_f hg3)
    refine zy4 ?_
    refine Wb 67 rfl (fun hg4 => ?_) (fun hg4 => ?_)
    ·have hne : a ≠ b := fun h => oF (not_t hg4) (by rw [h])
     iterate 2 refine z6 ?_
     refine zy2 ?_
     iterate 2 refine z6 ?_
     refine zy2 ?_
     iterate 2 refine z6 ?_
     refine zy2 ?_
     iterate 2 refine z6 ?_
     refine zy2 ?_
     iterate 5 refine z6 ?_
     refine zy2 ?_
     iterate 7 refine z6 ?_
     refine zs1 ?_
     refine Wt rfl rfl ?_
     refine zu1 ?_
     refine zR ?_
     exact congrArg boo (decide_eq_false hne).symm
    ·have h4 := oT (not_f hg4)
     refine zy4 ?_
     refine Wb 71 rfl (fun hg5 => ?_) (fun hg5 => ?_)
     ·have hne : a ≠ b := fun h => oF (not_t hg5) (by rw [h])
      iterate 2 refine z6 ?_
      refine zy2 ?_
      iterate 2 refine z6 ?_
      refine zy2 ?_
      iterate 2 refine z6 ?_
      refine zy2 ?_
      iterate 5 refine z6 ?_
      refine zy2 ?_
      iterate 7 refine z6 ?_
      refine zs1 ?_
      refine Wt rfl rfl ?_
      refine zu1 ?_
      refine zR ?_
      exact congrArg boo (decide_eq_false hne).symm
     ·have h5 := oT (not_f hg5)
      refine zy4 ?_
      refine Wb 75 rfl (fun hg6 => ?_) (fun hg6 => ?_)
      ·have hne : a ≠ b := fun h => oF (not_t hg6) (by rw [h])
       iterate 2 refine z6 ?_
       refine zy2 ?_
       iterate 2 refine z6 ?_
       refine zy2 ?_
       iterate 5 refine z6 ?_
       refine zy2 ?_
       iterate 7 refine z6 ?_
       refine zs1 ?_
       refine Wt rfl rfl ?_
       refine zu1 ?_
       refine zR ?_
       exact congrArg boo (decide_eq_false hne).symm
      ·have h6 := oT (not_f hg6)
       refine zy4 ?_
       refine Wb 79 rfl (fun hg7 => ?_) (fun hg7 => ?_)
       ·have hne : a ≠ b := fun h => oF (not_t hg7) (by rw [h])
        iterate 2 refine z6 ?_
        refine zy2 ?_
        iterate 5 refine z6 ?_
        refine zy2 ?_
        iterate 7 refine z6 ?_
        refine zs1 ?_
        refine Wt rfl rfl ?_
        refine zu1 ?_
        refine zR ?_
        exact congrArg boo (decide_eq_false hne).symm
       ·have h7 := oT (not_f hg7)
        refine zy4 ?_
        refine Wb 83 rfl (fun hg8 => ?_) (fun hg8 => ?_)
        ·have hne : a ≠ b := fun h => oF (not_t hg8) (by rw [h])
         iterate 5 refine z6 ?_
         refine zy2 ?_
         iterate 7 refine z6 ?_
         refine zs1 ?_
         refine Wt rfl rfl ?_
         refine zu1 ?_
         refine zR ?_
         exact congrArg boo (decide_eq_false hne).symm
        ·have h8 := oT (not_f hg8)
         refine zy4 ?_
         refine Wd rfl rfl (does_struct_neq rfl rfl rfl rfl rfl (by kernel_rfl)) ?_
         refine zy2 ?_
         refine Wb 90 rfl (fun hg9 => ?_) (fun hg9 => ?_)
         ·have hne : a ≠ b := fun h => by have h1 := not_t hg9; rw [h] at h1; exact absurd ((conf_self _).symm.trans h1) (by simp)
          iterate 7 refine z6 ?_
          refine zs1 ?_
          refine Wt rfl rfl ?_
          refine zu1 ?_
          refine zR ?_
          exact congrArg boo (decide_eq_false hne).symm
         ·have h9 : a.conf = b.conf := conf_eq (not_f hg9)
          refine zy2 ?_
          refine Wd rfl rfl (does_bytes_str (lO tG rfl) rfl (lO tG rfl) rfl (lO tG rfl) rfl rfl rfl) ?_
          refine zy2 ?_
          refine Wd rfl rfl (does_bytes_str (lO tG rfl) rfl (lO tG rfl) rfl (lO tG rfl) rfl rfl rfl) ?_
          refine z1 ?_
          refine Wa 97 rfl (str_neq _ _) ?_
          refine zs1 ?_
          refine Wi rfl (fun hi1 => ?_) (fun hi1 => ?_)
          ·have hne : a ≠ b := fun h => oF (not_t hi1) (by rw [h])
           refine zu1 ?_
           refine zR ?_
           exact congrArg boo (decide_eq_false hne).symm
          ·have h10 := oT (not_f hi1)
           refine Wj ?_
           refine zp5 ?_
           refine z1 ?_
           refine Wb 104 rfl (fun hg10 => ?_) (fun hg10 => ?_)
           ·have q1 : a.here = b.here := beq_iff_eq.1 hg10
            refine zy5 ?_
            refine zy2 ?_
            refine Wb 111 rfl (fun hg11 => ?_) (fun hg11 => ?_)
            ·have q2 : a.last = b.last := beq_iff_eq.1 hg11
             refine zy5 ?_
             refine zy2 ?_
             refine Wb 118 rfl (fun hg12 => ?_) (fun hg12 => ?_)
             ·have q3 : a.free = b.free := beq_iff_eq.1 hg12
              refine zy5 ?_
              refine zy2 ?_
              refine Wb 125 rfl (fun hg13 => ?_) (fun hg13 => ?_)
              ·have q4 : a.next = b.next := beq_iff_eq.1 hg13
               refine zy5 ?_
               refine zy2 ?_
               refine Wb 132 rfl (fun hg14 => ?_) (fun hg14 => ?_)
               ·have q5 : a.arg = b.arg := beq_iff_eq.1 hg14
                refine zy5 ?_
                refine zy2 ?_
                refine Wb 139 rfl (fun hg15 => ?_) (fun hg15 => ?_)
                ·have q6 : a.self = b.self := beq_iff_eq.1 hg15
                 refine zy5 ?_
                 refine zs2 ?_
                 refine zR ?_
                 (refine congrArg boo ?_; rw [Bool.eq_iff_iff, beq_iff_eq, decide_eq_true_eq]; exact ⟨fun q7 => vm_ext h9 h1 q1 h2 h3 h4 h5 q2 h10 h6 h7 q3 q4 q5 q6 q7 h8, fun h => by rw [h]⟩)
                ·have hne : a ≠ b := fun h => beq_eq_false_iff_ne.1 hg15 (by rw [h])
                 iterate 5 refine z6 ?_
                 refine zs2 ?_
                 refine zR ?_
                 exact congrArg boo (decide_eq_false hne).symm
               ·have hne : a ≠ b := fun h => beq_eq_false_iff_ne.1 hg14 (by rw [h])
                iterate 5 refine z6 ?_
                refine zy2 ?_
                iterate 5 refine z6 ?_
                refine zs2 ?_
                refine zR ?_
                exact congrArg boo (decide_eq_false hne).symm
              ·have hne : a ≠ b := fun h => beq_eq_false_iff_ne.1 hg13 (by rw [h])
               iterate 5 refine z6 ?_
               refine zy2 ?_
               iterate 5 refine z6 ?_
               refine zy2 ?_
               iterate 5 refine z6 ?_
               refine zs2 ?_
               refine zR ?_
               exact congrArg boo (decide_eq_false hne).symm
             ·have hne : a ≠ b := fun h => beq_eq_false_iff_ne.1 hg12 (by rw [h])
              iterate 5 refine z6 ?_
              refine zy2 ?_
              iterate 5 refine z6 ?_
              refine zy2 ?_
              iterate 5 refine z6 ?_
              refine zy2 ?_
              iterate 5 refine z6 ?_
              refine zs2 ?_
              refine zR ?_
              exact congrArg boo (decide_eq_false hne).symm
            ·have hne : a ≠ b := fun h => beq_eq_false_iff_ne.1 hg11 (by rw [h])
             iterate 5 refine z6 ?_
             refine zy2 ?_
             iterate 5 refine z6 ?_
             refine zy2 ?_
             iterate 5 refine z6 ?_
             refine zy2 ?_
             iterate 5 refine z6 ?_
             refine zy2 ?_
             iterate 5 refine z6 ?_
             refine zs2 ?_
             refine zR ?_
             exact congrArg boo (decide_eq_false hne).symm
           ·have hne : a ≠ b := fun h => beq_eq_false_iff_ne.1 hg10 (by rw [h])
            iterate 5 refine z6 ?_
            refine zy2 ?_
            iterate 5 refine z6 ?_
            refine zy2 ?_
            iterate 5 refine z6 ?_
            refine zy2 ?_
            iterate 5 refine z6 ?_
            refine zy2 ?_
            iterate 5 refine z6 ?_
            refine zy2 ?_
            iterate 5 refine z6 ?_
            refine zs2 ?_
            refine zR ?_
            exact congrArg boo (decide_eq_false hne).symm
end Go.Proofs.YtphgdofmjpdhaaaGreat
namespace Go.Proofs.YtphgdofmjpdhaaaGreat
open Go.RowKit
set_option maxRecDepth 100000
set_option maxHeartbeats 4000000
def few3 (m : VMem) (most : Int) : Bool := decide ((m.b.length : Int) ≤ most ∧ m.old.length ≤ 60) && m.old.all (fun p => decide (p.old.length ≤ 200))
theorem ref_Few3 (m : VMem) (most : Int) (hb : m.b.length ≤ 9223372036854775807) (ho : m.old.length ≤ 9223372036854775807) : PureC Tryz.prog 45 [eMem m, i64 most] (boo (few3 m most)) := by
 refine pW tG (rs := [.tmp 4]) Tryz.func45 rfl rfl rfl (by simp) (by simp) (fun B => ?_)
 refine zu2 ?_
 refine Ws ?_
 refine zp5 ?_
 refine z1 ?_
 refine Wb 11 rfl (fun hg1 => ?_) (fun hg1 => ?_)
 ·have hno : ¬ ((m.b.length : Int) ≤ most ∧ m.old.length ≤ 60) := fun h => by have := oT hg1; omega
  iterate 4 refine z6 ?_
  refine zs1 ?_
  refine Wt rfl rfl ?_
  refine zu1 ?_
  refine zR ?_
  exact congrArg boo (by rw [few3, decide_eq_false hno]; rfl)
 ·have h0 : ¬ (m.b.length : Int) > most := oF hg1
  refine zs5 ?_
  refine Wi rfl (fun hi1 => ?_) (fun hi1 => ?_)
  ·have hno : ¬ ((m.b.length : Int) ≤ most ∧ m.old.length ≤ 60) := fun h => by have := oT hi1; omega
   refine zu1 ?_
   refine zR ?_
   exact congrArg boo (by rw [few3, decide_eq_false hno]; rfl)
  ·have h1 : ¬ (m.old.length : Int) > 60 := oF hi1
   have hyes : (m.b.length : Int) ≤ most ∧ m.old.length ≤ 60 := ⟨by omega, by omega⟩
   refine Wj ?_
   refine Ws ?_
   refine zu1 ?_
   refine Wl ?_
   show W _ _ _ _ _ _ _
   refine W_loopS (fun (k : Nat) => [(2, .ptr 0 0), (5, i64 k)]) (fun (k : Nat) => [.cells (cMem m) 27]) (fun (k : Nat) => []) (fun (k : Nat) => k ≤ m.old.length ∧ (m.old.take k).all (fun p => decide (p.old.length ≤ 200)) = true) (fun (k : Nat) => m.old.length - k) (0) (by simp) [] ?_ ?_
   ·exact fitT
   ·intro k hk
    refine Ws ?_
    refine zu5 ?_
    refine Wi rfl (fun hi2 => ?_) (fun hi2 => ?_)
    ·have hlt : k < m.old.length := by have := oT hi2; omega
     refine Wj ?_
     refine Ws ?_
     refine Wl ?_
     refine zp3 ?_
     refine Wv tG rfl rfl rfl (by omega) (iN cPatch 2 (fun _ => rfl) default (by omega)) ?_
     refine zs4 ?_
     refine Wi rfl (fun hi3 => ?_) (fun hi3 => ?_)
     ·have hn : m.old.all (fun p => decide (p.old.length ≤ 200)) = false := all_no default hlt (decide_eq_false (by have := oT hi3; omega))
      refine zu1 ?_
      refine zR ?_
      exact congrArg boo (by rw [few3, hn, Bool.and_false])
     ·have hy : decide ((m.old.getD k default).old.length ≤ 200) = true := decide_eq_true (by have := oF hi3; omega)
      refine Wj ?_
      refine W_region rfl ?_
      refine zs3 ?_
      exact ⟨k + 1, [], (by exact ⟨by omega, all_snoc default hlt hk.2 hy⟩), (by omega), fitT⟩
    ·have hge : m.old.length ≤ k := by have := oF hi2; omega
     have hall : m.old.all (fun p => decide (p.old.length ≤ 200)) = true := by have h1 := hk.2; rw [take_all' _ k hge] at h1; exact h1
     refine W_exit ?_
     refine zu1 ?_
     refine zR ?_
     exact congrArg boo (by rw [few3, hall, decide_eq_true hyes]; rfl)
def namedS (s : Str) : Int := if s.length = 0 then -16 else if 31 < s.length then -19 else if s.all (fun c => decide (32 < c.toNat)) then 0 else -32
theorem ref_named (s : Str) : PureC Tryz.prog 76 [str s] (i64 (namedS s)) := by
 refine pW tG (rs := [.tmp 2]) Tryz.func76 rfl rfl rfl (by simp) (by simp) (fun B => ?_)
 refine zu1 ?_
 refine Ws ?_
 refine zp2 ?_
 refine Wa 5 rfl (str_len _) ?_
 refine zs1 ?_
 refine Wi rfl (fun hi1 => ?_) (fun hi1 => ?_)
 ·have h0 : s.length = 0 := by have := beq_iff_eq.1 hi1; omega
  refine zu1 ?_
  refine zR ?_
  rw [namedS, if_pos h0]; rfl
 ·have h0 : ¬ s.length = 0 := by have := beq_eq_false_iff_ne.1 hi1; omega
  refine Wj ?_
  refine Ws ?_
  refine zp2 ?_
  refine Wa 8 rfl (str_len _) ?_
  refine zs1 ?_
  refine Wi rfl (fun hi2 => ?_) (fun hi2 => ?_)
  ·have h1 : 31 < s.length := by have := oT hi2; omega
   refine zu1 ?_
   refine zR ?_
   rw [namedS, if_neg h0, if_pos h1]; rfl
  ·have h1 : ¬ 31 < s.length := by have := oF hi2; omega
   refine Wj ?_
   refine Ws ?_
   refine zu1 ?_
   refine Wl ?_
   show W _ _ _ _ _ _ _
   refine W_loopS (fun (k : Nat) => [(0, str s), (3, i64 k)]) (fun (k : Nat) => []) (fun (k : Nat) => []) (fun (k : Nat) => k ≤ s.length ∧ (s.take k).all (fun c => decide (32 < c.toNat)) = true) (fun (k : Nat) => s.length - k) (0) (by simp) [] ?_ ?_
   ·exact fitT
   ·intro k hk
    refine Ws ?_
    refine zp3 ?_
    refine Wa 12 rfl (str_len _) ?_
    refine zs1 ?_
    refine Wi rfl (fun hi3 => ?_) (fun hi3 => ?_)
    ·have hlt : k < s.length := by have := oT hi3; omega
     refine Wj ?_
     refine Ws ?_
     refine Wl ?_
     refine zp2 ?_
     refine z2 ?_ (q := (by simp only [str_size]; omega))
     refine Wa 18 rfl (str_byteN _ _) ?_
     refine zs1 ?_
     refine Wi rfl (fun hi4 => ?_) (fun hi4 => ?_)
     ·have hn : s.all (fun c => decide (32 < c.toNat)) = false := all_no 0 hlt (decide_eq_false (by have := oT hi4; omega))
      refine zu1 ?_
      refine zR ?_
      rw [namedS, if_neg h0, if_neg h1, hn]; rfl
     ·have hy : decide (32 < (s.getD k 0).toNat) = true := decide_eq_true (by have := oF hi4; omega)
      refine Wj ?_
      refine W_region rfl ?_
      refine zs3 ?_
      exact ⟨k + 1, [], (by exact ⟨by omega, all_snoc 0 hlt hk.2 hy⟩), (by omega), fitT⟩
    ·have hge : s.length ≤ k := by have := oF hi3; omega
     have hall : s.all (fun c => decide (32 < c.toNat)) = true := by have h1 := hk.2; rw [take_all' _ k hge] at h1; exact h1
     refine W_exit ?_
     refine zu1 ?_
     refine zR ?_
     rw [namedS, if_neg h0, if_neg h1, hall]; rfl
def wordOk (w : VWord) : Bool := decide (namedS w.name = 0 ∧ 0 ≤ w.flags ∧ w.flags ≤ 7)
def right9 (l : List VWord) : Bool := l.all wordOk && decide (l.length ≤ 1024)
theorem ref_Right9 (l : List VWord) (hl : l.length ≤ 9223372036854775807) : PureC Tryz.prog 42 [sq cWord l] (boo (right9 l)) := by
 refine pW tG (rs := [.tmp 2]) Tryz.func42 rfl rfl rfl (by simp) (by simp) (fun B => ?_)
 refine zu1 ?_
 refine Ws ?_
 refine zu1 ?_
 refine Wl ?_
 show W _ _ _ _ _ _ _
 refine W_loopS (fun (k : Nat) => [(0, sq cWord l), (3, i64 k)]) (fun (k : Nat) => []) (fun (k : Nat) => []) (fun (k : Nat) => k ≤ l.length ∧ (l.take k).all wordOk = true) (fun (k : Nat) => l.length - k) (0) (by simp) [] ?_ ?_
 ·exact fitT
 ·intro k hk
  refine Ws ?_
  refine zu4 ?_
  refine Wi rfl (fun hi1 => ?_) (fun hi1 => ?_)
  ·have hlt : k < l.length := by have := oT hi1; omega
   refine Wj ?_
   refine Ws ?_
   refine Wl ?_
   refine zp2 ?_
   refine Wv tG rfl rfl rfl (by omega) (iN cWord 3 (fun _ => rfl) default (by omega)) ?_
   refine zy2 ?_
   refine Wc rfl rfl (dC rfl Tryz.func76 rfl rfl ((ref_named _) _)) ?_
   refine zy2 ?_
   refine Wb 17 rfl (fun hg1 => ?_) (fun hg1 => ?_)
   ·have hn : l.all wordOk = false := all_no default hlt (decide_eq_false (fun h => by have := bne_iff_ne.1 hg1; omega))
    iterate 6 refine z6 ?_
    refine zy2 ?_
    iterate 6 refine z6 ?_
    refine zs1 ?_
    refine Wt rfl rfl ?_
    refine zu1 ?_
    refine zR ?_
    exact congrArg boo (by rw [right9, hn]; rfl)
   ·have h0 : namedS (l.getD k default).name = 0 := bne_eq_false_iff_eq.1 hg1
    refine zy2 ?_
    refine Wv tG rfl rfl rfl (by omega) (iN cWord 3 (fun _ => rfl) default (by omega)) ?_
    refine zy5 ?_
    refine Wb 25 rfl (fun hg2 => ?_) (fun hg2 => ?_)
    ·have hn : l.all wordOk = false := all_no default hlt (decide_eq_false (fun h => by have := oT hg2; omega))
     iterate 6 refine z6 ?_
     refine zs1 ?_
     refine Wt rfl rfl ?_
     refine zu1 ?_
     refine zR ?_
     exact congrArg boo (by rw [right9, hn]; rfl)
    ·have h1 := oF hg2
     refine zy2 ?_
     refine Wv tG rfl rfl rfl (by omega) (iN cWord 3 (fun _ => rfl) default (by omega)) ?_
     refine zs4 ?_
     refine Wi rfl (fun hi2 => ?_) (fun hi2 => ?_)
     ·have hn : l.all wordOk = false := all_no default hlt (decide_eq_false (fun h => by have := oT hi2; omega))
      refine zu1 ?_
      refine zR ?_
      exact congrArg boo (by rw [right9, hn]; rfl)
     ·have hy : wordOk (l.getD k default) = true := decide_eq_true ⟨h0, by omega, by have := oF hi2; omega⟩
      refine Wj ?_
      refine W_region rfl ?_
      refine zs3 ?_
      exact ⟨k + 1, [], (by exact ⟨by omega, all_snoc default hlt hk.2 hy⟩), (by omega), fitT⟩
  ·have hge : l.length ≤ k := by have := oF hi1; omega
   have hall : l.all wordOk = true := by have h1 := hk.2; rw [take_all' _ k hge] at h1; exact h1
   refine W_exit ?_
   refine zu4 ?_
   refine zR ?_
   exact congrArg boo (by rw [right9, hall, Bool.true_and, Bool.eq_iff_iff, decide_eq_true_eq, decide_eq_true_eq]; omega)
def few9 (l : List VWord) (most : Int) : Bool := decide ((l.length : Int) ≤ most) && l.all (fun w => decide (w.name.length ≤ 60))
theorem ref_Few9 (l : List VWord) (most : Int) (hl : l.length ≤ 9223372036854775807) : PureC Tryz.prog 46 [sq cWord l, i64 most] (boo (few9 l most)) := by
 refine pW tG (rs := [.tmp 4]) Tryz.func46 rfl rfl rfl (by simp) (by simp) (fun B => ?_)
 refine zu1 ?_
 refine Ws ?_
 refine zu4 ?_
 refine Wi rfl (fun hi1 => ?_) (fun hi1 => ?_)
 ·have hno : ¬ (l.length : Int) ≤ most := by have := oT hi1; omega
  refine zu1 ?_
  refine zR ?_
  exact congrArg boo (by rw [few9, decide_eq_false hno]; rfl)
 ·have hyes : (l.length : Int) ≤ most := by have := oF hi1; omega
  refine Wj ?_
  refine Ws ?_
  refine zu1 ?_
  refine Wl ?_
  show W _ _ _ _ _ _ _
  refine W_loopS (fun (k : Nat) => [(0, sq cWord l), (5, i64 k)]) (fun (k : Nat) => []) (fun (k : Nat) => []) (fun (k : Nat) => k ≤ l.length ∧ (l.take k).all (fun w => decide (w.name.length ≤ 60)) = true) (fun (k : Nat) => l.length - k) (0) (by simp) [] ?_ ?_
  ·exact fitT
  ·intro k hk
   refine Ws ?_
   refine zu4 ?_
   refine Wi rfl (fun hi2 => ?_) (fun hi2 => ?_)
   ·have hlt : k < l.length := by have := oT hi2; omega
    refine Wj ?_
    refine Ws ?_
    refine Wl ?_
    refine zp2 ?_
    refine Wv tG rfl rfl rfl (by omega) (iN cWord 3 (fun _ => rfl) default (by omega)) ?_
    refine zy3 ?_
    refine Wa 21 rfl (str_len _) ?_
    refine zs1 ?_
    refine Wi rfl (fun hi3 => ?_) (fun hi3 => ?_)
    ·have hn : l.all (fun w => decide (w.name.length ≤ 60)) = false := all_no default hlt (decide_eq_false (by have := oT hi3; omega))
     refine zu1 ?_
     refine zR ?_
     exact congrArg boo (by rw [few9, hn, Bool.and_false])
    ·have hy : decide ((l.getD k default).name.length ≤ 60) = true := decide_eq_true (by have := oF hi3; omega)
     refine Wj ?_
     refine W_region rfl ?_
     refine zs3 ?_
     exact ⟨k + 1, [], (by exact ⟨by omega, all_snoc default hlt hk.2 hy⟩), (by omega), fitT⟩
   ·have hge : l.length ≤ k := by have := oF hi2; omega
    have hall : l.all (fun w => decide (w.name.length ≤ 60)) = true := by have h1 := hk.2; rw [take_all' _ k hge] at h1; exact h1
    refine W_exit ?_
    refine zu1 ?_
    refine zR ?_
    exact congrArg boo (by rw [few9, hall, decide_eq_true hyes]; rfl)
def few10 (v : VVm) : Bool := few3 v.mem 8192 && (few9 v.dict 300 && (decide (v.d.length ≤ 300) && (decide (v.r.length ≤ 300) && (decide (v.f.length ≤ 70) && (decide (v.out.length ≤ 5000) && (decide (v.pic.b.length ≤ 200) && (decide (v.req.length ≤ 20) && decide (v.hand.length ≤ 70))))))))
structure VIn (v : VVm) : Prop where
 b : v.mem.b.length ≤ 9223372036854775807
 old : v.mem.old.length ≤ 9223372036854775807
 dict : v.dict.length ≤ 9223372036854775807
 pt : ∀ p ∈ v.mem.old, (p.old.length = 0 ∨ Fit64 p.place) ∧ p.old.length ≤ 9223372036854775807
theorem dec_nat {a : Nat} {b : Int} (n : Nat) (hb : b = n) : decide ((a : Int) ≤ b) = decide (a ≤ n) := by subst hb; rw [Bool.eq_iff_iff, decide_eq_true_eq, decide_eq_true_eq]; omega
theorem ref_Few10 (v : VVm) (h : VIn v) : PureC Tryz.prog 24 [eVm v] (boo (few10 v)) := by
 refine pW tG (rs := [.tmp 2]) Tryz.func24 rfl rfl rfl (by simp) (by simp) (fun B => ?_)
 refine zu2 ?_
 refine zp2 ?_
 refine Wc rfl rfl (dC rfl Tryz.func45 rfl rfl ((ref_Few3 v.mem 8192 h.b h.old) _)) ?_
 refine zs1 ?_
 refine zp2 ?_
 refine Wc rfl rfl (dC rfl Tryz.func46 rfl rfl ((ref_Few9 v.dict 300 h.dict) _)) ?_
 refine zs1 ?_
 refine zp2 ?_
 refine Wb 12 rfl (fun hg1 => ?_) (fun hg1 => ?_)
 ·refine zy3 ?_
  refine Wb 15 rfl (fun hg2 => ?_) (fun hg2 => ?_)
  ·refine zy4 ?_
   refine Wa 19 rfl (congrArg (fun z => PV.val (Value.bool z)) (dec_nat 300 rfl)) ?_
   refine zy2 ?_
   refine Wb 21 rfl (fun hg3 => ?_) (fun hg3 => ?_)
   ·refine zy4 ?_
    refine Wa 25 rfl (congrArg (fun z => PV.val (Value.bool z)) (dec_nat 300 rfl)) ?_
    refine zy2 ?_
    refine Wb 27 rfl (fun hg4 => ?_) (fun hg4 => ?_)
    ·refine zy4 ?_
     refine Wa 31 rfl (congrArg (fun z => PV.val (Value.bool z)) (dec_nat 70 rfl)) ?_
     refine zy2 ?_
     refine Wb 33 rfl (fun hg5 => ?_) (fun hg5 => ?_)
     ·refine zy4 ?_
      refine Wa 37 rfl (congrArg (fun z => PV.val (Value.bool z)) (dec_nat 5000 rfl)) ?_
      refine zy2 ?_
      refine Wb 39 rfl (fun hg6 => ?_) (fun hg6 => ?_)
      ·refine zy5 ?_
       refine Wa 44 rfl (congrArg (fun z => PV.val (Value.bool z)) (dec_nat 200 rfl)) ?_
       refine zy2 ?_
       refine Wb 46 rfl (fun hg7 => ?_) (fun hg7 => ?_)
       ·refine zy4 ?_
        refine Wa 50 rfl (congrArg (fun z => PV.val (Value.bool z)) (dec_nat 20 rfl)) ?_
        refine zy2 ?_
        refine Wb 52 rfl (fun hg8 => ?_) (fun hg8 => ?_)
        ·refine zy4 ?_
         refine Wa 56 rfl (congrArg (fun z => PV.val (Value.bool z)) (dec_nat 70 rfl)) ?_
         refine zs2 ?_
         refine zR ?_
         exact congrArg boo (by rw [few10]; simp only [*, Bool.true_and, Bool.false_and])
        ·refine z6 ?_
         iterate 3 refine z6 ?_
         refine zs2 ?_
         refine zR ?_
         exact congrArg boo (by rw [few10]; simp only [*, Bool.true_and, Bool.false_and])
       ·refine z6 ?_
        iterate 3 refine z6 ?_
        refine zy2 ?_
        iterate 4 refine z6 ?_
        refine zs2 ?_
        refine zR ?_
        exact congrArg boo (by rw [few10]; simp only [*, Bool.true_and, Bool.false_and])
      ·refine z6 ?_
       iterate 4 refine z6 ?_
       refine zy2 ?_
       iterate 4 refine z6 ?_
       refine zy2 ?_
       iterate 4 refine z6 ?_
       refine zs2 ?_
       refine zR ?_
       exact congrArg boo (by rw [few10]; simp only [*, Bool.true_and, Bool.false_and])
     ·refine z6 ?_
      iterate 3 refine z6 ?_
      refine zy2 ?_
      iterate 5 refine z6 ?_
      refine zy2 ?_
      iterate 4 refine z6 ?_
      refine zy2 ?_
      iterate 4 refine z6 ?_
      refine zs2 ?_
      refine zR ?_
      exact congrArg boo (by rw [few10]; simp only [*, Bool.true_and, Bool.false_and])
    ·refine z6 ?_
     iterate 3 refine z6 ?_
     refine zy2 ?_
     iterate 4 refine z6 ?_
     refine zy2 ?_
     iterate 5 refine z6 ?_
     refine zy2 ?_
     iterate 4 refine z6 ?_
     refine zy2 ?_
     iterate 4 refine z6 ?_
     refine zs2 ?_
     refine zR ?_
     exact congrArg boo (by rw [few10]; simp only [*, Bool.true_and, Bool.false_and])
   ·refine z6 ?_
    iterate 3 refine z6 ?_
    refine zy2 ?_
    iterate 4 refine z6 ?_
    refine zy2 ?_
    iterate 4 refine z6 ?_
    refine zy2 ?_
    iterate 5 refine z6 ?_
    refine zy2 ?_
    iterate 4 refine z6 ?_
    refine zy2 ?_
    iterate 4 refine z6 ?_
    refine zs2 ?_
    refine zR ?_
    exact congrArg boo (by rw [few10]; simp only [*, Bool.true_and, Bool.false_and])
  ·refine z6 ?_
   iterate 3 refine z6 ?_
   refine zy2 ?_
   iterate 4 refine z6 ?_
   refine zy2 ?_
   iterate 4 refine z6 ?_
   refine zy2 ?_
   iterate 4 refine z6 ?_
   refine zy2 ?_
   iterate 5 refine z6 ?_
   refine zy2 ?_
   iterate 4 refine z6 ?_
   refine zy2 ?_
   iterate 4 refine z6 ?_
   refine zs2 ?_
   refine zR ?_
   exact congrArg boo (by rw [few10]; simp only [*, Bool.true_and, Bool.false_and])
 ·refine z6 ?_
  refine zy2 ?_
  iterate 4 refine z6 ?_
  refine zy2 ?_
  iterate 4 refine z6 ?_
  refine zy2 ?_
  iterate 4 refine z6 ?_
  refine zy2 ?_
  iterate 4 refine z6 ?_
  refine zy2 ?_
  iterate 5 refine z6 ?_
  refine zy2 ?_
  iterate 4 refine z6 ?_
  refine zy2 ?_
  iterate 4 refine z6 ?_
  refine zs2 ?_
  refine zR ?_
  exact congrArg boo (by rw [few10]; simp only [*, Bool.true_and, Bool.false_and])
end Go.Proofs.YtphgdofmjpdhaaaGreat
namespace Go.Proofs.YtphgdofmjpdhaaaGreat
open Go.RowKit
set_option maxRecDepth 100000
set_option maxHeartbeats 4000000
def rightA (v : VVm) : Bool := decide (fitsV v.conf ∧ memRight v.mem = true ∧ right9 v.dict = true ∧ picRight v.pic ∧ (v.mem.b.length : Int) = v.conf.mem ∧ 1368 ≤ v.here ∧ v.here ≤ v.conf.mem)
def frameOk (f : VFrame) : Bool := decide (0 ≤ f.d ∧ f.d ≤ 256 ∧ 0 ≤ f.r ∧ f.r ≤ 256)
def handOk (h : VHand) : Bool := decide (0 ≤ h.fuel)
def rightC (v : VVm) : Bool := decide ((v.d.length : Int) ≤ v.conf.data ∧ (v.r.length : Int) ≤ v.conf.ret ∧ v.f.length ≤ 64 ∧ (v.dict.length : Int) ≤ v.conf.words ∧ (v.out.length : Int) ≤ v.conf.out ∧ v.req.length ≤ 16 ∧ 0 ≤ v.free ∧ v.free ≤ 64 ∧ 0 ≤ v.next ∧ v.next ≤ 4611686018427387904 ∧ v.hand.length ≤ 64)
def right10 (v : VVm) : Bool := rightA v && (v.f.all frameOk && (v.hand.all handOk && rightC v))
structure VIn2 (v : VVm) : Prop extends VIn v where
 f : v.f.length ≤ 9223372036854775807
 hand : v.hand.length ≤ 9223372036854775807
theorem ref_Right10 (v : VVm) (h : VIn2 v) : PureC Tryz.prog 19 [eVm v] (boo (right10 v)) := by
 have e1 := h.f
 have e2 := h.hand
 refine pW tG (rs := [.tmp 2]) Tryz.func19 rfl rfl rfl (by simp) (by simp) (fun B => ?_)
 refine zu2 ?_
 refine zp2 ?_
 refine Wc rfl rfl (dC rfl Tryz.func40 rfl rfl ((ref_Fits v.conf) _)) ?_
 refine zs1 ?_
 refine zp2 ?_
 refine Wc rfl rfl (dC rfl Tryz.func41 rfl rfl ((ref_Right3 v.mem h.b h.old h.pt) _)) ?_
 refine zs1 ?_
 refine zp2 ?_
 refine Wc rfl rfl (dC rfl Tryz.func42 rfl rfl ((ref_Right9 v.dict h.dict) _)) ?_
 refine zs1 ?_
 refine zp2 ?_
 refine Wc rfl rfl (dC rfl Tryz.func43 rfl rfl ((ref_Right7 v.pic) _)) ?_
 refine zs1 ?_
 refine Ws ?_
 refine zp3 ?_
 refine Wb 23 rfl (fun hg1 => ?_) (fun hg1 => ?_)
 ·have hbad : rightA v = false := decide_eq_false (fun q => oF (not_t hg1) q.1)
  iterate 2 refine z6 ?_
  refine zy2 ?_
  iterate 2 refine z6 ?_
  refine zy2 ?_
  iterate 2 refine z6 ?_
  refine zy2 ?_
  iterate 8 refine z6 ?_
  refine zy2 ?_
  iterate 3 refine z6 ?_
  refine zy2 ?_
  iterate 6 refine z6 ?_
  refine zs1 ?_
  refine Wt rfl rfl ?_
  refine zu1 ?_
  refine zR ?_
  exact congrArg boo (by rw [right10, hbad]; rfl)
 ·have h1 : fitsV v.conf := oT (not_f hg1)
  refine zy4 ?_
  refine Wb 27 rfl (fun hg2 => ?_) (fun hg2 => ?_)
  ·have hbad : rightA v = false := decide_eq_false (fun q => by have := not_t hg2; rw [q.2.1] at this; cases this)
   iterate 2 refine z6 ?_
   refine zy2 ?_
   iterate 2 refine z6 ?_
   refine zy2 ?_
   iterate 8 refine z6 ?_
   refine zy2 ?_
   iterate 3 refine z6 ?_
   refine zy2 ?_
   iterate 6 refine z6 ?_
   refine zs1 ?_
   refine Wt rfl rfl ?_
   refine zu1 ?_
   refine zR ?_
   exact congrArg boo (by rw [right10, hbad]; rfl)
  ·have h2 : memRight v.mem = true := not_f hg2
   refine zy4 ?_
   refine Wb 31 rfl (fun hg3 => ?_) (fun hg3 => ?_)
   ·have hbad : rightA v = false := decide_eq_false (fun q => by have := not_t hg3; rw [q.2.2.1] at this; cases this)
    iterate 2 refine z6 ?_
    refine zy2 ?_
    iterate 8 refine z6 ?_
    refine zy2 ?_
    iterate 3 refine z6 ?_
    refine zy2 ?_
    iterate 6 refine z6 ?_
    refine zs1 ?_
    refine Wt rfl rfl ?_
    refine zu1 ?_
    refine zR ?_
    exact congrArg boo (by rw [right10, hbad]; rfl)
   ·have h3 : right9 v.dict = true := not_f hg3
    refine zy4 ?_
    refine Wb 35 rfl (fun hg4 => ?_) (fun hg4 => ?_)
    ·have hbad : rightA v = false := decide_eq_false (fun q => oF (not_t hg4) q.2.2.2.1)
     iterate 8 refine z6 ?_
     refine zy2 ?_
     iterate 3 refine z6 ?_
     refine zy2 ?_
     iterate 6 refine z6 ?_
     refine zs1 ?_
     refine Wt rfl rfl ?_
     refine zu1 ?_
     refine zR ?_
     exact congrArg boo (by rw [right10, hbad]; rfl)
    ·have h4 : picRight v.pic := oT (not_f hg4)
     refine zy5 ?_
     refine zy5 ?_
     refine Wb 45 rfl (fun hg5 => ?_) (fun hg5 => ?_)
     ·have hbad : rightA v = false := decide_eq_false (fun q => bne_iff_ne.1 hg5 q.2.2.2.2.1)
      iterate 3 refine z6 ?_
      refine zy2 ?_
      iterate 6 refine z6 ?_
      refine zs1 ?_
      refine Wt rfl rfl ?_
      refine zu1 ?_
      refine zR ?_
      exact congrArg boo (by rw [right10, hbad]; rfl)
     ·have h5 : (v.mem.b.length : Int) = v.conf.mem := bne_eq_false_iff_eq.1 hg5
      refine zy5 ?_
      refine Wb 50 rfl (fun hg6 => ?_) (fun hg6 => ?_)
      ·have hbad : rightA v = false := decide_eq_false (fun q => by have := oT hg6; omega)
       iterate 6 refine z6 ?_
       refine zs1 ?_
       refine Wt rfl rfl ?_
       refine zu1 ?_
       refine zR ?_
       exact congrArg boo (by rw [right10, hbad]; rfl)
      ·have h6 := oF hg6
       refine zy5 ?_
       refine zs2 ?_
       refine Wi rfl (fun hi1 => ?_) (fun hi1 => ?_)
       ·have hbad : rightA v = false := decide_eq_false (fun q => by have := oT hi1; omega)
        refine zu1 ?_
        refine zR ?_
        exact congrArg boo (by rw [right10, hbad]; rfl)
       ·have hA : rightA v = true := decide_eq_true ⟨h1, h2, h3, h4, h5, by omega, by have := oF hi1; omega⟩
        refine Wj ?_
        refine Ws ?_
        refine zu1 ?_
        refine Wl ?_
        show W _ _ _ _ _ _ _
        refine W_loopS (fun (k : Nat) => [(1, .ptr 0 0), (7, i64 k)]) (fun (k : Nat) => [.cells (cVm v) 36]) (fun (k : Nat) => []) (fun (k : Nat) => k ≤ v.f.length ∧ (v.f.take k).all frameOk = true) (fun (k : Nat) => v.f.length - k) (0) (by simp) [] ?_ ?_
        ·exact fitT
        ·intro k hk
         refine Ws ?_
         refine zu5 ?_
         refine Wi rfl (fun hi2 => ?_) (fun hi2 => ?_)
         ·have hlt : k < v.f.length := by have := oT hi2; omega
          refine Wj ?_
          refine Ws ?_
          refine Wl ?_
          refine zp3 ?_
          refine Wv tG rfl rfl rfl (by omega) (iN cFrame 3 (fun _ => rfl) default (by omega)) ?_
          refine zy4 ?_
          refine Wb 72 rfl (fun hg7 => ?_) (fun hg7 => ?_)
          ·have hn : v.f.all frameOk = false := all_no default hlt (decide_eq_false (fun q => by have := oT hg7; omega))
           iterate 7 refine z6 ?_
           refine zy2 ?_
           iterate 7 refine z6 ?_
           refine zy2 ?_
           iterate 7 refine z6 ?_
           refine zs1 ?_
           refine Wt rfl rfl ?_
           refine zu1 ?_
           refine zR ?_
           exact congrArg boo (by rw [right10, hA, hn]; rfl)
          ·have q1 := oF hg7
           refine zy3 ?_
           refine Wv tG rfl rfl rfl (by omega) (iN cFrame 3 (fun _ => rfl) default (by omega)) ?_
           refine zy5 ?_
           refine Wb 81 rfl (fun hg8 => ?_) (fun hg8 => ?_)
           ·have hn : v.f.all frameOk = false := all_no default hlt (decide_eq_false (fun q => by have := oT hg8; omega))
            iterate 7 refine z6 ?_
            refine zy2 ?_
            iterate 7 refine z6 ?_
            refine zs1 ?_
            refine Wt rfl rfl ?_
            refine zu1 ?_
            refine zR ?_
            exact congrArg boo (by rw [right10, hA, hn]; rfl)
           ·have q2 := oF hg8
            refine zy3 ?_
            refine Wv tG rfl rfl rfl (by omega) (iN cFrame 3 (fun _ => rfl) default (by omega)) ?_
            refine zy5 ?_
            refine Wb 90 rfl (fun hg9 => ?_) (fun hg9 => ?_)
            ·have hn : v.f.all frameOk = false := all_no default hlt (decide_eq_false (fun q => by have := oT hg9; omega))
             iterate 7 refine z6 ?_
             refine zs1 ?_
             refine Wt rfl rfl ?_
             refine zu1 ?_
             refine zR ?_
             exact congrArg boo (by rw [right10, hA, hn]; rfl)
            ·have q3 := oF hg9
             refine zy3 ?_
             refine Wv tG rfl rfl rfl (by omega) (iN cFrame 3 (fun _ => rfl) default (by omega)) ?_
             refine zs4 ?_
             refine Wi rfl (fun hi3 => ?_) (fun hi3 => ?_)
             ·have hn : v.f.all frameOk = false := all_no default hlt (decide_eq_false (fun q => by have := oT hi3; omega))
              refine zu1 ?_
              refine zR ?_
              exact congrArg boo (by rw [right10, hA, hn]; rfl)
             ·have hy : frameOk (v.f.getD k default) = true := decide_eq_true ⟨by omega, by omega, by omega, by have := oF hi3; omega⟩
              refine Wj ?_
              refine W_region rfl ?_
              refine zs3 ?_
              exact ⟨k + 1, [], (by exact ⟨by omega, all_snoc default hlt hk.2 hy⟩), (by omega), fitT⟩
         ·have hge : v.f.length ≤ k := by have := oF hi2; omega
          have hF : v.f.all frameOk = true := by have h1 := hk.2; rw [take_all' _ k hge] at h1; exact h1
          refine W_exit ?_
          refine Ws ?_
          refine zu1 ?_
          refine Wl ?_
          show W _ _ _ _ _ _ _
          refine W_loopS (fun (j : Nat) => [(1, .ptr 0 0), (8, i64 j)]) (fun (j : Nat) => [.cells (cVm v) 36]) (fun (j : Nat) => []) (fun (j : Nat) => j ≤ v.hand.length ∧ (v.hand.take j).all handOk = true) (fun (j : Nat) => v.hand.length - j) (0) (by simp) [] ?_ ?_
          ·exact fitT
          ·intro j hj
           refine Ws ?_
           refine zu5 ?_
           refine Wi rfl (fun hi4 => ?_) (fun hi4 => ?_)
           ·have hlt : j < v.hand.length := by have := oT hi4; omega
            refine Wj ?_
            refine Ws ?_
            refine Wl ?_
            refine zp3 ?_
            refine Wv tG rfl rfl rfl (by omega) (iN cHand 4 (fun _ => rfl) default (by omega)) ?_
            refine zs3 ?_
            refine Wi rfl (fun hi5 => ?_) (fun hi5 => ?_)
            ·have hn : v.hand.all handOk = false := all_no default hlt (decide_eq_false (fun q => by have := oT hi5; omega))
             refine zu1 ?_
             refine zR ?_
             exact congrArg boo (by rw [right10, hA, hF, hn]; rfl)
            ·have hy : handOk (v.hand.getD j default) = true := decide_eq_true (by have := oF hi5; omega)
             refine Wj ?_
             refine W_region rfl ?_
             refine zs3 ?_
             exact ⟨j + 1, [], (by exact ⟨by omega, all_snoc default hlt hj.2 hy⟩), (by omega), fitT⟩
           ·have hge : v.hand.length ≤ j := by have := oF hi4; omega
            have hH : v.hand.all handOk = true := by have h1 := hj.2; rw [take_all' _ j hge] at h1; exact h1
            have hR : right10 v = rightC v := by rw [right10, hA, hF, hH]; rfl
            clear hA hF hH h1 h2 h3 h4 hk hj h
            refine W_exit ?_
            refine zp5 ?_
            refine zy3 ?_
            refine Wb 120 rfl (fun hg10 => ?_) (fun hg10 => ?_)
            ·refine zy5 ?_
             refine zy4 ?_
             refine Wb 129 rfl (fun hg11 => ?_) (fun hg11 => ?_)
             ·refine zy5 ?_
              refine z1 ?_
              refine Wb 135 rfl (fun hg12 => ?_) (fun hg12 => ?_)
              ·refine zy5 ?_
               refine zy4 ?_
               refine Wb 144 rfl (fun hg13 => ?_) (fun hg13 => ?_)
               ·refine zy5 ?_
                refine zy4 ?_
                refine Wb 153 rfl (fun hg14 => ?_) (fun hg14 => ?_)
                ·refine zy5 ?_
                 refine z1 ?_
                 refine Wb 159 rfl (fun hg15 => ?_) (fun hg15 => ?_)
                 ·refine zy5 ?_
                  refine Wb 164 rfl (fun hg16 => ?_) (fun hg16 => ?_)
                  ·refine zy5 ?_
                   refine Wb 169 rfl (fun hg17 => ?_) (fun hg17 => ?_)
                   ·refine zy5 ?_
                    refine Wb 174 rfl (fun hg18 => ?_) (fun hg18 => ?_)
                    ·refine zy5 ?_
                     refine Wb 179 rfl (fun hg19 => ?_) (fun hg19 => ?_)
                     ·refine zy5 ?_
                      refine zs1 ?_
                      refine zR ?_
                      refine congrArg boo ?_; rw [hR]; unfold rightC; rw [Bool.eq_iff_iff]; (try simp only [dnL] at *); omega
                     ·refine z6 ?_
                      iterate 3 refine z6 ?_
                      refine zs2 ?_
                      refine zR ?_
                      refine congrArg boo ?_; rw [hR]; unfold rightC; rw [Bool.eq_iff_iff]; (try simp only [dnL] at *); omega
                    ·refine z6 ?_
                     iterate 2 refine z6 ?_
                     refine zy2 ?_
                     iterate 4 refine z6 ?_
                     refine zs2 ?_
                     refine zR ?_
                     refine congrArg boo ?_; rw [hR]; unfold rightC; rw [Bool.eq_iff_iff]; (try simp only [dnL] at *); omega
                   ·refine z6 ?_
                    iterate 2 refine z6 ?_
                    refine zy2 ?_
                    iterate 3 refine z6 ?_
                    refine zy2 ?_
                    iterate 4 refine z6 ?_
                    refine zs2 ?_
                    refine zR ?_
                    refine congrArg boo ?_; rw [hR]; unfold rightC; rw [Bool.eq_iff_iff]; (try simp only [dnL] at *); omega
                  ·refine z6 ?_
                   iterate 2 refine z6 ?_
                   refine zy2 ?_
                   iterate 3 refine z6 ?_
                   refine zy2 ?_
                   iterate 3 refine z6 ?_
                   refine zy2 ?_
                   iterate 4 refine z6 ?_
                   refine zs2 ?_
                   refine zR ?_
                   refine congrArg boo ?_; rw [hR]; unfold rightC; rw [Bool.eq_iff_iff]; (try simp only [dnL] at *); omega
                 ·refine z6 ?_
                  iterate 2 refine z6 ?_
                  refine zy2 ?_
                  iterate 3 refine z6 ?_
                  refine zy2 ?_
                  iterate 3 refine z6 ?_
                  refine zy2 ?_
                  iterate 3 refine z6 ?_
                  refine zy2 ?_
                  iterate 4 refine z6 ?_
                  refine zs2 ?_
                  refine zR ?_
                  refine congrArg boo ?_; rw [hR]; unfold rightC; rw [Bool.eq_iff_iff]; (try simp only [dnL] at *); omega
                ·refine z6 ?_
                 iterate 3 refine z6 ?_
                 refine zy2 ?_
                 iterate 3 refine z6 ?_
                 refine zy2 ?_
                 iterate 3 refine z6 ?_
                 refine zy2 ?_
                 iterate 3 refine z6 ?_
                 refine zy2 ?_
                 iterate 3 refine z6 ?_
                 refine zy2 ?_
                 iterate 4 refine z6 ?_
                 refine zs2 ?_
                 refine zR ?_
                 refine congrArg boo ?_; rw [hR]; unfold rightC; rw [Bool.eq_iff_iff]; (try simp only [dnL] at *); omega
               ·refine z6 ?_
                iterate 6 refine z6 ?_
                refine zy2 ?_
                iterate 4 refine z6 ?_
                refine zy2 ?_
                iterate 3 refine z6 ?_
                refine zy2 ?_
                iterate 3 refine z6 ?_
                refine zy2 ?_
                iterate 3 refine z6 ?_
                refine zy2 ?_
                iterate 3 refine z6 ?_
                refine zy2 ?_
                iterate 4 refine z6 ?_
                refine zs2 ?_
                refine zR ?_
                refine congrArg boo ?_; rw [hR]; unfold rightC; rw [Bool.eq_iff_iff]; (try simp only [dnL] at *); omega
              ·refine z6 ?_
               iterate 6 refine z6 ?_
               refine zy2 ?_
               iterate 7 refine z6 ?_
               refine zy2 ?_
               iterate 4 refine z6 ?_
               refine zy2 ?_
               iterate 3 refine z6 ?_
               refine zy2 ?_
               iterate 3 refine z6 ?_
               refine zy2 ?_
               iterate 3 refine z6 ?_
               refine zy2 ?_
               iterate 3 refine z6 ?_
               refine zy2 ?_
               iterate 4 refine z6 ?_
               refine zs2 ?_
               refine zR ?_
               refine congrArg boo ?_; rw [hR]; unfold rightC; rw [Bool.eq_iff_iff]; (try simp only [dnL] at *); omega
             ·refine z6 ?_
              iterate 3 refine z6 ?_
              refine zy2 ?_
              iterate 7 refine z6 ?_
              refine zy2 ?_
              iterate 7 refine z6 ?_
              refine zy2 ?_
              iterate 4 refine z6 ?_
              refine zy2 ?_
              iterate 3 refine z6 ?_
              refine zy2 ?_
              iterate 3 refine z6 ?_
              refine zy2 ?_
              iterate 3 refine z6 ?_
              refine zy2 ?_
              iterate 3 refine z6 ?_
              refine zy2 ?_
              iterate 4 refine z6 ?_
              refine zs2 ?_
              refine zR ?_
              refine congrArg boo ?_; rw [hR]; unfold rightC; rw [Bool.eq_iff_iff]; (try simp only [dnL] at *); omega
            ·refine z6 ?_
             iterate 6 refine z6 ?_
             refine zy2 ?_
             iterate 4 refine z6 ?_
             refine zy2 ?_
             iterate 7 refine z6 ?_
             refine zy2 ?_
             iterate 7 refine z6 ?_
             refine zy2 ?_
             iterate 4 refine z6 ?_
             refine zy2 ?_
             iterate 3 refine z6 ?_
             refine zy2 ?_
             iterate 3 refine z6 ?_
             refine zy2 ?_
             iterate 3 refine z6 ?_
             refine zy2 ?_
             iterate 3 refine z6 ?_
             refine zy2 ?_
             iterate 4 refine z6 ?_
             refine zs2 ?_
             refine zR ?_
             refine congrArg boo ?_; rw [hR]; unfold rightC; rw [Bool.eq_iff_iff]; (try simp only [dnL] at *); omega
def may10 (v : VVm) : Bool := few10 v && right10 v
theorem ref_May10 (v : VVm) (h : VIn2 v) : PureC Tryz.prog 13 [eVm v] (boo (may10 v)) := by
 refine pW tG (rs := [.tmp 2]) Tryz.func13 rfl rfl rfl (by simp) (by simp) (fun B => ?_)
 refine zu2 ?_
 refine zp1 ?_
 refine Wc rfl rfl (dC rfl Tryz.func24 rfl rfl ((ref_Few10 v h.toVIn) _)) ?_
 refine zs1 ?_
 refine zp2 ?_
 refine Wb 7 rfl (fun hg1 => ?_) (fun hg1 => ?_)
 ·refine z1 ?_
  refine Wc rfl rfl (dC rfl Tryz.func19 rfl rfl ((ref_Right10 v h) _)) ?_
  refine zs2 ?_
  refine zR ?_
  exact congrArg boo (by rw [may10]; simp only [*, Bool.true_and, Bool.false_and])
 ·refine z6 ?_
  refine z6 ?_
  refine zs2 ?_
  refine zR ?_
  exact congrArg boo (by rw [may10]; simp only [*, Bool.true_and, Bool.false_and])
end Go.Proofs.YtphgdofmjpdhaaaGreat
namespace Go.Proofs.YtphgdofmjpdhaaaGreat
open Go.RowKit
theorem fit_w (n : Int) : Fit64 (wrap64 n) := wrap64_rng n
theorem fit_S (n : Nat) : Fit64 (S n) := S_rng n
theorem fit_0 : Fit64 0 := by unfold Fit64; omega
theorem fit_flag (b : Bool) : Fit64 (flagS b) := by unfold flagS Fit64; split <;> omega
theorem fit_fmod {a b : Int} (hb : Fit64 b) (h0 : b ≠ 0) : Fit64 (a.fmod b) := by
 unfold Fit64 at hb ⊢
 rw [Int.fmod_eq_emod]
 have h1 := Int.emod_nonneg a h0
 have h2 : a % b < b.natAbs := by
  rcases Int.lt_or_gt_of_ne h0 with h | h
  ·have := Int.emod_lt_of_pos a (show 0 < -b by omega); rw [Int.emod_neg] at this; omega
  ·have := Int.emod_lt_of_pos a h; omega
 split <;> omega
theorem fit_tmod {a b : Int} (hb : Fit64 b) (h0 : b ≠ 0) : Fit64 (a.tmod b) := by
 unfold Fit64 at hb ⊢
 have h1 : (a.tmod b).natAbs = a.natAbs % b.natAbs := Int.natAbs_tmod a b
 have h2 : a.natAbs % b.natAbs < b.natAbs := Nat.mod_lt _ (by omega)
 omega
theorem fits_spec {n : Int} (h : fits n = true) : Fit64 n := by unfold fits at h; unfold Fit64; simpa using h
theorem fit_div {a b : Int} (hb : Fit64 b) : Fit64 (divS a b).1 ∧ Fit64 (divS a b).2.1 := by
 unfold divS
 split
 ·exact ⟨fit_0, fit_0⟩
 ·rename_i h0; exact ⟨fit_w _, fit_fmod hb h0⟩
theorem fit_fdiv {lo hi d : Int} (hd : Fit64 d) : Fit64 (fdivS lo hi d).1 ∧ Fit64 (fdivS lo hi d).2.1 := by
 unfold fdivS
 split
 ·exact ⟨fit_0, fit_0⟩
 ·rename_i h0
  split
  ·rename_i h1; exact ⟨fits_spec h1, fit_fmod hd h0⟩
  ·exact ⟨fit_0, fit_0⟩
theorem fit_sdiv {lo hi d : Int} (hd : Fit64 d) : Fit64 (sdivS lo hi d).1 ∧ Fit64 (sdivS lo hi d).2.1 := by
 unfold sdivS
 split
 ·exact ⟨fit_0, fit_0⟩
 ·rename_i h0
  split
  ·rename_i h1; exact ⟨fits_spec h1, fit_tmod hd h0⟩
  ·exact ⟨fit_0, fit_0⟩
theorem fit_udiv {lo hi d : Int} : Fit64 (udivS lo hi d).1 ∧ Fit64 (udivS lo hi d).2.1 := by
 unfold udivS
 split
 ·exact ⟨fit_0, fit_0⟩
 ·split
  ·exact ⟨fit_0, fit_0⟩
  ·exact ⟨fit_S _, fit_S _⟩
theorem fit_shift (a b : Int) (up : Bool) : Fit64 (shiftS a b up) := by
 unfold shiftS
 split
 ·exact fit_0
 ·split <;> exact fit_S _
theorem fit_one (o : Op1) {a : Int} (ha : Fit64 a) : Fit64 (one o a) := by
 unfold Fit64 at *
 cases o <;> simp only [one] <;> first | exact wrap64_rng _ | exact fit_flag _ | (split <;> first | exact wrap64_rng _ | omega) | omega
theorem fit_two (o : Op2) {a b : Int} (ha : Fit64 a) (hb : Fit64 b) : Fit64 (two o a b).1 := by
 cases o <;> simp only [two] <;> first | exact (fit_div hb).1 | exact (fit_div hb).2 | exact fit_w _ | exact fit_shift _ _ _ | exact fit_flag _ | (split <;> assumption)
theorem fit_oneS (name : Str) {a : Int} (ha : Fit64 a) : Fit64 (oneS name a).1 := by
 unfold oneS
 split
 ·exact fit_one _ ha
 ·exact fit_0
theorem fit_twoS (name : Str) {a b : Int} (ha : Fit64 a) (hb : Fit64 b) : Fit64 (twoS name a b).1 := by
 unfold twoS
 split
 ·exact fit_two _ ha hb
 ·exact fit_0
theorem fit_fetch (m : VMem) (a : Int) : Fit64 (memFetch m a).1 := by
 unfold memFetch getC
 split
 ·exact fit_w _
 ·exact fit_0
theorem fit_fetchB (m : VMem) (a : Int) : Fit64 (memFetchByte m a).1 := by
 unfold memFetchByte
 split
 ·have := (m.b.getD a.toNat 0).toNat_lt; unfold Fit64; simp only; omega
 ·exact fit_0
structure MKeeps (m m' : VMem) (k : Nat) : Prop where
 right : memRight m = true → memRight m' = true
 len : m'.b.length = m.b.length
 old : m'.old.length ≤ m.old.length + k
theorem MKeeps.refl (m : VMem) (k : Nat) : MKeeps m m k := ⟨id, rfl, Nat.le_add_right _ _⟩
theorem MKeeps.trans {a b c : VMem} {i j : Nat} (h : MKeeps a b i) (g : MKeeps b c j) : MKeeps a c (i + j) := ⟨fun q => g.right (h.right q), g.len.trans h.len, by have := h.old; have := g.old; omega⟩
theorem MKeeps.up {a b : VMem} {i j : Nat} (h : MKeeps a b i) (hij : i ≤ j) : MKeeps a b j := ⟨h.right, h.len, by have := h.old; omega⟩
theorem there_len {m m' : VMem} (h : m'.b.length = m.b.length) (a n : Int) : memThere m' a n = memThere m a n := by unfold memThere; rw [h]
theorem keeps_write (m : VMem) (a : Int) (b : List UInt8) : MKeeps m (memWrite m a b).1 1 := by
 have hl := memWrite_len m a b
 refine ⟨fun h => ?_, hl, memWrite_old m a b⟩
 unfold memRight at h ⊢
 rw [hl]
 rw [Bool.and_eq_true] at h ⊢
 refine ⟨?_, h.2⟩
 have hall : ∀ p ∈ m.old, memThere (memWrite m a b).1 p.place p.old.length = true := fun p hp => by rw [there_len hl]; exact List.all_eq_true.1 h.1 p hp
 rw [List.all_eq_true]
 intro p hp
 unfold memWrite at hp
 split at hp
 ·rename_i ht
  split at hp
  ·exact hall p hp
  ·rcases List.mem_append.1 hp with hp | hp
   ·exact hall p hp
   ·simp only [List.mem_singleton] at hp
    subst hp
    rw [there_len hl]
    simp only [List.length_take, List.length_drop]
    rcases memThere_rng ht with h0 | ⟨h0, h1, h2⟩
    ·unfold memThere; exact decide_eq_true (.inl (by omega))
    ·unfold memThere; exact decide_eq_true (.inr ⟨by omega, h1, by omega⟩)
 ·exact hall p hp
theorem keeps_store (m : VMem) (a n : Int) : MKeeps m (memStore m a n).1 1 := by
 unfold memStore; split
 ·exact keeps_write _ _ _
 ·exact .refl _ _
theorem keeps_fill (m : VMem) (a n c : Int) : MKeeps m (memFill m a n c).1 1 := by
 unfold memFill; split
 ·exact keeps_write _ _ _
 ·exact .refl _ _
theorem keeps_move (m : VMem) (a b n : Int) : MKeeps m (memMove m a b n).1 1 := by
 unfold memMove; split
 ·exact keeps_write _ _ _
 ·exact .refl _ _
theorem keeps_lay {m : VMem} {here : Int} (b : List UInt8) : MKeeps m (spcLay m here b).1 1 := by
 unfold spcLay; split
 ·exact .refl _ _
 ·exact keeps_write _ _ _
theorem lay_here {m : VMem} {here : Int} (b : List UInt8) (h0 : 1368 ≤ here) (h1 : here ≤ m.b.length) : 1368 ≤ (spcLay m here b).2.1 ∧ (spcLay m here b).2.1 ≤ m.b.length := by
 unfold spcLay; split
 ·exact ⟨h0, h1⟩
 ·simp only; omega
theorem hold_right {p : VPic} (c : Int) (h : picRight p) : picRight (picHold p c).1 := by
 unfold picHold; split
 ·rename_i hc; exact ⟨by simp; omega, .inl hc.1⟩
 ·exact h
theorem digit_right {p : VPic} (lo hi base : Int) (h : picRight p) : picRight (picDigit p lo hi base).1 := by
 unfold picDigit; split
 ·exact h
 ·split
  ·exact hold_right _ h
  ·exact h
theorem allN_right (base : Int) : ∀ (n : Nat) {q : VPic} (lo hi : Int), picRight q → picRight (picAllN n q lo hi base).1
 | 0, q, lo, hi, h => h
 | n + 1, q, lo, hi, h => by
  unfold picAllN
  split
  ·exact h
  ·split
   ·exact digit_right _ _ _ h
   ·exact allN_right base n _ _ (digit_right _ _ _ h)
theorem all_right {p : VPic} (lo hi base : Int) (h : picRight p) : picRight (picAll p lo hi base).1 := by
 unfold picAll finP
 split
 ·exact allN_right base _ _ _ h
 ·exact h
theorem sign_right {p : VPic} (n : Int) (h : picRight p) : picRight (picSign p n).1 := by
 unfold picSign; split
 ·exact h
 ·exact hold_right _ h
theorem digit_fit {p : VPic} {lo hi base : Int} (hl : Fit64 lo) (hh : Fit64 hi) : Fit64 (picDigit p lo hi base).2.1 ∧ Fit64 (picDigit p lo hi base).2.2.1 := by
 unfold picDigit; split
 ·exact ⟨hl, hh⟩
 ·split
  ·exact ⟨fit_udiv.1, fit_udiv.1⟩
  ·exact ⟨hl, hh⟩
end Go.Proofs.YtphgdofmjpdhaaaGreat
namespace Go.Proofs.YtphgdofmjpdhaaaGreat
open Go.RowKit
set_option maxRecDepth 100000
def reset (v v' : VVm) : VVm := { v' with mem := v.mem, here := v.here, d := v.d, out := v.out, pic := v.pic, req := v.req, free := v.free, next := v.next }
structure Keeps (v v' : VVm) : Prop where
 same : reset v v' = v
 dd : v'.d = v.d
 mem : MKeeps v.mem v'.mem 2
 here : 1368 ≤ v.here → v.here ≤ v.mem.b.length → 1368 ≤ v'.here ∧ v'.here ≤ v.mem.b.length
 pic : picRight v.pic → picRight v'.pic
 out : v.out.length ≤ v.conf.out → v'.out.length ≤ v.conf.out
 req : v.req.length ≤ 16 → v'.req.length ≤ 16
 free : 0 ≤ v.free → v.free ≤ 64 → 0 ≤ v'.free ∧ v'.free ≤ 64
 next : 0 ≤ v.next → v.next ≤ 4611686018427387904 → 0 ≤ v'.next ∧ v'.next ≤ 4611686018427387904
theorem Keeps.refl (v : VVm) : Keeps v v := ⟨rfl, rfl, .refl _ _, fun a b => ⟨a, b⟩, id, id, id, fun a b => ⟨a, b⟩, fun a b => ⟨a, b⟩⟩
theorem keeps_mem {v : VVm} {m : VMem} {k : Nat} (h : MKeeps v.mem m k) (hk : k ≤ 2) : Keeps v (withM v m) :=
 ⟨rfl, rfl, h.up hk, fun a b => ⟨a, b⟩, id, id, id, fun a b => ⟨a, b⟩, fun a b => ⟨a, b⟩⟩
theorem keeps_pic {v : VVm} {p : VPic} (h : picRight v.pic → picRight p) : Keeps v (withP v p) :=
 ⟨rfl, rfl, .refl _ _, fun a b => ⟨a, b⟩, h, id, id, fun a b => ⟨a, b⟩, fun a b => ⟨a, b⟩⟩
theorem keeps_lays {v : VVm} {r : VMem × Int × Int} (h : MKeeps v.mem r.1 1) (hh : 1368 ≤ v.here → v.here ≤ v.mem.b.length → 1368 ≤ r.2.1 ∧ r.2.1 ≤ v.mem.b.length) : Keeps v (pLay v r).1 :=
 ⟨rfl, rfl, h.up (by omega), hh, id, id, id, fun a b => ⟨a, b⟩, fun a b => ⟨a, b⟩⟩
theorem keeps_print (v : VVm) (r : Str × Int) : Keeps v (pPrint v r).1 := by
 unfold pPrint vmPrint
 split
 ·split
  ·exact .refl v
  ·rename_i h
   exact ⟨rfl, rfl, .refl _ _, fun a b => ⟨a, b⟩, id, fun _ => by simp only [List.length_append]; omega, id, fun a b => ⟨a, b⟩, fun a b => ⟨a, b⟩⟩
 ·exact .refl v
theorem keeps_end (v : VVm) : Keeps v (pEnd v).1 := by
 unfold pEnd
 split
 ·exact ⟨rfl, rfl, (keeps_write _ _ _).up (by omega), fun a b => ⟨a, b⟩, fun _ => ⟨by simp [withP], .inr rfl⟩, id, id, fun a b => ⟨a, b⟩, fun a b => ⟨a, b⟩⟩
 ·exact .refl v
theorem w64_id {n : Int} (h : Fit64 n) : W64 n = n := by unfold W64; rw [i64w]; exact wrap64_fit n h
theorem keeps_ask (v : VVm) (q : VReq) (h : ¬ 16 ≤ (v.req.length : Int)) : Keeps v (withR v q) :=
 ⟨rfl, rfl, .refl _ _, fun a b => ⟨a, b⟩, id, id, fun _ => by simp only [withR, List.length_append, List.length_singleton]; omega, fun a b => ⟨a, b⟩, fun a b => ⟨a, b⟩⟩
theorem keeps_cancel (v : VVm) (x : List Int) : Keeps v (pCancel v x).1 := by
 unfold pCancel; split
 ·exact .refl v
 ·rename_i h; exact keeps_ask v _ h
theorem keeps_post (v : VVm) (x : List Int) : Keeps v (pPost v x).1 := by
 unfold pPost; split
 ·exact .refl v
 ·split
  ·exact .refl v
  ·rename_i h; exact keeps_ask v _ h
theorem keeps_timer (k : Int) (v : VVm) (x : List Int) : Keeps v (pTimer k v x).1 := by
 unfold pTimer; split
 ·exact .refl v
 ·split
  ·exact .refl v
  ·split
   ·exact .refl v
   ·rename_i h
    split
    ·exact .refl v
    ·rename_i hw
     refine ⟨rfl, rfl, .refl _ _, fun a b => ⟨a, b⟩, id, id, fun _ => by simp only [withR, List.length_append, List.length_singleton]; omega, fun a b => ?_, fun a b => ?_⟩
     ·simp only
      rw [w64_id (by unfold Fit64; omega)]
      have : v.free ≠ 0 := fun h => hw (.inl h)
      omega
     ·simp only
      rw [w64_id (by unfold Fit64; omega)]
      have : v.next ≠ 4611686018427387904 := fun h => hw (.inr h)
      omega
theorem keeps_addTo (v : VVm) (x : List Int) : MKeeps v.mem (pAddTo v x).1 1 := by
 unfold pAddTo; split
 ·exact keeps_store _ _ _
 ·exact .refl _ _
theorem keeps_store2 (v : VVm) (x : List Int) : MKeeps v.mem (pStore2 v x).1 2 := by
 unfold pStore2; split
 ·exact (keeps_store _ _ _).trans (keeps_store _ _ _)
 ·exact (keeps_store _ _ _).up (by omega)
theorem keeps_put {v : VVm} {r : VMem × Int} {k : Nat} (h : MKeeps v.mem r.1 k) (hk : k ≤ 2) : Keeps v (pPut v r).1 := keeps_mem h hk
def FitL (l : List Int) : Prop := ∀ a ∈ l, Fit64 a
theorem fitL_nil : FitL [] := fun a h => by simp at h
theorem fitL_one {a : Int} (h : Fit64 a) : FitL [a] := fun b hb => by simp at hb; subst hb; exact h
theorem fitL_two {a b : Int} (h : Fit64 a) (g : Fit64 b) : FitL [a, b] := fun c hc => by simp at hc; rcases hc with rfl | rfl; exact h; exact g
def KF (v : VVm) (r : VVm × List Int × Int) : Prop := Keeps v r.1 ∧ FitL r.2.1
theorem fit_xat {x : List Int} (h : FitL x) (i : Nat) : Fit64 (xat x i) := XOk.fit (k := 0) ⟨Nat.zero_le _, h⟩ i
theorem some_ite {α : Type} {c : Prop} [Decidable c] {a r : α} {b : Option α} (h : (if c then some a else b) = some r) : a = r ∨ b = some r := by
 by_cases hc : c
 ·rw [if_pos hc] at h; exact .inl (Option.some.inj h)
 ·rw [if_neg hc] at h; exact .inr h
theorem ite_P {α : Type} {P : α → Prop} {c : Prop} [Decidable c] {a b : α} (h1 : P a) (h2 : P b) : P (if c then a else b) := by
 by_cases hc : c
 ·rw [if_pos hc]; exact h1
 ·rw [if_neg hc]; exact h2
theorem reckon_fit {name : Str} {x : List Int} {r : List Int × Int} (hx : FitL x) (h : reckonS name x = some r) : FitL r.1 := by
 have f := fit_xat hx
 unfold reckonS at h
 rcases some_ite h with rfl | h
 ·exact fitL_two (fit_div (f 1)).2 (fit_div (f 1)).1
 rcases some_ite h with rfl | h
 ·exact fitL_one (fit_fdiv (f 2)).1
 rcases some_ite h with rfl | h
 ·exact fitL_two (fit_fdiv (f 2)).2 (fit_fdiv (f 2)).1
 rcases some_ite h with rfl | h
 ·exact fitL_two (fit_S _) (fit_S _)
 rcases some_ite h with rfl | h
 ·exact fitL_two (mulS_fit (f 0) (f 1)).1 (mulS_fit (f 0) (f 1)).2
 rcases some_ite h with rfl | h
 ·exact fitL_two fit_udiv.2 fit_udiv.1
 rcases some_ite h with rfl | h
 ·exact fitL_two (fit_sdiv (f 2)).2 (fit_sdiv (f 2)).1
 rcases some_ite h with rfl | h
 ·exact fitL_two (fit_fdiv (f 2)).2 (fit_fdiv (f 2)).1
 rcases some_ite h with rfl | h
 ·exact fitL_two (f 0) (fit_flag _)
 rcases some_ite h with rfl | h
 ·exact fitL_one (fit_flag _)
 rcases some_ite h with rfl | h
 ·exact fitL_one (by unfold Fit64; omega)
 rcases some_ite h with rfl | h
 ·exact fitL_one (by unfold Fit64; omega)
 rcases some_ite h with rfl | h
 ·exact fitL_one (by unfold Fit64; omega)
 rcases some_ite h with rfl | h
 ·exact fitL_one (by unfold Fit64; omega)
 rcases some_ite h with rfl | h
 ·exact fitL_one (by unfold Fit64; omega)
 cases h
theorem memory_kf {v : VVm} {name : Str} {x : List Int} {r : VVm × List Int × Int} (hx : FitL x) (h : memoryS v name x = some r) : KF v r := by
 have f := fit_xat hx
 unfold memoryS at h
 rcases some_ite h with rfl | h
 ·exact ⟨.refl v, fitL_one (fit_fetch _ _)⟩
 rcases some_ite h with rfl | h
 ·exact ⟨.refl v, fitL_one (fit_fetchB _ _)⟩
 rcases some_ite h with rfl | h
 ·exact ⟨keeps_put (keeps_store _ _ _) (by omega), fitL_nil⟩
 rcases some_ite h with rfl | h
 ·exact ⟨keeps_put (keeps_write _ _ _) (by omega), fitL_nil⟩
 rcases some_ite h with rfl | h
 ·exact ⟨keeps_put (keeps_addTo _ _) (by omega), fitL_nil⟩
 rcases some_ite h with rfl | h
 ·unfold pFetch2; split
  ·exact ⟨.refl v, fitL_two (fit_fetch _ _) (fit_fetch _ _)⟩
  ·exact ⟨.refl v, fitL_nil⟩
 rcases some_ite h with rfl | h
 ·exact ⟨keeps_put (keeps_store2 _ _) (by omega), fitL_nil⟩
 rcases some_ite h with rfl | h
 ·exact ⟨keeps_put (keeps_fill _ _ _ _) (by omega), fitL_nil⟩
 rcases some_ite h with rfl | h
 ·exact ⟨keeps_put (keeps_move _ _ _ _) (by omega), fitL_nil⟩
 rcases some_ite h with rfl | h
 ·exact ⟨.refl v, fitL_two (w64_fit _) (fit_fetchB _ _)⟩
 rcases some_ite h with rfl | h
 ·exact ⟨keeps_put (keeps_store _ _ _) (by omega), fitL_nil⟩
 rcases some_ite h with rfl | h
 ·exact ⟨keeps_put (keeps_store _ _ _) (by omega), fitL_nil⟩
 rcases some_ite h with rfl | h
 ·unfold pSetState; split
  ·exact ⟨keeps_put (keeps_store _ _ _) (by omega), fitL_nil⟩
  ·exact ⟨.refl v, fitL_nil⟩
 rcases some_ite h with rfl | h
 ·unfold pAtState; split
  ·exact ⟨keeps_put (keeps_store _ _ _) (by omega), fitL_nil⟩
  ·exact ⟨.refl v, fitL_nil⟩
 cases h
theorem allot_here {v : VVm} {x : List Int} (h0 : 1368 ≤ v.here) (h1 : v.here ≤ v.mem.b.length) : 1368 ≤ (pAllot v x).2.1 ∧ (pAllot v x).2.1 ≤ v.mem.b.length := by
 unfold pAllot spcAllot
 simp only
 split <;> simp only <;> omega
theorem space_kf {v : VVm} {name : Str} {x : List Int} {r : VVm × List Int × Int} (h : spaceS v name x = some r) : KF v r := by
 unfold spaceS at h
 rcases some_ite h with rfl | h
 ·exact ⟨keeps_lays (.refl _ _) (fun a b => allot_here a b), fitL_nil⟩
 rcases some_ite h with rfl | h
 ·refine ⟨keeps_lays ?_ ?_, fitL_nil⟩
  ·unfold spcComma; split
   ·exact keeps_lay _
   ·exact .refl _ _
  ·unfold spcComma; split
   ·exact fun a b => lay_here _ a b
   ·exact fun a b => ⟨a, b⟩
 rcases some_ite h with rfl | h
 ·exact ⟨keeps_lays (keeps_lay _) (fun a b => lay_here _ a b), fitL_nil⟩
 rcases some_ite h with rfl | h
 ·exact ⟨keeps_lays (keeps_lay _) (fun a b => lay_here _ a b), fitL_nil⟩
 cases h
theorem print_kf (v : VVm) (r : Str × Int) : KF v (pPrint v r) := ⟨keeps_print v r, by unfold pPrint; split <;> exact fitL_nil⟩
theorem pics_kf {v : VVm} {name : Str} {x : List Int} {r : VVm × List Int × Int} (hx : FitL x) (hc : -100 ≤ v.conf.mem ∧ v.conf.mem ≤ 100000) (hp : v.pic.b.length ≤ 1000000) (h : picsS v name x = some r) : KF v r := by
 have f := fit_xat hx
 unfold picsS at h
 rcases some_ite h with rfl | h
 ·exact ⟨keeps_pic (fun _ => ⟨by simp, .inl rfl⟩), fitL_nil⟩
 rcases some_ite h with rfl | h
 ·exact ⟨keeps_pic (digit_right _ _ _), fitL_two (digit_fit (f 0) (f 1)).1 (digit_fit (f 0) (f 1)).2⟩
 rcases some_ite h with rfl | h
 ·exact ⟨keeps_pic (all_right _ _ _), fitL_two fit_0 fit_0⟩
 rcases some_ite h with rfl | h
 ·exact ⟨keeps_pic (hold_right _), fitL_nil⟩
 rcases some_ite h with rfl | h
 ·exact ⟨keeps_pic (sign_right _), fitL_nil⟩
 rcases some_ite h with rfl | h
 ·refine ⟨keeps_end v, ?_⟩
  unfold pEnd; split
  ·have := picEnd_len v.pic
   exact fitL_two (w64_fit _) (by unfold Fit64; omega)
  ·exact fitL_nil
 cases h
theorem ask_kf {v : VVm} {name : Str} {x : List Int} {r : VVm × List Int × Int} (hn : Fit64 v.next) (h : askS2 v name x = some r) : KF v r := by
 unfold askS2 at h
 have ht : ∀ k, FitL (pTimer k v x).2.1 := fun k => by unfold pTimer; split; exact fitL_nil; split; exact fitL_nil; split; exact fitL_nil; split; exact fitL_nil; exact fitL_one hn
 rcases some_ite h with rfl | h
 ·exact ⟨keeps_post _ _, by unfold pPost; split; exact fitL_nil; split <;> exact fitL_nil⟩
 rcases some_ite h with rfl | h
 ·exact ⟨keeps_cancel _ _, by unfold pCancel; split <;> exact fitL_nil⟩
 rcases some_ite h with rfl | h
 ·exact ⟨keeps_timer _ _ _, ht _⟩
 rcases some_ite h with rfl | h
 ·exact ⟨keeps_timer _ _ _, ht _⟩
 cases h
theorem rest_kf {v : VVm} {name : Str} {x : List Int} (hh : Fit64 v.here ∧ Fit64 v.arg ∧ Fit64 v.self ∧ Fit64 v.now) : KF v (restS v name x) := by
 unfold restS
 split
 ·exact ⟨.refl v, fitL_one hh.1⟩
 ·split
  ·exact ⟨.refl v, fitL_one hh.2.1⟩
  ·split
   ·exact ⟨.refl v, fitL_one hh.2.2.1⟩
   ·split
    ·exact ⟨.refl v, fitL_one hh.2.2.2⟩
    ·split
     ·unfold pBody; split
      ·exact ⟨.refl v, fitL_nil⟩
      ·exact ⟨.refl v, fitL_one (w64_fit _)⟩
     ·exact ⟨.refl v, fitL_nil⟩
structure GoodV (N : Nat) (v : VVm) : Prop where
 right : right10 v = true
 old : v.mem.old.length ≤ N
 d : FitL v.d
 ints : Fit64 v.arg ∧ Fit64 v.self ∧ Fit64 v.now
structure RightP (v : VVm) : Prop where
 fits : fitsV v.conf
 mem : memRight v.mem = true
 dict : right9 v.dict = true
 pic : picRight v.pic
 len : (v.mem.b.length : Int) = v.conf.mem
 here0 : 1368 ≤ v.here
 here1 : v.here ≤ v.conf.mem
 f : v.f.all frameOk = true
 hand : v.hand.all handOk = true
 d : (v.d.length : Int) ≤ v.conf.data
 r : (v.r.length : Int) ≤ v.conf.ret
 fl : v.f.length ≤ 64
 dl : (v.dict.length : Int) ≤ v.conf.words
 out : (v.out.length : Int) ≤ v.conf.out
 req : v.req.length ≤ 16
 free0 : 0 ≤ v.free
 free1 : v.free ≤ 64
 next0 : 0 ≤ v.next
 next1 : v.next ≤ 4611686018427387904
 handl : v.hand.length ≤ 64
theorem right_iff (v : VVm) : right10 v = true ↔ RightP v := by
 unfold right10 rightA rightC
 simp only [Bool.and_eq_true, decide_eq_true_eq]
 constructor
 ·rintro ⟨⟨a1, a2, a3, a4, a5, a6, a7⟩, a8, a9, a10, a11, a12, a13, a14, a15, a16, a17, a18, a19, a20⟩
  exact ⟨a1, a2, a3, a4, a5, a6, a7, a8, a9, a10, a11, a12, a13, a14, a15, a16, a17, a18, a19, a20⟩
 ·rintro ⟨a1, a2, a3, a4, a5, a6, a7, a8, a9, a10, a11, a12, a13, a14, a15, a16, a17, a18, a19, a20⟩
  exact ⟨⟨a1, a2, a3, a4, a5, a6, a7⟩, a8, a9, a10, a11, a12, a13, a14, a15, a16, a17, a18, a19, a20⟩
theorem done_kf {v : VVm} {n : Int} {name : Str} {x : List Int} {N : Nat} (g : GoodV N v) (hx : FitL x) : KF v (doneS v n name x) := by
 have R := (right_iff v).1 g.right
 have f := fit_xat hx
 have hm := R.fits
 unfold fitsV at hm
 unfold doneS
 split
 ·exact ⟨.refl v, fitL_one (fit_twoS _ (f 0) (f 1))⟩
 ·split
  ·exact ⟨.refl v, fitL_one (fit_oneS _ (f 0))⟩
  ·cases h1 : reckonS name x with
   | some r => exact ⟨.refl v, reckon_fit hx h1⟩
   | none =>
    cases h2 : memoryS v name x with
    | some r => exact memory_kf hx h2
    | none =>
     cases h3 : spaceS v name x with
     | some r => exact space_kf h3
     | none =>
      cases h4 : textS v name x with
      | some r => exact print_kf v r
      | none =>
       cases h5 : picsS v name x with
       | some r => exact pics_kf hx (by omega) (by have := R.pic.1; omega) h5
       | none =>
        cases h6 : askS2 v name x with
        | some r => exact ask_kf (by have := R.next0; have := R.next1; unfold Fit64; omega) h6
        | none => exact rest_kf ⟨by have := R.here0; have := R.here1; unfold Fit64; omega, g.ints⟩
theorem left_fit {name : Str} {x : List Int} {d : Nat} (hx : FitL x) (hd : d ≤ 100000) : FitL (leftK name x d) := by
 have f := fit_xat hx
 have hq : ∀ l : List Int, (∀ a ∈ l, a ∈ x ∨ (∃ i, a = xat x i) ∨ a = d) → FitL l := fun l h a ha => by
  rcases h a ha with h | ⟨i, rfl⟩ | rfl
  ·exact hx a h
  ·exact f i
  ·unfold Fit64; omega
 unfold leftK
 refine ite_P (P := FitL) (hq _ fun a ha => by simp only [List.mem_cons, List.not_mem_nil, or_false] at ha; rcases ha with rfl | rfl <;> exact .inr (.inl ⟨_, rfl⟩)) ?_
 refine ite_P (P := FitL) (hq _ fun a ha => by simp only [List.mem_cons, List.not_mem_nil, or_false] at ha; rcases ha with rfl | rfl <;> exact .inr (.inl ⟨_, rfl⟩)) ?_
 refine ite_P (P := FitL) (hq _ fun a ha => by simp only [List.mem_cons, List.not_mem_nil, or_false] at ha; rcases ha with rfl | rfl | rfl <;> exact .inr (.inl ⟨_, rfl⟩)) ?_
 refine ite_P (P := FitL) (hq _ fun a ha => by simp only [List.mem_cons, List.not_mem_nil, or_false] at ha; subst ha; exact .inr (.inl ⟨_, rfl⟩)) ?_
 refine ite_P (P := FitL) (hq _ fun a ha => by simp only [List.mem_cons, List.not_mem_nil, or_false] at ha; rcases ha with rfl | rfl | rfl <;> exact .inr (.inl ⟨_, rfl⟩)) ?_
 refine ite_P (P := FitL) (hq _ fun a ha => by simp only [List.mem_cons, List.not_mem_nil, or_false] at ha; rcases ha with rfl | rfl | rfl <;> exact .inr (.inl ⟨_, rfl⟩)) ?_
 refine ite_P (P := FitL) (hq _ fun a ha => by simp only [List.mem_cons, List.not_mem_nil, or_false] at ha; rcases ha with rfl | rfl | rfl <;> exact .inr (.inl ⟨_, rfl⟩)) ?_
 refine ite_P (P := FitL) (hq _ fun a ha => by simp only [List.mem_cons, List.not_mem_nil, or_false] at ha; rcases ha with rfl | rfl | rfl | rfl <;> exact .inr (.inl ⟨_, rfl⟩)) ?_
 refine ite_P (P := FitL) (hq _ fun a ha => by simp only [List.mem_cons, List.not_mem_nil, or_false] at ha; rcases ha with rfl | rfl | rfl | rfl <;> exact .inr (.inl ⟨_, rfl⟩)) ?_
 refine ite_P (P := FitL) (hq _ fun a ha => by simp only [List.mem_cons, List.not_mem_nil, or_false] at ha; rcases ha with rfl | rfl | rfl | rfl | rfl | rfl <;> exact .inr (.inl ⟨_, rfl⟩)) ?_
 refine ite_P (P := FitL) (ite_P (P := FitL) hx (hq _ fun a ha => by simp only [List.mem_cons, List.not_mem_nil, or_false] at ha; rcases ha with rfl | rfl <;> exact .inr (.inl ⟨_, rfl⟩))) ?_
 refine ite_P (P := FitL) (hq _ fun a ha => by simp only [List.mem_cons, List.not_mem_nil, or_false] at ha; exact .inr (.inr ha)) ?_
 refine ite_P (P := FitL) (hq _ fun a ha => by rcases List.mem_append.1 ha with h | h; exact .inl (List.mem_of_mem_take h); exact .inr (.inl ⟨_, List.mem_singleton.1 h⟩)) ?_
 refine ite_P (P := FitL) (hq _ fun a ha => by rcases List.mem_append.1 ha with h | h; exact .inl (List.mem_of_mem_take (List.mem_of_mem_drop h)); exact .inr (.inl ⟨_, List.mem_singleton.1 h⟩)) ?_
 exact fitL_nil
theorem shuffle_fit {name : Str} {s : List Int} {limit : Int} (hs : FitL s) (hl : s.length ≤ 100000) : FitL (shuffleS name s limit).1 := by
 unfold shuffleS
 split
 ·exact hs
 ·split
  ·exact hs
  ·split
   ·exact hs
   ·intro a ha
    rcases List.mem_append.1 ha with ha | ha
    ·exact hs a (List.mem_of_mem_take ha)
    ·exact left_fit (fun b hb => hs b (List.mem_of_mem_drop hb)) hl a ha
theorem shuffle_len {name : Str} {s : List Int} {limit : Int} (hs : (s.length : Int) ≤ limit) : ((shuffleS name s limit).1.length : Int) ≤ limit := by
 unfold shuffleS
 split
 ·exact hs
 ·split
  ·exact hs
  ·split
   ·exact hs
   ·rename_i h; simp only [List.length_append, List.length_take]; omega
theorem keeps_right {v v' : VVm} {d : List Int} (R : RightP v) (K : Keeps v v') (hd : (d.length : Int) ≤ v.conf.data) : RightP { v' with d := d } := by
 have s := K.same
 unfold reset at s
 have e1 : v'.conf = v.conf := by rw [← s]
 have e2 : v'.dict = v.dict := by rw [← s]
 have e3 : v'.f = v.f := by rw [← s]
 have e4 : v'.hand = v.hand := by rw [← s]
 have e5 : v'.r = v.r := by rw [← s]
 have h1 := K.here R.here0 (by have := R.here1; have := R.len; omega)
 have h2 := K.free R.free0 R.free1
 have h3 := K.next R.next0 R.next1
 have hl := K.mem.len
 have hl2 := R.len
 exact ⟨by rw [e1]; exact R.fits, K.mem.right R.mem, by rw [e2]; exact R.dict, K.pic R.pic, by simp only [e1]; rw [hl]; exact hl2, h1.1, by simp only [e1]; omega, by rw [e3]; exact R.f, by rw [e4]; exact R.hand, by simp only [e1]; exact hd, by simp only [e1, e5]; exact R.r, by rw [e3]; exact R.fl, by simp only [e1, e2]; exact R.dl, by simp only [e1]; exact K.out R.out, K.req R.req, h2.1, h2.2, h3.1, h3.2, by rw [e4]; exact R.handl⟩
theorem doS_good {v : VVm} {n : Int} {N : Nat} (g : GoodV N v) : GoodV (N + 2) (doS v n).1 := by
 have R := (right_iff v).1 g.right
 have hc := R.fits
 unfold fitsV at hc
 have hdl := R.d
 have stay : GoodV (N + 2) v := ⟨g.right, by have := g.old; omega, g.d, g.ints⟩
 by_cases h : n < 23 ∨ 129 < n
 ·unfold doS; rw [if_pos h]; exact stay
 ·by_cases h1 : n ≤ 38
  ·unfold doS; rw [if_neg h]; simp only; rw [if_pos h1]
   refine ⟨(right_iff _).2 (keeps_right R (.refl v) (shuffle_len R.d)), by show v.mem.old.length ≤ _; have := g.old; omega, shuffle_fit g.d (by omega), g.ints⟩
  ·rw [doS_deed (by omega) (by omega)]
   have K := done_kf (n := n) (name := names.getD n.toNat []) g (x := v.d.drop (v.d.length - takesS n (names.getD n.toNat []))) (fun a ha => g.d a (List.mem_of_mem_drop ha))
   generalize doneS v n (names.getD n.toNat []) (v.d.drop (v.d.length - takesS n (names.getD n.toNat []))) = r at K ⊢
   unfold doR
   split
   ·exact stay
   ·split
    ·exact stay
    ·split
     ·exact stay
     ·rename_i q0 q1 q2
      have s := K.1.same
      unfold reset at s
      refine ⟨(right_iff _).2 (keeps_right R K.1 (by simp only [List.length_append, List.length_take]; omega)), ?_, fun a ha => ?_, ?_⟩
      ·have := K.1.mem.old; have := g.old; show _ ≤ _; simp only; omega
      ·rcases List.mem_append.1 ha with ha | ha
       ·exact g.d a (List.mem_of_mem_take ha)
       ·exact K.2 a ha
      ·have a1 : r.1.arg = v.arg := by have h := congrArg VVm.arg K.1.same; exact h
       have a2 : r.1.self = v.self := by have h := congrArg VVm.self K.1.same; exact h
       have a3 : r.1.now = v.now := by have h := congrArg VVm.now K.1.same; exact h
       simp only [a1, a2, a3]
       exact g.ints
theorem good_ok {v : VVm} {N : Nat} (g : GoodV N v) (hN : N ≤ 900000) : VmOk v := by
 have R := (right_iff v).1 g.right
 have hc := R.fits
 unfold fitsV at hc
 have h1 := R.len
 have h2 := g.old
 have h3 := R.here0
 have h4 := R.here1
 have h5 := R.out
 have h6 := R.pic.1
 have h7 := R.req
 have h8 := R.handl
 have h9 := R.d
 exact ⟨⟨by omega, by omega⟩, by omega, ⟨by omega, by omega⟩, by omega, by omega, by omega, by omega, by omega, by omega, g.d, by unfold Fit64; omega⟩
end Go.Proofs.YtphgdofmjpdhaaaGreat
namespace Go.Proofs.YtphgdofmjpdhaaaGreat
open Go.RowKit
set_option maxRecDepth 100000
set_option maxHeartbeats 4000000
theorem WO_obI {P : Program} {B : Nat → Nat → Prop} {n : Nat} {all : Array Oper} {l : List Oper} {T : Nat → PV} {H H' : List Ob} {K : (Nat → PV) → List Ob → Prop} (i : Nat) {ob ob' : Ob} (hi : H[i]? = some ob) (e : ob = ob') (hH : nfH (H.set i ob') = some H') (h1 : WO P B n all l T H' K) : WO P B n all l T H K := by
 rw [nfH_eq hH] at h1
 subst e
 have : H.set i ob = H := by
  apply List.ext_getElem?
  intro j
  rw [List.getElem?_set]
  split
  ·rename_i h; subst h; split
   ·exact hi.symm
   ·rename_i h2; rw [List.getElem?_eq_none (by omega)]
  ·rfl
 rwa [this] at h1
def onlyT : List Str := [[73], [74], [85, 78, 76, 79, 79, 80], [62, 82], [82, 62], [82, 64], [50, 62, 82], [50, 82, 62]]
def nowT : List Str := [[46, 34], [40], [92], [91]]
def bothT : List Str := [[59], [68, 79, 69, 83, 62], [91, 39, 93], [91, 67, 72, 65, 82, 93], [76, 73, 84, 69, 82, 65, 76], [80, 79, 83, 84, 80, 79, 78, 69], [82, 69, 67, 85, 82, 83, 69], [73, 70], [69, 76, 83, 69], [84, 72, 69, 78], [66, 69, 71, 73, 78], [87, 72, 73, 76, 69], [82, 69, 80, 69, 65, 84], [85, 78, 84, 73, 76], [65, 71, 65, 73, 78], [68, 79], [63, 68, 79], [76, 79, 79, 80], [43, 76, 79, 79, 80], [76, 69, 65, 86, 69], [83, 34], [69, 88, 73, 84]]
def inS (l : List Str) (s : Str) : Bool := l.any (fun x => decide (x = s))
theorem ref_in (l : List Str) (s : Str) (hl : l.length ≤ 1000000) : PureC Tryz.prog 206 [sq cStr l, str s] (boo (inS l s)) := by
 refine pW tG (rs := [.tmp 4]) Tryz.func206 rfl rfl rfl (by simp) (by simp) (fun B => ?_)
 refine zu1 ?_
 refine Ws ?_
 refine zu1 ?_
 refine Wl ?_
 show W _ _ _ _ _ _ _
 refine W_loopS (fun (k : Nat) => [(0, sq cStr l), (1, str s), (5, i64 k)]) (fun (k : Nat) => []) (fun (k : Nat) => []) (fun (k : Nat) => k ≤ l.length ∧ (l.take k).all (fun x => !decide (x = s)) = true) (fun (k : Nat) => l.length - k) (0) (by simp) [] ?_ ?_
 ·exact fitT
 ·intro k hk
  refine Ws ?_
  refine zu4 ?_
  refine Wi rfl (fun hi1 => ?_) (fun hi1 => ?_)
  ·have hlt : k < l.length := by have := oT hi1; omega
   refine Wj ?_
   refine Ws ?_
   refine Wl ?_
   refine zp2 ?_
   refine Wv tG rfl rfl rfl (by omega) (iN cStr 1 (fun _ => rfl) [] (by omega)) ?_
   refine zy3 ?_
   refine Wa 17 rfl (str_eql _ _) ?_
   refine Wn ?_
   refine Wi rfl (fun hi2 => ?_) (fun hi2 => ?_)
   ·have hy : inS l s = true := by unfold inS; rw [List.any_eq_true]; exact ⟨_, mem_getD [] hlt, hi2⟩
    refine zu1 ?_
    refine zR ?_
    rw [hy]; rfl
   ·refine Wj ?_
    refine W_region rfl ?_
    refine zs3 ?_
    exact ⟨k + 1, [], (by exact ⟨by omega, all_snoc [] hlt hk.2 (by rw [hi2]; rfl)⟩), (by omega), fitT⟩
  ·have hge : l.length ≤ k := by have := oF hi1; omega
   have hn : inS l s = false := by have h1 := hk.2; rw [take_all' _ k hge] at h1; unfold inS; rw [List.any_eq_false]; intro x hx; have := List.all_eq_true.1 h1 x hx; simpa using this
   refine W_exit ?_
   refine zu1 ?_
   refine zR ?_
   rw [hn]; rfl
def flagsN (name : Str) (i : Nat) : Int := if i < 12 then 6 else if inS onlyT name then 4 else if inS nowT name then 1 else if inS bothT name then 5 else 0
theorem ref_flags (name : Str) (i : Nat) : PureC Tryz.prog 78 [str name, i64 i] (i64 (flagsN name i)) := by
 refine pW tG (rs := [.tmp 4]) Tryz.func78 rfl rfl rfl (by simp) (by simp) (fun B => ?_)
 refine zu1 ?_
 refine Ws ?_
 refine zu2 ?_
 refine Wi rfl (fun hi1 => ?_) (fun hi1 => ?_)
 ·have h0 : i < 12 := by have := oT hi1; omega
  refine zu1 ?_
  refine zR ?_
  rw [flagsN, if_pos h0]; rfl
 ·have h0 : ¬ i < 12 := by have := oF hi1; omega
  refine Wj ?_
  refine zp1 ?_
  refine Wa 10 rfl (bsL cStr [_, _, _, _, _, _, _, _] rfl rfl) ?_
  refine z1 ?_
  refine Wc rfl rfl (dC rfl Tryz.func206 rfl rfl ((ref_in onlyT name (by decide)) _)) ?_
  refine zs1 ?_
  refine Ws ?_
  refine zu1 ?_
  refine Wi rfl (fun hi2 => ?_) (fun hi2 => ?_)
  ·refine zu1 ?_
   refine zR ?_
   rw [flagsN, if_neg h0, if_pos hi2]; rfl
  ·refine Wj ?_
   refine zp1 ?_
   refine Wa 14 rfl (bsL cStr [_, _, _, _] rfl rfl) ?_
   refine z1 ?_
   refine Wc rfl rfl (dC rfl Tryz.func206 rfl rfl ((ref_in nowT name (by decide)) _)) ?_
   refine zs1 ?_
   refine Ws ?_
   refine zu1 ?_
   refine Wi rfl (fun hi3 => ?_) (fun hi3 => ?_)
   ·refine zu1 ?_
    refine zR ?_
    rw [flagsN, if_neg h0, if_neg (by rw [hi2]; simp), if_pos hi3]; rfl
   ·refine Wj ?_
    refine zp1 ?_
    refine Wa 18 rfl (bsL cStr [_, _, _, _, _, _, _, _, _, _, _, _, _, _, _, _, _, _, _, _, _, _] rfl rfl) ?_
    refine z1 ?_
    refine Wc rfl rfl (dC rfl Tryz.func206 rfl rfl ((ref_in bothT name (by decide)) _)) ?_
    refine zs1 ?_
    refine Ws ?_
    refine zu1 ?_
    refine Wi rfl (fun hi4 => ?_) (fun hi4 => ?_)
    ·refine zu1 ?_
     refine zR ?_
     rw [flagsN, if_neg h0, if_neg (by rw [hi2]; simp), if_neg (by rw [hi3]; simp), if_pos hi4]; rfl
    ·refine Wj ?_
     refine zu1 ?_
     refine zR ?_
     rw [flagsN, if_neg h0, if_neg (by rw [hi2]; simp), if_neg (by rw [hi3]; simp), if_neg (by rw [hi4]; simp)]; rfl
theorem ref_NamesC : PureC Tryz.prog 30 [] (sqc cStr names) := by
 refine pW tG (rs := [.tmp 0]) Tryz.func30 rfl rfl rfl (by simp; done) (by exact flat_sqc flat_cStr _) (fun B => ?_)
 refine zu1 ?_
 refine zp1 ?_
 refine Wa 1 rfl (bsL cStr [_, _, _, _, _, _, _, _, _, _, _, _, _, _, _, _, _, _, _, _, _, _, _, _, _, _, _, _, _, _, _, _, _, _, _, _, _, _, _, _, _, _, _, _, _, _, _, _, _, _, _, _, _, _, _, _, _, _, _, _, _, _, _, _, _, _, _, _, _, _, _, _, _, _, _, _, _, _, _, _, _, _, _, _, _, _, _, _, _, _, _, _, _, _, _, _, _, _, _, _, _, _, _, _, _, _, _, _, _, _, _, _, _, _, _, _, _, _, _, _, _, _, _, _, _, _, _, _, _, _] rfl rfl) ?_
 refine zs1 ?_
 refine Wq ?_
 exact leafPx rfl rfl
def allN : List Str := names ++ specials
theorem allN_len : allN.length = 167 := by unfold allN; rw [List.length_append, names_len, specials_len]
def nval (i : Nat) : Nat := if 130 ≤ i then 170 + i else i
def put2 (b : List UInt8) (a n : Nat) : List UInt8 := (b.set a (UInt8.ofNat (n % 256))).set (a + 1) (UInt8.ofNat (n / 256))
def stepB (b : List UInt8) (i : Nat) : List UInt8 :=
 let b1 := put2 b (32 + 8 * i) (nval i)
 let b2 := if allN.getD i [] = [40, 104, 97, 108, 116, 41] then put2 b1 16 (32 + 8 * i) else b1
 if allN.getD i [] = [40, 99, 97, 117, 103, 104, 116, 41] then put2 b2 24 (32 + 8 * i) else b2
def newB (M : Nat) : Nat → List UInt8
 | 0 => (List.replicate M 0).set 0 10
 | k + 1 => stepB (newB M k) k
def wordN (i : Nat) : VWord := ⟨allN.getD i [], ((32 + 8 * i : Nat) : Int), flagsN (allN.getD i []) i⟩
def newL (k : Nat) : List VWord := (List.range k).map wordN
@[simp] theorem newL_len (k : Nat) : (newL k).length = k := by simp [newL]
theorem newL_succ (k : Nat) : newL (k + 1) = newL k ++ [wordN k] := by unfold newL; rw [List.range_succ, List.map_append]; rfl
theorem put2_len (b : List UInt8) (a n : Nat) : (put2 b a n).length = b.length := by simp [put2]
theorem stepB_len (b : List UInt8) (i : Nat) : (stepB b i).length = b.length := by
 unfold stepB
 simp only
 split <;> split <;> simp [put2_len]
theorem newB_len (M k : Nat) : (newB M k).length = M := by
 induction k with
 | zero => simp [newB]
 | succ k ih => rw [newB, stepB_len, ih]
def newVm (c : VConf) : VVm := { conf := c, mem := ⟨newB c.mem.toNat 167, []⟩, here := 1368, d := [], r := [], f := [], dict := newL 167, last := 0, out := [], pic := ⟨[], false⟩, req := [], free := 0, next := 0, arg := 0, self := 0, now := 0, hand := [] }
def vmZ : List PV := [i64 0, i64 0, i64 0, i64 0, i64 0, .seq 0 [] .clip, .seq 0 [] .clip, i64 0, .seq 0 [] .clip, .seq 0 [] .clip, .seq 0 [] .clip, .seq 0 [] .clip, i64 0, .seq 0 [] .clip, .seq 0 [] .clip, boo false, .seq 0 [] .clip, i64 0, i64 0, i64 0, i64 0, i64 0, .seq 0 [] .clip]
@[simp] theorem nl_vmZ {n : Nat} : NL1L n vmZ := nF (by simp [vmZ])
theorem u8_of (n : Nat) (h : n < 256) : ((UInt8.ofNat n).toNat : Int) = n := by rw [UInt8.toNat_ofNat']; omega
theorem u8_mod (n : Nat) : PV.val (Value.int .u8 (IntKind.u8.wrap ((n : Int).tmod 256))) = .val (.int .u8 ((UInt8.ofNat (n % 256)).toNat : Int)) := by
 rw [u8_of _ (by omega), Int.tmod_eq_emod_of_nonneg (by omega)]
 simp only [PV.val.injEq, Value.int.injEq, true_and]
 rw [IntKind.wrap_u8]; omega
theorem u8_quo (n : Nat) (h : n < 65536) : PV.val (Value.int .u8 (IntKind.u8.wrap (IntKind.i64.wrap ((n : Int).tdiv 256)))) = .val (.int .u8 ((UInt8.ofNat (n / 256)).toNat : Int)) := by
 rw [u8_of _ (by omega), Int.tdiv_eq_ediv_of_nonneg (by omega)]
 simp only [PV.val.injEq, Value.int.injEq, true_and]
 rw [i64w, IntKind.wrap_u8]; unfold wrap64; omega
theorem splice_at {b : List UInt8} {i : Int} {n : Nat} {x : UInt8} (hi : i = n) (hn : n < b.length) : splice (b.flatMap cByte) (0 + i.toNat * 1) [.val (.int .u8 (x.toNat : Int))] = (b.set n x).flatMap cByte := by
 subst hi
 rw [Int.toNat_natCast, Nat.mul_one, Nat.zero_add]
 exact splice_byte hn x
theorem zeros_b {M : Nat} {d : TD} {e : TypeId} (hd : d.zero = cByte 0) : Ob.cells (zerosPV M d) e = .cells ((List.replicate M (0 : UInt8)).flatMap cByte) e := by
 unfold zerosPV
 rw [hd, List.flatMap_replicate]
end Go.Proofs.YtphgdofmjpdhaaaGreat
namespace Go.Proofs.YtphgdofmjpdhaaaGreat
open Go.RowKit
set_option maxRecDepth 100000
def sC : VConf := ⟨2048, 32, 32, 200, 500⟩
theorem sC_fits : fitsV sC := by unfold fitsV sC; decide
def stockS (d : List Int) : VVm := { newVm sC with d := d }
theorem newB_words : (newL 167).all wordOk = true := by decide +kernel
theorem stock_right {d : List Int} (hd : d.length ≤ 32) : RightP (stockS d) := by
 have hl : (newB 2048 167).length = 2048 := newB_len _ _
 refine ⟨sC_fits, ?_, ?_, ⟨(by show (0 : Nat) ≤ 130; decide), .inr rfl⟩, ?_, (by show (1368 : Int) ≤ 1368; decide), (by show (1368 : Int) ≤ 2048; decide), rfl, rfl, ?_, (by show ((0 : Nat) : Int) ≤ 32; decide), (by show (0 : Nat) ≤ 64; decide), ?_, (by show ((0 : Nat) : Int) ≤ 500; decide), (by show (0 : Nat) ≤ 16; decide), (by show (0 : Int) ≤ 0; decide), (by show (0 : Int) ≤ 64; decide), (by show (0 : Int) ≤ 0; decide), (by show (0 : Int) ≤ 4611686018427387904; decide), (by show (0 : Nat) ≤ 64; decide)⟩
 ·show memRight ⟨newB 2048 167, []⟩ = true
  unfold memRight
  simp only [List.all_nil, Bool.true_and, hl]
  decide
 ·show right9 (newL 167) = true
  unfold right9
  rw [newB_words, newL_len]; rfl
 ·show ((newB 2048 167).length : Int) = 2048
  rw [hl]; rfl
 ·show (d.length : Int) ≤ 32
  omega
 ·show ((newL 167).length : Int) ≤ 200
  rw [newL_len]; decide
theorem stock_good {d : List Int} (hd : d.length ≤ 32) (hf : FitL d) : GoodV 0 (stockS d) :=
 ⟨(right_iff _).2 (stock_right hd), Nat.le_refl _, hf, ⟨fit_0, fit_0, fit_0⟩⟩
theorem put2_take {b : List UInt8} {a n : Nat} (h : 8 ≤ a) : (put2 b a n).take 8 = b.take 8 := by
 unfold put2
 rw [List.take_set_of_le (by omega), List.take_set_of_le h]
theorem newB_take {M : Nat} (hM : 8 ≤ M) : ∀ k, (newB M k).take 8 = [10, 0, 0, 0, 0, 0, 0, 0]
 | 0 => by
  obtain ⟨m, rfl⟩ : ∃ m, M = m + 8 := ⟨M - 8, by omega⟩
  rfl
 | k + 1 => by
  have ih := newB_take hM k
  unfold newB stepB
  simp only
  split <;> split <;> simp only [put2_take (show 8 ≤ 24 by omega), put2_take (show 8 ≤ 16 by omega), put2_take (show 8 ≤ 32 + 8 * k by omega), ih]
theorem stock_base {v : VVm} (h : v.mem = ⟨newB 2048 167, []⟩) : memFetch v.mem 0 = (10, 0) := by
 rw [h]
 have hl : (newB 2048 167).length = 2048 := newB_len _ _
 have ht := newB_take (M := 2048) (by omega) 167
 have hc : memCellAt ⟨newB 2048 167, []⟩ 0 = 0 := by
  unfold memCellAt memThere
  simp only [hl]
  decide
 unfold memFetch
 rw [hc, if_pos rfl]
 show (getC (((newB 2048 167).drop 0).take 8), 0) = _
 rw [List.drop_zero, ht]
 decide +kernel
theorem doR_ok {v : VVm} {k : Nat} {r : VVm × List Int × Int} (h0 : k ≤ v.d.length) (h1 : r.2.2 = 0) (h2 : ((v.d.length - k + r.2.1.length : Nat) : Int) ≤ v.conf.data) : doR v k r = ({ r.1 with d := v.d.take (v.d.length - k) ++ r.2.1 }, 0) := by
 unfold doR
 rw [if_neg (by omega), if_neg (by rw [h1]; simp), if_neg (by omega)]
theorem doR_bad {v : VVm} {k : Nat} {r : VVm × List Int × Int} (h0 : k ≤ v.d.length) (h1 : r.2.2 ≠ 0) : doR v k r = (v, r.2.2) := by
 unfold doR
 rw [if_neg (by omega), if_pos h1]
theorem D73 : doS (stockS [7, -2]) 73 = ({ stockS [7, -2] with d := [-1, -4] }, 0) := by
 have hk : takesS 73 (names.getD (73 : Int).toNat []) = 2 := by decide +kernel
 have hn : names.getD (73 : Int).toNat [] = [47, 77, 79, 68] := by decide +kernel
 rw [doS_deed (by decide) (by decide), hk, hn, ds_73]
 have e : pDivMod ((stockS [7, -2]).d.drop ((stockS [7, -2]).d.length - 2)) = ([-1, -4], 0) := by
  show pDivMod [7, -2] = _
  decide +kernel
 rw [e]
 exact doR_ok (by decide) rfl (by decide)
theorem D39 : doS (stockS [7, -2]) 39 = ({ stockS [7, -2] with d := [5] }, 0) := by
 have hn : names.getD (39 : Int).toNat [] = [43] := by decide +kernel
 rw [doS_deed (by decide) (by decide), hn]
 have hk : takesS 39 [43] = 2 := by decide +kernel
 rw [hk]
 have e : doneS (stockS [7, -2]) 39 [43] ((stockS [7, -2]).d.drop ((stockS [7, -2]).d.length - 2)) = (stockS [7, -2], [5], 0) := by
  show (stockS [7, -2], [(twoS [43] 7 (-2)).1], (twoS [43] 7 (-2)).2.2) = _
  have h : twoS [43] 7 (-2) = (5, true, 0) := by decide +kernel
  rw [h]
 rw [e]
 exact doR_ok (by decide) rfl (by decide)
theorem D83 : doS (stockS [7, -2]) 83 = (stockS [7, -2], -9) := by
 have hk : takesS 83 (names.getD (83 : Int).toNat []) = 1 := by decide +kernel
 have hn : names.getD (83 : Int).toNat [] = [64] := by decide +kernel
 rw [doS_deed (by decide) (by decide), hk, hn, ds_83]
 have hc : memCellAt (stockS [7, -2]).mem (-2) = -9 := by
  unfold memCellAt memThere
  rw [show decide ((8 : Int) = 0 ∨ 0 < (8 : Int) ∧ 0 ≤ (-2 : Int) ∧ (-2 : Int) + 8 ≤ (((stockS [7, -2]).mem.b.length : Nat) : Int)) = false from decide_eq_false (by omega)]
  rfl
 have hf : memFetch (stockS [7, -2]).mem (-2) = (0, -9) := by unfold memFetch; rw [hc]; rfl
 have e : pFetch (stockS [7, -2]) ((stockS [7, -2]).d.drop ((stockS [7, -2]).d.length - 1)) = (stockS [7, -2], [0], -9) := by
  show (stockS [7, -2], [(memFetch (stockS [7, -2]).mem (-2)).1], (memFetch (stockS [7, -2]).mem (-2)).2) = _
  rw [hf]
 rw [e]
 exact doR_bad (by decide) (by decide)
theorem num_dot : numberS [46] = 110 := by decide +kernel
theorem D110 : doS (stockS [7, -2]) 110 = ({ stockS [7, -2] with d := [7], out := [45, 50, 32] }, 0) := by
 have hk : takesS 110 (names.getD (110 : Int).toNat []) = 1 := by decide +kernel
 have hn : names.getD (110 : Int).toNat [] = [46] := by decide +kernel
 rw [doS_deed (by decide) (by decide), hk, hn, ds_110]
 have hb : baseS (stockS [7, -2]) = 10 := by unfold baseS; rw [stock_base rfl]
 have hs : showS (-2) 10 = ([45, 50], 0) := by decide +kernel
 have e : pPrint (stockS [7, -2]) (pDot (showS (xat ((stockS [7, -2]).d.drop ((stockS [7, -2]).d.length - 1)) 0) (baseS (stockS [7, -2])))) = ({ stockS [7, -2] with out := [45, 50, 32] }, [], 0) := by
  show pPrint (stockS [7, -2]) (pDot (showS (-2) (baseS (stockS [7, -2])))) = _
  rw [hb, hs]
  rfl
 rw [e]
 exact doR_ok (by decide) rfl (by decide)
end Go.Proofs.YtphgdofmjpdhaaaGreat
namespace Go.Proofs.YtphgdofmjpdhaaaGreat
open Go.RowKit
set_option maxRecDepth 100000
theorem wf_fit {n : Int} (h : (Lit.int .i64 n).wf = true) : Fit64 n := fit_wf h
theorem rd_int64 {w : World} {cs : List Value} (h : Rd w 3 cs) : ∃ n, Fit64 n ∧ RepL (c0 w) [i64 n] cs := by
 obtain ⟨n, h1, h2⟩ := rd_int_rep Tryz.underlying3 h
 exact ⟨n, wf_fit h1, h2⟩
theorem rd_byte {w : World} {cs : List Value} (h : Rd w 5 cs) : ∃ b : UInt8, True ∧ RepL (c0 w) (cByte b) cs := by
 obtain ⟨n, h1, h2⟩ := rd_int_rep Tryz.underlying5 h
 have h3 := byte_wf h1
 refine ⟨UInt8.ofNat n.toNat, trivial, ?_⟩
 have e : ((UInt8.ofNat n.toNat).toNat : Int) = n := by rw [UInt8.toNat_ofNat']; omega
 unfold cByte
 rw [e]; exact h2
theorem str_size' (s : ByteArray) : s.size = s.data.toList.length := by show s.data.size = _; simp
theorem rd_str {w : World} {cs : List Value} (h : Rd w 9 cs) : ∃ s : Str, s.length ≤ 9223372036854775807 ∧ RepL (c0 w) [str s] cs := by
 obtain ⟨s, h1, h2⟩ := rd_string_rep Tryz.underlying9 h
 refine ⟨s.data.toList, by unfold maxLen at h1; have : s.size = s.data.toList.length := (str_size' s); omega, ?_⟩
 rw [← str_of]; exact h2
theorem rd_boo {w : World} {cs : List Value} (h : Rd w 4 cs) : ∃ b : Bool, True ∧ RepL (c0 w) [boo b] cs := by
 obtain ⟨b, h1⟩ := rd_bool_rep Tryz.underlying4 h
 exact ⟨b, trivial, h1⟩
theorem rd_bytes {w : World} {cs : List Value} (h : Rd w 24 cs) : ∃ l : List UInt8, l.length ≤ 9223372036854775807 ∧ RepL (c0 w) [sq cByte l] cs := by
 obtain ⟨l, _, h2, h3⟩ := rd_slice_rep cByte (fun _ => True) 1 Tryz.underlying24 (by kernel_rfl) (by omega) (fun es h => rd_byte h) h
 exact ⟨l, by unfold maxLen at h2; omega, h3⟩
theorem rd_intl {w : World} {cs : List Value} (h : Rd w 28 cs) : ∃ l : List Int, ((∀ x ∈ l, Fit64 x) ∧ l.length ≤ 9223372036854775807) ∧ RepL (c0 w) [sq cInt l] cs := by
 obtain ⟨l, h1, h2, h3⟩ := rd_slice_rep cInt Fit64 1 Tryz.underlying28 (by kernel_rfl) (by omega) (fun es h => rd_int64 h) h
 exact ⟨l, ⟨h1, by unfold maxLen at h2; omega⟩, h3⟩
structure OkConf (x : VConf) : Prop where
 o_mem : Fit64 x.mem
 o_data : Fit64 x.data
 o_ret : Fit64 x.ret
 o_words : Fit64 x.words
 o_out : Fit64 x.out
theorem rd_Conf {w : World} {cs : List Value} (h : Rd w 23 cs) : ∃ x : VConf, OkConf x ∧ RepL (c0 w) (cConf x) cs := by
 have h0 := rd_all Tryz.underlying23 [(3, 1), (3, 1), (3, 1), (3, 1), (3, 1)] (by kernel_rfl) (by kernel_rfl) (by kernel_rfl) h
 simp only [RdAll] at h0
 obtain ⟨a0, b0, e0, _, r0, t0⟩ := h0
 obtain ⟨a1, b1, e1, _, r1, t1⟩ := t0
 obtain ⟨a2, b2, e2, _, r2, t2⟩ := t1
 obtain ⟨a3, b3, e3, _, r3, t3⟩ := t2
 obtain ⟨a4, b4, e4, _, r4, t4⟩ := t3
 obtain ⟨x0, k0, p0⟩ := rd_int64 r0
 obtain ⟨x1, k1, p1⟩ := rd_int64 r1
 obtain ⟨x2, k2, p2⟩ := rd_int64 r2
 obtain ⟨x3, k3, p3⟩ := rd_int64 r3
 obtain ⟨x4, k4, p4⟩ := rd_int64 r4
 refine ⟨⟨x0, x1, x2, x3, x4⟩, ⟨k0, k1, k2, k3, k4⟩, ?_⟩
 subst e0 e1 e2 e3 e4
 have key := (RepL.append p0 (RepL.append p1 (RepL.append p2 (RepL.append p3 (RepL.append p4 (repL_nil.2 t4))))))
 exact key
structure OkPatch (x : VPatch) : Prop where
 o_place : Fit64 x.place
 o_old : x.old.length ≤ 9223372036854775807
theorem rd_Patch {w : World} {cs : List Value} (h : Rd w 138 cs) : ∃ x : VPatch, OkPatch x ∧ RepL (c0 w) (cPatch x) cs := by
 have h0 := rd_all Tryz.underlying138 [(3, 1), (24, 1)] (by kernel_rfl) (by kernel_rfl) (by kernel_rfl) h
 simp only [RdAll] at h0
 obtain ⟨a0, b0, e0, _, r0, t0⟩ := h0
 obtain ⟨a1, b1, e1, _, r1, t1⟩ := t0
 obtain ⟨x0, k0, p0⟩ := rd_int64 r0
 obtain ⟨x1, k1, p1⟩ := rd_bytes r1
 refine ⟨⟨x0, x1⟩, ⟨k0, k1⟩, ?_⟩
 subst e0 e1
 have key := (RepL.append p0 (RepL.append p1 (repL_nil.2 t1)))
 exact key
theorem rd_Patchs {w : World} {cs : List Value} (h : Rd w 25 cs) : ∃ l : List VPatch, ((∀ x ∈ l, OkPatch x) ∧ l.length ≤ 9223372036854775807) ∧ RepL (c0 w) [sq cPatch l] cs := by
 obtain ⟨l, h1, h2, h3⟩ := rd_slice_rep cPatch OkPatch 2 Tryz.underlying25 (by kernel_rfl) (by omega) (fun es h => rd_Patch h) h
 exact ⟨l, ⟨h1, by unfold maxLen at h2; omega⟩, h3⟩
structure OkMem (x : VMem) : Prop where
 o_b : x.b.length ≤ 9223372036854775807
 o_old : (∀ a ∈ x.old, OkPatch a) ∧ x.old.length ≤ 9223372036854775807
theorem rd_Mem {w : World} {cs : List Value} (h : Rd w 27 cs) : ∃ x : VMem, OkMem x ∧ RepL (c0 w) (cMem x) cs := by
 have h0 := rd_all Tryz.underlying27 [(24, 1), (25, 1)] (by kernel_rfl) (by kernel_rfl) (by kernel_rfl) h
 simp only [RdAll] at h0
 obtain ⟨a0, b0, e0, _, r0, t0⟩ := h0
 obtain ⟨a1, b1, e1, _, r1, t1⟩ := t0
 obtain ⟨x0, k0, p0⟩ := rd_bytes r0
 obtain ⟨x1, k1, p1⟩ := rd_Patchs r1
 refine ⟨⟨x0, x1⟩, ⟨k0, k1⟩, ?_⟩
 subst e0 e1
 have key := (RepL.append p0 (RepL.append p1 (repL_nil.2 t1)))
 exact key
structure OkPic (x : VPic) : Prop where
 o_b : x.b.length ≤ 9223372036854775807
 o_on : True
theorem rd_Pic {w : World} {cs : List Value} (h : Rd w 32 cs) : ∃ x : VPic, OkPic x ∧ RepL (c0 w) (cPic x) cs := by
 have h0 := rd_all Tryz.underlying32 [(24, 1), (4, 1)] (by kernel_rfl) (by kernel_rfl) (by kernel_rfl) h
 simp only [RdAll] at h0
 obtain ⟨a0, b0, e0, _, r0, t0⟩ := h0
 obtain ⟨a1, b1, e1, _, r1, t1⟩ := t0
 obtain ⟨x0, k0, p0⟩ := rd_bytes r0
 obtain ⟨x1, k1, p1⟩ := rd_boo r1
 refine ⟨⟨x0, x1⟩, ⟨k0, k1⟩, ?_⟩
 subst e0 e1
 have key := (RepL.append p0 (RepL.append p1 (repL_nil.2 t1)))
 exact key
structure OkWord (x : VWord) : Prop where
 o_name : x.name.length ≤ 9223372036854775807
 o_xt : Fit64 x.xt
 o_flags : Fit64 x.flags
theorem rd_Word {w : World} {cs : List Value} (h : Rd w 140 cs) : ∃ x : VWord, OkWord x ∧ RepL (c0 w) (cWord x) cs := by
 have h0 := rd_all Tryz.underlying140 [(9, 1), (3, 1), (3, 1)] (by kernel_rfl) (by kernel_rfl) (by kernel_rfl) h
 simp only [RdAll] at h0
 obtain ⟨a0, b0, e0, _, r0, t0⟩ := h0
 obtain ⟨a1, b1, e1, _, r1, t1⟩ := t0
 obtain ⟨a2, b2, e2, _, r2, t2⟩ := t1
 obtain ⟨x0, k0, p0⟩ := rd_str r0
 obtain ⟨x1, k1, p1⟩ := rd_int64 r1
 obtain ⟨x2, k2, p2⟩ := rd_int64 r2
 refine ⟨⟨x0, x1, x2⟩, ⟨k0, k1, k2⟩, ?_⟩
 subst e0 e1 e2
 have key := (RepL.append p0 (RepL.append p1 (RepL.append p2 (repL_nil.2 t2))))
 exact key
theorem rd_Words {w : World} {cs : List Value} (h : Rd w 30 cs) : ∃ l : List VWord, ((∀ x ∈ l, OkWord x) ∧ l.length ≤ 9223372036854775807) ∧ RepL (c0 w) [sq cWord l] cs := by
 obtain ⟨l, h1, h2, h3⟩ := rd_slice_rep cWord OkWord 3 Tryz.underlying30 (by kernel_rfl) (by omega) (fun es h => rd_Word h) h
 exact ⟨l, ⟨h1, by unfold maxLen at h2; omega⟩, h3⟩
structure OkFrame (x : VFrame) : Prop where
 o_d : Fit64 x.d
 o_r : Fit64 x.r
 o_ip : Fit64 x.ip
theorem rd_Frame {w : World} {cs : List Value} (h : Rd w 97 cs) : ∃ x : VFrame, OkFrame x ∧ RepL (c0 w) (cFrame x) cs := by
 have h0 := rd_all Tryz.underlying97 [(3, 1), (3, 1), (3, 1)] (by kernel_rfl) (by kernel_rfl) (by kernel_rfl) h
 simp only [RdAll] at h0
 obtain ⟨a0, b0, e0, _, r0, t0⟩ := h0
 obtain ⟨a1, b1, e1, _, r1, t1⟩ := t0
 obtain ⟨a2, b2, e2, _, r2, t2⟩ := t1
 obtain ⟨x0, k0, p0⟩ := rd_int64 r0
 obtain ⟨x1, k1, p1⟩ := rd_int64 r1
 obtain ⟨x2, k2, p2⟩ := rd_int64 r2
 refine ⟨⟨x0, x1, x2⟩, ⟨k0, k1, k2⟩, ?_⟩
 subst e0 e1 e2
 have key := (RepL.append p0 (RepL.append p1 (RepL.append p2 (repL_nil.2 t2))))
 exact key
theorem rd_Frames {w : World} {cs : List Value} (h : Rd w 29 cs) : ∃ l : List VFrame, ((∀ x ∈ l, OkFrame x) ∧ l.length ≤ 9223372036854775807) ∧ RepL (c0 w) [sq cFrame l] cs := by
 obtain ⟨l, h1, h2, h3⟩ := rd_slice_rep cFrame OkFrame 3 Tryz.underlying29 (by kernel_rfl) (by omega) (fun es h => rd_Frame h) h
 exact ⟨l, ⟨h1, by unfold maxLen at h2; omega⟩, h3⟩
structure OkReq (x : VReq) : Prop where
 o_kind : Fit64 x.kind
 o_arg : Fit64 x.arg
 o_hand : Fit64 x.hand
 o_rank : Fit64 x.rank
 o_delay : Fit64 x.delay
 o_id : Fit64 x.id
theorem rd_Req {w : World} {cs : List Value} (h : Rd w 61 cs) : ∃ x : VReq, OkReq x ∧ RepL (c0 w) (cReq x) cs := by
 have h0 := rd_all Tryz.underlying61 [(3, 1), (3, 1), (3, 1), (3, 1), (3, 1), (3, 1)] (by kernel_rfl) (by kernel_rfl) (by kernel_rfl) h
 simp only [RdAll] at h0
 obtain ⟨a0, b0, e0, _, r0, t0⟩ := h0
 obtain ⟨a1, b1, e1, _, r1, t1⟩ := t0
 obtain ⟨a2, b2, e2, _, r2, t2⟩ := t1
 obtain ⟨a3, b3, e3, _, r3, t3⟩ := t2
 obtain ⟨a4, b4, e4, _, r4, t4⟩ := t3
 obtain ⟨a5, b5, e5, _, r5, t5⟩ := t4
 obtain ⟨x0, k0, p0⟩ := rd_int64 r0
 obtain ⟨x1, k1, p1⟩ := rd_int64 r1
 obtain ⟨x2, k2, p2⟩ := rd_int64 r2
 obtain ⟨x3, k3, p3⟩ := rd_int64 r3
 obtain ⟨x4, k4, p4⟩ := rd_int64 r4
 obtain ⟨x5, k5, p5⟩ := rd_int64 r5
 refine ⟨⟨x0, x1, x2, x3, x4, x5⟩, ⟨k0, k1, k2, k3, k4, k5⟩, ?_⟩
 subst e0 e1 e2 e3 e4 e5
 have key := (RepL.append p0 (RepL.append p1 (RepL.append p2 (RepL.append p3 (RepL.append p4 (RepL.append p5 (repL_nil.2 t5)))))))
 exact key
theorem rd_Reqs {w : World} {cs : List Value} (h : Rd w 33 cs) : ∃ l : List VReq, ((∀ x ∈ l, OkReq x) ∧ l.length ≤ 9223372036854775807) ∧ RepL (c0 w) [sq cReq l] cs := by
 obtain ⟨l, h1, h2, h3⟩ := rd_slice_rep cReq OkReq 6 Tryz.underlying33 (by kernel_rfl) (by omega) (fun es h => rd_Req h) h
 exact ⟨l, ⟨h1, by unfold maxLen at h2; omega⟩, h3⟩
structure OkHand (x : VHand) : Prop where
 o_xt : Fit64 x.xt
 o_fuel : Fit64 x.fuel
 o_strikes : Fit64 x.strikes
 o_out : True
theorem rd_Hand {w : World} {cs : List Value} (h : Rd w 99 cs) : ∃ x : VHand, OkHand x ∧ RepL (c0 w) (cHand x) cs := by
 have h0 := rd_all Tryz.underlying99 [(3, 1), (3, 1), (3, 1), (4, 1)] (by kernel_rfl) (by kernel_rfl) (by kernel_rfl) h
 simp only [RdAll] at h0
 obtain ⟨a0, b0, e0, _, r0, t0⟩ := h0
 obtain ⟨a1, b1, e1, _, r1, t1⟩ := t0
 obtain ⟨a2, b2, e2, _, r2, t2⟩ := t1
 obtain ⟨a3, b3, e3, _, r3, t3⟩ := t2
 obtain ⟨x0, k0, p0⟩ := rd_int64 r0
 obtain ⟨x1, k1, p1⟩ := rd_int64 r1
 obtain ⟨x2, k2, p2⟩ := rd_int64 r2
 obtain ⟨x3, k3, p3⟩ := rd_boo r3
 refine ⟨⟨x0, x1, x2, x3⟩, ⟨k0, k1, k2, k3⟩, ?_⟩
 subst e0 e1 e2 e3
 have key := (RepL.append p0 (RepL.append p1 (RepL.append p2 (RepL.append p3 (repL_nil.2 t3)))))
 exact key
theorem rd_Hands {w : World} {cs : List Value} (h : Rd w 34 cs) : ∃ l : List VHand, ((∀ x ∈ l, OkHand x) ∧ l.length ≤ 9223372036854775807) ∧ RepL (c0 w) [sq cHand l] cs := by
 obtain ⟨l, h1, h2, h3⟩ := rd_slice_rep cHand OkHand 4 Tryz.underlying34 (by kernel_rfl) (by omega) (fun es h => rd_Hand h) h
 exact ⟨l, ⟨h1, by unfold maxLen at h2; omega⟩, h3⟩
structure OkVm (x : VVm) : Prop where
 o_conf : OkConf x.conf
 o_mem : OkMem x.mem
 o_here : Fit64 x.here
 o_d : (∀ a ∈ x.d, Fit64 a) ∧ x.d.length ≤ 9223372036854775807
 o_r : (∀ a ∈ x.r, Fit64 a) ∧ x.r.length ≤ 9223372036854775807
 o_f : (∀ a ∈ x.f, OkFrame a) ∧ x.f.length ≤ 9223372036854775807
 o_dict : (∀ a ∈ x.dict, OkWord a) ∧ x.dict.length ≤ 9223372036854775807
 o_last : Fit64 x.last
 o_out : x.out.length ≤ 9223372036854775807
 o_pic : OkPic x.pic
 o_req : (∀ a ∈ x.req, OkReq a) ∧ x.req.length ≤ 9223372036854775807
 o_free : Fit64 x.free
 o_next : Fit64 x.next
 o_arg : Fit64 x.arg
 o_self : Fit64 x.self
 o_now : Fit64 x.now
 o_hand : (∀ a ∈ x.hand, OkHand a) ∧ x.hand.length ≤ 9223372036854775807
theorem rd_Vm {w : World} {cs : List Value} (h : Rd w 36 cs) : ∃ x : VVm, OkVm x ∧ RepL (c0 w) (cVm x) cs := by
 have h0 := rd_all Tryz.underlying36 [(23, 5), (27, 2), (3, 1), (28, 1), (28, 1), (29, 1), (30, 1), (3, 1), (24, 1), (32, 2), (33, 1), (3, 1), (3, 1), (3, 1), (3, 1), (3, 1), (34, 1)] (by kernel_rfl) (by kernel_rfl) (by kernel_rfl) h
 simp only [RdAll] at h0
 obtain ⟨a0, b0, e0, _, r0, t0⟩ := h0
 obtain ⟨a1, b1, e1, _, r1, t1⟩ := t0
 obtain ⟨a2, b2, e2, _, r2, t2⟩ := t1
 obtain ⟨a3, b3, e3, _, r3, t3⟩ := t2
 obtain ⟨a4, b4, e4, _, r4, t4⟩ := t3
 obtain ⟨a5, b5, e5, _, r5, t5⟩ := t4
 obtain ⟨a6, b6, e6, _, r6, t6⟩ := t5
 obtain ⟨a7, b7, e7, _, r7, t7⟩ := t6
 obtain ⟨a8, b8, e8, _, r8, t8⟩ := t7
 obtain ⟨a9, b9, e9, _, r9, t9⟩ := t8
 obtain ⟨a10, b10, e10, _, r10, t10⟩ := t9
 obtain ⟨a11, b11, e11, _, r11, t11⟩ := t10
 obtain ⟨a12, b12, e12, _, r12, t12⟩ := t11
 obtain ⟨a13, b13, e13, _, r13, t13⟩ := t12
 obtain ⟨a14, b14, e14, _, r14, t14⟩ := t13
 obtain ⟨a15, b15, e15, _, r15, t15⟩ := t14
 obtain ⟨a16, b16, e16, _, r16, t16⟩ := t15
 obtain ⟨x0, k0, p0⟩ := rd_Conf r0
 obtain ⟨x1, k1, p1⟩ := rd_Mem r1
 obtain ⟨x2, k2, p2⟩ := rd_int64 r2
 obtain ⟨x3, k3, p3⟩ := rd_intl r3
 obtain ⟨x4, k4, p4⟩ := rd_intl r4
 obtain ⟨x5, k5, p5⟩ := rd_Frames r5
 obtain ⟨x6, k6, p6⟩ := rd_Words r6
 obtain ⟨x7, k7, p7⟩ := rd_int64 r7
 obtain ⟨x8, k8, p8⟩ := rd_bytes r8
 obtain ⟨x9, k9, p9⟩ := rd_Pic r9
 obtain ⟨x10, k10, p10⟩ := rd_Reqs r10
 obtain ⟨x11, k11, p11⟩ := rd_int64 r11
 obtain ⟨x12, k12, p12⟩ := rd_int64 r12
 obtain ⟨x13, k13, p13⟩ := rd_int64 r13
 obtain ⟨x14, k14, p14⟩ := rd_int64 r14
 obtain ⟨x15, k15, p15⟩ := rd_int64 r15
 obtain ⟨x16, k16, p16⟩ := rd_Hands r16
 refine ⟨⟨x0, x1, x2, x3, x4, x5, x6, x7, x8, x9, x10, x11, x12, x13, x14, x15, x16⟩, ⟨k0, k1, k2, k3, k4, k5, k6, k7, k8, k9, k10, k11, k12, k13, k14, k15, k16⟩, ?_⟩
 subst e0 e1 e2 e3 e4 e5 e6 e7 e8 e9 e10 e11 e12 e13 e14 e15 e16
 have key := (RepL.append p0 (RepL.append p1 (RepL.append p2 (RepL.append p3 (RepL.append p4 (RepL.append p5 (RepL.append p6 (RepL.append p7 (RepL.append p8 (RepL.append p9 (RepL.append p10 (RepL.append p11 (RepL.append p12 (RepL.append p13 (RepL.append p14 (RepL.append p15 (RepL.append p16 (repL_nil.2 t16))))))))))))))))))
 exact key
theorem okVm_in {v : VVm} (h : OkVm v) : VIn2 v :=
 { b := h.o_mem.o_b, old := h.o_mem.o_old.2, dict := h.o_dict.2, pt := fun p hp => ⟨.inr (h.o_mem.o_old.1 p hp).o_place, (h.o_mem.o_old.1 p hp).o_old⟩, f := h.o_f.2, hand := h.o_hand.2 }
theorem reads_vm {w : World} {v : Value} (h : Reads w 36 v) : ∃ x : VVm, OkVm x ∧ Rep (c0 w) (eVm x) v := by
 obtain ⟨cs, h1, h2⟩ := reads_struct Tryz.underlying36 h
 obtain ⟨x, h3, h4⟩ := rd_Vm h2.2
 exact ⟨x, h3, reads_agg (t := 36) ⟨cs, h1, h4⟩⟩
theorem reads_i64 {w : World} {v : Value} (h : Reads w 3 v) : ∃ n, Fit64 n ∧ Rep (c0 w) (i64 n) v := by
 obtain ⟨n, rfl, h2⟩ := reads_int Tryz.underlying3 h
 exact ⟨n, wf_fit h2, by unfold i64; exact rep_val _ _⟩
end Go.Proofs.YtphgdofmjpdhaaaGreat
namespace Go.Proofs.YtphgdofmjpdhaaaGreat
open Go.RowKit
set_option maxRecDepth 100000
set_option maxHeartbeats 4000000
theorem right_sm {v : VVm} (R : RightP v) (h : v.mem.old.length ≤ 1000000) : VSm v := by
 have hc := R.fits
 unfold fitsV at hc
 have a0 := R.d
 have a1 := R.r
 have a2 := R.fl
 have a3 := R.dl
 have a4 := R.req
 have a5 := R.handl
 exact ⟨h, by omega, by omega, by omega, by omega, by omega, by omega⟩
theorem may_good {v : VVm} (hv : OkVm v) (h : may10 v = true) : GoodV 60 v := by
 unfold may10 at h
 rw [Bool.and_eq_true] at h
 refine ⟨h.2, ?_, hv.o_d.1, hv.o_arg, hv.o_self, hv.o_now⟩
 have h1 := h.1
 unfold few10 few3 at h1
 simp only [Bool.and_eq_true, decide_eq_true_eq] at h1
 exact h1.1.1.2
end Go.Proofs.YtphgdofmjpdhaaaGreat
namespace Go.Proofs.YtphgdofmjpdhaaaGreat
open Go.RowKit
set_option maxRecDepth 100000
set_option maxHeartbeats 4000000
theorem stepB_of {b : List UInt8} {k n : Nat} {p q : Prop} [Decidable p] [Decidable q] (hn : nval k = n) (h1 : (allN.getD k [] = [40, 104, 97, 108, 116, 41]) = p) (h2 : (allN.getD k [] = [40, 99, 97, 117, 103, 104, 116, 41]) = q) :
  stepB b k = if q then put2 (if p then put2 (put2 b (32 + 8 * k) n) 16 (32 + 8 * k) else put2 b (32 + 8 * k) n) 24 (32 + 8 * k) else (if p then put2 (put2 b (32 + 8 * k) n) 16 (32 + 8 * k) else put2 b (32 + 8 * k) n) := by
 subst h1 h2 hn
 unfold stepB
 simp only
 split <;> split <;> simp_all
theorem ar_1 {k : Nat} (h : k < 167) : IntKind.i64.wrap (32 + IntKind.i64.wrap (8 * (k : Int))) = ((32 + 8 * k : Nat) : Int) := by simp only [i64w]; unfold wrap64; omega
theorem ar_2 {k n : Nat} (h : k < 167) (hn : n = 130) (h3 : 130 ≤ k) : IntKind.i64.wrap (IntKind.i64.wrap (300 + (k : Int)) - (n : Int)) = ((170 + k : Nat) : Int) := by subst hn; simp only [i64w]; unfold wrap64; omega
theorem ar_3 {k : Nat} (h : k < 167) : IntKind.i64.wrap (((32 + 8 * k : Nat) : Int) + 1) = ((32 + 8 * k + 1 : Nat) : Int) := by simp only [i64w]; unfold wrap64; omega
theorem newW (k : Nat) {q : SK} : PV.seq (newL k ++ [wordN k]).length ((newL k ++ [wordN k]).flatMap cWord) q = .seq (newL (k + 1)).length ((newL (k + 1)).flatMap cWord) q := by rw [newL_succ]
theorem frz_b {M : Nat} {b : List UInt8} (h : b.length = M) : PV.seq M ((b.flatMap cByte).take M) .any = sq cByte b := by rw [cB_take, List.take_of_length_le (by omega), ← h]; rfl
def vmOf (c : VConf) (b : List UInt8) (l : List VWord) : VVm := { conf := c, mem := ⟨b, []⟩, here := 1368, d := [], r := [], f := [], dict := l, last := 0, out := [], pic := ⟨[], false⟩, req := [], free := 0, next := 0, arg := 0, self := 0, now := 0, hand := [] }
theorem newVm_of (c : VConf) : newVm c = vmOf c (newB c.mem.toNat 167) (newL 167) := rfl
theorem ref_New (c : VConf) (hc : fitsV c) : PureC Tryz.prog 44 [eConf c] (tVm (newVm c, 0)) := by
 have hM : 2048 ≤ c.mem ∧ c.mem ≤ 65536 := ⟨hc.1, hc.2.1⟩
 obtain ⟨M, hMe⟩ : ∃ M : Nat, c.mem = M := ⟨c.mem.toNat, by omega⟩
 have hMt : c.mem.toNat = M := by omega
 have hN := names_len
 have hS := specials_len
 have hA := allN_len
 have hD : decide (fitsV c) = true := decide_eq_true hc
 refine pW tG (rs := [.cell 2 36, .tmp 3]) Tryz.func44 rfl rfl rfl (by simp) (by simp) (fun B => ?_)
 refine zu3 ?_
 refine zp1 ?_
 refine Wc rfl rfl (dC rfl Tryz.func40 rfl rfl ((ref_Fits c) _)) ?_
 refine zs1 ?_
 refine Ws ?_
 refine zu2 ?_
 refine Wf rfl (by rw [hD]; rfl) ?_
 refine Wj ?_
 refine zp2 ?_
 refine z2 ?_ (q := (by (simp_all; omega)))
 refine WO_obI 2 rfl (zeros_b rfl) rfl ?_
 refine Wa 18 rfl (show PV.arr 2 0 c.mem.toNat c.mem.toNat = .arr 2 0 M M by rw [hMt]) ?_
 refine WO_obI 2 rfl (show Ob.cells ((List.replicate c.mem.toNat (0 : UInt8)).flatMap cByte) 5 = .cells ((List.replicate M (0 : UInt8)).flatMap cByte) 5 by rw [hMt]) rfl ?_
 refine zs1 ?_
 refine zp1 ?_
 refine z2 ?_ (q := (by omega))
 refine Wd rfl rfl (does_store (lO tG rfl) rfl rfl rfl rfl rfl rfl (by rw [Nat.ble_eq, cB_len]; simp; omega)) ?_
 refine WO_obI 2 rfl (congrArg (fun z => Ob.cells z 5) (splice_at (x := 10) (n := 0) rfl (by simp; omega))) rfl ?_
 refine z0 ?_
 refine Wc rfl rfl (dC rfl Tryz.func30 rfl rfl ((ref_NamesC) _)) ?_
 refine Wc rfl rfl (dC rfl Tryz.func77 rfl rfl ((ref_Specials) _)) ?_
 refine Wd rfl rfl (does_append_clip (lO tG rfl) rfl (lO tG rfl) (lO tG rfl) rfl rfl (by exact ⟨_, rfl⟩) (by exact ⟨rfl, rfl, flatMap_len _ 1 (fun _ => rfl) _, okC_flat _ (fun _ => rfl) _⟩) (by exact flatMap_len _ 1 (fun _ => rfl) _) (by (dsimp only; omega)) (by (rw [hN, hS]; decide))) ?_
 refine Wa 23 rfl (sq_append cStr) ?_
 refine Wm 23 rfl (imp_seq _ _ _) ?_
 refine zs1 ?_
 refine zp1 ?_
 refine WO_own 7 0 3 rfl rfl ?_
 refine Wn ?_
 refine Ws ?_
 refine zu1 ?_
 refine Wl ?_
 show W _ _ _ _ _ _ _
 refine W_loopS (fun (k : Nat) => [(1, .ptr 0 0), (2, .ptr 1 0), (5, .arr 2 0 M M), (6, sq cStr allN), (7, .seq (newL k).length ((newL k).flatMap cWord) (.own 5 3)), (8, i64 k)]) (fun (k : Nat) => [.cells (cConf c) 23, .cells vmZ 36, .cells ((newB M k).flatMap cByte) 5, .dead, .dead]) (fun (k : Nat) => [.free ((newL k).length * 3)]) (fun (k : Nat) => k ≤ 167) (fun (k : Nat) => 167 - k) (0) (by omega) [4] ?_ ?_
 ·exact fitT
 ·intro k hk
  refine Ws ?_
  refine zu4 ?_
  refine Wi rfl (fun hi2 => ?_) (fun hi2 => ?_)
  ·have hlt : k < 167 := by have := oT hi2; rw [hA] at this; omega
   have hB := newB_len M k
   have hL := newL_len k
   have w1 := ar_1 hlt
   have w3 := ar_3 hlt
   refine Wj ?_
   refine Ws ?_
   refine Wl ?_
   refine zp3 ?_
   refine Wa 32 rfl (congrArg (fun z => PV.val (Value.int .i64 z)) w1) ?_
   refine zs1 ?_
   refine zu2 ?_
   refine Ws ?_
   refine zp1 ?_
   refine Wc rfl rfl (dC rfl Tryz.func30 rfl rfl ((ref_Names) _)) ?_
   refine zs2 ?_
   refine Wi rfl (fun hi3 => ?_) (fun hi3 => ?_)
   ·have hk3 : 130 ≤ k := by have := oT hi3; rw [hN] at this; omega
    have w2 := ar_2 hlt hN hk3
    have hn : nval k = 170 + k := by unfold nval; rw [if_pos hk3]
    refine W_region rfl ?_
    refine zy2 ?_
    refine Wc rfl rfl (dC rfl Tryz.func30 rfl rfl ((ref_Names) _)) ?_
    refine zy2 ?_
    refine Wa 42 rfl (congrArg (fun z => PV.val (Value.int .i64 z)) w2) ?_
    refine zs1 ?_
    refine zp5 ?_
    refine Wa 47 rfl (u8_mod _) ?_
    refine z2 ?_ (q := (by omega))
    refine Wd rfl rfl (does_store (lO tG rfl) rfl rfl rfl rfl rfl rfl (by rw [Nat.ble_eq, cB_len, hB]; (try dsimp only); simp; omega)) ?_
    refine WO_obI 2 rfl (congrArg (fun z => Ob.cells z 5) (splice_at rfl (by omega))) rfl ?_
    refine Wn ?_
    refine zp3 ?_
    refine Wa 51 rfl (congrArg (fun z => PV.val (Value.int .i64 z)) w3) ?_
    refine zy3 ?_
    refine Wa 54 rfl (u8_quo _ (by omega)) ?_
    refine z2 ?_ (q := (by omega))
    refine Wd rfl rfl (does_store (lO tG rfl) rfl rfl rfl rfl rfl rfl (by rw [Nat.ble_eq, cB_len, List.length_set, hB]; (try dsimp only); simp; omega)) ?_
    refine WO_obI 2 rfl (congrArg (fun z => Ob.cells z 5) (splice_at rfl (by rw [List.length_set]; omega))) rfl ?_
    refine Wn ?_
    refine Ws ?_
    refine W_drawU [0, 0, 0, 0, 0, 0, 0, 0, 0, 0, 0, 0, 0, 0, 3, 0] [0, 1, 2, 3, 4, 5, 6, 7, 8, 9, 10, 11, 12, 13, 14, 15] mG rfl (by kernel_rfl) ?_
    iterate 3 refine z3 ?_
    refine Xi tG rfl rfl rfl rfl (fun _ => rfl) (by omega) (iN cStr 1 (fun _ => rfl) [] (by omega)) ?_
    iterate 4 refine z3 ?_
    refine Xi tG rfl rfl rfl rfl (fun _ => rfl) (by omega) (iN cStr 1 (fun _ => rfl) [] (by omega)) ?_
    iterate 2 refine z3 ?_
    refine Xc rfl rfl rfl rfl (fun _ => dC rfl Tryz.func78 rfl rfl ((ref_flags _ k) _)) ?_
    iterate 2 refine z3 ?_
    refine Xa 69 rfl ((show PV.seq 1 _ .clip = .seq (List.length [wordN k]) (List.flatMap cWord [wordN k]) .clip from rfl)) ?_
    refine WU_does3 rfl rfl rfl rfl (does_append_own (lO tG rfl) rfl (lO tG rfl) (lO tG rfl) rfl rfl rfl rfl (by simp) (by exact ⟨_, rfl⟩) (by exact ⟨rfl, rfl, flatMap_len _ 3 (fun _ => rfl) _, okC_flat _ (fun _ => rfl) _⟩) (by (rw [hL]; dsimp only; simp; omega)) (by (simp; omega))) ?_
    refine Xa 70 rfl (sq_append cWord) ?_
    refine z3 ?_
    skip
    refine WU_nil ?_
    refine Ws ?_
    refine zp2 ?_
    refine Wv tG rfl rfl rfl (by omega) (iN cStr 1 (fun _ => rfl) [] (by omega)) ?_
    refine zy2 ?_
    refine Wa 75 rfl (str_eql _ _) ?_
    refine Wn ?_
    refine Wi rfl (fun hi4 => ?_) (fun hi4 => ?_)
    ·have h1 : (allN.getD k [] = [40, 104, 97, 108, 116, 41]) = True := eq_true (oT hi4)
     refine zp4 ?_
     refine Wa 79 rfl (u8_mod _) ?_
     refine z2 ?_ (q := (by omega))
     refine Wd rfl rfl (does_store (lO tG rfl) rfl rfl rfl rfl rfl rfl (by rw [Nat.ble_eq, cB_len]; simp only [List.length_set, hB]; (try dsimp only); simp; omega)) ?_
     refine WO_obI 2 rfl (congrArg (fun z => Ob.cells z 5) (splice_at rfl (by simp only [List.length_set]; omega))) rfl ?_
     refine Wn ?_
     refine W_region rfl ?_
     refine zy4 ?_
     refine Wa 84 rfl (u8_quo _ (by omega)) ?_
     refine z2 ?_ (q := (by omega))
     refine Wd rfl rfl (does_store (lO tG rfl) rfl rfl rfl rfl rfl rfl (by rw [Nat.ble_eq, cB_len]; simp only [List.length_set, hB]; (try dsimp only); simp; omega)) ?_
     refine WO_obI 2 rfl (congrArg (fun z => Ob.cells z 5) (splice_at rfl (by simp only [List.length_set]; omega))) rfl ?_
     refine Wn ?_
     refine zp2 ?_
     refine Wv tG rfl rfl rfl (by omega) (iN cStr 1 (fun _ => rfl) [] (by omega)) ?_
     refine zy2 ?_
     refine Wa 90 rfl (str_eql _ _) ?_
     refine Wn ?_
     refine Wi rfl (fun hi5 => ?_) (fun hi5 => ?_)
     ·have h2 : (allN.getD k [] = [40, 99, 97, 117, 103, 104, 116, 41]) = True := eq_true (oT hi5)
      refine zp4 ?_
      refine Wa 94 rfl (u8_mod _) ?_
      refine z2 ?_ (q := (by omega))
      refine Wd rfl rfl (does_store (lO tG rfl) rfl rfl rfl rfl rfl rfl (by rw [Nat.ble_eq, cB_len]; simp only [List.length_set, hB]; (try dsimp only); simp; omega)) ?_
      refine WO_obI 2 rfl (congrArg (fun z => Ob.cells z 5) (splice_at rfl (by simp only [List.length_set]; omega))) rfl ?_
      refine Wn ?_
      refine W_region rfl ?_
      refine zy4 ?_
      refine Wa 99 rfl (u8_quo _ (by omega)) ?_
      refine z2 ?_ (q := (by omega))
      refine Wd rfl rfl (does_store (lO tG rfl) rfl rfl rfl rfl rfl rfl (by rw [Nat.ble_eq, cB_len]; simp only [List.length_set, hB]; (try dsimp only); simp; omega)) ?_
      refine WO_obI 2 rfl (congrArg (fun z => Ob.cells z 5) (splice_at rfl (by simp only [List.length_set]; omega))) rfl ?_
      refine Wn ?_
      refine W_region rfl ?_
      refine z1 ?_
      refine WO_obI 2 rfl (congrArg (fun z => Ob.cells (List.flatMap cByte z) 5) (show _ = newB M (k + 1) from (stepB_of hn h1 h2).symm)) rfl ?_
      refine zs2 ?_
      exact ⟨k + 1, [6], (by omega), (by omega), (fitT (sub := by repeat (first | exact subL_nil | refine subL_cons (by first | exact imp_of rfl | exact imp_of (newW k) | exact imp_of (congrArg i64 (by (rw [i64w]; unfold wrap64; omega)))) ?_)))⟩
     ·have h2 : (allN.getD k [] = [40, 99, 97, 117, 103, 104, 116, 41]) = False := eq_false (oF hi5)
      refine Wj ?_
      refine W_region rfl ?_
      refine z1 ?_
      refine WO_obI 2 rfl (congrArg (fun z => Ob.cells (List.flatMap cByte z) 5) (show _ = newB M (k + 1) from (stepB_of hn h1 h2).symm)) rfl ?_
      refine zs2 ?_
      exact ⟨k + 1, [6], (by omega), (by omega), (fitT (sub := by repeat (first | exact subL_nil | refine subL_cons (by first | exact imp_of rfl | exact imp_of (newW k) | exact imp_of (congrArg i64 (by (rw [i64w]; unfold wrap64; omega)))) ?_)))⟩
    ·have h1 : (allN.getD k [] = [40, 104, 97, 108, 116, 41]) = False := eq_false (oF hi4)
     refine Wj ?_
     refine zp2 ?_
     refine Wv tG rfl rfl rfl (by omega) (iN cStr 1 (fun _ => rfl) [] (by omega)) ?_
     refine zy2 ?_
     refine Wa 90 rfl (str_eql _ _) ?_
     refine Wn ?_
     refine Wi rfl (fun hi5 => ?_) (fun hi5 => ?_)
     ·have h2 : (allN.getD k [] = [40, 99, 97, 117, 103, 104, 116, 41]) = True := eq_true (oT hi5)
      refine zp4 ?_
      refine Wa 94 rfl (u8_mod _) ?_
      refine z2 ?_ (q := (by omega))
      refine Wd rfl rfl (does_store (lO tG rfl) rfl rfl rfl rfl rfl rfl (by rw [Nat.ble_eq, cB_len]; simp only [List.length_set, hB]; (try dsimp only); simp; omega)) ?_
      refine WO_obI 2 rfl (congrArg (fun z => Ob.cells z 5) (splice_at rfl (by simp only [List.length_set]; omega))) rfl ?_
      refine Wn ?_
      refine W_region rfl ?_
      refine zy4 ?_
      refine Wa 99 rfl (u8_quo _ (by omega)) ?_
      refine z2 ?_ (q := (by omega))
      refine Wd rfl rfl (does_store (lO tG rfl) rfl rfl rfl rfl rfl rfl (by rw [Nat.ble_eq, cB_len]; simp only [List.length_set, hB]; (try dsimp only); simp; omega)) ?_
      refine WO_obI 2 rfl (congrArg (fun z => Ob.cells z 5) (splice_at rfl (by simp only [List.length_set]; omega))) rfl ?_
      refine Wn ?_
      refine W_region rfl ?_
      refine z1 ?_
      refine WO_obI 2 rfl (congrArg (fun z => Ob.cells (List.flatMap cByte z) 5) (show _ = newB M (k + 1) from (stepB_of hn h1 h2).symm)) rfl ?_
      refine zs2 ?_
      exact ⟨k + 1, [6], (by omega), (by omega), (fitT (sub := by repeat (first | exact subL_nil | refine subL_cons (by first | exact imp_of rfl | exact imp_of (newW k) | exact imp_of (congrArg i64 (by (rw [i64w]; unfold wrap64; omega)))) ?_)))⟩
     ·have h2 : (allN.getD k [] = [40, 99, 97, 117, 103, 104, 116, 41]) = False := eq_false (oF hi5)
      refine Wj ?_
      refine W_region rfl ?_
      refine z1 ?_
      refine WO_obI 2 rfl (congrArg (fun z => Ob.cells (List.flatMap cByte z) 5) (show _ = newB M (k + 1) from (stepB_of hn h1 h2).symm)) rfl ?_
      refine zs2 ?_
      exact ⟨k + 1, [6], (by omega), (by omega), (fitT (sub := by repeat (first | exact subL_nil | refine subL_cons (by first | exact imp_of rfl | exact imp_of (newW k) | exact imp_of (congrArg i64 (by (rw [i64w]; unfold wrap64; omega)))) ?_)))⟩
   ·have hn : nval k = k := by have := oF hi3; rw [hN] at this; unfold nval; rw [if_neg (by omega)]
    refine Wj ?_
    refine zp5 ?_
    refine Wa 47 rfl (u8_mod _) ?_
    refine z2 ?_ (q := (by omega))
    refine Wd rfl rfl (does_store (lO tG rfl) rfl rfl rfl rfl rfl rfl (by rw [Nat.ble_eq, cB_len, hB]; (try dsimp only); simp; omega)) ?_
    refine WO_obI 2 rfl (congrArg (fun z => Ob.cells z 5) (splice_at rfl (by omega))) rfl ?_
    refine Wn ?_
    refine zp3 ?_
    refine Wa 51 rfl (congrArg (fun z => PV.val (Value.int .i64 z)) w3) ?_
    refine zy3 ?_
    refine Wa 54 rfl (u8_quo _ (by omega)) ?_
    refine z2 ?_ (q := (by omega))
    refine Wd rfl rfl (does_store (lO tG rfl) rfl rfl rfl rfl rfl rfl (by rw [Nat.ble_eq, cB_len, List.length_set, hB]; (try dsimp only); simp; omega)) ?_
    refine WO_obI 2 rfl (congrArg (fun z => Ob.cells z 5) (splice_at rfl (by rw [List.length_set]; omega))) rfl ?_
    refine Wn ?_
    refine Ws ?_
    refine W_drawU [0, 0, 0, 0, 0, 0, 0, 0, 0, 0, 0, 0, 0, 0, 3, 0] [0, 1, 2, 3, 4, 5, 6, 7, 8, 9, 10, 11, 12, 13, 14, 15] mG rfl (by kernel_rfl) ?_
    iterate 3 refine z3 ?_
    refine Xi tG rfl rfl rfl rfl (fun _ => rfl) (by omega) (iN cStr 1 (fun _ => rfl) [] (by omega)) ?_
    iterate 4 refine z3 ?_
    refine Xi tG rfl rfl rfl rfl (fun _ => rfl) (by omega) (iN cStr 1 (fun _ => rfl) [] (by omega)) ?_
    iterate 2 refine z3 ?_
    refine Xc rfl rfl rfl rfl (fun _ => dC rfl Tryz.func78 rfl rfl ((ref_flags _ k) _)) ?_
    iterate 2 refine z3 ?_
    refine Xa 69 rfl ((show PV.seq 1 _ .clip = .seq (List.length [wordN k]) (List.flatMap cWord [wordN k]) .clip from rfl)) ?_
    refine WU_does3 rfl rfl rfl rfl (does_append_own (lO tG rfl) rfl (lO tG rfl) (lO tG rfl) rfl rfl rfl rfl (by simp) (by exact ⟨_, rfl⟩) (by exact ⟨rfl, rfl, flatMap_len _ 3 (fun _ => rfl) _, okC_flat _ (fun _ => rfl) _⟩) (by (rw [hL]; dsimp only; simp; omega)) (by (simp; omega))) ?_
    refine Xa 70 rfl (sq_append cWord) ?_
    refine z3 ?_
    skip
    refine WU_nil ?_
    refine Ws ?_
    refine zp2 ?_
    refine Wv tG rfl rfl rfl (by omega) (iN cStr 1 (fun _ => rfl) [] (by omega)) ?_
    refine zy2 ?_
    refine Wa 75 rfl (str_eql _ _) ?_
    refine Wn ?_
    refine Wi rfl (fun hi4 => ?_) (fun hi4 => ?_)
    ·have h1 : (allN.getD k [] = [40, 104, 97, 108, 116, 41]) = True := eq_true (oT hi4)
     refine zp4 ?_
     refine Wa 79 rfl (u8_mod _) ?_
     refine z2 ?_ (q := (by omega))
     refine Wd rfl rfl (does_store (lO tG rfl) rfl rfl rfl rfl rfl rfl (by rw [Nat.ble_eq, cB_len]; simp only [List.length_set, hB]; (try dsimp only); simp; omega)) ?_
     refine WO_obI 2 rfl (congrArg (fun z => Ob.cells z 5) (splice_at rfl (by simp only [List.length_set]; omega))) rfl ?_
     refine Wn ?_
     refine W_region rfl ?_
     refine zy4 ?_
     refine Wa 84 rfl (u8_quo _ (by omega)) ?_
     refine z2 ?_ (q := (by omega))
     refine Wd rfl rfl (does_store (lO tG rfl) rfl rfl rfl rfl rfl rfl (by rw [Nat.ble_eq, cB_len]; simp only [List.length_set, hB]; (try dsimp only); simp; omega)) ?_
     refine WO_obI 2 rfl (congrArg (fun z => Ob.cells z 5) (splice_at rfl (by simp only [List.length_set]; omega))) rfl ?_
     refine Wn ?_
     refine zp2 ?_
     refine Wv tG rfl rfl rfl (by omega) (iN cStr 1 (fun _ => rfl) [] (by omega)) ?_
     refine zy2 ?_
     refine Wa 90 rfl (str_eql _ _) ?_
     refine Wn ?_
     refine Wi rfl (fun hi5 => ?_) (fun hi5 => ?_)
     ·have h2 : (allN.getD k [] = [40, 99, 97, 117, 103, 104, 116, 41]) = True := eq_true (oT hi5)
      refine zp4 ?_
      refine Wa 94 rfl (u8_mod _) ?_
      refine z2 ?_ (q := (by omega))
      refine Wd rfl rfl (does_store (lO tG rfl) rfl rfl rfl rfl rfl rfl (by rw [Nat.ble_eq, cB_len]; simp only [List.length_set, hB]; (try dsimp only); simp; omega)) ?_
      refine WO_obI 2 rfl (congrArg (fun z => Ob.cells z 5) (splice_at rfl (by simp only [List.length_set]; omega))) rfl ?_
      refine Wn ?_
      refine W_region rfl ?_
      refine zy4 ?_
      refine Wa 99 rfl (u8_quo _ (by omega)) ?_
      refine z2 ?_ (q := (by omega))
      refine Wd rfl rfl (does_store (lO tG rfl) rfl rfl rfl rfl rfl rfl (by rw [Nat.ble_eq, cB_len]; simp only [List.length_set, hB]; (try dsimp only); simp; omega)) ?_
      refine WO_obI 2 rfl (congrArg (fun z => Ob.cells z 5) (splice_at rfl (by simp only [List.length_set]; omega))) rfl ?_
      refine Wn ?_
      refine W_region rfl ?_
      refine z1 ?_
      refine WO_obI 2 rfl (congrArg (fun z => Ob.cells (List.flatMap cByte z) 5) (show _ = newB M (k + 1) from (stepB_of hn h1 h2).symm)) rfl ?_
      refine zs2 ?_
      exact ⟨k + 1, [6], (by omega), (by omega), (fitT (sub := by repeat (first | exact subL_nil | refine subL_cons (by first | exact imp_of rfl | exact imp_of (newW k) | exact imp_of (congrArg i64 (by (rw [i64w]; unfold wrap64; omega)))) ?_)))⟩
     ·have h2 : (allN.getD k [] = [40, 99, 97, 117, 103, 104, 116, 41]) = False := eq_false (oF hi5)
      refine Wj ?_
      refine W_region rfl ?_
      refine z1 ?_
      refine WO_obI 2 rfl (congrArg (fun z => Ob.cells (List.flatMap cByte z) 5) (show _ = newB M (k + 1) from (stepB_of hn h1 h2).symm)) rfl ?_
      refine zs2 ?_
      exact ⟨k + 1, [6], (by omega), (by omega), (fitT (sub := by repeat (first | exact subL_nil | refine subL_cons (by first | exact imp_of rfl | exact imp_of (newW k) | exact imp_of (congrArg i64 (by (rw [i64w]; unfold wrap64; omega)))) ?_)))⟩
    ·have h1 : (allN.getD k [] = [40, 104, 97, 108, 116, 41]) = False := eq_false (oF hi4)
     refine Wj ?_
     refine zp2 ?_
     refine Wv tG rfl rfl rfl (by omega) (iN cStr 1 (fun _ => rfl) [] (by omega)) ?_
     refine zy2 ?_
     refine Wa 90 rfl (str_eql _ _) ?_
     refine Wn ?_
     refine Wi rfl (fun hi5 => ?_) (fun hi5 => ?_)
     ·have h2 : (allN.getD k [] = [40, 99, 97, 117, 103, 104, 116, 41]) = True := eq_true (oT hi5)
      refine zp4 ?_
      refine Wa 94 rfl (u8_mod _) ?_
      refine z2 ?_ (q := (by omega))
      refine Wd rfl rfl (does_store (lO tG rfl) rfl rfl rfl rfl rfl rfl (by rw [Nat.ble_eq, cB_len]; simp only [List.length_set, hB]; (try dsimp only); simp; omega)) ?_
      refine WO_obI 2 rfl (congrArg (fun z => Ob.cells z 5) (splice_at rfl (by simp only [List.length_set]; omega))) rfl ?_
      refine Wn ?_
      refine W_region rfl ?_
      refine zy4 ?_
      refine Wa 99 rfl (u8_quo _ (by omega)) ?_
      refine z2 ?_ (q := (by omega))
      refine Wd rfl rfl (does_store (lO tG rfl) rfl rfl rfl rfl rfl rfl (by rw [Nat.ble_eq, cB_len]; simp only [List.length_set, hB]; (try dsimp only); simp; omega)) ?_
      refine WO_obI 2 rfl (congrArg (fun z => Ob.cells z 5) (splice_at rfl (by simp only [List.length_set]; omega))) rfl ?_
      refine Wn ?_
      refine W_region rfl ?_
      refine z1 ?_
      refine WO_obI 2 rfl (congrArg (fun z => Ob.cells (List.flatMap cByte z) 5) (show _ = newB M (k + 1) from (stepB_of hn h1 h2).symm)) rfl ?_
      refine zs2 ?_
      exact ⟨k + 1, [6], (by omega), (by omega), (fitT (sub := by repeat (first | exact subL_nil | refine subL_cons (by first | exact imp_of rfl | exact imp_of (newW k) | exact imp_of (congrArg i64 (by (rw [i64w]; unfold wrap64; omega)))) ?_)))⟩
     ·have h2 : (allN.getD k [] = [40, 99, 97, 117, 103, 104, 116, 41]) = False := eq_false (oF hi5)
      refine Wj ?_
      refine W_region rfl ?_
      refine z1 ?_
      refine WO_obI 2 rfl (congrArg (fun z => Ob.cells (List.flatMap cByte z) 5) (show _ = newB M (k + 1) from (stepB_of hn h1 h2).symm)) rfl ?_
      refine zs2 ?_
      exact ⟨k + 1, [6], (by omega), (by omega), (fitT (sub := by repeat (first | exact subL_nil | refine subL_cons (by first | exact imp_of rfl | exact imp_of (newW k) | exact imp_of (congrArg i64 (by (rw [i64w]; unfold wrap64; omega)))) ?_)))⟩
  ·have hge : k = 167 := by have := oF hi2; rw [hA] at this; omega
   have hB := newB_len M k
   have eN : tVm (newVm c, 0) = tVm (vmOf c (newB M k) (newL k), 0) := by rw [hge, newVm_of, hMt]
   generalize newB M k = b0 at hB eN ⊢
   generalize newL k = l0 at eN ⊢
   refine W_exit ?_
   refine zp2 ?_
   refine Wm 102 rfl (imp_arr_arw (Nat.le_refl _)) ?_
   refine WO_freeze 102 2 _ M rfl rfl (by rw [cB_len, hB]; exact Nat.le_refl _) ?_
   refine Wa 102 rfl (show _ = sq cByte b0 from frz_b hB) ?_
   refine zs5 ?_
   refine zR ?_
   rw [eN]; rfl
end Go.Proofs.YtphgdofmjpdhaaaGreat
namespace Go.Proofs.YtphgdofmjpdhaaaGreat
open Go.RowKit
set_option maxRecDepth 100000
set_option maxHeartbeats 4000000
theorem law_stocked (d : List Int) : PureC Tryz.prog 21 [sq cInt d] (eVm (stockS d)) := by
 refine pW tG (rs := [.cell 2 36]) Tryz.func21 rfl rfl rfl (by simp) (by simp) (fun B => ?_)
 refine zu1 ?_
 refine zp1 ?_
 refine Wc rfl rfl (dC rfl Tryz.func44 rfl rfl ((show PureC _ _ [eConf sC] (tVm (newVm sC, 0)) from ref_New sC sC_fits) _)) ?_
 refine zy5 ?_
 refine zs1 ?_
 refine zu3 ?_
 refine zu2 ?_
 refine zR ?_
 rfl
theorem law_shown_of (v : VVm) (hv : VmOk v) (hs : VSm v) (h0 : PureC Tryz.prog 21 [sq cInt [7, -2]] (eVm v)) (h1 : doS v 73 = ({ v with d := [-1, -4] }, 0)) (h2 : doS v 39 = ({ v with d := [5] }, 0)) (h3 : doS v 83 = (v, -9)) (h4 : doS v 110 = ({ v with d := [7], out := [45, 50, 32] }, 0)) : PureC Tryz.prog 12 [] (boo true) := by
 have p1 := h1 ▸ prim_Do v hv 73
 have p2 := h2 ▸ prim_Do v hv 39
 have p3 := h3 ▸ prim_Do v hv 83
 have p4 := h4 ▸ prim_Do v hv 110
 have pn := num_dot ▸ ref_Number [46]
 refine pW tG (rs := [.tmp 0]) Tryz.func12 rfl rfl rfl (by simp) (by simp) (fun B => ?_)
 refine zu1 ?_
 refine zp1 ?_
 refine Wa 10 rfl (bsL cInt [_, _] rfl rfl) ?_
 refine Wc rfl rfl (dC rfl Tryz.func21 rfl rfl ((h0) _)) ?_
 refine zs2 ?_
 refine zp1 ?_
 refine Wc rfl rfl (dC rfl Tryz.func14 rfl rfl ((p1) _)) ?_
 refine zy5 ?_
 refine zs1 ?_
 refine zp1 ?_
 refine Wc rfl rfl (dC rfl Tryz.func14 rfl rfl ((p2) _)) ?_
 refine zy5 ?_
 refine zs1 ?_
 refine zp1 ?_
 refine Wc rfl rfl (dC rfl Tryz.func14 rfl rfl ((p3) _)) ?_
 refine zy5 ?_
 refine zs1 ?_
 refine Ws ?_
 refine W_drawU [1, 0, 0, 0, 0, 0, 2, 3, 0] [0, 1, 2, 3, 4, 5, 6, 7, 8] mG rfl (by kernel_rfl) ?_
 refine z5 ?_
 refine Xc rfl rfl rfl rfl (fun _ => dC rfl Tryz.func22 rfl rfl ((pn) _)) ?_
 refine Xc rfl rfl rfl rfl (fun _ => dC rfl Tryz.func14 rfl rfl ((p4) _)) ?_
 iterate 3 refine z3 ?_
 refine WU_ev2 tG rfl rfl rfl rfl rfl trivial rfl ?_
 refine WU_ev3 tG rfl rfl rfl rfl rfl trivial ?_
 refine z3 ?_
 refine WU_nil ?_
 refine zp5 ?_
 refine z1 ?_
 refine Wa 38 rfl (bsL cInt [_, _] rfl rfl) ?_
 refine Wc rfl rfl (dC rfl Tryz.func23 rfl rfl ((ref_Same4 [-1, -4] [-1, -4] (by simp) (by simp)) _)) ?_
 refine zy2 ?_
 refine Wb 41 rfl (fun hg2 => ?_) (fun hg2 => ?_)
 ·refine zy4 ?_
  refine Wb 45 rfl (fun hg3 => ?_) (fun hg3 => ?_)
  ·refine zy3 ?_
   refine Wa 48 rfl (bsL cInt [_] rfl rfl) ?_
   refine Wc rfl rfl (dC rfl Tryz.func23 rfl rfl ((ref_Same4 [5] [5] (by simp) (by simp)) _)) ?_
   refine zy2 ?_
   refine Wb 51 rfl (fun hg4 => ?_) (fun hg4 => ?_)
   ·refine zy4 ?_
    refine Wb 55 rfl (fun hg5 => ?_) (fun hg5 => ?_)
    ·refine zy2 ?_
     refine Wc rfl rfl (dC rfl Tryz.func18 rfl rfl ((ref_Same10 v v hs hs) _)) ?_
     refine zy2 ?_
     refine Wb 60 rfl (fun hg6 => ?_) (fun hg6 => ?_)
     ·refine zy4 ?_
      refine Wb 64 rfl (fun hg7 => ?_) (fun hg7 => ?_)
      ·refine zy2 ?_
       refine Wd rfl rfl (does_bytes_str (lO tG rfl) rfl (lO tG rfl) rfl (lO tG rfl) rfl rfl rfl) ?_
       refine z1 ?_
       refine Wa 68 rfl (str_eql _ _) ?_
       refine zy2 ?_
       refine Wb 70 rfl (fun hg8 => ?_) (fun hg8 => ?_)
       ·refine Wc rfl rfl (dC rfl Tryz.func16 rfl rfl ((prim_Does 23) _)) ?_
        refine zy2 ?_
        refine Wb 73 rfl (fun hg9 => ?_) (fun hg9 => ?_)
        ·refine Wc rfl rfl (dC rfl Tryz.func16 rfl rfl ((prim_Does 129) _)) ?_
         refine zy2 ?_
         refine Wb 76 rfl (fun hg10 => ?_) (fun hg10 => ?_)
         ·refine Wc rfl rfl (dC rfl Tryz.func16 rfl rfl ((prim_Does 22) _)) ?_
          refine zy3 ?_
          refine Wb 80 rfl (fun hg11 => ?_) (fun hg11 => ?_)
          ·refine Wc rfl rfl (dC rfl Tryz.func16 rfl rfl ((prim_Does 130) _)) ?_
           refine zs3 ?_
           refine zR ?_
           rfl
          ·refine z6 ?_
           refine z6 ?_
           refine zs2 ?_
           refine zR ?_
           (simp_all; done)
         ·refine z6 ?_
          refine z6 ?_
          refine zy2 ?_
          iterate 2 refine z6 ?_
          refine zs2 ?_
          refine zR ?_
          (simp_all; done)
        ·refine z6 ?_
         refine zy2 ?_
         iterate 2 refine z6 ?_
         refine zy2 ?_
         iterate 2 refine z6 ?_
         refine zs2 ?_
         refine zR ?_
         (simp_all; done)
       ·refine z6 ?_
        refine zy2 ?_
        refine z6 ?_
        refine zy2 ?_
        iterate 2 refine z6 ?_
        refine zy2 ?_
        iterate 2 refine z6 ?_
        refine zs2 ?_
        refine zR ?_
        (simp_all; done)
      ·refine z6 ?_
       iterate 3 refine z6 ?_
       refine zy2 ?_
       refine z6 ?_
       refine zy2 ?_
       refine z6 ?_
       refine zy2 ?_
       iterate 2 refine z6 ?_
       refine zy2 ?_
       iterate 2 refine z6 ?_
       refine zs2 ?_
       refine zR ?_
       (simp_all; done)
     ·refine z6 ?_
      refine z6 ?_
      refine zy2 ?_
      iterate 4 refine z6 ?_
      refine zy2 ?_
      refine z6 ?_
      refine zy2 ?_
      refine z6 ?_
      refine zy2 ?_
      iterate 2 refine z6 ?_
      refine zy2 ?_
      iterate 2 refine z6 ?_
      refine zs2 ?_
      refine zR ?_
      (simp_all; done)
    ·refine z6 ?_
     iterate 2 refine z6 ?_
     refine zy2 ?_
     iterate 2 refine z6 ?_
     refine zy2 ?_
     iterate 4 refine z6 ?_
     refine zy2 ?_
     refine z6 ?_
     refine zy2 ?_
     refine z6 ?_
     refine zy2 ?_
     iterate 2 refine z6 ?_
     refine zy2 ?_
     iterate 2 refine z6 ?_
     refine zs2 ?_
     refine zR ?_
     (simp_all; done)
   ·refine z6 ?_
    refine z6 ?_
    refine zy2 ?_
    iterate 3 refine z6 ?_
    refine zy2 ?_
    iterate 2 refine z6 ?_
    refine zy2 ?_
    iterate 4 refine z6 ?_
    refine zy2 ?_
    refine z6 ?_
    refine zy2 ?_
    refine z6 ?_
    refine zy2 ?_
    iterate 2 refine z6 ?_
    refine zy2 ?_
    iterate 2 refine z6 ?_
    refine zs2 ?_
    refine zR ?_
    (simp_all; done)
  ·refine z6 ?_
   iterate 3 refine z6 ?_
   refine zy2 ?_
   iterate 2 refine z6 ?_
   refine zy2 ?_
   iterate 3 refine z6 ?_
   refine zy2 ?_
   iterate 2 refine z6 ?_
   refine zy2 ?_
   iterate 4 refine z6 ?_
   refine zy2 ?_
   refine z6 ?_
   refine zy2 ?_
   refine z6 ?_
   refine zy2 ?_
   iterate 2 refine z6 ?_
   refine zy2 ?_
   iterate 2 refine z6 ?_
   refine zs2 ?_
   refine zR ?_
   (simp_all; done)
 ·refine z6 ?_
  refine z6 ?_
  refine zy2 ?_
  iterate 4 refine z6 ?_
  refine zy2 ?_
  iterate 2 refine z6 ?_
  refine zy2 ?_
  iterate 3 refine z6 ?_
  refine zy2 ?_
  iterate 2 refine z6 ?_
  refine zy2 ?_
  iterate 4 refine z6 ?_
  refine zy2 ?_
  refine z6 ?_
  refine zy2 ?_
  refine z6 ?_
  refine zy2 ?_
  iterate 2 refine z6 ?_
  refine zy2 ?_
  iterate 2 refine z6 ?_
  refine zs2 ?_
  refine zR ?_
  (simp_all; done)
theorem law_shown : PureC Tryz.prog 12 [] (boo true) := by
 have hg : GoodV 0 (stockS [7, -2]) := stock_good (by decide) (fun a ha => by simp at ha; rcases ha with rfl | rfl <;> unfold Fit64 <;> omega)
 have R := (right_iff _).1 hg.right
 refine law_shown_of (stockS [7, -2]) (good_ok hg (by decide)) ?_ (law_stocked _) D73 D39 D83 D110
 have a1 := R.r
 have a2 := R.fl
 have a3 := R.dl
 have a4 := R.handl
 have b1 : (stockS [7, -2]).conf.ret = 32 := rfl
 have b2 : (stockS [7, -2]).conf.words = 200 := rfl
 exact ⟨by decide, by decide, by omega, by omega, by omega, by decide, by omega⟩
end Go.Proofs.YtphgdofmjpdhaaaGreat
