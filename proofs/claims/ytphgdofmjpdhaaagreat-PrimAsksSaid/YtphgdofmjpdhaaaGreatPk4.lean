import Derived.ArgAppend
import Derived.ChangeKeysEq
import Derived.Laws.RangeString
import Derived.Test.YtphgdofmjpdhaaaGreatPk3
set_option linter.unusedVariables false
set_option linter.unusedSimpArgs false
namespace Go.Proofs.YtphgdofmjpdhaaaGreat
open Go.RowKit
set_option maxRecDepth 100000
set_option maxHeartbeats 4000000
theorem vm_within (n lo hi : Int) : PureC Tryz.prog 243 [i64 n, i64 lo, i64 hi] (boo (decide (lo ≤ n ∧ n ≤ hi))) := by
 refine pW tG (rs := [.tmp 6]) Tryz.func243 rfl rfl rfl (by simp) (by simp) (fun B => ?_)
 refine zu1 ?_
 refine zp4 ?_
 refine Wb 10 rfl (fun hg1 => ?_) (fun hg1 => ?_)
 ·refine zs5 ?_
  refine zR ?_
  (refine congrArg boo (decide_eq_decide.2 ?_); (try simp only [dnL] at *); omega)
 ·refine z6 ?_
  iterate 2 refine z6 ?_
  refine zs2 ?_
  refine zR ?_
  (refine congrArg boo (decide_eq_false ?_).symm; (try simp only [dnL] at *); omega)
theorem vm_Start : PureC Tryz.prog 130 [] (i64 1368) := by
 have h1 := names_len
 have h2 := specials_len
 refine pW tG (rs := [.tmp 0]) Tryz.func130 rfl rfl rfl (by simp) (by simp) (fun B => ?_)
 refine zu1 ?_
 refine z8 ?_
 refine Wc rfl rfl (dC rfl Tryz.func25 rfl rfl ((vm_Names) _)) ?_
 refine z1 ?_
 refine Wc rfl rfl (dC rfl Tryz.func226 rfl rfl ((vm_Specials) _)) ?_
 refine zs5 ?_
 refine zR ?_
 refine congrArg i64 ?_; rw [h1, h2]; decide
end Go.Proofs.YtphgdofmjpdhaaaGreat
namespace Go.Proofs.YtphgdofmjpdhaaaGreat
open Go.RowKit
set_option maxRecDepth 100000
set_option maxHeartbeats 4000000
def vmPrint (v : VVm) (s : Str) : VVm × Int := if (s.length : Int) > v.conf.out - v.out.length then (v, -260) else ({ v with out := v.out ++ s }, 0)
def tVm (r : VVm × Int) : PV := tup2 (eVm r.1) (i64 r.2)
@[simp] theorem flat_tVm (r : VVm × Int) : Flat (tVm r) := by simp [tVm]
theorem sq_append_str {l m : Str} {k : SK} : PV.seq (l.length + (⟨m.toArray⟩ : ByteArray).size) (l.flatMap cByte ++ (⟨m.toArray⟩ : ByteArray).data.toList.map fun b => byteP b.toNat) k = .seq (l ++ m).length ((l ++ m).flatMap cByte) k := by
 have h : (⟨m.toArray⟩ : ByteArray).data.toList.map (fun b => byteP b.toNat) = m.flatMap cByte := by rw [cByte_map, List.map_map]; rfl
 rw [str_size, h, ← List.flatMap_append, List.length_append]
theorem vm_Print (v : VVm) (s : Str) (hc : 0 ≤ v.conf.out ∧ v.conf.out ≤ 1000000) (ho : v.out.length ≤ 1000000) (hs : s.length ≤ 140737488355328) : PureC Tryz.prog 228 [eVm v, str s] (tVm (vmPrint v s)) := by
 have w1 : IntKind.i64.wrap (v.conf.out - v.out.length) = v.conf.out - v.out.length := by ((rw [i64w]; unfold wrap64; (try simp only [dnL] at *); omega))
 refine pW tG (rs := [.cell 4 36, .tmp 5]) Tryz.func228 rfl rfl rfl (by simp) (by simp) (fun B => ?_)
 refine zu3 ?_
 refine Ws ?_
 refine zp2 ?_
 refine Wa 7 rfl (str_len _) ?_
 refine zy5 ?_
 refine zs3 ?_
 refine Wi rfl (fun hi1 => ?_) (fun hi1 => ?_)
 ·have h0 : (s.length : Int) > v.conf.out - v.out.length := by (try simp only [dnL] at *); omega
  refine zu3 ?_
  refine zR ?_
  rw [vmPrint, if_pos h0]; rfl
 ·have h0 : ¬ (s.length : Int) > v.conf.out - v.out.length := by (try simp only [dnL] at *); omega
  have h1 : (⟨s.toArray⟩ : ByteArray).size = s.length := str_size s
  refine Wj ?_
  refine zp2 ?_
  refine Wc rfl rfl (dC rfl Tryz.func258 rfl rfl ((clip_bytes v.out (by omega)) _)) ?_
  refine z1 ?_
  refine Wd rfl rfl (does_append_clip (lO tG rfl) rfl (lO tG rfl) (lO tG rfl) rfl rfl (by rfl) (by exact ⟨rfl, rfl, rfl⟩) (by exact flatMap_len _ 1 (fun _ => rfl) _) (by (dsimp only; omega)) (by (omega))) ?_
  refine Wa 21 rfl (sq_append_str) ?_
  refine zs2 ?_
  refine zu3 ?_
  refine zR ?_
  rw [vmPrint, if_neg h0]; rfl
end Go.Proofs.YtphgdofmjpdhaaaGreat
namespace Go.Proofs.YtphgdofmjpdhaaaGreat
open Go.RowKit
set_option maxRecDepth 100000
set_option maxHeartbeats 4000000
def kindOk (n : Int) : Prop := (0 ≤ n ∧ n ≤ 129) ∨ (256 ≤ n ∧ n ≤ 260) ∨ (300 ≤ n ∧ n ≤ 336)
instance (n : Int) : Decidable (kindOk n) := by unfold kindOk; infer_instance
def vmKind (v : VVm) (xt : Int) : Int × Int := if (memFetch v.mem xt).2 = 0 then (if kindOk (memFetch v.mem xt).1 then ((memFetch v.mem xt).1, 0) else (0, -9)) else (0, (memFetch v.mem xt).2)
theorem vm_Kind (v : VVm) (xt : Int) (hm : v.mem.b.length ≤ 140737488355328) (hx : Fit64 xt) : PureC Tryz.prog 164 [eVm v, i64 xt] (tFetch (vmKind v xt)) := by
 have h1 := names_len
 have h2 := specials_len
 refine pW tG (rs := [.tmp 4, .tmp 5]) Tryz.func164 rfl rfl rfl (by simp) (by simp) (fun B => ?_)
 refine zu3 ?_
 refine zp3 ?_
 refine Wc rfl rfl (dC rfl Tryz.func105 rfl rfl ((mem_Fetch v.mem xt hm hx) _)) ?_
 refine zs5 ?_
 refine Ws ?_
 refine zu2 ?_
 refine Wi rfl (fun hi1 => ?_) (fun hi1 => ?_)
 ·have h0 : ¬ (memFetch v.mem xt).2 = 0 := by simpa using hi1
  refine zu3 ?_
  refine zR ?_
  rw [vmKind, if_neg h0]; rfl
 ·have h0 : (memFetch v.mem xt).2 = 0 := by simpa using hi1
  have w1 : IntKind.i64.wrap (IntKind.i64.wrap (300 + (specials.length : Int)) - 1) = 336 := by rw [h2]; decide
  have w2 : IntKind.i64.wrap ((names.length : Int) - 1) = 129 := by rw [h1]; decide
  refine Wj ?_
  refine Ws ?_
  refine zp1 ?_
  refine Wc rfl rfl (dC rfl Tryz.func25 rfl rfl ((vm_Names) _)) ?_
  refine zy2 ?_
  refine Wc rfl rfl (dC rfl Tryz.func243 rfl rfl ((vm_within _ _ _) _)) ?_
  refine z1 ?_
  refine Wb 23 rfl (fun hg1 => ?_) (fun hg1 => ?_)
  ·refine z6 ?_
   refine z6 ?_
   refine zy2 ?_
   iterate 6 refine z6 ?_
   refine zs1 ?_
   refine Wt rfl rfl ?_
   refine zu3 ?_
   refine zR ?_
   (rw [vmKind, if_pos h0, if_pos (by unfold kindOk; (try simp only [dnL] at *); omega)]; rfl)
  ·refine z1 ?_
   refine Wc rfl rfl (dC rfl Tryz.func243 rfl rfl ((vm_within _ _ _) _)) ?_
   refine zy2 ?_
   refine Wb 27 rfl (fun hg2 => ?_) (fun hg2 => ?_)
   ·refine z6 ?_
    iterate 5 refine z6 ?_
    refine zs1 ?_
    refine Wt rfl rfl ?_
    refine zu3 ?_
    refine zR ?_
    (rw [vmKind, if_pos h0, if_pos (by unfold kindOk; (try simp only [dnL] at *); omega)]; rfl)
   ·refine z1 ?_
    refine Wc rfl rfl (dC rfl Tryz.func226 rfl rfl ((vm_Specials) _)) ?_
    refine zy3 ?_
    refine Wc rfl rfl (dC rfl Tryz.func243 rfl rfl ((vm_within _ _ _) _)) ?_
    refine zs1 ?_
    refine Wi rfl (fun hi2 => ?_) (fun hi2 => ?_)
    ·refine zu3 ?_
     refine zR ?_
     (rw [vmKind, if_pos h0, if_pos (by unfold kindOk; (try simp only [dnL] at *); omega)]; rfl)
    ·refine Wj ?_
     refine zu2 ?_
     refine zR ?_
     (rw [vmKind, if_pos h0, if_neg (by unfold kindOk; (try simp only [dnL] at *); omega)]; rfl)
end Go.Proofs.YtphgdofmjpdhaaaGreat
namespace Go.Proofs.YtphgdofmjpdhaaaGreat
open Go.RowKit
set_option maxRecDepth 100000
set_option maxHeartbeats 4000000
theorem bits_Mul1 (n : Nat) (h : n ≤ 1000000) : PureC Tryz.prog 229 [.val (.int .u64 1), .val (.int .u64 n)] (tup2 (.val (.int .u64 0)) (.val (.int .u64 n))) := by
 refine pure_of_calls (P := Tryz.prog) (args := [.int .u64 1, .int .u64 n]) (v := .tuple #[.int .u64 0, .int .u64 n]) (fun c => ?_) (fun w => ?_)
 ·unfold tup2 Rep
  exact ⟨[_, _], rfl, repL_cons.2 ⟨rep_val _ _, repL_cons.2 ⟨rep_val _ _, repL_nil.2 rfl⟩⟩⟩
 ·refine Calls.mono (Tryz.bits_Mul 1 n (by omega) (by omega) w) ?_
  rintro e w' ⟨rfl, rfl⟩
  refine ⟨?_, Grows.refl _⟩
  rw [Nat.one_mul, Nat.div_eq_of_lt (by omega), Nat.mod_eq_of_lt (by omega)]; rfl
theorem u64_nat {n : Nat} (h : n ≤ 1000000) : PV.val (.int .u64 (IntKind.u64.wrap (n : Int))) = .val (.int .u64 (n : Int)) := by
 exact congrArg (fun z => PV.val (Value.int .u64 z)) (by rw [IntKind.wrap_u64]; omega)
theorem i64_nat {n : Nat} (h : n ≤ 1000000) : PV.val (.int .i64 (IntKind.i64.wrap (n : Int))) = .val (.int .i64 (n : Int)) := by
 exact congrArg (fun z => PV.val (Value.int .i64 z)) (by rw [i64w]; unfold wrap64; omega)
def filledP (c : UInt8) (n k : Nat) : List PV := (List.replicate k c).flatMap cByte ++ List.replicate (n - k) .any
theorem filledP_len {c : UInt8} {n k : Nat} (h : k ≤ n) : (filledP c n k).length = n := by
 unfold filledP
 rw [List.length_append, flatMap_len cByte 1 (fun _ => rfl)]
 simp; omega
theorem rep_cB (c : UInt8) (k : Nat) : (List.replicate k c).flatMap cByte = List.replicate k (.val (.int .u8 (c.toNat : Int))) := by
 rw [List.flatMap_replicate]
 induction k with
 | zero => rfl
 | succ k ih => rw [List.replicate_succ, List.flatten_cons, ih]; rfl
theorem filledP_more {c : UInt8} {n k q : Nat} (h : k + q ≤ n) : splice (filledP c n k) k ((List.replicate q c).flatMap cByte) = filledP c n (k + q) := by
 unfold filledP splice
 rw [rep_cB, rep_cB, rep_cB, List.take_append_of_le_length (by simp), List.take_of_length_le (by simp), List.drop_append, List.length_replicate, List.length_replicate, List.drop_of_length_le (by simp), List.nil_append, List.drop_replicate, List.replicate_append_replicate]
 congr 2; omega
theorem filledP_take {c : UInt8} {n k q : Nat} (h : q ≤ k) : ((filledP c n k).drop 0).take q = (List.replicate q c).flatMap cByte := by
 unfold filledP
 rw [rep_cB, rep_cB, List.drop_zero, List.take_append_of_le_length (by simpa using h), List.take_replicate, Nat.min_eq_left h]
theorem filledP_zero (c : UInt8) (n : Nat) : List.replicate n .any = filledP c n 0 := by simp [filledP]
theorem mk_body : Tryz.f257.body.isNone = true := by kernel_rfl
theorem mk_next : Extern.findNext Tryz.f257 = none := by kernel_rfl
theorem mk_find : Extern.find Tryz.f257 = some (Extern.BytealgMakeNoZero.makeNoZero #[3] #[24]) := by kernel_rfl
theorem mk_name : (Tryz.f257.name == "runtime.NumGoroutine") = false := by kernel_rfl
theorem does_mk {B : Nat → Nat → Prop} {o : Oper} {T : Nat → PV} {H : List Ob} {x : Operand} {ats : Array TypeId} {m : Nat} (ho : o.op = .call { callee := .value (.func 257), args := #[x], argTypes := ats }) (hx : opv T x = .val (.int .i64 (m : Int))) (hm : m ≤ 281474976710656) :
  Does Tryz.prog B o T H (.arw H.length 0 m) (H ++ [.cells (List.replicate m .any) 5]) :=
 does_makeNoZero ho Tryz.func257 mk_name mk_body mk_next mk_find (lO (G := tys) (t := 24) tG rfl) rfl hx hm
def chunkOf (n : Nat) : Nat := if 8192 < n then 8192 else n
theorem chunk_pos {n : Nat} (h : n ≠ 0) : 0 < chunkOf n := by unfold chunkOf; split <;> omega
theorem rep_one {n : Nat} (h : n ≠ 0) : PV.val (.int .i64 ((min 1 n : Nat) : Int)) = .val (.int .i64 ((1 : Nat) : Int)) := by rw [Nat.min_eq_left (by omega)]
theorem rep_first {c : UInt8} {n : Nat} {e : TypeId} (h : n ≠ 0) : [Ob.cells (filledP c n 1) e] = [Ob.cells (splice (filledP c n 0) 0 ((List.flatMap cByte [c]).take (min 1 n * 1))) e] := by
 rw [Nat.min_eq_left (by omega)]
 have := filledP_more (c := c) (n := n) (k := 0) (q := 1) (by omega)
 rw [Nat.zero_add] at this
 rw [← this]; rfl
theorem rep_min {k q : Nat} : PV.val (.int .i64 (if (q : Int) < (k : Int) then (q : Int) else (k : Int))) = .val (.int .i64 ((min k q : Nat) : Int)) :=
 congrArg (fun z => PV.val (Value.int .i64 z)) (by split <;> omega)
@[simp] theorem flat_filledP (c : UInt8) (n k : Nat) : FlatL (filledP c n k) := by
 unfold filledP
 refine flatL_app (flatL_map' flat_cByte _) ?_
 induction (n - k) with
 | zero => trivial
 | succ m ih => rw [List.replicate_succ]; exact ⟨trivial, ih⟩
theorem arr_from {n k : Nat} (h : k < n) : PV.arr 0 (if n = (k : Int).toNat then 0 else 0 + (k : Int).toNat * 1) (n - (k : Int).toNat) (n - (k : Int).toNat) = .arr 0 k (n - k) (n - k) := by
 rw [Int.toNat_natCast, if_neg (by omega)]; congr 1; omega
theorem arr_upto {n q : Nat} : PV.arr 0 (if n = 0 then 0 else 0 + 0 * 1) ((q : Int).toNat - 0) (n - 0) = .arr 0 0 q n := by
 simp
theorem filledP_ok {c : UInt8} {n k q : Nat} (h : q ≤ k) : ∀ z ∈ ((filledP c n k).drop 0).take q, okC z = true := by
 rw [filledP_take h, rep_cB]
 intro z hz
 rw [List.eq_of_mem_replicate hz]; rfl
theorem rep_step {c : UInt8} {n k q : Nat} {e : TypeId} (h : q ≤ k) (h2 : k + q ≤ n) : [Ob.cells (filledP c n (k + q)) e] = [Ob.cells (splice (filledP c n k) k (((filledP c n k).drop 0).take (q * 1))) e] := by
 rw [Nat.mul_one, filledP_take h, filledP_more h2]
theorem i64_add {a b : Nat} (h : a + b ≤ 1000000) : PV.val (.int .i64 (IntKind.i64.wrap ((a : Int) + (b : Int)))) = .val (.int .i64 ((a + b : Nat) : Int)) :=
 congrArg (fun z => PV.val (Value.int .i64 z)) (by rw [i64w]; unfold wrap64; omega)
theorem rep_end {c : UInt8} {n k : Nat} (h : n ≤ k) (h2 : k ≤ n) : PV.seq n ((filledP c n k).take n) .any = sq cByte (List.replicate n c) := by
 have : k = n := by omega
 subst this
 have := filledP_take (c := c) (n := k) (k := k) (q := k) (Nat.le_refl _)
 rw [List.drop_zero] at this
 rw [this]
 unfold sq
 rw [List.length_replicate]
theorem bytes_Repeat1 (c : UInt8) (n : Nat) (h : n ≤ 1000000) : PureC Tryz.prog 222 [sq cByte [c], i64 n] (sq cByte (List.replicate n c)) := by
 refine pW tG (rs := [.tmp 4]) Tryz.func222 rfl rfl rfl (by simp) (by simp) (fun B => ?_)
 refine zu1 ?_
 refine Ws ?_
 refine zu2 ?_
 refine Wi rfl (fun hi1 => ?_) (fun hi1 => ?_)
 ·have hz : n = 0 := by simpa using hi1
  subst hz
  refine zu2 ?_
  refine zR ?_
  rfl
 ·have hn : n ≠ 0 := by simpa using hi1
  have hcp := chunk_pos hn
  refine Wj ?_
  refine Ws ?_
  refine zu2 ?_
  refine Wf rfl (by (simp only [dnL] at *; omega)) ?_
  refine Wj ?_
  refine zp3 ?_
  refine Wa 21 rfl ((rfl : PV.val (.int .u64 (IntKind.u64.wrap ((1 : Nat) : Int))) = .val (.int .u64 1))) ?_
  refine zy2 ?_
  refine Wa 23 rfl (u64_nat h) ?_
  refine Wc rfl rfl (dC rfl Tryz.func229 rfl rfl ((bits_Mul1 n h) _)) ?_
  refine zs5 ?_
  refine Ws ?_
  refine zp3 ?_
  refine WO_false 29 rfl (by rfl) ?_
  refine zs3 ?_
  refine Wf rfl (by (simp only [dnL] at *; omega)) ?_
  refine Wj ?_
  refine zp2 ?_
  refine Wa 35 rfl (i64_nat h) ?_
  refine zs1 ?_
  refine Ws ?_
  refine zu3 ?_
  refine Wf rfl (by rfl) ?_
  refine Wj ?_
  refine zu2 ?_
  refine Ws ?_
  refine zu2 ?_
  refine Wi rfl (fun hi5 => ?_) (fun hi5 => ?_)
  ·have hq : 8192 = chunkOf n := by unfold chunkOf; rw [if_pos (by have := oT hi5; omega)]
   refine zp3 ?_
   refine Wa 45 rfl (congrArg (fun z => PV.val (Value.int .i64 z)) (show IntKind.i64.wrap (Int.tdiv 8192 ((1 : Nat) : Int)) = 8192 by decide)) ?_
   refine zy3 ?_
   refine Wa 48 rfl (congrArg (fun z => PV.val (Value.int .i64 z)) (show IntKind.i64.wrap (8192 * ((1 : Nat) : Int)) = (chunkOf n : Int) by rw [← hq]; decide)) ?_
   refine zs1 ?_
   refine zu2 ?_
   refine Wf rfl (by (simp; omega)) ?_
   refine Wj ?_
   refine zp1 ?_
   have hmk : n ≤ 281474976710656 := by omega
   refine Wd (x := .arw 0 0 n) (H' := [.cells (List.replicate n .any) 5]) rfl rfl (does_mk (H := []) (m := n) rfl rfl hmk) ?_
   refine zy2 ?_
   refine Wd rfl rfl (does_slice_arw_clip (lO tG rfl) rfl (lO tG rfl) rfl rfl ⟨_, _, rfl, by omega, by simp⟩ ⟨_, _, rfl, by omega, by simp⟩) ?_
   refine WO_ob (H' := [.cells (filledP c n 0) 5]) (by rw [← filledP_zero]) ?_
   refine zs1 ?_
   refine zp2 ?_
   refine Wd rfl rfl (does_copy (lO tG rfl) rfl (lO tG rfl) rfl rfl rfl rfl (flatMap_len _ 1 (fun _ => rfl) _) (okC_flat _ (fun _ => rfl) _) (by rw [filledP_len (by omega)]; (try dsimp only); (try omega))) ?_
   refine Wa 60 rfl (rep_one hn) ?_
   refine WO_ob (H' := [.cells (filledP c n 1) 5]) (rep_first hn) ?_
   refine zs1 ?_
   refine Ws ?_
   refine Wl ?_
   show W _ _ _ _ _ _ _
   refine W_loopS (fun (k : Nat) => [(7, i64 n), (8, i64 (chunkOf n)), (9, .arr 0 0 n n), (10, i64 k)]) (fun (k : Nat) => [.cells (filledP c n k) 5]) (fun (k : Nat) => []) (fun (k : Nat) => 1 ≤ k ∧ k ≤ n) (fun (k : Nat) => n - k) (1) (by omega) [] ?_ ?_
   ·exact (fitT (sub := by repeat (first | exact subL_nil | refine subL_cons (by exact imp_of rfl) ?_)))
   ·intro k hk
    refine Ws ?_
    refine zu3 ?_
    refine Wi rfl (fun hi7 => ?_) (fun hi7 => ?_)
    ·have hlt : k < n := by have := oT hi7; omega
     have hm1 : min k (chunkOf n) ≤ n := by omega
     refine Wj ?_
     refine Wl ?_
     refine zp3 ?_
     refine Wa 66 rfl (rep_min) ?_
     refine zs1 ?_
     refine W_drawU [0, 0, 0, 0, 0, 0, 0, 3, 0, 0] [0, 1, 2, 3, 4, 5, 6, 7, 8, 9] mG rfl (by kernel_rfl) ?_
     iterate 3 refine z3 ?_
     refine z4 ?_ (q := (by (simp; omega)))
     refine Xa 70 rfl (arr_from hlt) ?_
     iterate 2 refine z3 ?_
     refine z4 ?_ (q := (by (simp; omega)))
     refine Xa 73 rfl (arr_upto) ?_
     refine WU_does3 rfl rfl rfl rfl (does_copy_self (lO tG rfl) rfl (lO tG rfl) rfl rfl rfl rfl (filledP_ok (by dsimp only; omega)) (by rw [filledP_len hk.2]; dsimp only; omega) (by rw [filledP_len hk.2]; dsimp only; omega)) ?_
     refine WU_ob (H' := [.cells (filledP c n (k + min (min k (chunkOf n)) (n - k))) 5]) (rep_step (by omega) (by omega)) ?_
     refine z3 ?_
     refine Xa 75 rfl (i64_add (by omega)) ?_
     refine z3 ?_
     refine WU_nil ?_
     exact ⟨k + min (min k (chunkOf n)) (n - k), [], (by omega), (by omega), fitT⟩
    ·have hge : n ≤ k := by have := oF hi7; omega
     refine W_exit ?_
     refine zp1 ?_
     refine Wm 76 rfl (imp_arr_arw (Nat.le_refl _)) ?_
     refine WO_freeze 76 0 _ n rfl rfl (by rw [filledP_len hk.2]; exact Nat.le_refl _) ?_
     refine Wa 76 rfl (rep_end hge hk.2) ?_
     refine zs1 ?_
     refine zR ?_
     rfl
  ·have hq : chunkOf n = n := by unfold chunkOf; rw [if_neg (by have := oF hi5; omega)]
   refine Wj ?_
   refine zp1 ?_
   have hmk : n ≤ 281474976710656 := by omega
   refine Wd (x := .arw 0 0 n) (H' := [.cells (List.replicate n .any) 5]) rfl rfl (does_mk (H := []) (m := n) rfl rfl hmk) ?_
   refine zy2 ?_
   refine Wd rfl rfl (does_slice_arw_clip (lO tG rfl) rfl (lO tG rfl) rfl rfl ⟨_, _, rfl, by omega, by simp⟩ ⟨_, _, rfl, by omega, by simp⟩) ?_
   refine WO_ob (H' := [.cells (filledP c n 0) 5]) (by rw [← filledP_zero]) ?_
   refine zs1 ?_
   refine zp2 ?_
   refine Wd rfl rfl (does_copy (lO tG rfl) rfl (lO tG rfl) rfl rfl rfl rfl (flatMap_len _ 1 (fun _ => rfl) _) (okC_flat _ (fun _ => rfl) _) (by rw [filledP_len (by omega)]; (try dsimp only); (try omega))) ?_
   refine Wa 60 rfl (rep_one hn) ?_
   refine WO_ob (H' := [.cells (filledP c n 1) 5]) (rep_first hn) ?_
   refine zs1 ?_
   refine Ws ?_
   refine Wl ?_
   show W _ _ _ _ _ _ _
   refine W_loopS (fun (k : Nat) => [(7, i64 n), (8, i64 (chunkOf n)), (9, .arr 0 0 n n), (10, i64 k)]) (fun (k : Nat) => [.cells (filledP c n k) 5]) (fun (k : Nat) => []) (fun (k : Nat) => 1 ≤ k ∧ k ≤ n) (fun (k : Nat) => n - k) (1) (by omega) [] ?_ ?_
   ·exact (fitT (sub := by repeat (first | exact subL_nil | refine subL_cons (by first | exact imp_of rfl | exact imp_of (congrArg i64 (by rw [hq]))) ?_)))
   ·intro k hk
    refine Ws ?_
    refine zu3 ?_
    refine Wi rfl (fun hi7 => ?_) (fun hi7 => ?_)
    ·have hlt : k < n := by have := oT hi7; omega
     have hm1 : min k (chunkOf n) ≤ n := by omega
     refine Wj ?_
     refine Wl ?_
     refine zp3 ?_
     refine Wa 66 rfl (rep_min) ?_
     refine zs1 ?_
     refine W_drawU [0, 0, 0, 0, 0, 0, 0, 3, 0, 0] [0, 1, 2, 3, 4, 5, 6, 7, 8, 9] mG rfl (by kernel_rfl) ?_
     iterate 3 refine z3 ?_
     refine z4 ?_ (q := (by (simp; omega)))
     refine Xa 70 rfl (arr_from hlt) ?_
     iterate 2 refine z3 ?_
     refine z4 ?_ (q := (by (simp; omega)))
     refine Xa 73 rfl (arr_upto) ?_
     refine WU_does3 rfl rfl rfl rfl (does_copy_self (lO tG rfl) rfl (lO tG rfl) rfl rfl rfl rfl (filledP_ok (by dsimp only; omega)) (by rw [filledP_len hk.2]; dsimp only; omega) (by rw [filledP_len hk.2]; dsimp only; omega)) ?_
     refine WU_ob (H' := [.cells (filledP c n (k + min (min k (chunkOf n)) (n - k))) 5]) (rep_step (by omega) (by omega)) ?_
     refine z3 ?_
     refine Xa 75 rfl (i64_add (by omega)) ?_
     refine z3 ?_
     refine WU_nil ?_
     exact ⟨k + min (min k (chunkOf n)) (n - k), [], (by omega), (by omega), fitT⟩
    ·have hge : n ≤ k := by have := oF hi7; omega
     refine W_exit ?_
     refine zp1 ?_
     refine Wm 76 rfl (imp_arr_arw (Nat.le_refl _)) ?_
     refine WO_freeze 76 0 _ n rfl rfl (by rw [filledP_len hk.2]; exact Nat.le_refl _) ?_
     refine Wa 76 rfl (rep_end hge hk.2) ?_
     refine zs1 ?_
     refine zR ?_
     rfl
end Go.Proofs.YtphgdofmjpdhaaaGreat
namespace Go.Proofs.YtphgdofmjpdhaaaGreat
open Go.RowKit
set_option maxRecDepth 100000
theorem mem_Fill (m : VMem) (at_ n c : Int) (hm : MemOk m) (ha : Fit64 at_) (hn : Fit64 n) : PureC Tryz.prog 116 [eMem m, i64 at_, i64 n, i64 c] (tMem (memFill m at_ n c)) := by
 have hm1 := hm.b
 have hm2 := hm.old
 refine pW tG (rs := [.cell 8 27, .tmp 9]) Tryz.func116 rfl rfl rfl (by simp) (by simp) (fun B => ?_)
 refine zu3 ?_
 refine Ws ?_
 refine zp3 ?_
 refine Wc rfl rfl (dC rfl Tryz.func219 rfl rfl ((mem_there m at_ n (by omega) ha hn) _)) ?_
 refine zs1 ?_
 refine Wi rfl (fun hi1 => ?_) (fun hi1 => ?_)
 ·have ht : ¬ memThere m at_ n = true := by simpa using hi1
  refine zu3 ?_
  refine zR ?_
  rw [memFill, if_neg ht]; rfl
 ·have ht : memThere m at_ n = true := by simpa using hi1
  have hN : 0 ≤ n ∧ n ≤ 1000000 := by unfold memThere at ht; simp only [decide_eq_true_eq] at ht; omega
  refine Wj ?_
  refine Ws ?_
  refine W_drawU [1, 0, 0, 0, 0, 0, 0, 0, 0, 0, 3, 0] [0, 1, 2, 3, 4, 5, 6, 7, 8, 9, 10, 11] mG rfl (by kernel_rfl) ?_
  refine z5 ?_
  iterate 3 refine z3 ?_
  refine Xa 19 rfl (loB_pv c) ?_
  refine z3 ?_
  refine Xa 20 rfl (bsL cByte [_] rfl rfl) ?_
  refine z3 ?_
  refine Xa 21 rfl ((show PV.val (.int .i64 n) = i64 ((n.toNat : Nat) : Int) by rw [Int.toNat_of_nonneg hN.1]; rfl)) ?_
  refine Xc rfl rfl rfl rfl (fun _ => dC rfl Tryz.func222 rfl rfl ((bytes_Repeat1 (loB c) n.toNat (by omega)) _)) ?_
  refine Xc rfl rfl rfl rfl (fun _ => dC rfl Tryz.func162 rfl rfl ((mem_Write m at_ _ hm ha (by simp; omega)) _)) ?_
  iterate 2 refine z3 ?_
  refine WU_ev3 tG rfl rfl rfl rfl rfl trivial ?_
  refine z3 ?_
  refine WU_nil ?_
  refine zR ?_
  rw [memFill, if_pos ht]; rfl
end Go.Proofs.YtphgdofmjpdhaaaGreat
namespace Go.Proofs.YtphgdofmjpdhaaaGreat
open Go.RowKit
set_option maxRecDepth 100000
def spcAllot (m : VMem) (low here n : Int) : Int × Int := if n > m.b.length - here ∨ n < low - here then (here, -8) else (here + n, 0)
def spcLay (m : VMem) (here : Int) (b : List UInt8) : VMem × Int × Int := if (b.length : Int) > m.b.length - here then (m, here, -8) else ((memWrite m here b).1, here + b.length, 0)
def spcComma (m : VMem) (here n : Int) : VMem × Int × Int := if here.tmod 8 = 0 then spcLay m here (putC n) else (m, here, -23)
def spcAlign (m : VMem) (here : Int) : VMem × Int × Int := spcLay m here (List.replicate ((8 - here.tmod 8).tmod 8).toNat 0)
def tLay (r : VMem × Int × Int) : PV := tup3 (eMem r.1) (i64 r.2.1) (i64 r.2.2)
@[simp] theorem flat_tLay (r : VMem × Int × Int) : Flat (tLay r) := by simp [tLay]
structure HereOk (m : VMem) (here : Int) : Prop where
 h0 : 0 ≤ here
 h1 : here ≤ m.b.length
theorem HereOk.fit {m : VMem} {here : Int} (h : HereOk m here) (hm : MemOk m) : Fit64 here := by have := h.h0; have := h.h1; have := hm.b; unfold Fit64; omega
theorem room_left (m : VMem) (here : Int) (hm : MemOk m) (hh : HereOk m here) : PureC Tryz.prog 225 [.agg [sq cByte m.b, sq cPatch m.old, i64 here]] (i64 (m.b.length - here)) := by
 have h0 := hh.h0
 have h1 := hh.h1
 have h2 := hm.b
 refine pW tG (rs := [.tmp 2]) Tryz.func225 rfl rfl rfl (by simp) (by simp) (fun B => ?_)
 refine zu2 ?_
 refine zp5 ?_
 refine zs3 ?_
 refine zR ?_
 exact congrArg i64 (by ((rw [i64w]; unfold wrap64; (try simp only [dnL] at *); omega)))
theorem spc_Allot (m : VMem) (low here n : Int) (hm : MemOk m) (hh : HereOk m here) (hl : Fit64 low ∧ 0 ≤ low) (hn : Fit64 n) : PureC Tryz.prog 129 [eMem m, i64 low, i64 here, i64 n] (tFetch (spcAllot m low here n)) := by
 have h0 := hh.h0
 have h1 := hh.h1
 have h2 := hm.b
 unfold Fit64 at hl hn
 have w1 : IntKind.i64.wrap (low - here) = low - here := by ((rw [i64w]; unfold wrap64; (try simp only [dnL] at *); omega))
 refine pW tG (rs := [.tmp 8, .tmp 9]) Tryz.func129 rfl rfl rfl (by simp) (by simp) (fun B => ?_)
 refine zu3 ?_
 refine zu5 ?_
 refine Ws ?_
 refine zp2 ?_
 refine Wc rfl rfl (doesCWv rfl rfl Tryz.func225 rfl rfl (room_left m here hm hh _)) ?_
 refine zy2 ?_
 refine Wb 19 rfl (fun hg1 => ?_) (fun hg1 => ?_)
 ·refine z6 ?_
  iterate 4 refine z6 ?_
  refine zs1 ?_
  refine Wt rfl rfl ?_
  refine zu3 ?_
  refine zR ?_
  (rw [spcAllot, if_pos (by (try simp only [dnL] at *); omega)]; rfl)
 ·refine zy5 ?_
  refine zs1 ?_
  refine Wi rfl (fun hi1 => ?_) (fun hi1 => ?_)
  ·refine zu3 ?_
   refine zR ?_
   (rw [spcAllot, if_pos (by (try simp only [dnL] at *); omega)]; rfl)
  ·refine Wj ?_
   refine zu5 ?_
   refine zR ?_
   (rw [spcAllot, if_neg (by (try simp only [dnL] at *); omega)]; exact congrArg (fun z => tup2 (i64 z) (i64 0)) (by ((rw [i64w]; unfold wrap64; (try simp only [dnL] at *); omega))))
end Go.Proofs.YtphgdofmjpdhaaaGreat
namespace Go.Proofs.YtphgdofmjpdhaaaGreat
open Go.RowKit
set_option maxRecDepth 100000
theorem spc_Lay (m : VMem) (here : Int) (b : List UInt8) (hm : MemOk m) (hh : HereOk m here) (hb : b.length ≤ 1000000) : PureC Tryz.prog 134 [eMem m, i64 here, sq cByte b] (tLay (spcLay m here b)) := by
 have h0 := hh.h0
 have h1 := hh.h1
 have h2 := hm.b
 refine pW tG (rs := [.cell 6 27, .tmp 7, .tmp 8]) Tryz.func134 rfl rfl rfl (by simp) (by simp) (fun B => ?_)
 refine zu4 ?_
 refine zu5 ?_
 refine Ws ?_
 refine zp3 ?_
 refine Wc rfl rfl (doesCWv rfl rfl Tryz.func225 rfl rfl (room_left m here hm hh _)) ?_
 refine zs1 ?_
 refine Wi rfl (fun hi1 => ?_) (fun hi1 => ?_)
 ·refine zu5 ?_
  refine zR ?_
  rw [spcLay, if_pos (by (try simp only [dnL] at *); omega)]; rfl
 ·refine Wj ?_
  refine zp3 ?_
  refine Wc rfl rfl (dC rfl Tryz.func162 rfl rfl ((mem_Write m here b hm (hh.fit hm) hb) _)) ?_
  refine zs4 ?_
  refine zp5 ?_
  refine zs3 ?_
  refine zR ?_
  rw [spcLay, if_neg (by (try simp only [dnL] at *); omega)]; exact congrArg (fun z => tup3 (eMem (memWrite m here b).1) (i64 z) (i64 0)) (by ((rw [i64w]; unfold wrap64; (try simp only [dnL] at *); omega)))
theorem spc_Comma (m : VMem) (here n : Int) (hm : MemOk m) (hh : HereOk m here) : PureC Tryz.prog 132 [eMem m, i64 here, i64 n] (tLay (spcComma m here n)) := by
 have h0 := hh.h0
 have h1 := hh.h1
 have h2 := hm.b
 refine pW tG (rs := [.cell 6 27, .tmp 7, .tmp 8]) Tryz.func132 rfl rfl rfl (by simp) (by simp) (fun B => ?_)
 refine zu4 ?_
 refine Ws ?_
 refine zu3 ?_
 refine Wi rfl (fun hi1 => ?_) (fun hi1 => ?_)
 ·refine zu5 ?_
  refine zR ?_
  rw [spcComma, if_neg (by (try simp only [dnL] at *); omega)]; rfl
 ·refine Wj ?_
  refine Ws ?_
  refine W_drawU [1, 0, 0, 0, 0, 0, 0, 0, 3, 0, 0] [0, 1, 2, 3, 4, 5, 6, 7, 8, 9, 10] mG rfl (by kernel_rfl) ?_
  refine z5 ?_
  iterate 2 refine z3 ?_
  refine Xc rfl rfl rfl rfl (fun _ => dC rfl Tryz.func221 rfl rfl ((cell_put8 n) _)) ?_
  refine Xc rfl rfl rfl rfl (fun _ => dC rfl Tryz.func134 rfl rfl ((spc_Lay m here (putC n) hm hh (by rw [putC_len]; omega)) _)) ?_
  iterate 3 refine z3 ?_
  refine WU_ev3 tG rfl rfl rfl rfl rfl trivial ?_
  iterate 2 refine z3 ?_
  refine WU_nil ?_
  refine zR ?_
  rw [spcComma, if_pos (by (try simp only [dnL] at *); omega)]; rfl
theorem tmod8 {x : Int} (h : 0 ≤ x) : 0 ≤ (8 - x.tmod 8).tmod 8 ∧ (8 - x.tmod 8).tmod 8 < 8 := by
 rw [Int.tmod_eq_emod_of_nonneg h, Int.tmod_eq_emod_of_nonneg (by omega)]; omega
theorem rep_zero {c : UInt8} {n : Nat} {d : TD} (hz : d.zero = cByte 0) : zerosPV n d = (List.replicate n (0 : UInt8)).flatMap cByte := by
 unfold zerosPV; rw [hz, List.flatMap_replicate]
theorem seq_zero {n : Int} {d : TD} (hz : d.zero = cByte 0) : PV.seq n.toNat (zerosPV n.toNat d) .clip = sqc cByte (List.replicate n.toNat (0 : UInt8)) := by
 rw [rep_zero (c := 0) hz]; unfold sqc; rw [List.length_replicate]
theorem spc_AlignUp (m : VMem) (here : Int) (hm : MemOk m) (hh : HereOk m here) : PureC Tryz.prog 136 [eMem m, i64 here] (tLay (spcAlign m here)) := by
 have h0 := hh.h0
 have h1 := hh.h1
 have h2 := hm.b
 obtain ⟨u0, u1⟩ := tmod8 h0
 have w1 : IntKind.i64.wrap (8 - here.tmod 8) = 8 - here.tmod 8 := by
  rw [i64w]; unfold wrap64; rw [Int.tmod_eq_emod_of_nonneg h0]; omega
 refine pW tG (rs := [.cell 4 27, .tmp 5, .tmp 6]) Tryz.func136 rfl rfl rfl (by simp) (by simp) (fun B => ?_)
 refine zu4 ?_
 refine Ws ?_
 refine W_drawU [1, 0, 0, 0, 0, 0, 0, 0, 0, 0, 0, 3, 0, 0] [0, 1, 2, 3, 4, 5, 6, 7, 8, 9, 10, 11, 12, 13] mG rfl (by kernel_rfl) ?_
 refine z5 ?_
 iterate 5 refine z3 ?_
 refine Xa 12 rfl ((show PV.val (.int .i64 _) = .val (.int .i64 ((8 - here.tmod 8).tmod 8)) by rw [w1])) ?_
 refine WU_does0 rfl rfl rfl rfl (fun _ => does_makeSeq (lO tG rfl) rfl (lO tG rfl) rfl rfl rfl u0 (by dsimp only; omega) (by omega)) ?_
 refine Xa 13 rfl (seq_zero rfl) ?_
 refine Xc rfl rfl rfl rfl (fun _ => dC rfl Tryz.func134 rfl rfl ((spc_Lay m here (List.replicate ((8 - here.tmod 8).tmod 8).toNat 0) hm hh (by simp; omega)) _)) ?_
 iterate 3 refine z3 ?_
 refine WU_ev3 tG rfl rfl rfl rfl rfl trivial ?_
 iterate 2 refine z3 ?_
 refine WU_nil ?_
 refine zR ?_
 rfl
end Go.Proofs.YtphgdofmjpdhaaaGreat
namespace Go.Proofs.YtphgdofmjpdhaaaGreat
open Go.RowKit
set_option maxRecDepth 100000
set_option maxHeartbeats 4000000
def stkLaid (s : List Int) (takes : Nat) (leaves : List Int) (limit : Int) : List Int × Bool × Int :=
 if ((s.length - takes + leaves.length : Nat) : Int) > limit then (s, true, -3) else (s.take (s.length - takes) ++ leaves, true, 0)
def tStk (r : List Int × Bool × Int) : PV := tup3 (sq cInt r.1) (boo r.2.1) (i64 r.2.2)
@[simp] theorem flat_tStk (r : List Int × Bool × Int) : Flat (tStk r) := by simp [tStk]
theorem stk_laid (s : List Int) (takes : Nat) (leaves : List Int) (limit : Int) (hs : s.length ≤ 100000) (ht : takes ≤ s.length) (hl : leaves.length ≤ 100000) (hm : -9223372036854775808 ≤ limit ∧ limit ≤ 9223372036854775807) :
  PureC Tryz.prog 47 [sq cInt s, i64 takes, sq cInt leaves, i64 limit] (tStk (stkLaid s takes leaves limit)) := by
 have w1 : IntKind.i64.wrap ((s.length : Int) - (takes : Int)) = ((s.length - takes : Nat) : Int) := by ((rw [i64w]; unfold wrap64; (try simp only [dnL] at *); omega))
 have w2 : IntKind.i64.wrap (((s.take (s.length - takes)).length : Int) + (leaves.length : Int)) = ((s.length - takes + leaves.length : Nat) : Int) := by
  rw [List.length_take, Nat.min_eq_left (by omega)]; ((rw [i64w]; unfold wrap64; (try simp only [dnL] at *); omega))
 refine pW tG (rs := [.tmp 8, .tmp 9, .tmp 10]) Tryz.func47 rfl rfl rfl (by simp) (by simp) (fun B => ?_)
 refine zu3 ?_
 refine zp5 ?_
 refine Wa 16 rfl (congrArg (fun z => PV.val (Value.int .i64 z)) w1) ?_
 refine z2 ?_ (q := (by (simp_all; done)))
 refine Wa 17 rfl (sq_slice cInt 1 (fun _ => rfl) (by omega)) ?_
 refine Wa 17 rfl ((show _ = sq cInt (s.take (s.length - takes)) by rw [Int.toNat_natCast, List.drop_zero]; rfl)) ?_
 refine zs1 ?_
 refine Ws ?_
 refine zp5 ?_
 refine Wa 22 rfl (congrArg (fun z => PV.val (Value.int .i64 z)) w2) ?_
 refine zs2 ?_
 refine Wi rfl (fun hi1 => ?_) (fun hi1 => ?_)
 ·refine zu4 ?_
  refine zR ?_
  rw [stkLaid, if_pos (by (try simp only [dnL] at *); omega)]; rfl
 ·refine Wj ?_
  refine zp3 ?_
  refine Wa 28 rfl (bsL cRow [_, _] rfl rfl) ?_
  refine Wc rfl rfl (dC rfl Tryz.func29 rfl rfl ((concat2 _ _ (by simp; omega) (by omega)) _)) ?_
  refine zs3 ?_
  refine zR ?_
  rw [stkLaid, if_neg (by (try simp only [dnL] at *); omega)]; rfl
def stkPop (s : List Int) : Int × List Int × Int := if s.length = 0 then (0, s, -4) else (s.getD (s.length - 1) 0, s.take (s.length - 1), 0)
def tPop (r : Int × List Int × Int) : PV := tup3 (i64 r.1) (sq cInt r.2.1) (i64 r.2.2)
@[simp] theorem flat_tPop (r : Int × List Int × Int) : Flat (tPop r) := by simp [tPop]
theorem stk_Pop (s : List Int) (hs : s.length ≤ 100000) : PureC Tryz.prog 79 [sq cInt s] (tPop (stkPop s)) := by
 refine pW tG (rs := [.tmp 2, .tmp 3, .tmp 4]) Tryz.func79 rfl rfl rfl (by simp) (by simp) (fun B => ?_)
 refine zu3 ?_
 refine Ws ?_
 refine zu3 ?_
 refine Wi rfl (fun hi1 => ?_) (fun hi1 => ?_)
 ·have h0 : s.length = 0 := by (try simp only [dnL] at *); omega
  refine zu4 ?_
  refine zR ?_
  rw [stkPop, if_pos h0]; rfl
 ·have h0 : s.length ≠ 0 := by (try simp only [dnL] at *); omega
  have w1 : IntKind.i64.wrap ((s.length : Int) - 1) = ((s.length - 1 : Nat) : Int) := by ((rw [i64w]; unfold wrap64; (try simp only [dnL] at *); omega))
  refine Wj ?_
  refine Ws ?_
  refine W_drawU [0, 0, 0, 0, 0, 1, 0, 0, 0, 0, 0, 0, 0, 0] [0, 1, 2, 3, 4, 5, 6, 7, 8, 9, 10, 11, 12, 13] mG rfl (by kernel_rfl) ?_
  iterate 4 refine z3 ?_
  refine Xa 12 rfl (congrArg (fun z => PV.val (Value.int .i64 z)) w1) ?_
  refine Xi tG rfl rfl rfl rfl (fun _ => rfl) (by omega) (iN cInt 1 (fun _ => rfl) 0 (by omega)) ?_
  refine z5 ?_
  iterate 4 refine z3 ?_
  refine Xa 18 rfl (congrArg (fun z => PV.val (Value.int .i64 z)) w1) ?_
  refine z4 ?_ (q := (by (simp_all; done)))
  refine Xa 19 rfl (sq_slice cInt 1 (fun _ => rfl) (by omega)) ?_
  refine Xa 19 rfl ((show _ = sq cInt (s.take (s.length - 1)) by rw [Int.toNat_natCast, List.drop_zero]; rfl)) ?_
  iterate 3 refine z3 ?_
  refine WU_nil ?_
  refine zR ?_
  rw [stkPop, if_neg h0]; rfl
end Go.Proofs.YtphgdofmjpdhaaaGreat
namespace Go.Proofs.YtphgdofmjpdhaaaGreat
open Go.RowKit
set_option maxRecDepth 100000
set_option maxHeartbeats 4000000
abbrev W64 (n : Int) : Int := IntKind.i64.wrap n
def xat (x : List Int) (i : Nat) : Int := x.getD i 0
def pDivMod (x : List Int) : List Int × Int := ([(divS (xat x 0) (xat x 1)).2.1, (divS (xat x 0) (xat x 1)).1], (divS (xat x 0) (xat x 1)).2.2)
def pBoth (x : List Int) : Int × Int × Int := fdivS (mulS (xat x 0) (xat x 1)).1 (mulS (xat x 0) (xat x 1)).2 (xat x 2)
def pStarMod (x : List Int) : List Int × Int := ([(pBoth x).2.1, (pBoth x).1], (pBoth x).2.2)
def pStar (x : List Int) : List Int × Int := ([(pBoth x).1], (pBoth x).2.2)
def pUM (x : List Int) : List Int × Int := ([(umulS (xat x 0) (xat x 1)).1, (umulS (xat x 0) (xat x 1)).2], 0)
def pM (x : List Int) : List Int × Int := ([(mulS (xat x 0) (xat x 1)).1, (mulS (xat x 0) (xat x 1)).2], 0)
def pUMod (x : List Int) : List Int × Int := ([(udivS (xat x 0) (xat x 1) (xat x 2)).2.1, (udivS (xat x 0) (xat x 1) (xat x 2)).1], (udivS (xat x 0) (xat x 1) (xat x 2)).2.2)
def pSRem (x : List Int) : List Int × Int := ([(sdivS (xat x 0) (xat x 1) (xat x 2)).2.1, (sdivS (xat x 0) (xat x 1) (xat x 2)).1], (sdivS (xat x 0) (xat x 1) (xat x 2)).2.2)
def pFMod (x : List Int) : List Int × Int := ([(fdivS (xat x 0) (xat x 1) (xat x 2)).2.1, (fdivS (xat x 0) (xat x 1) (xat x 2)).1], (fdivS (xat x 0) (xat x 1) (xat x 2)).2.2)
def pSD (x : List Int) : List Int × Int := ([xat x 0, flagS (decide (xat x 0 < 0))], 0)
def pWithin (x : List Int) : List Int × Int := ([flagS (decide (U (wrap64 (xat x 0 - xat x 1)) < U (wrap64 (xat x 2 - xat x 1))))], 0)
def reckonS (name : Str) (x : List Int) : Option (List Int × Int) :=
 if name = [47, 77, 79, 68] then some (pDivMod x) else
 if name = [42, 47] then some (pStar x) else
 if name = [42, 47, 77, 79, 68] then some (pStarMod x) else
 if name = [85, 77, 42] then some (pUM x) else
 if name = [77, 42] then some (pM x) else
 if name = [85, 77, 47, 77, 79, 68] then some (pUMod x) else
 if name = [83, 77, 47, 82, 69, 77] then some (pSRem x) else
 if name = [70, 77, 47, 77, 79, 68] then some (pFMod x) else
 if name = [83, 62, 68] then some (pSD x) else
 if name = [87, 73, 84, 72, 73, 78] then some (pWithin x) else
 if name = [84, 82, 85, 69] then some ([-1], 0) else
 if name = [66, 65, 83, 69] then some ([0], 0) else
 if name = [70, 65, 76, 83, 69] then some ([0], 0) else
 if name = [83, 84, 65, 84, 69] then some ([8], 0) else
 if name = [66, 76] then some ([32], 0) else none
def withM (v : VVm) (m : VMem) : VVm := { v with mem := m }
def pFetch (v : VVm) (x : List Int) : VVm × List Int × Int := (v, [(memFetch v.mem (xat x 0)).1], (memFetch v.mem (xat x 0)).2)
def pFetchB (v : VVm) (x : List Int) : VVm × List Int × Int := (v, [(memFetchByte v.mem (xat x 0)).1], (memFetchByte v.mem (xat x 0)).2)
def pPut (v : VVm) (r : VMem × Int) : VVm × List Int × Int := (withM v r.1, [], r.2)
def pAddTo (v : VVm) (x : List Int) : VMem × Int := if (memFetch v.mem (xat x 1)).2 = 0 then memStore v.mem (xat x 1) (W64 ((memFetch v.mem (xat x 1)).1 + xat x 0)) else (v.mem, (memFetch v.mem (xat x 1)).2)
def pFetch2 (v : VVm) (x : List Int) : VVm × List Int × Int :=
 if (memFetch v.mem (xat x 0)).2 = 0 then (v, [(memFetch v.mem (W64 (xat x 0 + 8))).1, (memFetch v.mem (xat x 0)).1], (memFetch v.mem (W64 (xat x 0 + 8))).2) else (v, [], (memFetch v.mem (xat x 0)).2)
def pStore2 (v : VVm) (x : List Int) : VMem × Int := if (memStore v.mem (xat x 2) (xat x 1)).2 = 0 then memStore (memStore v.mem (xat x 2) (xat x 1)).1 (W64 (xat x 2 + 8)) (xat x 0) else memStore v.mem (xat x 2) (xat x 1)
def pCount (v : VVm) (x : List Int) : VVm × List Int × Int := (v, [W64 (xat x 0 + 1), (memFetchByte v.mem (xat x 0)).1], (memFetchByte v.mem (xat x 0)).2)
def stated (v : VVm) (s b : Int) : Int := if (memFetch v.mem (W64 (b + 8))).2 = 0 then (if s < 0 ∨ (memFetch v.mem (W64 (b + 8))).1 ≤ s then -24 else 0) else (memFetch v.mem (W64 (b + 8))).2
def pSetState (v : VVm) (x : List Int) : VVm × List Int × Int := if stated v (xat x 0) (xat x 1) = 0 then pPut v (memStore v.mem (xat x 1) (xat x 0)) else (v, [], stated v (xat x 0) (xat x 1))
def pAtState (v : VVm) (x : List Int) : VVm × List Int × Int := if stated v (xat x 1) (xat x 2) = 0 then pPut v (memStore v.mem (W64 (W64 (xat x 2 + 16) + W64 (8 * xat x 1))) (xat x 0)) else (v, [], stated v (xat x 1) (xat x 2))
def memoryS (v : VVm) (name : Str) (x : List Int) : Option (VVm × List Int × Int) :=
 if name = [64] ∨ name = [71, 69, 84, 45, 83, 84, 65, 84, 69] then some (pFetch v x) else
 if name = [67, 64] then some (pFetchB v x) else
 if name = [33] then some (pPut v (memStore v.mem (xat x 1) (xat x 0))) else
 if name = [67, 33] then some (pPut v (memStoreByte v.mem (xat x 1) (xat x 0))) else
 if name = [43, 33] then some (pPut v (pAddTo v x)) else
 if name = [50, 64] then some (pFetch2 v x) else
 if name = [50, 33] then some (pPut v (pStore2 v x)) else
 if name = [70, 73, 76, 76] then some (pPut v (memFill v.mem (xat x 0) (xat x 1) (xat x 2))) else
 if name = [77, 79, 86, 69] then some (pPut v (memMove v.mem (xat x 0) (xat x 1) (xat x 2))) else
 if name = [67, 79, 85, 78, 84] then some (pCount v x) else
 if name = [68, 69, 67, 73, 77, 65, 76] then some (pPut v (memStore v.mem 0 10)) else
 if name = [72, 69, 88] then some (pPut v (memStore v.mem 0 16)) else
 if name = [83, 69, 84, 45, 83, 84, 65, 84, 69] then some (pSetState v x) else
 if name = [65, 84, 45, 83, 84, 65, 84, 69] then some (pAtState v x) else none
def pLay (v : VVm) (r : VMem × Int × Int) : VVm × List Int × Int := ({ v with mem := r.1, here := r.2.1 }, [], r.2.2)
def pAllot (v : VVm) (x : List Int) : VMem × Int × Int := (v.mem, (spcAllot v.mem 1368 v.here (xat x 0)).1, (spcAllot v.mem 1368 v.here (xat x 0)).2)
def spaceS (v : VVm) (name : Str) (x : List Int) : Option (VVm × List Int × Int) :=
 if name = [65, 76, 76, 79, 84] then some (pLay v (pAllot v x)) else
 if name = [44] then some (pLay v (spcComma v.mem v.here (xat x 0))) else
 if name = [67, 44] then some (pLay v (spcLay v.mem v.here [loB (xat x 0)])) else
 if name = [65, 76, 73, 71, 78] then some (pLay v (spcAlign v.mem v.here)) else none
def baseS (v : VVm) : Int := (memFetch v.mem 0).1
def pSpaces (v : VVm) (x : List Int) : Str := List.replicate (min (max (xat x 0) 0) (v.conf.out + 1)).toNat 32
def pDot (r : Str × Int) : Str × Int := (r.1 ++ [32], r.2)
def textS (v : VVm) (name : Str) (x : List Int) : Option (Str × Int) :=
 if name = [69, 77, 73, 84] then some ([loB (xat x 0)], 0) else
 if name = [67, 82] then some ([10], 0) else
 if name = [83, 80, 65, 67, 69] then some ([32], 0) else
 if name = [83, 80, 65, 67, 69, 83] then some (pSpaces v x, 0) else
 if name = [84, 89, 80, 69] then some (memText v.mem (xat x 0) (xat x 1)) else
 if name = [46] then some (pDot (showS (xat x 0) (baseS v))) else
 if name = [85, 46] then some (pDot (ushowS (xat x 0) (baseS v))) else none
def pPrint (v : VVm) (r : Str × Int) : VVm × List Int × Int := if r.2 = 0 then ((vmPrint v r.1).1, [], (vmPrint v r.1).2) else (v, [], r.2)
def withP (v : VVm) (p : VPic) : VVm := { v with pic := p }
def picAllN : Nat → VPic → Int → Int → Int → VPic × Int
 | 0, q, lo, hi, base => (q, (picDigit q lo hi base).2.2.2)
 | n + 1, q, lo, hi, base => if (picDigit q lo hi base).2.2.2 ≠ 0 then (q, (picDigit q lo hi base).2.2.2) else if (picDigit q lo hi base).2.1 = 0 ∧ (picDigit q lo hi base).2.2.1 = 0 then ((picDigit q lo hi base).1, 0) else picAllN n (picDigit q lo hi base).1 (picDigit q lo hi base).2.1 (picDigit q lo hi base).2.2.1 base
def picAllF (q : VPic) (lo hi base : Int) : VPic × Int := picAllN (131 - q.b.length) q lo hi base
def finP (p : VPic) (r : VPic × Int) : VPic × Int := if r.2 = 0 then (r.1, 0) else (p, r.2)
def picAll (p : VPic) (lo hi base : Int) : VPic × Int := finP p (picAllF p lo hi base)
def pDig (v : VVm) (x : List Int) : VVm × List Int × Int := (withP v (picDigit v.pic (xat x 0) (xat x 1) (baseS v)).1, [(picDigit v.pic (xat x 0) (xat x 1) (baseS v)).2.1, (picDigit v.pic (xat x 0) (xat x 1) (baseS v)).2.2.1], (picDigit v.pic (xat x 0) (xat x 1) (baseS v)).2.2.2)
def pAll (v : VVm) (x : List Int) : VVm × List Int × Int := (withP v (picAll v.pic (xat x 0) (xat x 1) (baseS v)).1, [0, 0], (picAll v.pic (xat x 0) (xat x 1) (baseS v)).2)
def pPic (v : VVm) (r : VPic × Int) : VVm × List Int × Int := (withP v r.1, [], r.2)
def pEnd (v : VVm) : VVm × List Int × Int :=
 if (picEnd v.pic).2 = 0 then (withP (withM v (memWrite v.mem (W64 (v.conf.mem - 136)) (picEnd v.pic).1).1) ⟨[], false⟩, [W64 (v.conf.mem - 136), ((picEnd v.pic).1.length : Int)], (memWrite v.mem (W64 (v.conf.mem - 136)) (picEnd v.pic).1).2) else (v, [], (picEnd v.pic).2)
def picsS (v : VVm) (name : Str) (x : List Int) : Option (VVm × List Int × Int) :=
 if name = [60, 35] then some (withP v ⟨[], true⟩, [], 0) else
 if name = [35] then some (pDig v x) else
 if name = [35, 83] then some (pAll v x) else
 if name = [72, 79, 76, 68] then some (pPic v (picHold v.pic (xat x 0))) else
 if name = [83, 73, 71, 78] then some (pPic v (picSign v.pic (xat x 0))) else
 if name = [35, 62] then some (pEnd v) else none
def withR (v : VVm) (q : VReq) : VVm := { v with req := v.req ++ [q] }
def pBounds (v : VVm) (x : List Int) : Prop := xat x 1 < 0 ∨ (v.hand.length : Int) ≤ xat x 1 ∨ xat x 2 < 0 ∨ 3 < xat x 2
instance (v : VVm) (x : List Int) : Decidable (pBounds v x) := by unfold pBounds; infer_instance
def pCancel (v : VVm) (x : List Int) : VVm × List Int × Int := if 16 ≤ (v.req.length : Int) then (v, [], -257) else (withR v ⟨4, 0, 0, 0, 0, xat x 0⟩, [], 0)
def pPost (v : VVm) (x : List Int) : VVm × List Int × Int := if pBounds v x then (v, [], -259) else if 16 ≤ (v.req.length : Int) then (v, [], -257) else (withR v ⟨1, xat x 0, xat x 1, xat x 2, 0, 0⟩, [], 0)
def pTimer (kind : Int) (v : VVm) (x : List Int) : VVm × List Int × Int :=
 if pBounds v x then (v, [], -259) else if xat x 3 < 1 ∨ 4294967295 < xat x 3 then (v, [], -24) else if 16 ≤ (v.req.length : Int) then (v, [], -257) else if v.free = 0 ∨ v.next = 4611686018427387904 then (v, [], -258) else
  ({ withR v ⟨kind, xat x 0, xat x 1, xat x 2, xat x 3, v.next⟩ with free := W64 (v.free - 1), next := W64 (v.next + 1) }, [v.next], 0)
def askS2 (v : VVm) (name : Str) (x : List Int) : Option (VVm × List Int × Int) :=
 if name = [80, 79, 83, 84] then some (pPost v x) else
 if name = [67, 65, 78, 67, 69, 76] then some (pCancel v x) else
 if name = [65, 70, 84, 69, 82] then some (pTimer 2 v x) else
 if name = [69, 86, 69, 82, 89] then some (pTimer 3 v x) else none
def pBody (v : VVm) (x : List Int) : VVm × List Int × Int := if (vmKind v (xat x 0)).2 = 0 ∧ ((vmKind v (xat x 0)).1 < 257 ∨ 260 < (vmKind v (xat x 0)).1) then (v, [], -31) else (v, [W64 (xat x 0 + 16)], (vmKind v (xat x 0)).2)
def restS (v : VVm) (name : Str) (x : List Int) : VVm × List Int × Int :=
 if name = [72, 69, 82, 69] then (v, [v.here], 0) else
 if name = [65, 82, 71] then (v, [v.arg], 0) else
 if name = [83, 69, 76, 70] then (v, [v.self], 0) else
 if name = [78, 79, 87] then (v, [v.now], 0) else
 if name = [62, 66, 79, 68, 89] then pBody v x else (v, [], -1)
def doneS (v : VVm) (n : Int) (name : Str) (x : List Int) : VVm × List Int × Int :=
 if n ≤ 58 then (v, [(twoS name (xat x 0) (xat x 1)).1], (twoS name (xat x 0) (xat x 1)).2.2) else
 if n ≤ 72 then (v, [(oneS name (xat x 0)).1], 0) else
 match reckonS name x with
 | some r => (v, r.1, r.2)
 | none => match memoryS v name x with
  | some r => r
  | none => match spaceS v name x with
   | some r => r
   | none => match textS v name x with
    | some r => pPrint v r
    | none => match picsS v name x with
     | some r => r
     | none => match askS2 v name x with
      | some r => r
      | none => restS v name x
def takesS (n : Int) (name : Str) : Nat :=
 if n ≤ 58 then 2 else if n ≤ 72 then 1 else
 if name = [65, 70, 84, 69, 82] ∨ name = [69, 86, 69, 82, 89] then 4 else
 if name = [42, 47] ∨ name = [42, 47, 77, 79, 68] ∨ name = [85, 77, 47, 77, 79, 68] ∨ name = [83, 77, 47, 82, 69, 77] ∨ name = [70, 77, 47, 77, 79, 68] ∨ name = [87, 73, 84, 72, 73, 78] ∨ name = [50, 33] ∨ name = [70, 73, 76, 76] ∨ name = [77, 79, 86, 69] ∨ name = [80, 79, 83, 84] ∨ name = [65, 84, 45, 83, 84, 65, 84, 69] then 3 else
 if name = [47, 77, 79, 68] ∨ name = [85, 77, 42] ∨ name = [77, 42] ∨ name = [33] ∨ name = [67, 33] ∨ name = [43, 33] ∨ name = [84, 89, 80, 69] ∨ name = [35] ∨ name = [35, 83] ∨ name = [35, 62] ∨ name = [83, 69, 84, 45, 83, 84, 65, 84, 69] then 2 else
 if name = [83, 62, 68] ∨ name = [64] ∨ name = [67, 64] ∨ name = [50, 64] ∨ name = [67, 79, 85, 78, 84] ∨ name = [65, 76, 76, 79, 84] ∨ name = [44] ∨ name = [67, 44] ∨ name = [69, 77, 73, 84] ∨ name = [83, 80, 65, 67, 69, 83] ∨ name = [46] ∨ name = [85, 46] ∨ name = [72, 79, 76, 68] ∨ name = [83, 73, 71, 78] ∨ name = [62, 66, 79, 68, 89] ∨ name = [67, 65, 78, 67, 69, 76] ∨ name = [71, 69, 84, 45, 83, 84, 65, 84, 69] then 1 else 0
def takesK (name : Str) (s : List Int) : Int :=
 if name = [68, 69, 80, 84, 72] then 0 else
 if name = [68, 85, 80] ∨ name = [68, 82, 79, 80] ∨ name = [63, 68, 85, 80] then 1 else
 if name = [83, 87, 65, 80] ∨ name = [79, 86, 69, 82] ∨ name = [78, 73, 80] ∨ name = [84, 85, 67, 75] ∨ name = [50, 68, 85, 80] ∨ name = [50, 68, 82, 79, 80] then 2 else
 if name = [82, 79, 84] ∨ name = [45, 82, 79, 84] then 3 else
 if name = [50, 83, 87, 65, 80] ∨ name = [50, 79, 86, 69, 82] then 4 else
 if name = [80, 73, 67, 75] ∨ name = [82, 79, 76, 76] then (if s.length = 0 ∨ s.getD (s.length - 1) 0 < 0 ∨ (s.length : Int) - 1 ≤ s.getD (s.length - 1) 0 then (s.length : Int) + 1 else s.getD (s.length - 1) 0 + 2) else -1
def leftK (name : Str) (x : List Int) (depth : Nat) : List Int :=
 if name = [68, 85, 80] then [xat x 0, xat x 0] else
 if name = [83, 87, 65, 80] then [xat x 1, xat x 0] else
 if name = [79, 86, 69, 82] then [xat x 0, xat x 1, xat x 0] else
 if name = [78, 73, 80] then [xat x 1] else
 if name = [84, 85, 67, 75] then [xat x 1, xat x 0, xat x 1] else
 if name = [82, 79, 84] then [xat x 1, xat x 2, xat x 0] else
 if name = [45, 82, 79, 84] then [xat x 2, xat x 0, xat x 1] else
 if name = [50, 68, 85, 80] then [xat x 0, xat x 1, xat x 0, xat x 1] else
 if name = [50, 83, 87, 65, 80] then [xat x 2, xat x 3, xat x 0, xat x 1] else
 if name = [50, 79, 86, 69, 82] then [xat x 0, xat x 1, xat x 2, xat x 3, xat x 0, xat x 1] else
 if name = [63, 68, 85, 80] then (if xat x 0 = 0 then x else [xat x 0, xat x 0]) else
 if name = [68, 69, 80, 84, 72] then [(depth : Int)] else
 if name = [80, 73, 67, 75] then x.take (x.length - 1) ++ [xat x 0] else
 if name = [82, 79, 76, 76] then (x.take (x.length - 1)).drop 1 ++ [xat x 0] else []
def shuffleS (name : Str) (s : List Int) (limit : Int) : List Int × Bool × Int :=
 if takesK name s < 0 then (s, false, 0) else
 if (s.length : Int) < takesK name s then (s, true, -4) else
 if limit < ((s.length - (takesK name s).toNat + (leftK name (s.drop (s.length - (takesK name s).toNat)) s.length).length : Nat) : Int) then (s, true, -3) else
 (s.take (s.length - (takesK name s).toNat) ++ leftK name (s.drop (s.length - (takesK name s).toNat)) s.length, true, 0)
def doS (v : VVm) (n : Int) : VVm × Int :=
 if n < 23 ∨ 129 < n then (v, -24) else
 let name := names.getD n.toNat []
 if n ≤ 38 then ({ v with d := (shuffleS name v.d v.conf.data).1 }, (shuffleS name v.d v.conf.data).2.2) else
 let k := takesS n name
 if v.d.length < k then (v, -4) else
 let r := doneS v n name (v.d.drop (v.d.length - k))
 if r.2.2 ≠ 0 then (v, r.2.2) else
 if v.conf.data < ((v.d.length - k + r.2.1.length : Nat) : Int) then (v, -3) else ({ r.1 with d := v.d.take (v.d.length - k) ++ r.2.1 }, 0)
def tLv (r : List Int × Int) : PV := tup2 (sq cInt r.1) (i64 r.2)
@[simp] theorem flat_tLv (r : List Int × Int) : Flat (tLv r) := by simp [tLv]
end Go.Proofs.YtphgdofmjpdhaaaGreat
namespace Go.Proofs.YtphgdofmjpdhaaaGreat
open Go.RowKit
def RowAt (w : World) (size : Nat) (sl : Value) (n : Nat) (xs : List Value) : Prop :=
 xs.length = n * size ∧ ∃ (a : Option Addr) (cap : Nat), sl = .slice a n cap ∧ (a = none → n = 0 ∧ cap = 0) ∧ n ≤ cap ∧ ∀ b, a = some b → ∀ (j : Nat) (u : Value), xs[j]? = some u → w.cell? (b.add j) = some u
def BytesAt (w : World) (sl : Value) (xs : List Int) : Prop := RowAt w 1 sl xs.length (xs.map (Value.int .u8)) ∧ ∀ x ∈ xs, 0 ≤ x ∧ x < 256
theorem rowAt_below {w w' : World} {size n : Nat} {sl : Value} {xs : List Value} (h : RowAt w size sl n xs) (hb : Below w.heap.size w w') : RowAt w' size sl n xs := by
 obtain ⟨hl, a, cap, rfl, hn, hc, hx⟩ := h
 refine ⟨hl, a, cap, rfl, hn, hc, fun b hb' j u hj => ?_⟩
 have h1 := hx b hb' j u hj
 rw [hb.cell (World.block_lt_of_cell? w (b.add j) h1)]
 exact h1
theorem bytesAt_below {w w' : World} {sl : Value} {xs : List Int} (h : BytesAt w sl xs) (hb : Below w.heap.size w w') : BytesAt w' sl xs := ⟨rowAt_below h.1 hb, h.2⟩
end Go.Proofs.YtphgdofmjpdhaaaGreat
namespace Go.Proofs.YtphgdofmjpdhaaaGreat
open Go.RowKit
section
variable {P : Program}
def NewC (P : Program) (f : FuncId) (args : List PV) (n : Nat) (xs : List PV) (k : Nat) : Prop := ∀ H, HC P f args H (.seq n xs (.own H.length k)) (H ++ [.free (n * k)])
theorem new_of_hc {f : FuncId} {args : List PV} {n k : Nat} {xs : List PV} (ha : FlatL args) (hxs : FlatL xs)
  (h : ∀ B σ w vs, Sim B [] σ w → RepL (cx B [] σ w) args vs → Calls P f vs.toArray w fun e w' => ∃ v H' σ' t m, e = .returned v ∧ Rep (cx B H' σ' w') (.seq n xs (.own t k)) v ∧ H'[t]? = some (.free m) ∧ m ≤ n * k ∧ Step B [] σ w H' σ' w') : NewC P f args n xs k := by
 intro H B σ w vs s hr
 have s0 := sim_nil s
 have hr0 : RepL (cx (BoW B σ H) [] σ w) args vs := repL_flat (c := cx B H σ w) (c' := cx (BoW B σ H) [] σ w) rfl (fun b off h => by
  rcases h with h | ⟨i, oi, h1, _⟩
  ·exact h
  ·simp at h1) ha hr
 refine Calls.mono (h (BoW B σ H) σ w vs s0 hr0) ?_
 rintro e w' ⟨v, H', σ', t, m, rfl, h1, ht, hm, h2⟩
 have g : Grows w w' := ⟨h2.os, h2.tape, h2.output, h2.size, fun b hb => h2.block b hb (fun i oi h => by simp at h)⟩
 obtain ⟨ad, cap, ws, hv, hle, hnil, hrl, hlies, hqN, hl, hown⟩ := rep_seq h1
 have key : ∀ nb : Option Nat, (∀ b, nb = some b → w.heap.size ≤ b) → Holds (cx B (H ++ [.free (n * k)]) (ext σ H.length nb) w') H.length (.free (n * k)) → (∀ b, nb = some b → σ' t = some b) → (cap = n ∨ ∃ b cs e, nb = some b ∧ ad = some ⟨b, 0, none⟩ ∧ w'.heap[b]? = some (Obj.cells cs e (0, 0)) ∧ cap * k ≤ cs.size) →
   ∃ v' σ2, Ending.returned v = Ending.returned v' ∧ Rep (cx B (H ++ [.free (n * k)]) σ2 w') (.seq n xs (.own H.length k)) v' ∧ Sim B (H ++ [.free (n * k)]) σ2 w' ∧ Step B H σ w (H ++ [.free (n * k)]) σ2 w' := by
  intro nb hnew hh hnb hk
  obtain ⟨s', st⟩ := grow_name s g (.free (n * k)) nb hnew hh
  have wr : ∀ b off, (cx B (H ++ [.free (n * k)]) (ext σ H.length nb) w').Wr b off → (cx (BoW B σ H) H' σ' w').Wr b off := by
   rintro b off (h | ⟨j, oj, h3, h4, h5⟩)
   ·exact .inl (.inl h)
   ·rcases get_snoc h3 with ⟨h6, h7⟩ | ⟨rfl, rfl⟩
    ·rw [ext_old h6] at h4; exact .inl (.inr ⟨j, oj, h7, h4, h5⟩)
    ·rw [ext_new] at h4; exact .inr ⟨t, _, ht, hnb _ h4, Nat.le_trans hm h5⟩
  refine ⟨v, _, rfl, ?_, s', st⟩
  unfold Rep
  refine ⟨ad, cap, ws, hv, hle, hnil, repL_flat (c := cx (BoW B σ H) H' σ' w') (c' := cx B (H ++ [.free (n * k)]) (ext σ H.length nb) w') rfl wr hxs hrl, fun b hb => (hlies b hb).imp (fun hL => ⟨hL.1, fun j u hj => ⟨(hL.2 j u hj).1, fun hw => (hL.2 j u hj).2 (wr _ _ hw)⟩⟩) id, by simp [cx], hl, ?_⟩
  rcases hk with hk | ⟨b, cs, e, h3, h4, h5, h6⟩
  ·exact .inl hk
  ·exact .inr ⟨b, cs, e, by simp only [cx]; rw [ext_new]; exact h3, h4, h5, h6⟩
 rcases hown with hcap | ⟨b, cs, e, h3, h4, h5, h6⟩
 ·exact key none (fun b hb => by cases hb) (fun b hb => by simp only [cx] at hb; rw [ext_new] at hb; cases hb) (fun b hb => by cases hb) (.inl hcap)
 ·refine key (some b) (fun b' hb => ?_) (fun b' hb => ?_) (fun b' hb => by cases hb; exact h3) (.inr ⟨b, cs, e, rfl, h4, h5, h6⟩)
  ·cases hb
   rcases h2.new t _ b ht rfl h3 with h7 | ⟨j, oj, h7, _⟩
   ·exact h7
   ·simp at h7
  ·simp only [cx] at hb; rw [ext_new] at hb; cases hb
   exact ⟨cs, e, h5, Nat.le_trans (Nat.mul_le_mul_right _ hle) h6⟩
def RetN (G : List (Nat × TD)) (rs : List ResultVar) (n : Nat) (xs : List PV) (k : Nat) : Exit → (Nat → PV) → List Ob → Prop
 | .normal, T, H => ∃ t m, resX G T H rs = some (.seq n xs (.own t k)) ∧ H[t]? = some (.free m) ∧ m ≤ n * k
 | .ret, T, H => ∃ t m, resX G T H rs = some (.seq n xs (.own t k)) ∧ H[t]? = some (.free m) ∧ m ≤ n * k
 | _, _, _ => False
theorem new_of_WR {G : List (Nat × TD)} (hG : tysOk P G = true) {f : FuncId} {fn : Func} {c : Code} {args : List PV} {n k : Nat} {xs : List PV} {rs : List ResultVar} (hf : P.funcs[f]? = some fn) (hb : fn.body = some c) (hr : fn.results = rs.toArray) (hn0 : Nat.ble args.length fn.ntmps = true) (ha : FlatL args) (hres : FlatL xs)
  (h : ∀ B, W P B fn.ntmps c (argT args) [] (RetN G rs n xs k)) : NewC P f args n xs k := by
 have hn := Nat.le_of_ble_eq_true hn0
 refine new_of_hc ha hres fun B σ w vs s hv => ?_
 have hl := RepL.length hv
 refine calls_of_wp hf hb (wp_mono (h B σ w { tmps := vs.toArray ++ Array.replicate (fn.ntmps - vs.toArray.size) undef, defers := [] } ⟨s, repT_args hv _, by simp; omega, rfl⟩) ?_)
 rintro e a' w' ⟨T', H1, σ', h1, h2, h3⟩
 have fin : ∀ (h4 : ∃ t m, resX G T' H1 rs = some (.seq n xs (.own t k)) ∧ H1[t]? = some (.free m) ∧ m ≤ n * k), a'.defers = [] ∧ ∃ v, (results fn a'.tmps).run P w' = .ok v w' ∧ ∃ v' H' σ' t m, Ending.returned v = Ending.returned v' ∧ Rep (cx B H' σ' w') (.seq n xs (.own t k)) v' ∧ H'[t]? = some (.free m) ∧ m ≤ n * k ∧ Step B [] σ w H' σ' w' := by
  rintro ⟨t, m, hx, h4, h7⟩
  obtain ⟨v, h5, h6⟩ := run_resX hG hr h2 hx
  exact ⟨h2.defers, v, h5, v, H1, σ', t, m, rfl, h6, h4, h7, h3⟩
 cases e <;> first | exact fin h1 | exact False.elim h1
theorem leafN {G : List (Nat × TD)} {rs : List ResultVar} {T : Nat → PV} {H : List Ob} {n n' k t m : Nat} {xs xs' : List PV} (h : resX G T H rs = some (.seq n' xs' (.own t k))) (h1 : n' = n) (h2 : xs' = xs) (h3 : H[t]? = some (.free m)) (h4 : m ≤ n * k) : RetN G rs n xs k .ret T H := by
 subst h1 h2; exact ⟨t, m, h, h3, h4⟩
theorem NewC.pure {f : FuncId} {args : List PV} {n k : Nat} {xs : List PV} (h : NewC P f args n xs k) (ha : FlatL args) (hxs : FlatL xs) : PureC P f args (.seq n xs .any) := by
 refine pure_of_hc ha (by unfold Flat; exact ⟨hxs, .inl rfl⟩) fun B σ w vs s hr => ?_
 refine Calls.mono (h [] B σ w vs s hr) ?_
 rintro e w' ⟨v, σ', rfl, h1, h2, h3⟩
 exact ⟨v, _, σ', rfl, imp_seq _ _ _ _ _ h1, h3⟩
theorem WU_call2 {B : Nat → Nat → Prop} {n : Nat} {ops : Array Oper} {cl : Nat → Nat} {o : Oper} {T : Nat → PV} {H E : List Ob} {x : PV} {i : Nat} {l : List Nat} {d : Option Tmp} {K : (Nat → PV) → List Ob → Prop} (h0 : ops[i]? = some o) (hc : cl i = 2) (hd : nfD n o.dst = some d) (hw : wantedA ops T o = some true) (h : DoesC P B o T H x (H ++ E)) (k : WU P B n ops cl l (updD d x T) (H ++ E) K) : WU P B n ops cl (i :: l) T H K :=
 ⟨o, h0, x, H ++ E, .inl ⟨hw, .inr h⟩, by rw [hc]; exact ⟨E, rfl⟩, (nfD_eq hd).1 ▸ k⟩
def kinB (P : Program) (t : TypeId) : Value → Value → Bool
 | .int k _, .int k' _ => match P.underlying t with | some (.int k0) => decide (k = k') && decide (k0 = k0) | _ => false
 | .bool _, .bool _ => match P.underlying t with | some .bool => true | _ => false
 | _, _ => false
def eqV : Value → Value → Bool
 | .int _ a, .int _ b => a == b
 | .bool a, .bool b => a == b
 | _, _ => false
def eqVs : List Value → List Value → Bool
 | [], [] => true
 | u :: us, v :: vs => eqV u v && eqVs us vs
 | _, _ => false
def eqOk (P : Program) : List Field → Nat → List Value → List Value → Bool
 | [], _, [], [] => true
 | f :: fs, k, u :: us, v :: vs => (f.name != "_") && Nat.beq f.offset k && P.plainKey f.type && kinB P f.type u v && eqOk P fs (k + 1) us vs
 | _, _, _, _ => false
theorem eqV_run {t : TypeId} {u v : Value} (h : kinB P t u v = true) (d : Nat) (w : World) : (Op.equalIn (d + 1) t u v).run P w = .ok (eqV u v) w := by
 unfold kinB at h
 split at h
 ·split at h
  ·rename_i hu
   simp only [Bool.and_eq_true, decide_eq_true_eq] at h
   obtain ⟨rfl, _⟩ := h
   exact run_equalIn_int w d t _ _ _ _ hu
  ·cases h
 ·split at h
  ·rename_i hu
   exact run_equalIn_bool' w d t _ _ hu
  ·cases h
 ·cases h
theorem eqFields_run (xs ys : Array Value) (d : Nat) (w : World) : ∀ (fs : List Field) (k : Nat) (us vs : List Value), xs.toList.drop k = us → ys.toList.drop k = vs → eqOk P fs k us vs = true → (Op.eqFields (d + 1) xs ys fs).run P w = .ok (eqVs us vs) w
 | [], k, us, vs, hu, hv, h => by
  match us, vs, h with
  | [], [], _ => rfl
  | u :: us, _, h => simp [eqOk] at h
  | [], v :: vs, h => simp [eqOk] at h
 | f :: fs, k, us, vs, hu, hv, h => by
  match us, vs, h, hu, hv with
  | [], [], h, _, _ => simp [eqOk] at h
  | [], v :: vs, h, _, _ => simp [eqOk] at h
  | u :: us, [], h, _, _ => simp [eqOk] at h
  | u :: us, v :: vs, h, hu, hv =>
   simp only [eqOk, Bool.and_eq_true] at h
   obtain ⟨⟨⟨⟨h1, h2⟩, h3⟩, h4⟩, h5⟩ := h
   rw [Nat.beq_eq] at h2
   have g : ∀ (zs : Array Value) (z : Value) (l : List Value), zs.toList.drop k = z :: l → zs[f.offset]? = some z ∧ zs.toList.drop (k + 1) = l := by
    intro zs z l hz
    refine ⟨?_, ?_⟩
    ·rw [h2, ← Array.getElem?_toList]
     have : (zs.toList.drop k)[0]? = some z := by rw [hz]; rfl
     rw [List.getElem?_drop] at this
     simpa using this
    ·rw [← List.drop_drop, hz]; rfl
   obtain ⟨hu1, hu2⟩ := g xs u us hu
   obtain ⟨hv1, hv2⟩ := g ys v vs hv
   have ih := eqFields_run xs ys d w fs (k + 1) us vs hu2 hv2 h5
   unfold Op.eqFields
   rw [if_pos (by simpa using h1)]
   simp only [Sem.run_bind, run_part_plain w h3 hu1, run_part_plain w h3 hv1, Result.andThen_ok, eqV_run h4]
   cases hq : eqV u v with
   | true => simp [eqVs, hq, ih]
   | false => simp [eqVs, hq]
def valsL : List PV → Option (List Value)
 | [] => some []
 | .val v :: xs => match valsL xs with | some vs => some (v :: vs) | none => none
 | _ => none
theorem valsL_spec {c : Cx} : ∀ {xs : List PV} {us vs : List Value}, valsL xs = some us → RepL c xs vs → vs = us
 | [], us, vs, h, hr => by simp only [valsL, Option.some.injEq] at h; subst h; exact repL_nil.1 hr
 | x :: xs, us, [], h, hr => by unfold RepL at hr; obtain ⟨u, us, h1, _⟩ := hr; cases h1
 | x :: xs, us, v :: vs, h, hr => by
  rw [repL_cons] at hr
  cases x <;> simp only [valsL] at h <;> first | (cases h; done) | skip
  split at h
  ·rename_i ws hw
   cases h
   have h1 := hr.1
   unfold Rep at h1
   rw [h1, valsL_spec hw hr.2]
  ·cases h
def structEqB (P : Program) (t : TypeId) (us vs : List Value) : Bool := (match P.underlying t with | some (.struct _) => true | _ => false) && !P.stoodInHeld t && !P.eqGuardType P.depth t && eqOk P (P.fieldsOf t).toList 0 us vs
theorem struct_und {t : TypeId} {us vs : List Value} (h : structEqB P t us vs = true) : P.underlying t = some (.struct (P.fieldsOf t)) ∧ P.stoodInHeld t = false ∧ P.eqGuardType P.depth t = false ∧ eqOk P (P.fieldsOf t).toList 0 us vs = true := by
 simp only [structEqB, Bool.and_eq_true, Bool.not_eq_true'] at h
 obtain ⟨⟨⟨h1, h2⟩, h3⟩, h4⟩ := h
 refine ⟨?_, h2, h3, h4⟩
 cases hu : P.underlying t with
 | none => rw [hu] at h1; cases h1
 | some u =>
  rw [hu] at h1
  cases u <;> first | (cases h1; done) | skip
  simp only [Program.fieldsOf, hu]
section
variable {B : Nat → Nat → Prop} {o : Oper} {T : Nat → PV} {H : List Ob}
theorem does_struct_neq {t yt : TypeId} {x y : Operand} {xs ys : List PV} {us vs : List Value} (ho : o.op = .binOp .neq t x y yt) (hx : opv T x = .agg xs) (hy : opv T y = .agg ys) (h1 : valsL xs = some us) (h2 : valsL ys = some vs) (h : structEqB P t us vs = true) : Does P B o T H (.val (.bool (!eqVs us vs))) H :=
 does_pure fun σ w ac s k => by
  have k1 := k x (by simp [ho, Op.operands])
  have k2 := k y (by simp [ho, Op.operands])
  rw [hx] at k1
  rw [hy] at k2
  unfold Rep at k1 k2
  obtain ⟨ls, ha, k1⟩ := k1
  obtain ⟨ms, hb, k2⟩ := k2
  have e1 := valsL_spec h1 k1
  have e2 := valsL_spec h2 k2
  subst e1 e2
  obtain ⟨h3, h4, h5, h6⟩ := struct_und h
  refine ⟨_, ?_, rep_val _ _⟩
  have hg := run_eqGuard_agg (P := P) w .neq t x y ls.toArray ms.toArray h5
  have he := run_neq_struct (P := P) w t ls.toArray ms.toArray
  rw [run_equalIn_agg w 9999 t _ _ h3 h4, eqFields_run _ _ 9998 w _ 0 ls ms rfl rfl h6] at he
  simp only [execOp, ho, ha, hb, Sem.run_bind, hg, Result.andThen_ok, he, Sem.run_pure]
end
end
theorem nlo_iter {b m : Nat} {s : List UInt8} {l : List Ob} (k : NLo b l) : NLo b (.iter s m :: l) := k
section
variable {P : Program} {B : Nat → Nat → Prop} {o : Oper} {T : Nat → PV} {H : List Ob}
theorem set_iter {σ : Nat → Option Nat} {w : World} (s : Sim B H σ w) {i b : Nat} {l : List UInt8} {p q : Nat} (hi : H[i]? = some (.iter l p)) (hb : σ i = some b) (hv : w.heap[b]? = some (Obj.stringIter ⟨l.toArray⟩ p)) :
  Sim B (H.set i (.iter l q)) σ { w with heap := w.heap.setIfInBounds b (.stringIter ⟨l.toArray⟩ q) } ∧ Step B H σ w (H.set i (.iter l q)) σ { w with heap := w.heap.setIfInBounds b (.stringIter ⟨l.toArray⟩ q) } := by
 have hlen := lt_of_get hi
 have hbl := (Array.getElem?_eq_some_iff.1 hv).1
 have other : ∀ x, x ≠ b → (w.heap.setIfInBounds b (.stringIter ⟨l.toArray⟩ q))[x]? = w.heap[x]? := fun x hx => Array.getElem?_setIfInBounds_ne (Ne.symm hx)
 have same : (w.heap.setIfInBounds b (.stringIter ⟨l.toArray⟩ q))[b]? = some (.stringIter ⟨l.toArray⟩ q) := by simp [hbl]
 have get : ∀ j o, (H.set i (.iter l q))[j]? = some o → (j = i ∧ o = .iter l q) ∨ (j ≠ i ∧ H[j]? = some o) := fun j o h => get_set hlen h
 have own : ∀ x off, OwnWr σ (H.set i (.iter l q)) x off → OwnWr σ H x off := by
  rintro x off ⟨j, o, h1, h2, h3⟩
  rcases get j o h1 with ⟨rfl, rfl⟩ | ⟨_, h4⟩
  ·exact ⟨j, _, hi, h2, trivial⟩
  ·exact ⟨j, o, h4, h2, h3⟩
 have wr : ∀ off, OwnWr σ H b off := fun off => ⟨i, _, hi, hb, trivial⟩
 have le : (cx B H σ w).Le (cx B (H.set i (.iter l q)) σ { w with heap := w.heap.setIfInBounds b (.stringIter ⟨l.toArray⟩ q) }) := by
  refine ⟨by simp [cx], fun _ _ => rfl, fun x off u h1 h2 => ⟨?_, fun h => h1 (h.imp id (own x off))⟩, fun x e2 c2 h1 h2 => ⟨?_, fun h => h1 (h.imp id (own x 0))⟩, fun x cs t fr h1 => ⟨cs, ?_, rfl⟩⟩
  ·have hx : x ≠ b := fun hx => h1 (.inr (hx ▸ wr off))
   exact (World.cell?_of_block (w := w) (w' := { w with heap := w.heap.setIfInBounds b (.stringIter ⟨l.toArray⟩ q) }) (a := ⟨x, off, none⟩) (other x hx)).trans h2
  ·have hx : x ≠ b := fun hx => h1 (.inr (hx ▸ wr 0))
   exact (other x hx).trans h2
  ·have hx : x ≠ b := by rintro rfl; simp only [cx] at h1; rw [hv] at h1; cases h1
   exact (other x hx).trans h1
 refine ⟨⟨?_, ?_, fun x off h => by simpa using s.base x off h, ?_⟩, ⟨le, rfl, rfl, rfl, by simp, ?_, ?_⟩⟩
 ·intro j k x oj ok h1 h2 l1 l2 e1 e2
  rcases get j oj h1 with ⟨rfl, rfl⟩ | ⟨_, h3⟩ <;> rcases get k ok h2 with ⟨rfl, rfl⟩ | ⟨_, h4⟩
  ·rfl
  ·exact s.inj _ _ x _ _ hi h4 rfl l2 e1 e2
  ·exact s.inj _ _ x _ _ h3 hi l1 rfl e1 e2
  ·exact s.inj _ _ x _ _ h3 h4 l1 l2 e1 e2
 ·intro j x oj h1 l1 e1 off
  rcases get j oj h1 with ⟨rfl, rfl⟩ | ⟨_, h3⟩
  ·exact s.sep _ x _ hi rfl e1 off
  ·exact s.sep _ x _ h3 l1 e1 off
 ·intro j oj h1
  rcases get j oj h1 with ⟨rfl, rfl⟩ | ⟨hj, h3⟩
  ·exact ⟨b, hb, same⟩
  ·have k := s.holds j oj h3
   cases oj with
   | cells zs t =>
    obtain ⟨x, ws, fr', h5, h6, hf, h7⟩ := k
    have hx : x ≠ b := fun hx => hj (s.inj j i b _ _ h3 hi rfl rfl (hx ▸ h5) hb)
    exact ⟨x, ws, fr', h5, (other x hx).trans h6, hf, h7.mono le⟩
   | smap ks2 ms =>
    obtain ⟨x, e2, c2, h5, h6, h7, h8⟩ := k
    have hx : x ≠ b := fun hx => hj (s.inj j i b _ _ h3 hi rfl rfl (hx ▸ h5) hb)
    exact ⟨x, e2, c2, h5, (other x hx).trans h6, h7, RepL.mono le h8⟩
   | iter l2 p2 =>
    obtain ⟨x, h5, h6⟩ := k
    have hx : x ≠ b := fun hx => hj (s.inj j i b _ _ h3 hi rfl rfl (hx ▸ h5) hb)
    exact ⟨x, h5, (other x hx).trans h6⟩
   | free m =>
    intro x hx
    obtain ⟨cs, t, h5, h6⟩ := k x hx
    have hne : x ≠ b := fun h => hj (s.inj j i b _ _ h3 hi rfl rfl (h ▸ hx) hb)
    exact ⟨cs, t, (other x hne).trans h5, h6⟩
   | dead => trivial
 ·intro j oj x h1 h2 h3
  rcases get j oj h1 with ⟨rfl, rfl⟩ | ⟨_, h4⟩
  ·exact .inr ⟨_, _, hi, rfl, h3⟩
  ·exact .inr ⟨j, oj, h4, h2, h3⟩
 ·intro x hx hn
  exact other x (fun h => hn i _ hi rfl (h ▸ hb))
theorem does_rangeStr {t : TypeId} {d : TD} {x : Operand} {s : Str} (f : TyFacts P t d) (hd : d.sh = .str) (ho : o.op = .range t x) (hx : opv T x = str s) : Does P B o T H (.ptr H.length 0) (H ++ [.iter s 0]) := by
 intro σ w a sm h
 have k1 := h x (by simp [ho, Op.operands])
 rw [hx] at k1
 unfold str Rep at k1
 obtain ⟨s', st⟩ := grow_name sm (Grows.alloc w (.stringIter ⟨s.toArray⟩ 0)) (.iter s 0) (some w.heap.size) (fun b hb => by cases hb; exact Nat.le_refl _) ⟨w.heap.size, by simp only [cx]; rw [ext_new], by show (w.heap.push _)[w.heap.size]? = _; simp⟩
 refine ⟨.pointer (some ⟨w.heap.size, 0, none⟩), _, _, .inl ?_, ?_, s', st⟩
 ·simp only [execOp, ho, k1, Sem.run_bind, run_range_string w t _ (f.str hd), Result.andThen_ok, Sem.run_pure]; rfl
 ·unfold Rep; exact ⟨by simp [cx], w.heap.size, by simp only [cx]; rw [ext_new], rfl⟩
theorem does_next {x : Operand} {i : Nat} {s : Str} {pos : Nat} (ho : o.op = .next x true) (hx : opv T x = .ptr i 0) (hi : H[i]? = some (.iter s pos)) (hp : pos < s.length) (ha : (s.getD pos 0).toNat < 128) :
  Does P B o T H (.tup [.val (.bool true), .val (.int .i64 (pos : Int)), .val (.int .i32 ((s.getD pos 0).toNat : Int))]) (H.set i (.iter s (pos + 1))) := by
 intro σ w a sm h
 have k1 := h x (by simp [ho, Op.operands])
 rw [hx] at k1
 unfold Rep at k1
 obtain ⟨_, b, hb, hv⟩ := k1
 obtain ⟨b', hb', hg⟩ := sm.holds i _ hi
 simp only [cx] at hb hb' hg
 rw [hb] at hb'
 cases hb'
 obtain ⟨s', st⟩ := set_iter sm (q := pos + 1) hi hb hg
 have hsz : pos < (⟨s.toArray⟩ : ByteArray).size := by rw [str_size]; exact hp
 have hel : ((⟨s.toArray⟩ : ByteArray)[pos]'hsz) = s.getD pos 0 := by
  simp only [List.getD, List.getElem?_eq_getElem hp, Option.getD_some]
  rfl
 have hdec : Utf8.decode ⟨s.toArray⟩ pos = ((s.getD pos 0).toNat, 1) := by rw [decode_ascii _ pos hsz (by rw [hel]; exact ha), hel]
 refine ⟨.tuple #[.bool true, .int .i64 (pos : Int), .int .i32 ((s.getD pos 0).toNat : Int)], _, σ, .inl ?_, ?_, s', st⟩
 ·have hr : (Instr.next (a.eval x) true o.type).run P w = .ok (.tuple #[.bool true, .int .i64 (pos : Int), .int .i32 ((s.getD pos 0).toNat : Int)]) { w with heap := w.heap.setIfInBounds b (.stringIter ⟨s.toArray⟩ (pos + 1)) } := by
   rw [hv]
   have hbl := (Array.getElem?_eq_some_iff.1 hg).1
   simp only [Instr.next, getObj, setObj, Sem.run_bind, Sem.run, hg, Result.andThen, hsz, if_true, hdec]
   simp [goInt, Sem.run, hg, hbl]
  simp only [execOp, ho, Sem.run_bind, hr, Result.andThen_ok, Sem.run_pure]
 ·unfold Rep
  exact ⟨_, rfl, repL_cons.2 ⟨rep_val _ _, repL_cons.2 ⟨rep_val _ _, repL_cons.2 ⟨rep_val _ _, repL_nil.2 rfl⟩⟩⟩⟩
theorem does_next_end {x : Operand} {i : Nat} {s : Str} {pos : Nat} (ho : o.op = .next x true) (hx : opv T x = .ptr i 0) (hi : H[i]? = some (.iter s pos)) (hp : s.length ≤ pos) : Does P B o T H (.tup [.val (.bool false)]) H :=
 does_pure fun σ w a sm h => by
  have k1 := h x (by simp [ho, Op.operands])
  rw [hx] at k1
  unfold Rep at k1
  obtain ⟨_, b, hb, hv⟩ := k1
  obtain ⟨b', hb', hg⟩ := sm.holds i _ hi
  simp only [cx] at hb hb' hg
  rw [hb] at hb'
  cases hb'
  have hsz : ¬ pos < (⟨s.toArray⟩ : ByteArray).size := by rw [str_size]; omega
  refine ⟨.tuple #[.bool false], ?_, by unfold Rep; exact ⟨_, rfl, repL_cons.2 ⟨rep_val _ _, repL_nil.2 rfl⟩⟩⟩
  have hr : (Instr.next (a.eval x) true o.type).run P w = .ok (.tuple #[.bool false]) w := by
   rw [hv]
   simp [Instr.next, getObj, Sem.run, hg, hsz]
  simp only [execOp, ho, Sem.run_bind, hr, Result.andThen_ok, Sem.run_pure]
end
end Go.Proofs.YtphgdofmjpdhaaaGreat
namespace Go.Proofs.YtphgdofmjpdhaaaGreat
open Go.RowKit
set_option maxRecDepth 100000
abbrev PicL := List Int × Bool
def PicAt (w : World) (v : Value) (p : PicL) : Prop := ∃ sl, v = .agg #[sl, .bool p.2] ∧ BytesAt w sl p.1
theorem clone_at (w : World) (sl : Value) (xs : List Int) (h : BytesAt w sl xs) (hl : xs.length ≤ 140737488355328) :
  Calls Tryz.prog 240 #[sl] w fun e w' => ∃ v', e = .returned v' ∧ w'.ownsRow w.heap.size 5 1 v' xs.length (xs.map (Value.int .u8)) ∧ Below w.heap.size w w' := by
 obtain ⟨⟨hlen, a, cap, rfl, hn, hc, hx⟩, _⟩ := h
 match a with
 | none =>
  obtain ⟨h0, rfl⟩ := hn rfl
  refine (AnyE.slices_Clone_nil Tryz.lClone xs.length 0 w).mono ?_
  rintro e w' ⟨rfl, rfl⟩
  have hx0 : xs = [] := List.eq_nil_of_length_eq_zero h0
  subst hx0
  exact ⟨_, rfl, ⟨rfl, .inl ⟨rfl, rfl⟩⟩, Below.refl _ _⟩
 | some ad =>
  obtain ⟨i0, hi, hz0, hz1, hz2⟩ := info_parts info8
  have q22 : ∀ (w : World) (a : Option Addr) (n c n' c' : Nat), (binOp .eql 24 (.slice a n c) (.slice none n' c')).run Tryz.prog w = .ok (.bool a.isNone) w := fun w a n c n' c' => Lib.run_eql_slice_nil w _ _ a n c n' c' Tryz.underlying24
  have HX := Lib.hid (hx ad rfl)
  have HL := Lib.hid hlen
  clear hx hlen
  go_enter Tryz.func240, Tryz.ntmps240
  go_wp2_with (at_builtin; refine wpList_append_own _ rfl _ _ 24 rfl w.heap.size 5 i0 (.int .u8 0) 1 1 Tryz.underlying24 hi hz0 hz1 hz2 rfl (by decide) _ _ _ rfl (World.ownsRow_made w #[] 0 (Nat.le_refl _) (Nat.zero_le _) (by simp)) ad xs.length cap (xs.map (Value.int .u8)) rfl ?qc1 ?qc2 ?qc3 ?qc4 ?qc5 ?qc6 ?_)
  case qc1 => exact HL.out
  case qc2 => intro j u hj; exact Lib.cell?_alloc_some _ (HX.out j u hj)
  case qc3 => simp [Value.oneCell']
  case qc4 => unfold maxLen; omega
  case qc5 => omega
  case qc6 => simp
  intro v' w1 hown hgrow _
  go_wp2
  go_ret
  refine ⟨v', rfl, by simpa using hown, ?_⟩
  exact ((Below.refl _ w).alloc (Nat.le_refl _) _).grown hgrow (by simp) (by intro k hk; simp [Value.ownBlock] at hk; omega)
def endS (p : PicL) : List UInt8 × Int := if p.2 then ((p.1.map (fun n => UInt8.ofNat n.toNat)).reverse, 0) else ([], -17)
theorem end_text (xs : List Int) : strOfNums xs.reverse = ⟨((xs.map (fun n => UInt8.ofNat n.toNat)).reverse).toArray⟩ := by unfold strOfNums; rw [List.map_reverse]
theorem w_End (v : Value) (p : PicL) (w : World) (h : PicAt w v p) (hl : p.1.length ≤ 140737488355328) : Calls Tryz.prog 161 #[v] w fun e w' => e = .returned (.tuple #[.string ⟨(endS p).1.toArray⟩, .int .i64 (endS p).2]) ∧ Below w.heap.size w w' := by
 obtain ⟨sl, rfl, hs⟩ := h
 obtain ⟨xs, on⟩ := p
 have b0 := fun o => (Below.refl w.heap.size w).alloc (Nat.le_refl _) o
 cases on with
 | false =>
  go_enter Tryz.func161, Tryz.ntmps161
  go_wp2
  go_ret2
  exact ⟨rfl, b0 _⟩
 | true =>
  have hC := fun o => clone_at (w.alloc o) sl xs (bytesAt_below hs (b0 o)) hl
  have HC := Lib.hid hC
  have HL := Lib.hid hl
  clear hC hs hl
  go_enter Tryz.func161, Tryz.ntmps161
  go_wp2_with fail
  refine (HC.out _).mono ?_
  rintro e w1 ⟨v', rfl, hown, hb1⟩
  have c1 := (b0 _).trans (hb1.mono (b0 _).size)
  have hown1 := own_base hown (b0 _).size
  have HR := Lib.hid (rev_own w1 _ v' _ xs hown1 (Nat.le_trans HL.out (by omega)))
  clear hown hown1 hb1 b0
  go_wp2_with fail
  refine HR.out.mono ?_
  rintro e w2 ⟨rfl, hown2, hb2⟩
  have c2 := hb2 w c1
  have hcv := text_own hown2
  rw [end_text] at hcv
  clear hown2 hb2 c1 HR
  go_wp2
  go_ret2
  exact ⟨rfl, c2⟩
set_option maxHeartbeats 4000000
theorem rep_bytes {c : Cx} {l : List UInt8} {v : Value} (h : Rep c (sq cByte l) v) : BytesAt c.w v (l.map fun b => (b.toNat : Int)) := by
 unfold sq at h
 obtain ⟨ad, cap, vs, hv, hle, hnil, hrl, hlies, hk⟩ := rep_seq h
 have hvs : vs = (l.map fun b => (b.toNat : Int)).map (Value.int .u8) := by
  rw [cByte_map] at hrl
  have : ((l.map fun b => (b.toNat : Int)).map byteP) = ((l.map fun b => (b.toNat : Int)).map (Value.int .u8)).map PV.val := by simp only [List.map_map]; rfl
  rw [this] at hrl
  exact repL_vals hrl
 refine ⟨⟨by simp, ad, cap, by rw [hv]; simp, (fun h => by have := hnil h; exact ⟨by simpa using this.1, this.2.1⟩), by simpa using hle, fun b hb j u hj => ?_⟩, fun x hx => ?_⟩
 ·rw [← hvs] at hj
  have hL := (hlies b hb).resolve_right (by rintro ⟨_, h3⟩; rw [h3] at hj; simp at hj)
  rw [lies_addr hL, Addr.add_lit]
  exact (hL.2 j u hj).1
 ·obtain ⟨b, _, rfl⟩ := List.mem_map.1 hx
  have := b.toNat_lt
  omega
theorem pic_End (p : VPic) (hp : p.b.length ≤ 1000000) : PureC Tryz.prog 161 [ePic p] (tShow (picEnd p)) := by
 intro H B σ w vs s hr
 match vs, hr with
 | [], hr => unfold RepL at hr; obtain ⟨u, us, h1, _⟩ := hr; cases h1
 | v :: v2 :: vs, hr => rw [repL_cons] at hr; have := RepL.length hr.2; simp at this
 | [v], hr =>
 rw [repL_cons] at hr
 have h1 := hr.1
 unfold ePic Rep at h1
 obtain ⟨us, rfl, h2⟩ := h1
 match us, h2 with
 | [], h2 => unfold cPic RepL at h2; obtain ⟨u, us, h1, _⟩ := h2; cases h1
 | [a], h2 => have := RepL.length h2; simp [cPic] at this
 | a :: b :: d :: us, h2 => have := RepL.length h2; simp [cPic] at this
 | [a, b], h2 =>
 unfold cPic at h2
 rw [repL_cons, repL_cons] at h2
 have h3 := rep_bytes h2.1
 have h4 := h2.2.1
 unfold boo Rep at h4
 subst h4
 have hw := w_End (.agg #[a, .bool p.on]) (List.map (fun b : UInt8 => (b.toNat : Int)) p.b, p.on) w ⟨a, rfl, h3⟩ (by simp; omega)
 refine Calls.mono hw ?_
 rintro e w' ⟨rfl, hb⟩
 obtain ⟨s', st⟩ := grow_sim s (Grows.of_below hb)
 refine ⟨_, σ, rfl, ?_, s', st⟩
 have e1 : endS (List.map (fun b : UInt8 => (b.toNat : Int)) p.b, p.on) = picEnd p := by
  unfold endS picEnd
  cases p.on with
  | true => simp [List.map_map, Function.comp_def]
  | false => rfl
 rw [e1]
 unfold tShow tup2 Rep
 exact ⟨[_, _], rfl, repL_cons.2 ⟨by unfold str; exact rep_val _ _, repL_cons.2 ⟨by unfold i64; exact rep_val _ _, repL_nil.2 rfl⟩⟩⟩
theorem picHold_len {p : VPic} {c : Int} (h : (picHold p c).2 = 0) : (picHold p c).1.b.length = p.b.length + 1 ∧ p.b.length < 130 := by
 unfold picHold at h ⊢
 split at h
 ·rename_i hc; rw [if_pos hc]; simp [hc.2]
 ·cases h
theorem picDigit_len {q : VPic} {lo hi base : Int} (h : (picDigit q lo hi base).2.2.2 = 0) : (picDigit q lo hi base).1.b.length = q.b.length + 1 ∧ q.b.length < 130 := by
 unfold picDigit at h ⊢
 split at h
 ·cases h
 ·rename_i hb
  rw [if_neg hb]
  split at h
  ·rename_i h0
   rw [if_pos h0]
   exact picHold_len h0
  ·rename_i h0; exact absurd h h0
theorem picAllF_step (q : VPic) (lo hi base : Int) : picAllF q lo hi base = if (picDigit q lo hi base).2.2.2 ≠ 0 then (q, (picDigit q lo hi base).2.2.2) else if (picDigit q lo hi base).2.1 = 0 ∧ (picDigit q lo hi base).2.2.1 = 0 then ((picDigit q lo hi base).1, 0) else picAllF (picDigit q lo hi base).1 (picDigit q lo hi base).2.1 (picDigit q lo hi base).2.2.1 base := by
 by_cases h : (picDigit q lo hi base).2.2.2 = 0
 ·obtain ⟨h1, h2⟩ := picDigit_len h
  unfold picAllF
  rw [h1, show 131 - q.b.length = (131 - (q.b.length + 1)) + 1 by omega]
  rfl
 ·rw [if_pos h]
  unfold picAllF
  cases hn : 131 - q.b.length with
  | zero => rfl
  | succ n => unfold picAllN; rw [if_pos h]
def picZ : List PV := [.seq 0 [] .clip, .val (.bool false)]
@[simp] theorem nl_picZ {n : Nat} : NL1L n picZ := by unfold picZ; exact ⟨flat_clip0, flat_val (.bool false), trivial⟩
theorem pic_step (p q : VPic) (lo hi base : Int) (hq : q.b.length ≤ 1000000) :
  HC Tryz.prog 239 [.ptr 5 0, .ptr 1 0, .ptr 2 0, .ptr 3 0] [.cells (cPic p) 32, .cells [i64 lo] 3, .cells [i64 hi] 3, .cells [i64 base] 3, .cells picZ 32, .cells (cPic q) 32] (i64 (picDigit q lo hi base).2.2.2)
   [.cells (cPic p) 32, .cells [i64 (picDigit q lo hi base).2.1] 3, .cells [i64 (picDigit q lo hi base).2.2.1] 3, .cells [i64 base] 3, .cells picZ 32, .cells (cPic (picDigit q lo hi base).1) 32, .cells (cPic (picDigit q lo hi base).1) 32] := by
 refine hc_of_WR tG (rs := [.tmp 4]) Tryz.func239 rfl rfl rfl (fun B => ?_)
 refine zu1 ?_
 refine zp4 ?_
 refine Wc rfl rfl (dC rfl Tryz.func155 rfl rfl ((pic_Digit q lo hi base hq) _)) ?_
 refine zy5 ?_
 refine zs5 ?_
 refine zp5 ?_
 refine zs1 ?_
 refine zu2 ?_
 refine Wq ?_
 refine leafH rfl ?_ ?_
 ·rfl
 ·rfl
theorem pic_All (p : VPic) (lo hi base : Int) (hp : p.b.length ≤ 1000000) : PureC Tryz.prog 157 [ePic p, i64 lo, i64 hi, i64 base] (tPic (picAll p lo hi base)) := by
 refine pW tG (rs := [.cell 8 32, .tmp 9]) Tryz.func157 rfl rfl rfl (by simp) (by simp) (fun B => ?_)
 refine zp5 ?_
 refine zs1 ?_
 refine zu3 ?_
 refine zu2 ?_
 refine Wl ?_
 show W _ _ _ _ _ _ _
 refine W_loopS (fun (v : VPic × Int × Int) => [(4, .ptr 0 0), (5, .ptr 1 0), (6, .ptr 2 0), (8, .ptr 4 0), (10, .ptr 5 0), (11, .fn (.func 239) [] [.ptr 5 0, .ptr 1 0, .ptr 2 0, .ptr 3 0])]) (fun (v : VPic × Int × Int) => [.cells (cPic p) 32, .cells [i64 v.2.1] 3, .cells [i64 v.2.2] 3, .cells [i64 base] 3, .cells picZ 32, .cells (cPic v.1) 32]) (fun (v : VPic × Int × Int) => []) (fun (v : VPic × Int × Int) => v.1.b.length ≤ 1000000 ∧ picAll p lo hi base = finP p (picAllF v.1 v.2.1 v.2.2 base)) (fun (v : VPic × Int × Int) => 131 - v.1.b.length) ((p, lo, hi)) (by exact ⟨hp, rfl⟩) [] ?_ ?_
 ·exact fitT
 ·intro v hv
  refine Wl ?_
  refine Ws ?_
  refine zp1 ?_
  refine Wc rfl rfl (doesCWv rfl rfl Tryz.func239 rfl rfl (pic_step p v.1 v.2.1 v.2.2 base hv.1)) ?_
  refine zs1 ?_
  refine zu2 ?_
  refine Wi rfl (fun hi1 => ?_) (fun hi1 => ?_)
  ·have h0 : (picDigit v.1 v.2.1 v.2.2 base).2.2.2 ≠ 0 := by simpa using hi1
   refine zu4 ?_
   refine zR ?_
   rw [hv.2, picAllF_step, if_pos h0, finP, if_neg h0]; rfl
  ·have h0 : (picDigit v.1 v.2.1 v.2.2 base).2.2.2 = 0 := by simpa using hi1
   have hl := picDigit_len h0
   refine Wj ?_
   refine zp3 ?_
   refine Wb 23 rfl (fun hg1 => ?_) (fun hg1 => ?_)
   ·have h1 : (picDigit v.1 v.2.1 v.2.2 base).2.1 = 0 := by simpa using hg1
    refine zs3 ?_
    refine Wi rfl (fun hi2 => ?_) (fun hi2 => ?_)
    ·have h2 : (picDigit v.1 v.2.1 v.2.2 base).2.1 = 0 ∧ (picDigit v.1 v.2.1 v.2.2 base).2.2.1 = 0 := by (try simp only [dnL] at *); exact ⟨h1, hi2⟩
     refine zu3 ?_
     refine zR ?_
     rw [hv.2, picAllF_step, if_neg (by rw [h0]; simp), if_pos h2, finP, if_pos rfl]; rfl
    ·have h2 : ¬ ((picDigit v.1 v.2.1 v.2.2 base).2.1 = 0 ∧ (picDigit v.1 v.2.1 v.2.2 base).2.2.1 = 0) := by rintro ⟨q1, q2⟩; (try simp only [dnL] at *); exact hi2 q2
     refine Wj ?_
     exact ⟨((picDigit v.1 v.2.1 v.2.2 base).1, (picDigit v.1 v.2.1 v.2.2 base).2.1, (picDigit v.1 v.2.1 v.2.2 base).2.2.1), [], (by exact ⟨by show (picDigit v.1 v.2.1 v.2.2 base).1.b.length ≤ _; omega, by rw [hv.2, picAllF_step, if_neg (by rw [h0]; simp), if_neg (by exact h2)]⟩), (by show 131 - (picDigit v.1 v.2.1 v.2.2 base).1.b.length < _; omega), fitT⟩
   ·have h1 : ¬ (picDigit v.1 v.2.1 v.2.2 base).2.1 = 0 := by simpa using hg1
    iterate 2 refine z6 ?_
    refine zs1 ?_
    refine Wf rfl rfl ?_
    refine Wj ?_
    exact ⟨((picDigit v.1 v.2.1 v.2.2 base).1, (picDigit v.1 v.2.1 v.2.2 base).2.1, (picDigit v.1 v.2.1 v.2.2 base).2.2.1), [], (by exact ⟨by show (picDigit v.1 v.2.1 v.2.2 base).1.b.length ≤ _; omega, by rw [hv.2, picAllF_step, if_neg (by rw [h0]; simp), if_neg (by (rintro ⟨q1, q2⟩; exact h1 q1))]⟩), (by show 131 - (picDigit v.1 v.2.1 v.2.2 base).1.b.length < _; omega), fitT⟩
end Go.Proofs.YtphgdofmjpdhaaaGreat
namespace Go.Proofs.YtphgdofmjpdhaaaGreat
open Go.RowKit
set_option maxRecDepth 100000
set_option maxHeartbeats 4000000
@[simp] theorem flat_fn {f : Fn} {a b : List PV} : Flat (.fn f a b) ↔ FlatL a ∧ FlatL b := by rw [Flat]
@[simp] theorem flat_row {a : List PV} : Flat (.row a) ↔ FlatL a := by rw [Flat]
abbrev fnP (g : FuncId) (cap : List PV) : PV := .fn (.func g) [] cap
abbrev deedP (k : Int) (f : FuncId) (cap : List PV) : PV := .agg [i64 k, fnP f cap]
abbrev CallP (g : FuncId) (args : List PV) (res : PV) : Prop := ∀ H, Callable Tryz.prog g args H res H
theorem prim_told (l : List Int) : PureC Tryz.prog 55 [sq cInt l] (tLv (l, 0)) := by
 refine pW tG (rs := [.tmp 2, .tmp 3]) Tryz.func55 rfl rfl rfl (by simp) (by simp) (fun B => ?_)
 refine zu2 ?_
 refine zu3 ?_
 refine zR ?_
 rfl
theorem prim_flag (b : Bool) : PureC Tryz.prog 101 [boo b] (i64 (flagS b)) := by
 refine pW tG (rs := [.tmp 2]) Tryz.func101 rfl rfl rfl (by simp) (by simp) (fun B => ?_)
 refine zu1 ?_
 refine Ws ?_
 refine zu1 ?_
 refine Wi rfl (fun hi1 => ?_) (fun hi1 => ?_)
 ·refine zu1 ?_
  refine zR ?_
  rw [hi1]; rfl
 ·refine Wj ?_
  refine zu1 ?_
  refine zR ?_
  rw [hi1]; rfl
theorem mk_pure (k : Int) (g : FuncId) (cap : List PV) (hc : FlatL cap) : PureC Tryz.prog 50 [i64 k, fnP g cap] (deedP k 80 [.row [fnP g cap]]) := by
 refine pW tG (rs := [.cell 4 75]) Tryz.func50 rfl rfl rfl (by simp [hc]) (by simp [hc]) (fun B => ?_)
 refine zp1 ?_
 refine WO_freezeP 3 _ rfl rfl rfl ?_
 refine zs1 ?_
 refine zu4 ?_
 refine zR ?_
 rfl
theorem d_pure (g : FuncId) (cap : List PV) (v : VVm) (x : List Int) (r : List Int × Int) (hc : FlatL cap) (hg : CallP g ([sq cInt x] ++ cap) (tLv r)) :
  ∀ (H : List Ob) (i : Nat), H[i]? = some (.cells (cVm v) 36) → HC Tryz.prog 80 (.ptr i 0 :: [sq cInt x, .row [fnP g cap]]) H (tLv r) (H.set i (.cells (cVm v) 36)) := by
 refine mut_of_W tG (rs := [.tmp 5, .tmp 6]) Tryz.func80 rfl rfl rfl (by simp [hc]) (by simp [hc]) (by simp [hc]) (by simp [hc]) (fun B => ?_)
 refine zu2 ?_
 refine zp2 ?_
 refine Wc rfl rfl (doesCWs rfl rfl (hg _)) ?_
 refine zs4 ?_
 refine Wq ?_
 refine leafM rfl rfl ?_ ?_
 ·rfl
 ·rfl
theorem mk_shown (g : FuncId) (cap : List PV) (hc : FlatL cap) : PureC Tryz.prog 124 [fnP g cap] (deedP 0 223 [.row [fnP g cap]]) := by
 refine pW tG (rs := [.cell 2 75]) Tryz.func124 rfl rfl rfl (by simp [hc]) (by simp [hc]) (fun B => ?_)
 refine zp1 ?_
 refine WO_freezeP 1 _ rfl rfl rfl ?_
 refine zs1 ?_
 refine zu3 ?_
 refine zR ?_
 rfl
theorem d_shown (g : FuncId) (cap : List PV) (v : VVm) (x : List Int) (n : Int) (hc : FlatL cap) (hg : CallP g ([eVm v] ++ cap) (i64 n)) :
  ∀ (H : List Ob) (i : Nat), H[i]? = some (.cells (cVm v) 36) → HC Tryz.prog 223 (.ptr i 0 :: [sq cInt x, .row [fnP g cap]]) H (tLv ([n], 0)) (H.set i (.cells (cVm v) 36)) := by
 refine mut_of_W tG (rs := [.tmp 5, .tmp 6]) Tryz.func223 rfl rfl rfl (by simp [hc]) (by simp [hc]) (by simp [hc]) (by simp [hc]) (fun B => ?_)
 refine zu2 ?_
 refine Ws ?_
 refine W_drawU [1, 0, 0, 1, 0, 0, 0, 0, 0, 0, 0] [0, 1, 2, 3, 4, 5, 6, 7, 8, 9, 10] mG rfl (by kernel_rfl) ?_
 refine z5 ?_
 iterate 2 refine z3 ?_
 refine z5 ?_
 refine Xc rfl rfl rfl rfl (fun _ => doesCWs rfl rfl (hg _)) ?_
 refine z3 ?_
 refine Xa 12 rfl (bsL cInt [_] rfl rfl) ?_
 refine Xc rfl rfl rfl rfl (fun _ => dC rfl Tryz.func55 rfl rfl ((prim_told [n]) _)) ?_
 iterate 4 refine z3 ?_
 refine WU_nil ?_
 refine Wq ?_
 refine leafM rfl rfl ?_ ?_
 ·rfl
 ·rfl
theorem mk_fetches (g : FuncId) (cap : List PV) (hc : FlatL cap) : PureC Tryz.prog 104 [fnP g cap] (deedP 1 216 [.row [fnP g cap]]) := by
 refine pW tG (rs := [.cell 2 75]) Tryz.func104 rfl rfl rfl (by simp [hc]) (by simp [hc]) (fun B => ?_)
 refine zp1 ?_
 refine WO_freezeP 1 _ rfl rfl rfl ?_
 refine zs1 ?_
 refine zu3 ?_
 refine zR ?_
 rfl
theorem d_fetches (g : FuncId) (cap : List PV) (v : VVm) (x : List Int) (r : Int × Int) (hx : 1 ≤ x.length) (hc : FlatL cap) (hg : CallP g ([eMem v.mem, i64 (xat x 0)] ++ cap) (tFetch r)) :
  ∀ (H : List Ob) (i : Nat), H[i]? = some (.cells (cVm v) 36) → HC Tryz.prog 216 (.ptr i 0 :: [sq cInt x, .row [fnP g cap]]) H (tLv ([r.1], r.2)) (H.set i (.cells (cVm v) 36)) := by
 refine mut_of_W tG (rs := [.tmp 5, .tmp 6]) Tryz.func216 rfl rfl rfl (by simp [hc]) (by simp [hc]) (by simp [hc]) (by simp [hc]) (fun B => ?_)
 refine zu2 ?_
 refine Ws ?_
 refine W_drawU [1, 0, 0, 0, 1, 0, 0, 1, 0, 0, 0, 0, 0, 0] [0, 1, 2, 3, 4, 5, 6, 7, 8, 9, 10, 11, 12, 13] mG rfl (by kernel_rfl) ?_
 refine z5 ?_
 iterate 3 refine z3 ?_
 refine z5 ?_
 refine z3 ?_
 refine Xi tG rfl rfl rfl rfl (fun _ => rfl) (by omega) (iN cInt 1 (fun _ => rfl) 0 (by (simp only [dnL] at *; omega))) ?_
 refine z5 ?_
 refine Xc rfl rfl rfl rfl (fun _ => doesCWs rfl rfl (hg _)) ?_
 iterate 5 refine z3 ?_
 refine WU_nil ?_
 refine zp2 ?_
 refine Wa 22 rfl (bsL cInt [_] rfl rfl) ?_
 refine zs3 ?_
 refine Wq ?_
 refine leafM rfl rfl ?_ ?_
 ·rfl
 ·rfl
theorem mk_changes (k : Int) (g : FuncId) (cap : List PV) (hc : FlatL cap) : PureC Tryz.prog 107 [i64 k, fnP g cap] (deedP k 220 [.row [fnP g cap]]) := by
 refine pW tG (rs := [.cell 4 75]) Tryz.func107 rfl rfl rfl (by simp [hc]) (by simp [hc]) (fun B => ?_)
 refine zp1 ?_
 refine WO_freezeP 3 _ rfl rfl rfl ?_
 refine zs1 ?_
 refine zu4 ?_
 refine zR ?_
 rfl
theorem d_changes (g : FuncId) (cap : List PV) (v : VVm) (x : List Int) (r : VMem × Int) (hc : FlatL cap) (hg : CallP g ([eMem v.mem, sq cInt x] ++ cap) (tMem r)) :
  ∀ (H : List Ob) (i : Nat), H[i]? = some (.cells (cVm v) 36) → HC Tryz.prog 220 (.ptr i 0 :: [sq cInt x, .row [fnP g cap]]) H (tLv ([], r.2)) (H.set i (.cells (cVm (withM v r.1)) 36)) := by
 refine mut_of_W tG (rs := [.tmp 5, .tmp 6]) Tryz.func220 rfl rfl rfl (by simp [hc]) (by simp [hc]) (by simp [hc]) (by simp [hc]) (fun B => ?_)
 refine zu2 ?_
 refine Ws ?_
 refine W_drawU [1, 0, 0, 0, 1, 0, 0, 0, 0, 0, 2, 3, 0] [0, 1, 2, 3, 4, 5, 6, 7, 8, 9, 10, 11, 12] mG rfl (by kernel_rfl) ?_
 refine z5 ?_
 iterate 3 refine z3 ?_
 refine z5 ?_
 refine z3 ?_
 refine Xc rfl rfl rfl rfl (fun _ => doesCWs rfl rfl (hg _)) ?_
 iterate 3 refine z3 ?_
 refine WU_ev2 tG rfl rfl rfl rfl rfl trivial rfl ?_
 refine WU_ev3 tG rfl rfl rfl rfl rfl trivial ?_
 refine z3 ?_
 refine WU_nil ?_
 refine zu5 ?_
 refine zu3 ?_
 refine Wq ?_
 refine leafM rfl rfl ?_ ?_
 ·rfl
 ·rfl
theorem mk_lays (k : Int) (g : FuncId) (cap : List PV) (hc : FlatL cap) : PureC Tryz.prog 127 [i64 k, fnP g cap] (deedP k 224 [.row [fnP g cap]]) := by
 refine pW tG (rs := [.cell 4 75]) Tryz.func127 rfl rfl rfl (by simp [hc]) (by simp [hc]) (fun B => ?_)
 refine zp1 ?_
 refine WO_freezeP 3 _ rfl rfl rfl ?_
 refine zs1 ?_
 refine zu4 ?_
 refine zR ?_
 rfl
theorem d_lays (g : FuncId) (cap : List PV) (v : VVm) (x : List Int) (r : VMem × Int × Int) (hc : FlatL cap) (hg : CallP g ([eMem v.mem, i64 v.here, sq cInt x] ++ cap) (tLay r)) :
  ∀ (H : List Ob) (i : Nat), H[i]? = some (.cells (cVm v) 36) → HC Tryz.prog 224 (.ptr i 0 :: [sq cInt x, .row [fnP g cap]]) H (tLv ([], r.2.2)) (H.set i (.cells (cVm (pLay v r).1) 36)) := by
 refine mut_of_W tG (rs := [.tmp 5, .tmp 6]) Tryz.func224 rfl rfl rfl (by simp [hc]) (by simp [hc]) (by simp [hc]) (by simp [hc]) (fun B => ?_)
 refine zu2 ?_
 refine Ws ?_
 refine W_drawU [1, 0, 0, 0, 1, 0, 0, 0, 1, 0, 0, 0, 0, 0, 0, 2, 3, 0, 0] [0, 1, 2, 3, 4, 5, 6, 7, 8, 9, 10, 11, 12, 13, 14, 15, 16, 17, 18] mG rfl (by kernel_rfl) ?_
 refine z5 ?_
 iterate 3 refine z3 ?_
 refine z5 ?_
 iterate 3 refine z3 ?_
 refine z5 ?_
 refine z3 ?_
 refine Xc rfl rfl rfl rfl (fun _ => doesCWs rfl rfl (hg _)) ?_
 iterate 4 refine z3 ?_
 refine WU_ev2 tG rfl rfl rfl rfl rfl trivial rfl ?_
 refine WU_ev3 tG rfl rfl rfl rfl rfl trivial ?_
 iterate 2 refine z3 ?_
 refine WU_nil ?_
 refine zp5 ?_
 refine zs5 ?_
 refine zu3 ?_
 refine Wq ?_
 refine leafM rfl rfl ?_ ?_
 ·rfl
 ·rfl
theorem mk_puts (k : Int) (g : FuncId) (cap : List PV) (hc : FlatL cap) : PureC Tryz.prog 138 [i64 k, fnP g cap] (deedP k 227 [.row [fnP g cap]]) := by
 refine pW tG (rs := [.cell 4 75]) Tryz.func138 rfl rfl rfl (by simp [hc]) (by simp [hc]) (fun B => ?_)
 refine zp1 ?_
 refine WO_freezeP 3 _ rfl rfl rfl ?_
 refine zs1 ?_
 refine zu4 ?_
 refine zR ?_
 rfl
theorem d_puts (g : FuncId) (cap : List PV) (v : VVm) (x : List Int) (r : Str × Int) (ho : 0 ≤ v.conf.out ∧ v.conf.out ≤ 1000000) (hl : v.out.length ≤ 1000000) (hr : r.1.length ≤ 140737488355328) (hc : FlatL cap) (hg : CallP g ([eVm v, sq cInt x] ++ cap) (tShow r)) :
  ∀ (H : List Ob) (i : Nat), H[i]? = some (.cells (cVm v) 36) → HC Tryz.prog 227 (.ptr i 0 :: [sq cInt x, .row [fnP g cap]]) H (tLv (pPrint v r).2) (H.set i (.cells (cVm (pPrint v r).1) 36)) := by
 refine mut_of_W tG (rs := [.tmp 5, .tmp 6]) Tryz.func227 rfl rfl rfl (by simp [hc]) (by simp [hc]) (by simp [hc]) (by simp [hc]) (fun B => ?_)
 refine zu2 ?_
 refine Ws ?_
 refine W_drawU [1, 0, 0, 1, 0, 0, 0, 0, 0, 0, 0] [0, 1, 2, 3, 4, 5, 6, 7, 8, 9, 10] mG rfl (by kernel_rfl) ?_
 refine z5 ?_
 iterate 2 refine z3 ?_
 refine z5 ?_
 refine z3 ?_
 refine Xc rfl rfl rfl rfl (fun _ => doesCWs rfl rfl (hg _)) ?_
 iterate 5 refine z3 ?_
 refine WU_nil ?_
 refine Ws ?_
 refine zu2 ?_
 refine Wi rfl (fun hi1 => ?_) (fun hi1 => ?_)
 ·have h0 : ¬ r.2 = 0 := by simpa using hi1
  refine zu3 ?_
  refine Wq ?_
  refine leafM rfl rfl ?_ ?_
  ·rw [pPrint, if_neg h0]; rfl
  ·rw [pPrint, if_neg h0]; rfl
 ·have h0 : r.2 = 0 := by simpa using hi1
  refine Wj ?_
  refine zp4 ?_
  refine Wc rfl rfl (dC rfl Tryz.func228 rfl rfl ((vm_Print v r.1 ho hl hr) _)) ?_
  refine zy5 ?_
  refine zs1 ?_
  refine zu4 ?_
  refine zu3 ?_
  refine Wq ?_
  refine leafM rfl rfl ?_ ?_
  ·rw [pPrint, if_pos h0]; rfl
  ·rw [pPrint, if_pos h0]; rfl
theorem prim_base (v : VVm) (hm : v.mem.b.length ≤ 140737488355328) : PureC Tryz.prog 140 [eVm v] (i64 (baseS v)) := by
 refine pW tG (rs := [.tmp 2]) Tryz.func140 rfl rfl rfl (by simp) (by simp) (fun B => ?_)
 refine zu2 ?_
 refine zp2 ?_
 refine Wc rfl rfl (dC rfl Tryz.func105 rfl rfl ((mem_Fetch v.mem 0 hm (by unfold Fit64; omega)) _)) ?_
 refine zs5 ?_
 refine zu2 ?_
 refine zR ?_
 rfl
theorem mk_number (g : FuncId) (cap : List PV) (hc : FlatL cap) : PureC Tryz.prog 137 [fnP g cap] (deedP 1 227 [.row [fnP 139 [.row [fnP g cap]]]]) := by
 refine pW tG (rs := [.cell 2 75]) Tryz.func137 rfl rfl rfl (by simp [hc]) (by simp [hc]) (fun B => ?_)
 refine zp1 ?_
 refine WO_freezeP 1 _ rfl rfl rfl ?_
 refine zs1 ?_
 refine zp1 ?_
 refine Wc rfl rfl (dC rfl Tryz.func138 rfl rfl ((mk_puts 1 139 [.row [fnP g cap]] (by simp [hc])) _)) ?_
 refine zs1 ?_
 refine zR ?_
 rfl
theorem d_number (g : FuncId) (cap : List PV) (v : VVm) (x : List Int) (r : Str × Int) (hx : 1 ≤ x.length) (hm : v.mem.b.length ≤ 140737488355328) (hr : r.1.length ≤ 140737488355328) (hc : FlatL cap) (hg : CallP g ([i64 (xat x 0), i64 (baseS v)] ++ cap) (tShow r)) :
  PureC Tryz.prog 139 [eVm v, sq cInt x, .row [fnP g cap]] (tShow (pDot r)) := by
 refine pW tG (rs := [.tmp 5, .tmp 6]) Tryz.func139 rfl rfl rfl (by simp [hc]) (by simp [hc]) (fun B => ?_)
 refine zu3 ?_
 refine Ws ?_
 refine W_drawU [1, 0, 0, 1, 1, 0, 0, 0, 0, 0, 0, 0] [0, 1, 2, 3, 4, 5, 6, 7, 8, 9, 10, 11] mG rfl (by kernel_rfl) ?_
 refine z5 ?_
 refine z3 ?_
 refine Xi tG rfl rfl rfl rfl (fun _ => rfl) (by omega) (iN cInt 1 (fun _ => rfl) 0 (by (simp only [dnL] at *; omega))) ?_
 iterate 2 refine z5 ?_
 refine Xc rfl rfl rfl rfl (fun _ => dC rfl Tryz.func140 rfl rfl ((prim_base v hm) _)) ?_
 refine Xc rfl rfl rfl rfl (fun _ => doesCWs rfl rfl (hg _)) ?_
 iterate 5 refine z3 ?_
 refine WU_nil ?_
 refine zp1 ?_
 refine z2 ?_ (q := (by simp only [str_size]; ((simp_all; omega))))
 refine Wa 20 rfl (str_append _ _) ?_
 refine zs3 ?_
 refine zR ?_
 rfl
theorem mk_text (s : Str) : PureC Tryz.prog 141 [str s] (deedP 0 227 [.row [fnP 142 [.row [str s]]]]) := by
 refine pW tG (rs := [.cell 2 75]) Tryz.func141 rfl rfl rfl (by simp) (by simp) (fun B => ?_)
 refine zp1 ?_
 refine WO_freezeP 1 _ rfl rfl rfl ?_
 refine zs1 ?_
 refine zp1 ?_
 refine Wc rfl rfl (dC rfl Tryz.func138 rfl rfl ((mk_puts 0 142 [.row [str s]] (by simp)) _)) ?_
 refine zs1 ?_
 refine zR ?_
 rfl
theorem d_text (s : Str) (v : VVm) (x : List Int) : PureC Tryz.prog 142 [eVm v, sq cInt x, .row [str s]] (tShow (s, 0)) := by
 refine pW tG (rs := [.tmp 5, .tmp 6]) Tryz.func142 rfl rfl rfl (by simp) (by simp) (fun B => ?_)
 refine zu3 ?_
 refine zu3 ?_
 refine zR ?_
 rfl
theorem mk_lay (g : FuncId) (cap : List PV) (hc : FlatL cap) : PureC Tryz.prog 150 [fnP g cap] (deedP 1 151 [.row [fnP g cap]]) := by
 refine pW tG (rs := [.cell 2 75]) Tryz.func150 rfl rfl rfl (by simp [hc]) (by simp [hc]) (fun B => ?_)
 refine zp1 ?_
 refine WO_freezeP 1 _ rfl rfl rfl ?_
 refine zs1 ?_
 refine zu3 ?_
 refine zR ?_
 rfl
theorem d_lay (g : FuncId) (cap : List PV) (v : VVm) (x : List Int) (r : VPic × Int) (hx : 1 ≤ x.length) (hc : FlatL cap) (hg : CallP g ([ePic v.pic, i64 (xat x 0)] ++ cap) (tPic r)) :
  ∀ (H : List Ob) (i : Nat), H[i]? = some (.cells (cVm v) 36) → HC Tryz.prog 151 (.ptr i 0 :: [sq cInt x, .row [fnP g cap]]) H (tLv ([], r.2)) (H.set i (.cells (cVm (withP v r.1)) 36)) := by
 refine mut_of_W tG (rs := [.tmp 5, .tmp 6]) Tryz.func151 rfl rfl rfl (by simp [hc]) (by simp [hc]) (by simp [hc]) (by simp [hc]) (fun B => ?_)
 refine zu2 ?_
 refine Ws ?_
 refine W_drawU [1, 0, 0, 0, 1, 0, 0, 1, 0, 0, 0, 0, 2, 3, 0] [0, 1, 2, 3, 4, 5, 6, 7, 8, 9, 10, 11, 12, 13, 14] mG rfl (by kernel_rfl) ?_
 refine z5 ?_
 iterate 3 refine z3 ?_
 refine z5 ?_
 refine z3 ?_
 refine Xi tG rfl rfl rfl rfl (fun _ => rfl) (by omega) (iN cInt 1 (fun _ => rfl) 0 (by (simp only [dnL] at *; omega))) ?_
 refine z5 ?_
 refine Xc rfl rfl rfl rfl (fun _ => doesCWs rfl rfl (hg _)) ?_
 iterate 3 refine z3 ?_
 refine WU_ev2 tG rfl rfl rfl rfl rfl trivial rfl ?_
 refine WU_ev3 tG rfl rfl rfl rfl rfl trivial ?_
 refine z3 ?_
 refine WU_nil ?_
 refine zu5 ?_
 refine zu3 ?_
 refine Wq ?_
 refine leafM rfl rfl ?_ ?_
 ·rfl
 ·rfl
theorem prim_store (v : VVm) (a n : Int) (hm : MemOk v.mem) (ha : Fit64 a) : ∀ (H : List Ob) (i : Nat), H[i]? = some (.cells (cVm v) 36) → HC Tryz.prog 122 (.ptr i 0 :: [i64 a, i64 n]) H (i64 (memStore v.mem a n).2) (H.set i (.cells (cVm (withM v (memStore v.mem a n).1)) 36)) := by
 refine mut_of_W tG (rs := [.tmp 6]) Tryz.func122 rfl rfl rfl (by simp) (by simp) (by simp) (by simp) (fun B => ?_)
 refine zu1 ?_
 refine zp5 ?_
 refine z1 ?_
 refine Wc rfl rfl (dC rfl Tryz.func109 rfl rfl ((mem_Store v.mem a n hm ha) _)) ?_
 refine zy5 ?_
 refine zs1 ?_
 refine zu5 ?_
 refine zu2 ?_
 refine Wq ?_
 refine leafM rfl rfl ?_ ?_
 ·rfl
 ·rfl
theorem mk_base (n : Int) : PureC Tryz.prog 120 [i64 n] (deedP 0 121 [.row [i64 n]]) := by
 refine pW tG (rs := [.cell 2 75]) Tryz.func120 rfl rfl rfl (by simp) (by simp) (fun B => ?_)
 refine zp1 ?_
 refine WO_freezeP 1 _ rfl rfl rfl ?_
 refine zs1 ?_
 refine zu3 ?_
 refine zR ?_
 rfl
theorem d_base (v : VVm) (x : List Int) (n : Int) (hm : MemOk v.mem) : ∀ (H : List Ob) (i : Nat), H[i]? = some (.cells (cVm v) 36) → HC Tryz.prog 121 (.ptr i 0 :: [sq cInt x, .row [i64 n]]) H (tLv (pPut v (memStore v.mem 0 n)).2) (H.set i (.cells (cVm (pPut v (memStore v.mem 0 n)).1) 36)) := by
 refine mut_of_W tG (rs := [.tmp 5, .tmp 6]) Tryz.func121 rfl rfl rfl (by simp) (by simp) (by simp) (by simp) (fun B => ?_)
 refine zu2 ?_
 refine zp2 ?_
 refine Wc rfl rfl (dC rfl Tryz.func122 rfl rfl ((prim_store v 0 n hm (by unfold Fit64; omega)) _ _ rfl)) ?_
 refine zs2 ?_
 refine Wq ?_
 refine leafM rfl rfl ?_ ?_
 ·rfl
 ·rfl
theorem mk_always (n : Int) : PureC Tryz.prog 123 [i64 n] (deedP 0 223 [.row [fnP 125 [.row [i64 n]]]]) := by
 refine pW tG (rs := [.cell 2 75]) Tryz.func123 rfl rfl rfl (by simp) (by simp) (fun B => ?_)
 refine zp1 ?_
 refine WO_freezeP 1 _ rfl rfl rfl ?_
 refine zs1 ?_
 refine zp1 ?_
 refine Wc rfl rfl (dC rfl Tryz.func124 rfl rfl ((mk_shown 125 [.row [i64 n]] (by simp)) _)) ?_
 refine zs1 ?_
 refine zR ?_
 rfl
theorem d_always (v : VVm) (n : Int) : PureC Tryz.prog 125 [eVm v, .row [i64 n]] (i64 n) := by
 refine pW tG (rs := [.tmp 3]) Tryz.func125 rfl rfl rfl (by simp) (by simp) (fun B => ?_)
 refine zu2 ?_
 refine zu2 ?_
 refine zR ?_
 rfl
theorem prim_stated (v : VVm) (s b : Int) (hm : v.mem.b.length ≤ 140737488355328) (hs : Fit64 s) : ∀ (H : List Ob) (i : Nat), H[i]? = some (.cells (cVm v) 36) → HC Tryz.prog 171 (.ptr i 0 :: [i64 s, i64 b]) H (i64 (stated v s b)) (H.set i (.cells (cVm v) 36)) := by
 have hb : Fit64 (W64 (b + 8)) := by unfold Fit64 W64; rw [i64w]; unfold wrap64; omega
 refine mut_of_W tG (rs := [.tmp 6]) Tryz.func171 rfl rfl rfl (by simp) (by simp) (by simp) (by simp) (fun B => ?_)
 refine zu1 ?_
 refine zp5 ?_
 refine z1 ?_
 refine Wc rfl rfl (dC rfl Tryz.func105 rfl rfl ((mem_Fetch v.mem _ hm hb) _)) ?_
 refine zs5 ?_
 refine Ws ?_
 refine zp3 ?_
 refine Wb 21 rfl (fun hg1 => ?_) (fun hg1 => ?_)
 ·have h0 : (memFetch v.mem (W64 (b + 8))).2 = 0 := by simpa using hg1
  refine zy3 ?_
  refine Wb 24 rfl (fun hg2 => ?_) (fun hg2 => ?_)
  ·have h1 : s < 0 := by simpa using hg2
   iterate 3 refine z6 ?_
   refine zs2 ?_
   refine Wt rfl rfl ?_
   refine zu1 ?_
   refine Wq ?_
   refine leafM rfl rfl ?_ ?_
   ·rw [stated, if_pos h0, if_pos (.inl h1)]; rfl
   ·rfl
  ·have h1 : ¬ s < 0 := by simpa using hg2
   refine zs5 ?_
   refine Wi rfl (fun hi1 => ?_) (fun hi1 => ?_)
   ·have h2 : (memFetch v.mem (W64 (b + 8))).1 ≤ s := by simpa using hi1
    refine zu1 ?_
    refine Wq ?_
    refine leafM rfl rfl ?_ ?_
    ·rw [stated, if_pos h0, if_pos (.inr h2)]; rfl
    ·rfl
   ·have h2 : ¬ (memFetch v.mem (W64 (b + 8))).1 ≤ s := by simpa using hi1
    refine Wj ?_
    refine zu2 ?_
    refine Wq ?_
    refine leafM rfl rfl ?_ ?_
    ·rw [stated, if_pos h0, if_neg (by rintro (h | h) <;> contradiction), ← h0]; rfl
    ·rfl
 ·have h0 : ¬ (memFetch v.mem (W64 (b + 8))).2 = 0 := by simpa using hg1
  iterate 7 refine z6 ?_
  refine zs1 ?_
  refine Wf rfl rfl ?_
  refine Wj ?_
  refine zu2 ?_
  refine Wq ?_
  refine leafM rfl rfl ?_ ?_
  ·rw [stated, if_neg h0]; rfl
  ·rfl
end Go.Proofs.YtphgdofmjpdhaaaGreat
namespace Go.Proofs.YtphgdofmjpdhaaaGreat
open Go.RowKit
set_option maxRecDepth 100000
set_option maxHeartbeats 4000000
theorem mulS_fit {a b : Int} (ha : Fit a) (hb : Fit b) : Fit (mulS a b).1 ∧ Fit (mulS a b).2 := by
 have h : (a * b).natAbs ≤ 9223372036854775808 * 9223372036854775808 := by rw [Int.natAbs_mul]; exact Nat.mul_le_mul (by omega) (by omega)
 refine ⟨by show Fit (wrap64 _); unfold wrap64; omega, ?_⟩
 show Fit (a * b / 18446744073709551616)
 omega
def XOk (k : Nat) (x : List Int) : Prop := k ≤ x.length ∧ ∀ a ∈ x, Fit64 a
theorem XOk.fit {k : Nat} {x : List Int} (h : XOk k x) (i : Nat) : Fit64 (xat x i) := by
 unfold xat List.getD
 cases hi : x[i]? with
 | none => simp [Fit64]
 | some a => exact h.2 a (List.mem_of_getElem? hi)
theorem XOk.len {k : Nat} {x : List Int} (h : XOk k x) : k ≤ x.length := h.1
theorem rk_parts (q r e : Int) : PureC Tryz.prog 85 [i64 q, i64 r, i64 e] (tLv ([r, q], e)) := by
 refine pW tG (rs := [.tmp 6, .tmp 7]) Tryz.func85 rfl rfl rfl (by simp) (by simp) (fun B => ?_)
 refine zu2 ?_
 refine zp3 ?_
 refine Wa 10 rfl (bsL cInt [_, _] rfl rfl) ?_
 refine zs3 ?_
 refine zR ?_
 rfl
theorem rk_both (x : List Int) (hx : XOk 3 x) : PureC Tryz.prog 86 [sq cInt x] (t3i (pBoth x)) := by
 have hl := hx.len
 have hf := mulS_fit (hx.fit 0) (hx.fit 1)
 refine pW tG (rs := [.tmp 2, .tmp 3, .tmp 4]) Tryz.func86 rfl rfl rfl (by simp) (by simp) (fun B => ?_)
 refine zu3 ?_
 refine Ws ?_
 refine W_drawU [0, 0, 1, 0, 0, 1, 0, 0, 0, 0, 0, 0] [0, 1, 2, 3, 4, 5, 6, 7, 8, 9, 10, 11] mG rfl (by kernel_rfl) ?_
 refine z3 ?_
 refine Xi tG rfl rfl rfl rfl (fun _ => rfl) (by omega) (iN cInt 1 (fun _ => rfl) 0 (by (simp only [dnL] at *; omega))) ?_
 refine z5 ?_
 refine z3 ?_
 refine Xi tG rfl rfl rfl rfl (fun _ => rfl) (by omega) (iN cInt 1 (fun _ => rfl) 0 (by (simp only [dnL] at *; omega))) ?_
 refine z5 ?_
 refine Xc rfl rfl rfl rfl (fun _ => dC rfl Tryz.func87 rfl rfl ((k_Mul _ _ (hx.fit 0) (hx.fit 1)) _)) ?_
 iterate 5 refine z3 ?_
 refine WU_nil ?_
 refine zp3 ?_
 refine Wv tG rfl rfl rfl (by omega) (iN cInt 1 (fun _ => rfl) 0 (by (simp only [dnL] at *; omega))) ?_
 refine z1 ?_
 refine Wc rfl rfl (dC rfl Tryz.func88 rfl rfl ((k_FDiv _ _ _ hf.2 (hx.fit 2)) _)) ?_
 refine zy5 ?_
 refine zs1 ?_
 refine zR ?_
 rfl
theorem cp_parts (q r e : Int) : CallP 85 [i64 q, i64 r, i64 e] (tLv ([r, q], e)) := fun H => ⟨⟨_, Tryz.func85, rfl, rfl⟩, rk_parts q r e H⟩
theorem cp_both (x : List Int) (hx : XOk 3 x) : CallP 86 [sq cInt x] (t3i (pBoth x)) := fun H => ⟨⟨_, Tryz.func86, rfl, rfl⟩, rk_both x hx H⟩
abbrev capA : List PV := [.row [fnP 85 []]]
abbrev capB : List PV := [.row [fnP 86 []]]
abbrev capAB : List PV := [.row [fnP 85 []], .row [fnP 86 []]]
theorem rk_3 (x : List Int) (hx : XOk 2 x) : PureC Tryz.prog 89 ([sq cInt x] ++ capA) (tLv (pDivMod x)) := by
 have hl := hx.len
 refine pW tG (rs := [.tmp 3, .tmp 4]) Tryz.func89 rfl rfl rfl (by simp) (by simp) (fun B => ?_)
 refine zu2 ?_
 refine Ws ?_
 refine W_drawU [1, 0, 0, 1, 0, 0, 1, 0, 0, 0, 0, 0, 0, 0, 0, 0] [0, 1, 2, 3, 4, 5, 6, 7, 8, 9, 10, 11, 12, 13, 14, 15] mG rfl (by kernel_rfl) ?_
 refine z5 ?_
 refine z3 ?_
 refine Xi tG rfl rfl rfl rfl (fun _ => rfl) (by omega) (iN cInt 1 (fun _ => rfl) 0 (by (simp only [dnL] at *; omega))) ?_
 refine z5 ?_
 refine z3 ?_
 refine Xi tG rfl rfl rfl rfl (fun _ => rfl) (by omega) (iN cInt 1 (fun _ => rfl) 0 (by (simp only [dnL] at *; omega))) ?_
 refine z5 ?_
 refine Xc rfl rfl rfl rfl (fun _ => dC rfl Tryz.func81 rfl rfl ((k_Div _ _ (hx.fit 1)) _)) ?_
 iterate 3 refine z3 ?_
 refine Xc rfl rfl rfl rfl (fun _ => doesCWs rfl rfl (cp_parts _ _ _ _)) ?_
 iterate 4 refine z3 ?_
 refine WU_nil ?_
 refine zR ?_
 rfl
theorem rk_4 (x : List Int) (hx : XOk 3 x) : PureC Tryz.prog 90 ([sq cInt x] ++ capAB) (tLv (pStarMod x)) := by
 refine pW tG (rs := [.tmp 4, .tmp 5]) Tryz.func90 rfl rfl rfl (by simp) (by simp) (fun B => ?_)
 refine zu2 ?_
 refine Ws ?_
 refine W_drawU [1, 1, 0, 0, 0, 0, 0, 0, 0, 0, 0, 0] [0, 1, 2, 3, 4, 5, 6, 7, 8, 9, 10, 11] mG rfl (by kernel_rfl) ?_
 iterate 2 refine z5 ?_
 refine z3 ?_
 refine Xc rfl rfl rfl rfl (fun _ => doesCWs rfl rfl (cp_both x hx _)) ?_
 iterate 3 refine z3 ?_
 refine Xc rfl rfl rfl rfl (fun _ => doesCWs rfl rfl (cp_parts _ _ _ _)) ?_
 iterate 4 refine z3 ?_
 refine WU_nil ?_
 refine zR ?_
 rfl
theorem rk_5 (x : List Int) (hx : XOk 3 x) : PureC Tryz.prog 91 ([sq cInt x] ++ capB) (tLv (pStar x)) := by
 refine pW tG (rs := [.tmp 3, .tmp 4]) Tryz.func91 rfl rfl rfl (by simp) (by simp) (fun B => ?_)
 refine zu2 ?_
 refine zp2 ?_
 refine Wc rfl rfl (doesCWs rfl rfl (cp_both x hx _)) ?_
 refine zy5 ?_
 refine zs2 ?_
 refine zp2 ?_
 refine Wa 16 rfl (bsL cInt [_] rfl rfl) ?_
 refine zs3 ?_
 refine zR ?_
 rfl
theorem rk_6 (x : List Int) (hx : XOk 2 x) : PureC Tryz.prog 92 [sq cInt x] (tLv (pUM x)) := by
 have hl := hx.len
 refine pW tG (rs := [.tmp 2, .tmp 3]) Tryz.func92 rfl rfl rfl (by simp) (by simp) (fun B => ?_)
 refine zu2 ?_
 refine Ws ?_
 refine W_drawU [0, 0, 1, 0, 0, 1, 0, 0, 0, 0, 0, 0] [0, 1, 2, 3, 4, 5, 6, 7, 8, 9, 10, 11] mG rfl (by kernel_rfl) ?_
 refine z3 ?_
 refine Xi tG rfl rfl rfl rfl (fun _ => rfl) (by omega) (iN cInt 1 (fun _ => rfl) 0 (by (simp only [dnL] at *; omega))) ?_
 refine z5 ?_
 refine z3 ?_
 refine Xi tG rfl rfl rfl rfl (fun _ => rfl) (by omega) (iN cInt 1 (fun _ => rfl) 0 (by (simp only [dnL] at *; omega))) ?_
 refine z5 ?_
 refine Xc rfl rfl rfl rfl (fun _ => dC rfl Tryz.func93 rfl rfl ((k_UMul _ _) _)) ?_
 iterate 5 refine z3 ?_
 refine WU_nil ?_
 refine zp3 ?_
 refine Wa 18 rfl (bsL cInt [_, _] rfl rfl) ?_
 refine Wc rfl rfl (dC rfl Tryz.func55 rfl rfl ((prim_told _) _)) ?_
 refine zs4 ?_
 refine zR ?_
 rfl
theorem rk_7 (x : List Int) (hx : XOk 2 x) : PureC Tryz.prog 94 [sq cInt x] (tLv (pM x)) := by
 have hl := hx.len
 refine pW tG (rs := [.tmp 2, .tmp 3]) Tryz.func94 rfl rfl rfl (by simp) (by simp) (fun B => ?_)
 refine zu2 ?_
 refine Ws ?_
 refine W_drawU [0, 0, 1, 0, 0, 1, 0, 0, 0, 0, 0, 0] [0, 1, 2, 3, 4, 5, 6, 7, 8, 9, 10, 11] mG rfl (by kernel_rfl) ?_
 refine z3 ?_
 refine Xi tG rfl rfl rfl rfl (fun _ => rfl) (by omega) (iN cInt 1 (fun _ => rfl) 0 (by (simp only [dnL] at *; omega))) ?_
 refine z5 ?_
 refine z3 ?_
 refine Xi tG rfl rfl rfl rfl (fun _ => rfl) (by omega) (iN cInt 1 (fun _ => rfl) 0 (by (simp only [dnL] at *; omega))) ?_
 refine z5 ?_
 refine Xc rfl rfl rfl rfl (fun _ => dC rfl Tryz.func87 rfl rfl ((k_Mul _ _ (hx.fit 0) (hx.fit 1)) _)) ?_
 iterate 5 refine z3 ?_
 refine WU_nil ?_
 refine zp3 ?_
 refine Wa 18 rfl (bsL cInt [_, _] rfl rfl) ?_
 refine Wc rfl rfl (dC rfl Tryz.func55 rfl rfl ((prim_told _) _)) ?_
 refine zs4 ?_
 refine zR ?_
 rfl
theorem rk_8 (x : List Int) (hx : XOk 3 x) : PureC Tryz.prog 95 ([sq cInt x] ++ capA) (tLv (pUMod x)) := by
 have hl := hx.len
 refine pW tG (rs := [.tmp 3, .tmp 4]) Tryz.func95 rfl rfl rfl (by simp) (by simp) (fun B => ?_)
 refine zu2 ?_
 refine Ws ?_
 refine W_drawU [1, 0, 0, 1, 0, 0, 1, 0, 0, 1, 0, 0, 0, 0, 0, 0, 0, 0, 0] [0, 1, 2, 3, 4, 5, 6, 7, 8, 9, 10, 11, 12, 13, 14, 15, 16, 17, 18] mG rfl (by kernel_rfl) ?_
 refine z5 ?_
 refine z3 ?_
 refine Xi tG rfl rfl rfl rfl (fun _ => rfl) (by omega) (iN cInt 1 (fun _ => rfl) 0 (by (simp only [dnL] at *; omega))) ?_
 refine z5 ?_
 refine z3 ?_
 refine Xi tG rfl rfl rfl rfl (fun _ => rfl) (by omega) (iN cInt 1 (fun _ => rfl) 0 (by (simp only [dnL] at *; omega))) ?_
 refine z5 ?_
 refine z3 ?_
 refine Xi tG rfl rfl rfl rfl (fun _ => rfl) (by omega) (iN cInt 1 (fun _ => rfl) 0 (by (simp only [dnL] at *; omega))) ?_
 refine z5 ?_
 refine Xc rfl rfl rfl rfl (fun _ => dC rfl Tryz.func96 rfl rfl ((k_UDiv _ _ _) _)) ?_
 iterate 3 refine z3 ?_
 refine Xc rfl rfl rfl rfl (fun _ => doesCWs rfl rfl (cp_parts _ _ _ _)) ?_
 iterate 4 refine z3 ?_
 refine WU_nil ?_
 refine zR ?_
 rfl
theorem rk_9 (x : List Int) (hx : XOk 3 x) : PureC Tryz.prog 97 ([sq cInt x] ++ capA) (tLv (pSRem x)) := by
 have hl := hx.len
 refine pW tG (rs := [.tmp 3, .tmp 4]) Tryz.func97 rfl rfl rfl (by simp) (by simp) (fun B => ?_)
 refine zu2 ?_
 refine Ws ?_
 refine W_drawU [1, 0, 0, 1, 0, 0, 1, 0, 0, 1, 0, 0, 0, 0, 0, 0, 0, 0, 0] [0, 1, 2, 3, 4, 5, 6, 7, 8, 9, 10, 11, 12, 13, 14, 15, 16, 17, 18] mG rfl (by kernel_rfl) ?_
 refine z5 ?_
 refine z3 ?_
 refine Xi tG rfl rfl rfl rfl (fun _ => rfl) (by omega) (iN cInt 1 (fun _ => rfl) 0 (by (simp only [dnL] at *; omega))) ?_
 refine z5 ?_
 refine z3 ?_
 refine Xi tG rfl rfl rfl rfl (fun _ => rfl) (by omega) (iN cInt 1 (fun _ => rfl) 0 (by (simp only [dnL] at *; omega))) ?_
 refine z5 ?_
 refine z3 ?_
 refine Xi tG rfl rfl rfl rfl (fun _ => rfl) (by omega) (iN cInt 1 (fun _ => rfl) 0 (by (simp only [dnL] at *; omega))) ?_
 refine z5 ?_
 refine Xc rfl rfl rfl rfl (fun _ => dC rfl Tryz.func98 rfl rfl ((k_SDiv _ _ _ (hx.fit 1) (hx.fit 2)) _)) ?_
 iterate 3 refine z3 ?_
 refine Xc rfl rfl rfl rfl (fun _ => doesCWs rfl rfl (cp_parts _ _ _ _)) ?_
 iterate 4 refine z3 ?_
 refine WU_nil ?_
 refine zR ?_
 rfl
theorem rk_10 (x : List Int) (hx : XOk 3 x) : PureC Tryz.prog 99 ([sq cInt x] ++ capA) (tLv (pFMod x)) := by
 have hl := hx.len
 refine pW tG (rs := [.tmp 3, .tmp 4]) Tryz.func99 rfl rfl rfl (by simp) (by simp) (fun B => ?_)
 refine zu2 ?_
 refine Ws ?_
 refine W_drawU [1, 0, 0, 1, 0, 0, 1, 0, 0, 1, 0, 0, 0, 0, 0, 0, 0, 0, 0] [0, 1, 2, 3, 4, 5, 6, 7, 8, 9, 10, 11, 12, 13, 14, 15, 16, 17, 18] mG rfl (by kernel_rfl) ?_
 refine z5 ?_
 refine z3 ?_
 refine Xi tG rfl rfl rfl rfl (fun _ => rfl) (by omega) (iN cInt 1 (fun _ => rfl) 0 (by (simp only [dnL] at *; omega))) ?_
 refine z5 ?_
 refine z3 ?_
 refine Xi tG rfl rfl rfl rfl (fun _ => rfl) (by omega) (iN cInt 1 (fun _ => rfl) 0 (by (simp only [dnL] at *; omega))) ?_
 refine z5 ?_
 refine z3 ?_
 refine Xi tG rfl rfl rfl rfl (fun _ => rfl) (by omega) (iN cInt 1 (fun _ => rfl) 0 (by (simp only [dnL] at *; omega))) ?_
 refine z5 ?_
 refine Xc rfl rfl rfl rfl (fun _ => dC rfl Tryz.func88 rfl rfl ((k_FDiv _ _ _ (hx.fit 1) (hx.fit 2)) _)) ?_
 iterate 3 refine z3 ?_
 refine Xc rfl rfl rfl rfl (fun _ => doesCWs rfl rfl (cp_parts _ _ _ _)) ?_
 iterate 4 refine z3 ?_
 refine WU_nil ?_
 refine zR ?_
 rfl
theorem rk_11 (x : List Int) (hx : XOk 1 x) : PureC Tryz.prog 100 [sq cInt x] (tLv (pSD x)) := by
 have hl := hx.len
 refine pW tG (rs := [.tmp 2, .tmp 3]) Tryz.func100 rfl rfl rfl (by simp) (by simp) (fun B => ?_)
 refine zu2 ?_
 refine Ws ?_
 refine W_drawU [0, 0, 1, 0, 0, 1, 0, 0, 0, 0, 0, 0, 0, 0] [0, 1, 2, 3, 4, 5, 6, 7, 8, 9, 10, 11, 12, 13] mG rfl (by kernel_rfl) ?_
 refine z3 ?_
 refine Xi tG rfl rfl rfl rfl (fun _ => rfl) (by omega) (iN cInt 1 (fun _ => rfl) 0 (by (simp only [dnL] at *; omega))) ?_
 refine z5 ?_
 refine z3 ?_
 refine Xi tG rfl rfl rfl rfl (fun _ => rfl) (by omega) (iN cInt 1 (fun _ => rfl) 0 (by (simp only [dnL] at *; omega))) ?_
 refine z5 ?_
 refine z3 ?_
 refine Xc rfl rfl rfl rfl (fun _ => dC rfl Tryz.func101 rfl rfl ((prim_flag _) _)) ?_
 refine z3 ?_
 refine Xa 12 rfl (bsL cInt [_, _] rfl rfl) ?_
 refine Xc rfl rfl rfl rfl (fun _ => dC rfl Tryz.func55 rfl rfl ((prim_told _) _)) ?_
 iterate 4 refine z3 ?_
 refine WU_nil ?_
 refine zR ?_
 rfl
theorem rk_12 (x : List Int) (hx : XOk 3 x) : PureC Tryz.prog 102 [sq cInt x] (tLv (pWithin x)) := by
 have hl := hx.len
 refine pW tG (rs := [.tmp 2, .tmp 3]) Tryz.func102 rfl rfl rfl (by simp) (by simp) (fun B => ?_)
 refine zu2 ?_
 refine Ws ?_
 refine W_drawU [0, 0, 1, 0, 0, 1, 0, 0, 1, 0, 0, 0, 0, 0, 0, 0, 0] [0, 1, 2, 3, 4, 5, 6, 7, 8, 9, 10, 11, 12, 13, 14, 15, 16] mG rfl (by kernel_rfl) ?_
 refine z3 ?_
 refine Xi tG rfl rfl rfl rfl (fun _ => rfl) (by omega) (iN cInt 1 (fun _ => rfl) 0 (by (simp only [dnL] at *; omega))) ?_
 refine z5 ?_
 refine z3 ?_
 refine Xi tG rfl rfl rfl rfl (fun _ => rfl) (by omega) (iN cInt 1 (fun _ => rfl) 0 (by (simp only [dnL] at *; omega))) ?_
 refine z5 ?_
 refine z3 ?_
 refine Xi tG rfl rfl rfl rfl (fun _ => rfl) (by omega) (iN cInt 1 (fun _ => rfl) 0 (by (simp only [dnL] at *; omega))) ?_
 refine z5 ?_
 refine Xc rfl rfl rfl rfl (fun _ => dC rfl Tryz.func103 rfl rfl ((alu_Within _ _ _) _)) ?_
 refine Xc rfl rfl rfl rfl (fun _ => dC rfl Tryz.func101 rfl rfl ((prim_flag _) _)) ?_
 refine z3 ?_
 refine Xa 15 rfl (bsL cInt [_] rfl rfl) ?_
 refine Xc rfl rfl rfl rfl (fun _ => dC rfl Tryz.func55 rfl rfl ((prim_told _) _)) ?_
 iterate 4 refine z3 ?_
 refine WU_nil ?_
 refine zR ?_
 rfl
theorem me_1 (v : VVm) (x : List Int) (hm : MemOk v.mem) (hx : XOk 2 x) : PureC Tryz.prog 108 [eMem v.mem, sq cInt x] (tMem (memStore v.mem (xat x 1) (xat x 0))) := by
 have hl := hx.len
 refine pW tG (rs := [.cell 4 27, .tmp 5]) Tryz.func108 rfl rfl rfl (by simp) (by simp) (fun B => ?_)
 refine zu3 ?_
 refine Ws ?_
 refine W_drawU [1, 0, 0, 1, 0, 0, 1, 0, 0, 0, 3, 0] [0, 1, 2, 3, 4, 5, 6, 7, 8, 9, 10, 11] mG rfl (by kernel_rfl) ?_
 refine z5 ?_
 refine z3 ?_
 refine Xi tG rfl rfl rfl rfl (fun _ => rfl) (by omega) (iN cInt 1 (fun _ => rfl) 0 (by (simp only [dnL] at *; omega))) ?_
 refine z5 ?_
 refine z3 ?_
 refine Xi tG rfl rfl rfl rfl (fun _ => rfl) (by omega) (iN cInt 1 (fun _ => rfl) 0 (by (simp only [dnL] at *; omega))) ?_
 refine z5 ?_
 refine Xc rfl rfl rfl rfl (fun _ => dC rfl Tryz.func109 rfl rfl ((mem_Store _ _ _ hm (hx.fit 1)) _)) ?_
 iterate 2 refine z3 ?_
 refine WU_ev3 tG rfl rfl rfl rfl rfl trivial ?_
 refine z3 ?_
 refine WU_nil ?_
 refine zR ?_
 rfl
theorem me_2 (v : VVm) (x : List Int) (hm : MemOk v.mem) (hx : XOk 2 x) : PureC Tryz.prog 110 [eMem v.mem, sq cInt x] (tMem (memStoreByte v.mem (xat x 1) (xat x 0))) := by
 have hl := hx.len
 refine pW tG (rs := [.cell 4 27, .tmp 5]) Tryz.func110 rfl rfl rfl (by simp) (by simp) (fun B => ?_)
 refine zu3 ?_
 refine Ws ?_
 refine W_drawU [1, 0, 0, 1, 0, 0, 1, 0, 0, 0, 3, 0] [0, 1, 2, 3, 4, 5, 6, 7, 8, 9, 10, 11] mG rfl (by kernel_rfl) ?_
 refine z5 ?_
 refine z3 ?_
 refine Xi tG rfl rfl rfl rfl (fun _ => rfl) (by omega) (iN cInt 1 (fun _ => rfl) 0 (by (simp only [dnL] at *; omega))) ?_
 refine z5 ?_
 refine z3 ?_
 refine Xi tG rfl rfl rfl rfl (fun _ => rfl) (by omega) (iN cInt 1 (fun _ => rfl) 0 (by (simp only [dnL] at *; omega))) ?_
 refine z5 ?_
 refine Xc rfl rfl rfl rfl (fun _ => dC rfl Tryz.func111 rfl rfl ((mem_StoreByte _ _ _ hm (hx.fit 1)) _)) ?_
 iterate 2 refine z3 ?_
 refine WU_ev3 tG rfl rfl rfl rfl rfl trivial ?_
 refine z3 ?_
 refine WU_nil ?_
 refine zR ?_
 rfl
theorem memOk_len {m : VMem} (hm : MemOk m) : m.b.length ≤ 140737488355328 := by have := hm.b; omega
theorem me_3 (v : VVm) (x : List Int) (hm : MemOk v.mem) (hx : XOk 2 x) : PureC Tryz.prog 112 [eMem v.mem, sq cInt x] (tMem (pAddTo v x)) := by
 have hl := hx.len
 refine pW tG (rs := [.cell 4 27, .tmp 5]) Tryz.func112 rfl rfl rfl (by simp) (by simp) (fun B => ?_)
 refine zu3 ?_
 refine Ws ?_
 refine W_drawU [1, 0, 0, 1, 0, 0, 0, 0, 0, 0] [0, 1, 2, 3, 4, 5, 6, 7, 8, 9] mG rfl (by kernel_rfl) ?_
 refine z5 ?_
 refine z3 ?_
 refine Xi tG rfl rfl rfl rfl (fun _ => rfl) (by omega) (iN cInt 1 (fun _ => rfl) 0 (by (simp only [dnL] at *; omega))) ?_
 refine z5 ?_
 refine Xc rfl rfl rfl rfl (fun _ => dC rfl Tryz.func105 rfl rfl ((mem_Fetch _ _ (memOk_len hm) (hx.fit 1)) _)) ?_
 iterate 5 refine z3 ?_
 refine WU_nil ?_
 refine Ws ?_
 refine zu2 ?_
 refine Wi rfl (fun hi1 => ?_) (fun hi1 => ?_)
 ·have h0 : ¬ (memFetch v.mem (xat x 1)).2 = 0 := bne_iff_ne.1 hi1
  refine zu4 ?_
  refine zR ?_
  rw [pAddTo, if_neg h0]; rfl
 ·have h0 : (memFetch v.mem (xat x 1)).2 = 0 := bne_eq_false_iff_eq.1 hi1
  refine Wj ?_
  refine Ws ?_
  refine W_drawU [1, 0, 0, 1, 0, 0, 0, 1, 0, 0, 0, 0, 3, 0] [0, 1, 2, 3, 4, 5, 6, 7, 8, 9, 10, 11, 12, 13] mG rfl (by kernel_rfl) ?_
  refine z5 ?_
  refine z3 ?_
  refine Xi tG rfl rfl rfl rfl (fun _ => rfl) (by omega) (iN cInt 1 (fun _ => rfl) 0 (by (simp only [dnL] at *; omega))) ?_
  refine z5 ?_
  iterate 2 refine z3 ?_
  refine Xi tG rfl rfl rfl rfl (fun _ => rfl) (by omega) (iN cInt 1 (fun _ => rfl) 0 (by (simp only [dnL] at *; omega))) ?_
  refine z5 ?_
  refine z3 ?_
  refine Xc rfl rfl rfl rfl (fun _ => dC rfl Tryz.func109 rfl rfl ((mem_Store _ _ _ hm (hx.fit 1)) _)) ?_
  iterate 2 refine z3 ?_
  refine WU_ev3 tG rfl rfl rfl rfl rfl trivial ?_
  refine z3 ?_
  refine WU_nil ?_
  refine zR ?_
  rw [pAddTo, if_pos h0]; rfl
theorem w64_fit (n : Int) : Fit64 (W64 n) := by unfold Fit64 W64; rw [i64w]; unfold wrap64; omega
theorem me_4 (v : VVm) (x : List Int) (hm : MemOk v.mem) (hx : XOk 1 x) : ∀ (H : List Ob) (i : Nat), H[i]? = some (.cells (cVm v) 36) → HC Tryz.prog 113 (.ptr i 0 :: [sq cInt x]) H (tLv (pFetch2 v x).2) (H.set i (.cells (cVm (pFetch2 v x).1) 36)) := by
 have hl := hx.len
 refine mut_of_W tG (rs := [.tmp 4, .tmp 5]) Tryz.func113 rfl rfl rfl (by simp) (by simp) (by simp) (by simp) (fun B => ?_)
 refine zu2 ?_
 refine Ws ?_
 refine W_drawU [0, 0, 0, 1, 0, 0, 1, 0, 0, 0, 0, 0, 0] [0, 1, 2, 3, 4, 5, 6, 7, 8, 9, 10, 11, 12] mG rfl (by kernel_rfl) ?_
 iterate 3 refine z3 ?_
 refine z5 ?_
 refine z3 ?_
 refine Xi tG rfl rfl rfl rfl (fun _ => rfl) (by omega) (iN cInt 1 (fun _ => rfl) 0 (by (simp only [dnL] at *; omega))) ?_
 refine z5 ?_
 refine Xc rfl rfl rfl rfl (fun _ => dC rfl Tryz.func105 rfl rfl ((mem_Fetch _ _ (memOk_len hm) (hx.fit 0)) _)) ?_
 iterate 5 refine z3 ?_
 refine WU_nil ?_
 refine Ws ?_
 refine zu2 ?_
 refine Wi rfl (fun hi1 => ?_) (fun hi1 => ?_)
 ·have h0 : ¬ (memFetch v.mem (xat x 0)).2 = 0 := bne_iff_ne.1 hi1
  refine zu3 ?_
  refine Wq ?_
  refine leafM rfl rfl ?_ ?_
  ·rw [pFetch2, if_neg h0]; rfl
  ·rw [pFetch2, if_neg h0]; rfl
 ·have h0 : (memFetch v.mem (xat x 0)).2 = 0 := bne_eq_false_iff_eq.1 hi1
  refine Wj ?_
  refine Ws ?_
  refine W_drawU [0, 0, 0, 1, 0, 0, 1, 0, 0, 0, 0, 0, 0, 0] [0, 1, 2, 3, 4, 5, 6, 7, 8, 9, 10, 11, 12, 13] mG rfl (by kernel_rfl) ?_
  iterate 3 refine z3 ?_
  refine z5 ?_
  refine z3 ?_
  refine Xi tG rfl rfl rfl rfl (fun _ => rfl) (by omega) (iN cInt 1 (fun _ => rfl) 0 (by (simp only [dnL] at *; omega))) ?_
  refine z5 ?_
  refine z3 ?_
  refine Xc rfl rfl rfl rfl (fun _ => dC rfl Tryz.func105 rfl rfl ((mem_Fetch _ _ (memOk_len hm) (w64_fit _)) _)) ?_
  iterate 5 refine z3 ?_
  refine WU_nil ?_
  refine zp3 ?_
  refine Wa 37 rfl (bsL cInt [_, _] rfl rfl) ?_
  refine zs3 ?_
  refine Wq ?_
  refine leafM rfl rfl ?_ ?_
  ·rw [pFetch2, if_pos h0]; rfl
  ·rw [pFetch2, if_pos h0]; rfl
theorem memThere_rng {m : VMem} {a n : Int} (h : memThere m a n = true) : n = 0 ∨ (0 < n ∧ 0 ≤ a ∧ a + n ≤ m.b.length) := by unfold memThere at h; exact oT h
theorem laidB_len2 {l b : List UInt8} {k : Nat} (h : k + b.length ≤ l.length) : (laidB l k b).length = l.length := by unfold laidB; simp only [List.length_append, List.length_take, List.length_drop]; omega
theorem memWrite_len (m : VMem) (a : Int) (b : List UInt8) : (memWrite m a b).1.b.length = m.b.length := by
 unfold memWrite
 split
 ·rename_i h
  split
  ·rfl
  ·rename_i hb
   have := List.length_pos_iff.2 hb
   rcases memThere_rng h with h | ⟨h1, h2, h3⟩
   ·omega
   ·exact laidB_len2 (by omega)
 ·rfl
theorem memWrite_old (m : VMem) (a : Int) (b : List UInt8) : (memWrite m a b).1.old.length ≤ m.old.length + 1 := by
 unfold memWrite
 split
 ·split
  ·exact Nat.le_succ _
  ·simp
 ·exact Nat.le_succ _
theorem memWrite_ok {m : VMem} (hm : MemOk m) (a : Int) (b : List UInt8) (h : m.old.length + 1 ≤ 1000000) : MemOk (memWrite m a b).1 :=
 ⟨by rw [memWrite_len]; exact hm.b, Nat.le_trans (memWrite_old m a b) h⟩
theorem memStore_ok {m : VMem} (hm : MemOk m) (a n : Int) (h : m.old.length + 1 ≤ 1000000) : MemOk (memStore m a n).1 := by
 unfold memStore
 split
 ·exact memWrite_ok hm _ _ h
 ·exact hm
theorem me_5 (v : VVm) (x : List Int) (hm : MemOk v.mem) (ho : v.mem.old.length + 1 ≤ 1000000) (hx : XOk 3 x) : PureC Tryz.prog 114 [eMem v.mem, sq cInt x] (tMem (pStore2 v x)) := by
 have hl := hx.len
 refine pW tG (rs := [.cell 4 27, .tmp 5]) Tryz.func114 rfl rfl rfl (by simp) (by simp) (fun B => ?_)
 refine zu3 ?_
 refine Ws ?_
 refine W_drawU [1, 0, 0, 1, 0, 0, 1, 0, 0, 0, 0, 3, 0] [0, 1, 2, 3, 4, 5, 6, 7, 8, 9, 10, 11, 12] mG rfl (by kernel_rfl) ?_
 refine z5 ?_
 refine z3 ?_
 refine Xi tG rfl rfl rfl rfl (fun _ => rfl) (by omega) (iN cInt 1 (fun _ => rfl) 0 (by (simp only [dnL] at *; omega))) ?_
 refine z5 ?_
 refine z3 ?_
 refine Xi tG rfl rfl rfl rfl (fun _ => rfl) (by omega) (iN cInt 1 (fun _ => rfl) 0 (by (simp only [dnL] at *; omega))) ?_
 refine z5 ?_
 refine Xc rfl rfl rfl rfl (fun _ => dC rfl Tryz.func109 rfl rfl ((mem_Store _ _ _ hm (hx.fit 2)) _)) ?_
 iterate 3 refine z3 ?_
 refine WU_ev3 tG rfl rfl rfl rfl rfl trivial ?_
 refine z3 ?_
 refine WU_nil ?_
 refine Ws ?_
 refine zu2 ?_
 refine Wi rfl (fun hi1 => ?_) (fun hi1 => ?_)
 ·have h0 : ¬ (memStore v.mem (xat x 2) (xat x 1)).2 = 0 := bne_iff_ne.1 hi1
  refine zu4 ?_
  refine zR ?_
  rw [pStore2, if_neg h0]; rfl
 ·have h0 : (memStore v.mem (xat x 2) (xat x 1)).2 = 0 := bne_eq_false_iff_eq.1 hi1
  refine Wj ?_
  refine Ws ?_
  refine W_drawU [1, 0, 0, 1, 0, 0, 0, 1, 0, 0, 0, 3, 0] [0, 1, 2, 3, 4, 5, 6, 7, 8, 9, 10, 11, 12] mG rfl (by kernel_rfl) ?_
  refine z5 ?_
  refine z3 ?_
  refine Xi tG rfl rfl rfl rfl (fun _ => rfl) (by omega) (iN cInt 1 (fun _ => rfl) 0 (by (simp only [dnL] at *; omega))) ?_
  refine z5 ?_
  iterate 2 refine z3 ?_
  refine Xi tG rfl rfl rfl rfl (fun _ => rfl) (by omega) (iN cInt 1 (fun _ => rfl) 0 (by (simp only [dnL] at *; omega))) ?_
  refine z5 ?_
  refine Xc rfl rfl rfl rfl (fun _ => dC rfl Tryz.func109 rfl rfl ((mem_Store _ _ _ (memStore_ok hm _ _ ho) (w64_fit _)) _)) ?_
  iterate 2 refine z3 ?_
  refine WU_ev3 tG rfl rfl rfl rfl rfl trivial ?_
  refine z3 ?_
  refine WU_nil ?_
  refine zR ?_
  rw [pStore2, if_pos h0]; rfl
theorem me_6 (v : VVm) (x : List Int) (hm : MemOk v.mem) (hx : XOk 3 x) : PureC Tryz.prog 115 [eMem v.mem, sq cInt x] (tMem (memFill v.mem (xat x 0) (xat x 1) (xat x 2))) := by
 have hl := hx.len
 refine pW tG (rs := [.cell 4 27, .tmp 5]) Tryz.func115 rfl rfl rfl (by simp) (by simp) (fun B => ?_)
 refine zu3 ?_
 refine Ws ?_
 refine W_drawU [1, 0, 0, 1, 0, 0, 1, 0, 0, 1, 0, 0, 0, 3, 0] [0, 1, 2, 3, 4, 5, 6, 7, 8, 9, 10, 11, 12, 13, 14] mG rfl (by kernel_rfl) ?_
 refine z5 ?_
 refine z3 ?_
 refine Xi tG rfl rfl rfl rfl (fun _ => rfl) (by omega) (iN cInt 1 (fun _ => rfl) 0 (by (simp only [dnL] at *; omega))) ?_
 refine z5 ?_
 refine z3 ?_
 refine Xi tG rfl rfl rfl rfl (fun _ => rfl) (by omega) (iN cInt 1 (fun _ => rfl) 0 (by (simp only [dnL] at *; omega))) ?_
 refine z5 ?_
 refine z3 ?_
 refine Xi tG rfl rfl rfl rfl (fun _ => rfl) (by omega) (iN cInt 1 (fun _ => rfl) 0 (by (simp only [dnL] at *; omega))) ?_
 refine z5 ?_
 refine Xc rfl rfl rfl rfl (fun _ => dC rfl Tryz.func116 rfl rfl ((mem_Fill _ _ _ _ hm (hx.fit 0) (hx.fit 1)) _)) ?_
 iterate 2 refine z3 ?_
 refine WU_ev3 tG rfl rfl rfl rfl rfl trivial ?_
 refine z3 ?_
 refine WU_nil ?_
 refine zR ?_
 rfl
theorem me_7 (v : VVm) (x : List Int) (hm : MemOk v.mem) (hx : XOk 3 x) : PureC Tryz.prog 117 [eMem v.mem, sq cInt x] (tMem (memMove v.mem (xat x 0) (xat x 1) (xat x 2))) := by
 have hl := hx.len
 refine pW tG (rs := [.cell 4 27, .tmp 5]) Tryz.func117 rfl rfl rfl (by simp) (by simp) (fun B => ?_)
 refine zu3 ?_
 refine Ws ?_
 refine W_drawU [1, 0, 0, 1, 0, 0, 1, 0, 0, 1, 0, 0, 0, 3, 0] [0, 1, 2, 3, 4, 5, 6, 7, 8, 9, 10, 11, 12, 13, 14] mG rfl (by kernel_rfl) ?_
 refine z5 ?_
 refine z3 ?_
 refine Xi tG rfl rfl rfl rfl (fun _ => rfl) (by omega) (iN cInt 1 (fun _ => rfl) 0 (by (simp only [dnL] at *; omega))) ?_
 refine z5 ?_
 refine z3 ?_
 refine Xi tG rfl rfl rfl rfl (fun _ => rfl) (by omega) (iN cInt 1 (fun _ => rfl) 0 (by (simp only [dnL] at *; omega))) ?_
 refine z5 ?_
 refine z3 ?_
 refine Xi tG rfl rfl rfl rfl (fun _ => rfl) (by omega) (iN cInt 1 (fun _ => rfl) 0 (by (simp only [dnL] at *; omega))) ?_
 refine z5 ?_
 refine Xc rfl rfl rfl rfl (fun _ => dC rfl Tryz.func118 rfl rfl ((mem_Move _ _ _ _ hm (hx.fit 0) (hx.fit 1) (hx.fit 2)) _)) ?_
 iterate 2 refine z3 ?_
 refine WU_ev3 tG rfl rfl rfl rfl rfl trivial ?_
 refine z3 ?_
 refine WU_nil ?_
 refine zR ?_
 rfl
theorem me_8 (v : VVm) (x : List Int) (hm : MemOk v.mem) (hx : XOk 1 x) : ∀ (H : List Ob) (i : Nat), H[i]? = some (.cells (cVm v) 36) → HC Tryz.prog 119 (.ptr i 0 :: [sq cInt x]) H (tLv (pCount v x).2) (H.set i (.cells (cVm v) 36)) := by
 have hl := hx.len
 refine mut_of_W tG (rs := [.tmp 4, .tmp 5]) Tryz.func119 rfl rfl rfl (by simp) (by simp) (by simp) (by simp) (fun B => ?_)
 refine zu2 ?_
 refine Ws ?_
 refine W_drawU [0, 0, 0, 1, 0, 0, 1, 0, 0, 0, 0, 0, 0] [0, 1, 2, 3, 4, 5, 6, 7, 8, 9, 10, 11, 12] mG rfl (by kernel_rfl) ?_
 iterate 3 refine z3 ?_
 refine z5 ?_
 refine z3 ?_
 refine Xi tG rfl rfl rfl rfl (fun _ => rfl) (by omega) (iN cInt 1 (fun _ => rfl) 0 (by (simp only [dnL] at *; omega))) ?_
 refine z5 ?_
 refine Xc rfl rfl rfl rfl (fun _ => dC rfl Tryz.func106 rfl rfl ((mem_FetchByte _ _ hm (hx.fit 0)) _)) ?_
 iterate 5 refine z3 ?_
 refine WU_nil ?_
 refine zp1 ?_
 refine Wv tG rfl rfl rfl (by omega) (iN cInt 1 (fun _ => rfl) 0 (by (simp only [dnL] at *; omega))) ?_
 refine zy4 ?_
 refine Wa 24 rfl (bsL cInt [_, _] rfl rfl) ?_
 refine zs3 ?_
 refine Wq ?_
 refine leafM rfl rfl ?_ ?_
 ·rfl
 ·rfl
theorem sp_3 (v : VVm) : PureC Tryz.prog 126 [eVm v] (i64 v.here) := by
 refine pW tG (rs := [.tmp 2]) Tryz.func126 rfl rfl rfl (by simp) (by simp) (fun B => ?_)
 refine zu2 ?_
 refine zu3 ?_
 refine zR ?_
 rfl
theorem sp_4 (v : VVm) (x : List Int) (hm : MemOk v.mem) (hh : HereOk v.mem v.here) (hx : XOk 1 x) : PureC Tryz.prog 128 [eMem v.mem, i64 v.here, sq cInt x] (tLay (pAllot v x)) := by
 have hl := hx.len
 refine pW tG (rs := [.cell 6 27, .tmp 7, .tmp 8]) Tryz.func128 rfl rfl rfl (by simp) (by simp) (fun B => ?_)
 refine zu4 ?_
 refine Ws ?_
 refine W_drawU [1, 0, 0, 0, 0, 1, 0, 0, 0, 0, 0, 0] [0, 1, 2, 3, 4, 5, 6, 7, 8, 9, 10, 11] mG rfl (by kernel_rfl) ?_
 refine z5 ?_
 refine Xc rfl rfl rfl rfl (fun _ => dC rfl Tryz.func130 rfl rfl ((vm_Start) _)) ?_
 iterate 2 refine z3 ?_
 refine Xi tG rfl rfl rfl rfl (fun _ => rfl) (by omega) (iN cInt 1 (fun _ => rfl) 0 (by (simp only [dnL] at *; omega))) ?_
 refine z5 ?_
 refine Xc rfl rfl rfl rfl (fun _ => dC rfl Tryz.func129 rfl rfl ((spc_Allot _ _ _ _ hm hh (by unfold Fit64; omega) (hx.fit 0)) _)) ?_
 iterate 5 refine z3 ?_
 refine WU_nil ?_
 refine zp5 ?_
 refine zs1 ?_
 refine zR ?_
 rfl
theorem sp_5 (v : VVm) (x : List Int) (hm : MemOk v.mem) (hh : HereOk v.mem v.here) (hx : XOk 1 x) : PureC Tryz.prog 131 [eMem v.mem, i64 v.here, sq cInt x] (tLay (spcComma v.mem v.here (xat x 0))) := by
 have hl := hx.len
 refine pW tG (rs := [.cell 6 27, .tmp 7, .tmp 8]) Tryz.func131 rfl rfl rfl (by simp) (by simp) (fun B => ?_)
 refine zu4 ?_
 refine Ws ?_
 refine W_drawU [1, 0, 0, 0, 1, 0, 0, 0, 0, 3, 0, 0] [0, 1, 2, 3, 4, 5, 6, 7, 8, 9, 10, 11] mG rfl (by kernel_rfl) ?_
 refine z5 ?_
 iterate 2 refine z3 ?_
 refine Xi tG rfl rfl rfl rfl (fun _ => rfl) (by omega) (iN cInt 1 (fun _ => rfl) 0 (by (simp only [dnL] at *; omega))) ?_
 refine z5 ?_
 refine Xc rfl rfl rfl rfl (fun _ => dC rfl Tryz.func132 rfl rfl ((spc_Comma _ _ _ hm hh) _)) ?_
 iterate 3 refine z3 ?_
 refine WU_ev3 tG rfl rfl rfl rfl rfl trivial ?_
 iterate 2 refine z3 ?_
 refine WU_nil ?_
 refine zR ?_
 rfl
theorem sp_6 (v : VVm) (x : List Int) (hm : MemOk v.mem) (hh : HereOk v.mem v.here) (hx : XOk 1 x) : PureC Tryz.prog 133 [eMem v.mem, i64 v.here, sq cInt x] (tLay (spcLay v.mem v.here [loB (xat x 0)])) := by
 have hl := hx.len
 refine pW tG (rs := [.cell 6 27, .tmp 7, .tmp 8]) Tryz.func133 rfl rfl rfl (by simp) (by simp) (fun B => ?_)
 refine zu4 ?_
 refine Ws ?_
 refine W_drawU [1, 0, 0, 0, 1, 0, 0, 0, 0, 0, 0, 3, 0, 0] [0, 1, 2, 3, 4, 5, 6, 7, 8, 9, 10, 11, 12, 13] mG rfl (by kernel_rfl) ?_
 refine z5 ?_
 iterate 2 refine z3 ?_
 refine Xi tG rfl rfl rfl rfl (fun _ => rfl) (by omega) (iN cInt 1 (fun _ => rfl) 0 (by (simp only [dnL] at *; omega))) ?_
 refine z5 ?_
 refine z3 ?_
 refine Xa 14 rfl (loB_pv _) ?_
 refine z3 ?_
 refine Xa 15 rfl (bsL cByte [_] rfl rfl) ?_
 refine Xc rfl rfl rfl rfl (fun _ => dC rfl Tryz.func134 rfl rfl ((spc_Lay _ _ [loB (xat x 0)] hm hh (by simp)) _)) ?_
 iterate 3 refine z3 ?_
 refine WU_ev3 tG rfl rfl rfl rfl rfl trivial ?_
 iterate 2 refine z3 ?_
 refine WU_nil ?_
 refine zR ?_
 rfl
theorem sp_7 (v : VVm) (x : List Int) (hm : MemOk v.mem) (hh : HereOk v.mem v.here) : PureC Tryz.prog 135 [eMem v.mem, i64 v.here, sq cInt x] (tLay (spcAlign v.mem v.here)) := by
 refine pW tG (rs := [.cell 6 27, .tmp 7, .tmp 8]) Tryz.func135 rfl rfl rfl (by simp) (by simp) (fun B => ?_)
 refine zu4 ?_
 refine zp2 ?_
 refine Wc rfl rfl (dC rfl Tryz.func136 rfl rfl ((spc_AlignUp _ _ hm hh) _)) ?_
 refine zy5 ?_
 refine zs1 ?_
 refine zR ?_
 rfl
end Go.Proofs.YtphgdofmjpdhaaaGreat
namespace Go.Proofs.YtphgdofmjpdhaaaGreat
open Go.RowKit
set_option maxRecDepth 100000
set_option maxHeartbeats 4000000
theorem pr_3 (v : VVm) (x : List Int) (hx : XOk 1 x) : PureC Tryz.prog 143 [eVm v, sq cInt x] (tShow ([loB (xat x 0)], 0)) := by
 have hl := hx.len
 refine pW tG (rs := [.tmp 4, .tmp 5]) Tryz.func143 rfl rfl rfl (by simp) (by simp) (fun B => ?_)
 refine zu3 ?_
 refine zp1 ?_
 refine Wv tG rfl rfl rfl (by omega) (iN cInt 1 (fun _ => rfl) 0 (by (simp only [dnL] at *; omega))) ?_
 refine zy2 ?_
 refine Wa 9 rfl (loB_pv _) ?_
 refine z1 ?_
 refine Wa 10 rfl (bsL cByte [_] rfl rfl) ?_
 refine Wd rfl rfl (does_bytes_str (lO tG rfl) rfl (lO tG rfl) rfl (lO tG rfl) rfl rfl rfl) ?_
 refine zs2 ?_
 refine zR ?_
 rfl
theorem repeat_blank (n : Nat) : Lib.repeatL [32] n = List.replicate n 32 := by
 induction n with
 | zero => rfl
 | succ n ih => show [32] ++ Lib.repeatL [32] n = _; rw [ih]; rfl
theorem strings_blanks (n : Nat) (hn : n ≤ 1000000) : PureC Tryz.prog 145 [str [32], i64 n] (str (List.replicate n 32)) := by
 refine pure_of_calls (args := [.string ⟨#[32]⟩, .int .i64 n]) (fun c => rep_val _ _) fun w => Calls.mono (Tryz.strings_Repeat ⟨#[32]⟩ n w (by omega) (by show 1 * n ≤ _; omega)) ?_
 rintro e w' ⟨rfl, hb⟩
 have h1 : (⟨#[32]⟩ : ByteArray).data.toList = [32] := rfl
 rw [h1, repeat_blank]
 exact ⟨rfl, Grows.of_below hb⟩
theorem minmax_pv (a b : Int) : (if b < if 0 > a then 0 else a then b else if 0 > a then 0 else a) = min (max a 0) b := by
 by_cases h : 0 > a
 ·simp only [if_pos h]; split <;> omega
 ·simp only [if_neg h]; split <;> omega
theorem pr_4 (v : VVm) (x : List Int) (ho : 0 ≤ v.conf.out ∧ v.conf.out ≤ 900000) (hx : XOk 1 x) : PureC Tryz.prog 144 [eVm v, sq cInt x] (tShow (pSpaces v x, 0)) := by
 have hl := hx.len
 have h0 := hx.fit 0
 have w1 : IntKind.i64.wrap (v.conf.out + 1) = v.conf.out + 1 := by ((rw [i64w]; unfold wrap64; (try simp only [dnL] at *); omega))
 have w2 : min (max (xat x 0) 0) (v.conf.out + 1) = ((min (max (xat x 0) 0) (v.conf.out + 1)).toNat : Int) := by omega
 refine pW tG (rs := [.tmp 4, .tmp 5]) Tryz.func144 rfl rfl rfl (by simp) (by simp) (fun B => ?_)
 refine zu3 ?_
 refine Ws ?_
 refine W_drawU [0, 0, 1, 0, 0, 0, 1, 0, 0, 0, 0, 0] [0, 1, 2, 3, 4, 5, 6, 7, 8, 9, 10, 11] mG rfl (by kernel_rfl) ?_
 refine z3 ?_
 refine Xi tG rfl rfl rfl rfl (fun _ => rfl) (by omega) (iN cInt 1 (fun _ => rfl) 0 (by (simp only [dnL] at *; omega))) ?_
 refine z5 ?_
 iterate 3 refine z3 ?_
 refine z5 ?_
 refine z3 ?_
 refine Xa 13 rfl (congrArg (fun z => PV.val (Value.int .i64 z)) w1) ?_
 refine z3 ?_
 refine Xa 14 rfl (congrArg (fun z => PV.val (Value.int .i64 z)) ((minmax_pv (xat x 0) (v.conf.out + 1)).trans w2)) ?_
 refine Xc rfl rfl rfl rfl (fun _ => dC rfl Tryz.func145 rfl rfl ((strings_blanks _ (by omega)) _)) ?_
 iterate 2 refine z3 ?_
 refine WU_nil ?_
 refine zR ?_
 rfl
theorem pr_5 (v : VVm) (x : List Int) (hm : MemOk v.mem) (hx : XOk 2 x) : PureC Tryz.prog 146 [eVm v, sq cInt x] (tShow (memText v.mem (xat x 0) (xat x 1))) := by
 have hl := hx.len
 refine pW tG (rs := [.tmp 4, .tmp 5]) Tryz.func146 rfl rfl rfl (by simp) (by simp) (fun B => ?_)
 refine zu3 ?_
 refine Ws ?_
 refine W_drawU [0, 1, 0, 0, 1, 0, 0, 1, 0, 0, 0, 0, 0, 0] [0, 1, 2, 3, 4, 5, 6, 7, 8, 9, 10, 11, 12, 13] mG rfl (by kernel_rfl) ?_
 refine z3 ?_
 refine z5 ?_
 refine z3 ?_
 refine Xi tG rfl rfl rfl rfl (fun _ => rfl) (by omega) (iN cInt 1 (fun _ => rfl) 0 (by (simp only [dnL] at *; omega))) ?_
 refine z5 ?_
 refine z3 ?_
 refine Xi tG rfl rfl rfl rfl (fun _ => rfl) (by omega) (iN cInt 1 (fun _ => rfl) 0 (by (simp only [dnL] at *; omega))) ?_
 refine z5 ?_
 refine Xc rfl rfl rfl rfl (fun _ => dC rfl Tryz.func147 rfl rfl ((mem_Text _ _ _ hm (hx.fit 0) (hx.fit 1)) _)) ?_
 iterate 5 refine z3 ?_
 refine WU_nil ?_
 refine zp1 ?_
 refine Wd rfl rfl (does_bytes_str (lO tG rfl) rfl (lO tG rfl) rfl (lO tG rfl) rfl rfl rfl) ?_
 refine zs3 ?_
 refine zR ?_
 rfl
theorem pi_2 (v : VVm) (x : List Int) : ∀ (H : List Ob) (i : Nat), H[i]? = some (.cells (cVm v) 36) → HC Tryz.prog 152 (.ptr i 0 :: [sq cInt x]) H (tLv ([], 0)) (H.set i (.cells (cVm (withP v ⟨[], true⟩)) 36)) := by
 refine mut_of_W tG (rs := [.tmp 4, .tmp 5]) Tryz.func152 rfl rfl rfl (by simp) (by simp) (by simp) (by simp) (fun B => ?_)
 refine zu2 ?_
 refine zp1 ?_
 refine Wc rfl rfl (dC rfl Tryz.func153 rfl rfl ((pic_Begin) _)) ?_
 refine zs3 ?_
 refine zu2 ?_
 refine Wq ?_
 refine leafM rfl rfl ?_ ?_
 ·rfl
 ·rfl
theorem pi_3 (v : VVm) (x : List Int) (hp : v.pic.b.length ≤ 1000000) (hm : v.mem.b.length ≤ 140737488355328) (hx : XOk 2 x) : ∀ (H : List Ob) (i : Nat), H[i]? = some (.cells (cVm v) 36) → HC Tryz.prog 154 (.ptr i 0 :: [sq cInt x]) H (tLv (pDig v x).2) (H.set i (.cells (cVm (pDig v x).1) 36)) := by
 have hl := hx.len
 refine mut_of_W tG (rs := [.tmp 4, .tmp 5]) Tryz.func154 rfl rfl rfl (by simp) (by simp) (by simp) (by simp) (fun B => ?_)
 refine zu2 ?_
 refine Ws ?_
 refine W_drawU [0, 0, 0, 1, 0, 0, 1, 0, 0, 1, 0, 0, 1, 0, 0, 0, 0, 0, 0, 0, 2, 3, 0, 0, 0] [0, 1, 2, 3, 4, 5, 6, 7, 8, 9, 10, 11, 12, 13, 14, 15, 16, 17, 18, 19, 20, 21, 22, 23, 24] mG rfl (by kernel_rfl) ?_
 iterate 3 refine z3 ?_
 refine z5 ?_
 refine z3 ?_
 refine Xi tG rfl rfl rfl rfl (fun _ => rfl) (by omega) (iN cInt 1 (fun _ => rfl) 0 (by (simp only [dnL] at *; omega))) ?_
 refine z5 ?_
 refine z3 ?_
 refine Xi tG rfl rfl rfl rfl (fun _ => rfl) (by omega) (iN cInt 1 (fun _ => rfl) 0 (by (simp only [dnL] at *; omega))) ?_
 refine z5 ?_
 iterate 2 refine z3 ?_
 refine z5 ?_
 refine Xc rfl rfl rfl rfl (fun _ => dC rfl Tryz.func140 rfl rfl ((prim_base v hm) _)) ?_
 refine Xc rfl rfl rfl rfl (fun _ => dC rfl Tryz.func155 rfl rfl ((pic_Digit _ _ _ _ hp) _)) ?_
 iterate 5 refine z3 ?_
 refine WU_ev2 tG rfl rfl rfl rfl rfl trivial rfl ?_
 refine WU_ev3 tG rfl rfl rfl rfl rfl trivial ?_
 iterate 3 refine z3 ?_
 refine WU_nil ?_
 refine zu5 ?_
 refine zp3 ?_
 refine Wa 36 rfl (bsL cInt [_, _] rfl rfl) ?_
 refine zs3 ?_
 refine Wq ?_
 refine leafM rfl rfl ?_ ?_
 ·rfl
 ·rfl
theorem pi_4 (v : VVm) (x : List Int) (hp : v.pic.b.length ≤ 1000000) (hm : v.mem.b.length ≤ 140737488355328) (hx : XOk 2 x) : ∀ (H : List Ob) (i : Nat), H[i]? = some (.cells (cVm v) 36) → HC Tryz.prog 156 (.ptr i 0 :: [sq cInt x]) H (tLv (pAll v x).2) (H.set i (.cells (cVm (pAll v x).1) 36)) := by
 have hl := hx.len
 refine mut_of_W tG (rs := [.tmp 4, .tmp 5]) Tryz.func156 rfl rfl rfl (by simp) (by simp) (by simp) (by simp) (fun B => ?_)
 refine zu2 ?_
 refine Ws ?_
 refine W_drawU [0, 0, 0, 1, 0, 0, 1, 0, 0, 1, 0, 0, 1, 0, 0, 0, 0, 0, 2, 3, 0] [0, 1, 2, 3, 4, 5, 6, 7, 8, 9, 10, 11, 12, 13, 14, 15, 16, 17, 18, 19, 20] mG rfl (by kernel_rfl) ?_
 iterate 3 refine z3 ?_
 refine z5 ?_
 refine z3 ?_
 refine Xi tG rfl rfl rfl rfl (fun _ => rfl) (by omega) (iN cInt 1 (fun _ => rfl) 0 (by (simp only [dnL] at *; omega))) ?_
 refine z5 ?_
 refine z3 ?_
 refine Xi tG rfl rfl rfl rfl (fun _ => rfl) (by omega) (iN cInt 1 (fun _ => rfl) 0 (by (simp only [dnL] at *; omega))) ?_
 refine z5 ?_
 iterate 2 refine z3 ?_
 refine z5 ?_
 refine Xc rfl rfl rfl rfl (fun _ => dC rfl Tryz.func140 rfl rfl ((prim_base v hm) _)) ?_
 refine Xc rfl rfl rfl rfl (fun _ => dC rfl Tryz.func157 rfl rfl ((pic_All _ _ _ _ hp) _)) ?_
 iterate 3 refine z3 ?_
 refine WU_ev2 tG rfl rfl rfl rfl rfl trivial rfl ?_
 refine WU_ev3 tG rfl rfl rfl rfl rfl trivial ?_
 refine z3 ?_
 refine WU_nil ?_
 refine zu5 ?_
 refine zp1 ?_
 refine Wa 30 rfl (bsL cInt [_, _] rfl rfl) ?_
 refine zs3 ?_
 refine Wq ?_
 refine leafM rfl rfl ?_ ?_
 ·rfl
 ·rfl
theorem picEnd_len (p : VPic) : (picEnd p).1.length ≤ p.b.length := by unfold picEnd; split <;> simp
theorem pi_5 (v : VVm) (x : List Int) (hp : v.pic.b.length ≤ 1000000) (hm : MemOk v.mem) : ∀ (H : List Ob) (i : Nat), H[i]? = some (.cells (cVm v) 36) → HC Tryz.prog 160 (.ptr i 0 :: [sq cInt x]) H (tLv (pEnd v).2) (H.set i (.cells (cVm (pEnd v).1) 36)) := by
 have hl := picEnd_len v.pic
 refine mut_of_W tG (rs := [.tmp 4, .tmp 5]) Tryz.func160 rfl rfl rfl (by simp) (by simp) (by simp) (by simp) (fun B => ?_)
 refine zu2 ?_
 refine zp4 ?_
 refine Wc rfl rfl (dC rfl Tryz.func161 rfl rfl ((pic_End _ hp) _)) ?_
 refine zs5 ?_
 refine Ws ?_
 refine zu2 ?_
 refine Wi rfl (fun hi1 => ?_) (fun hi1 => ?_)
 ·have h0 : ¬ (picEnd v.pic).2 = 0 := bne_iff_ne.1 hi1
  refine zu3 ?_
  refine Wq ?_
  refine leafM rfl rfl ?_ ?_
  ·rw [pEnd, if_neg h0]; rfl
  ·rw [pEnd, if_neg h0]; rfl
 ·have h0 : (picEnd v.pic).2 = 0 := bne_eq_false_iff_eq.1 hi1
  refine Wj ?_
  refine zp5 ?_
  refine zs2 ?_
  refine zp5 ?_
  refine zy3 ?_
  refine Wa 34 rfl (str_bytes _) ?_
  refine Wc rfl rfl (dC rfl Tryz.func162 rfl rfl ((mem_Write _ _ _ hm (w64_fit _) (by omega)) _)) ?_
  refine zy5 ?_
  refine zs2 ?_
  refine zu5 ?_
  refine zp3 ?_
  refine Wa 46 rfl (str_len _) ?_
  refine z1 ?_
  refine Wa 47 rfl (bsL cInt [_, _] rfl rfl) ?_
  refine zs3 ?_
  refine Wq ?_
  refine leafM rfl rfl ?_ ?_
  ·rw [pEnd, if_pos h0]; rfl
  ·rw [pEnd, if_pos h0]; rfl
def pBodyP (v : VVm) (x : List Int) : List Int × Int := ([W64 (xat x 0 + 16)], if (vmKind v (xat x 0)).2 = 0 ∧ ((vmKind v (xat x 0)).1 < 257 ∨ 260 < (vmKind v (xat x 0)).1) then -31 else (vmKind v (xat x 0)).2)
theorem ot_1 (v : VVm) (x : List Int) (hm : v.mem.b.length ≤ 140737488355328) (hx : XOk 1 x) : ∀ (H : List Ob) (i : Nat), H[i]? = some (.cells (cVm v) 36) → HC Tryz.prog 163 (.ptr i 0 :: [sq cInt x]) H (tLv (pBodyP v x)) (H.set i (.cells (cVm v) 36)) := by
 have hl := hx.len
 refine mut_of_W tG (rs := [.tmp 4, .tmp 5]) Tryz.func163 rfl rfl rfl (by simp) (by simp) (by simp) (by simp) (fun B => ?_)
 refine zu2 ?_
 refine Ws ?_
 refine W_drawU [0, 0, 1, 0, 0, 1, 0, 0, 0, 0, 0, 0] [0, 1, 2, 3, 4, 5, 6, 7, 8, 9, 10, 11] mG rfl (by kernel_rfl) ?_
 iterate 2 refine z3 ?_
 refine z5 ?_
 refine z3 ?_
 refine Xi tG rfl rfl rfl rfl (fun _ => rfl) (by omega) (iN cInt 1 (fun _ => rfl) 0 (by (simp only [dnL] at *; omega))) ?_
 refine z5 ?_
 refine Xc rfl rfl rfl rfl (fun _ => dC rfl Tryz.func164 rfl rfl ((vm_Kind v _ hm (hx.fit 0)) _)) ?_
 iterate 5 refine z3 ?_
 refine WU_nil ?_
 refine Ws ?_
 refine zp3 ?_
 refine Wb 20 rfl (fun hg1 => ?_) (fun hg1 => ?_)
 ·have h0 : (vmKind v (xat x 0)).2 = 0 := beq_iff_eq.1 hg1
  refine zy3 ?_
  refine Wb 23 rfl (fun hg2 => ?_) (fun hg2 => ?_)
  ·have h1 : (vmKind v (xat x 0)).1 < 257 := oT hg2
   iterate 2 refine z6 ?_
   refine zs2 ?_
   refine Wt rfl rfl ?_
   refine W_region rfl ?_
   refine zs1 ?_
   refine zp1 ?_
   refine Wv tG rfl rfl rfl (by omega) (iN cInt 1 (fun _ => rfl) 0 (by (simp only [dnL] at *; omega))) ?_
   refine zy3 ?_
   refine Wa 32 rfl (bsL cInt [_] rfl rfl) ?_
   refine zs3 ?_
   refine Wq ?_
   refine leafM rfl rfl ?_ ?_
   ·(rw [pBodyP, if_pos ⟨h0, by omega⟩]; rfl)
   ·rfl
  ·have h1 : ¬ (vmKind v (xat x 0)).1 < 257 := oF hg2
   refine zs4 ?_
   refine Wi rfl (fun hi1 => ?_) (fun hi1 => ?_)
   ·have h2 : 260 < (vmKind v (xat x 0)).1 := oT hi1
    refine W_region rfl ?_
    refine zs1 ?_
    refine zp1 ?_
    refine Wv tG rfl rfl rfl (by omega) (iN cInt 1 (fun _ => rfl) 0 (by (simp only [dnL] at *; omega))) ?_
    refine zy3 ?_
    refine Wa 32 rfl (bsL cInt [_] rfl rfl) ?_
    refine zs3 ?_
    refine Wq ?_
    refine leafM rfl rfl ?_ ?_
    ·(rw [pBodyP, if_pos ⟨h0, by omega⟩]; rfl)
    ·rfl
   ·have h2 : ¬ 260 < (vmKind v (xat x 0)).1 := oF hi1
    refine Wj ?_
    refine zp1 ?_
    refine Wv tG rfl rfl rfl (by omega) (iN cInt 1 (fun _ => rfl) 0 (by (simp only [dnL] at *; omega))) ?_
    refine zy3 ?_
    refine Wa 32 rfl (bsL cInt [_] rfl rfl) ?_
    refine zs3 ?_
    refine Wq ?_
    refine leafM rfl rfl ?_ ?_
    ·(rw [pBodyP, if_neg (fun h => by omega)]; rfl)
    ·rfl
 ·have h0 : ¬ (vmKind v (xat x 0)).2 = 0 := beq_eq_false_iff_ne.1 hg1
  iterate 6 refine z6 ?_
  refine zs1 ?_
  refine Wf rfl rfl ?_
  refine Wj ?_
  refine zp1 ?_
  refine Wv tG rfl rfl rfl (by omega) (iN cInt 1 (fun _ => rfl) 0 (by (simp only [dnL] at *; omega))) ?_
  refine zy3 ?_
  refine Wa 32 rfl (bsL cInt [_] rfl rfl) ?_
  refine zs3 ?_
  refine Wq ?_
  refine leafM rfl rfl ?_ ?_
  ·(rw [pBodyP, if_neg (fun h => by omega)]; rfl)
  ·rfl
theorem ot_2 (x : List Int) : PureC Tryz.prog 165 [sq cInt x] (tLv ([], -1)) := by
 refine pW tG (rs := [.tmp 2, .tmp 3]) Tryz.func165 rfl rfl rfl (by simp) (by simp) (fun B => ?_)
 refine zu2 ?_
 refine zu2 ?_
 refine zR ?_
 rfl
theorem ot_3 (v : VVm) : PureC Tryz.prog 167 [eVm v] (i64 v.arg) := by
 refine pW tG (rs := [.tmp 2]) Tryz.func167 rfl rfl rfl (by simp) (by simp) (fun B => ?_)
 refine zu2 ?_
 refine zu3 ?_
 refine zR ?_
 rfl
theorem ot_4 (v : VVm) : PureC Tryz.prog 168 [eVm v] (i64 v.self) := by
 refine pW tG (rs := [.tmp 2]) Tryz.func168 rfl rfl rfl (by simp) (by simp) (fun B => ?_)
 refine zu2 ?_
 refine zu3 ?_
 refine zR ?_
 rfl
theorem ot_5 (v : VVm) : PureC Tryz.prog 169 [eVm v] (i64 v.now) := by
 refine pW tG (rs := [.tmp 2]) Tryz.func169 rfl rfl rfl (by simp) (by simp) (fun B => ?_)
 refine zu2 ?_
 refine zu3 ?_
 refine zR ?_
 rfl
theorem ot_6 (v : VVm) (x : List Int) (hm : MemOk v.mem) (hx : XOk 2 x) : ∀ (H : List Ob) (i : Nat), H[i]? = some (.cells (cVm v) 36) → HC Tryz.prog 170 (.ptr i 0 :: [sq cInt x]) H (tLv (pSetState v x).2) (H.set i (.cells (cVm (pSetState v x).1) 36)) := by
 have hl := hx.len
 refine mut_of_W tG (rs := [.tmp 4, .tmp 5]) Tryz.func170 rfl rfl rfl (by simp) (by simp) (by simp) (by simp) (fun B => ?_)
 refine zu2 ?_
 iterate 2 refine Ws ?_
 refine W_drawU [0, 0, 0, 1, 0, 0, 1, 3, 0] [0, 1, 2, 3, 4, 5, 6, 7, 8] mG rfl (by kernel_rfl) ?_
 iterate 2 refine z3 ?_
 refine Xi tG rfl rfl rfl rfl (fun _ => rfl) (by omega) (iN cInt 1 (fun _ => rfl) 0 (by (simp only [dnL] at *; omega))) ?_
 refine z5 ?_
 refine z3 ?_
 refine Xi tG rfl rfl rfl rfl (fun _ => rfl) (by omega) (iN cInt 1 (fun _ => rfl) 0 (by (simp only [dnL] at *; omega))) ?_
 refine z5 ?_
 refine WU_call3 rfl rfl rfl rfl (dC rfl Tryz.func171 rfl rfl ((prim_stated v _ _ (memOk_len hm) (hx.fit 0)) _ _ rfl)) ?_
 refine z3 ?_
 refine WU_nil ?_
 refine zu2 ?_
 refine Wi rfl (fun hi1 => ?_) (fun hi1 => ?_)
 ·have h0 : ¬ stated v (xat x 0) (xat x 1) = 0 := bne_iff_ne.1 hi1
  refine zu3 ?_
  refine Wq ?_
  refine leafM rfl rfl ?_ ?_
  ·rw [pSetState, if_neg h0]; rfl
  ·rw [pSetState, if_neg h0]; rfl
 ·have h0 : stated v (xat x 0) (xat x 1) = 0 := bne_eq_false_iff_eq.1 hi1
  refine Wj ?_
  refine Ws ?_
  refine W_drawU [0, 0, 0, 1, 0, 0, 1, 3, 0, 0] [0, 1, 2, 3, 4, 5, 6, 7, 8, 9] mG rfl (by kernel_rfl) ?_
  iterate 2 refine z3 ?_
  refine Xi tG rfl rfl rfl rfl (fun _ => rfl) (by omega) (iN cInt 1 (fun _ => rfl) 0 (by (simp only [dnL] at *; omega))) ?_
  refine z5 ?_
  refine z3 ?_
  refine Xi tG rfl rfl rfl rfl (fun _ => rfl) (by omega) (iN cInt 1 (fun _ => rfl) 0 (by (simp only [dnL] at *; omega))) ?_
  refine z5 ?_
  refine WU_call3 rfl rfl rfl rfl (dC rfl Tryz.func122 rfl rfl ((prim_store v _ _ hm (hx.fit 1)) _ _ rfl)) ?_
  iterate 2 refine z3 ?_
  refine WU_nil ?_
  refine Wq ?_
  refine leafM rfl rfl ?_ ?_
  ·rw [pSetState, if_pos h0]; rfl
  ·rw [pSetState, if_pos h0]; rfl
theorem ot_7 (v : VVm) (x : List Int) (hm : MemOk v.mem) (hx : XOk 3 x) : ∀ (H : List Ob) (i : Nat), H[i]? = some (.cells (cVm v) 36) → HC Tryz.prog 172 (.ptr i 0 :: [sq cInt x]) H (tLv (pAtState v x).2) (H.set i (.cells (cVm (pAtState v x).1) 36)) := by
 have hl := hx.len
 refine mut_of_W tG (rs := [.tmp 4, .tmp 5]) Tryz.func172 rfl rfl rfl (by simp) (by simp) (by simp) (by simp) (fun B => ?_)
 refine zu2 ?_
 iterate 2 refine Ws ?_
 refine W_drawU [0, 0, 0, 1, 0, 0, 1, 3, 0] [0, 1, 2, 3, 4, 5, 6, 7, 8] mG rfl (by kernel_rfl) ?_
 iterate 2 refine z3 ?_
 refine Xi tG rfl rfl rfl rfl (fun _ => rfl) (by omega) (iN cInt 1 (fun _ => rfl) 0 (by (simp only [dnL] at *; omega))) ?_
 refine z5 ?_
 refine z3 ?_
 refine Xi tG rfl rfl rfl rfl (fun _ => rfl) (by omega) (iN cInt 1 (fun _ => rfl) 0 (by (simp only [dnL] at *; omega))) ?_
 refine z5 ?_
 refine WU_call3 rfl rfl rfl rfl (dC rfl Tryz.func171 rfl rfl ((prim_stated v _ _ (memOk_len hm) (hx.fit 1)) _ _ rfl)) ?_
 refine z3 ?_
 refine WU_nil ?_
 refine zu2 ?_
 refine Wi rfl (fun hi1 => ?_) (fun hi1 => ?_)
 ·have h0 : ¬ stated v (xat x 1) (xat x 2) = 0 := bne_iff_ne.1 hi1
  refine zu3 ?_
  refine Wq ?_
  refine leafM rfl rfl ?_ ?_
  ·rw [pAtState, if_neg h0]; rfl
  ·rw [pAtState, if_neg h0]; rfl
 ·have h0 : stated v (xat x 1) (xat x 2) = 0 := bne_eq_false_iff_eq.1 hi1
  refine Wj ?_
  refine Ws ?_
  refine W_drawU [0, 0, 0, 0, 0, 0, 0, 0, 0, 0, 0, 0, 0, 3, 0, 0] [0, 1, 2, 3, 4, 5, 6, 7, 8, 9, 10, 11, 12, 13, 14, 15] mG rfl (by kernel_rfl) ?_
  iterate 2 refine z3 ?_
  refine Xi tG rfl rfl rfl rfl (fun _ => rfl) (by omega) (iN cInt 1 (fun _ => rfl) 0 (by (simp only [dnL] at *; omega))) ?_
  iterate 3 refine z3 ?_
  refine Xi tG rfl rfl rfl rfl (fun _ => rfl) (by omega) (iN cInt 1 (fun _ => rfl) 0 (by (simp only [dnL] at *; omega))) ?_
  iterate 4 refine z3 ?_
  refine Xi tG rfl rfl rfl rfl (fun _ => rfl) (by omega) (iN cInt 1 (fun _ => rfl) 0 (by (simp only [dnL] at *; omega))) ?_
  refine z3 ?_
  refine WU_call3 rfl rfl rfl rfl (dC rfl Tryz.func122 rfl rfl ((prim_store v _ _ hm (w64_fit _)) _ _ rfl)) ?_
  iterate 2 refine z3 ?_
  refine WU_nil ?_
  refine Wq ?_
  refine leafM rfl rfl ?_ ?_
  ·rw [pAtState, if_pos h0]; rfl
  ·rw [pAtState, if_pos h0]; rfl
end Go.Proofs.YtphgdofmjpdhaaaGreat
