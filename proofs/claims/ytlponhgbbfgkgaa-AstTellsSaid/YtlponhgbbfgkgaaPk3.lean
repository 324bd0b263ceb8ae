import Derived.BigQuiet
import Derived.ChangeKeysEq
import Derived.ChangeOld
import Derived.ChangeSlices
import Derived.Deep.CutBlock
import Derived.Deep.DeepCutAuto
import Derived.Deep.QuietTactic
import Derived.Handy
import Derived.Laws.BitsAllLaws
import Derived.Laws.CopyOwn
import Derived.Laws.RangeString
import Derived.Lib.AppendZerosOnto
import Derived.Lib.Hide
import Derived.Lib.ItoaNum
import Derived.Lib.SliceRun
import Derived.Lib.Walk
import Derived.OpenShut
import Derived.Outline
import Derived.ProofKit
import Derived.Shelf.Bytes.SlEqualAll
import Derived.Shelf.Slices.Turned
import Derived.Shelf.Small.Wraps
import Derived.Shelf.Strings.Prefix
import Derived.ShutString
import Derived.Test.YtlponhgbbfgkgaaPk2
set_option linter.unusedVariables false
set_option linter.unusedSimpArgs false
namespace Go.Proofs
open Go.Shelf
def Try.lays103_ren : Go.Shelf.Ren := ⟨fun | 103 => 80 | 210 => 96 | 206 => 103 | n => n, fun | 9 => 9 | 4 => 4 | 24 => 90 | 3 => 3 | n => n, fun | n => n⟩
theorem Try.lays103 : Go.Proofs.Lays.n103 Try.prog Try.lays103_ren := {
 mixed := by kernel_rfl
 f103 := Try.func80.trans (congrArg some (by kernel_rfl))
 f206 := Try.func103.trans (congrArg some (by kernel_rfl))
 f210 := Try.func96.trans (congrArg some (by kernel_rfl))
 t3 := Try.underlying3
 a3 := Try.isAgg3
 z3 := Try.sizeOf3
 v3 := Try.zeroValue3
 t4 := Try.underlying4
 a4 := Try.isAgg4
 z4 := Try.sizeOf4
 v4 := Try.zeroValue4
 t9 := Try.underlying9
 a9 := Try.isAgg9
 z9 := Try.sizeOf9
 v9 := Try.zeroValue9
 t24 := Try.underlying90
 a24 := Try.isAgg90
 z24 := Try.sizeOf90
 v24 := Try.zeroValue90 }
open Go.RowKit in
theorem Try.strings_CutPrefix (s p : ByteArray) (w : World) :
  Calls Try.prog 80 #[.string s, .string p] w fun e w' => e = .returned (.tuple #[.string ⟨(Lib.trimPrefix s.data.toList p.data.toList).toArray⟩, .bool (Lib.hasPrefix s.data.toList p.data.toList)]) ∧ w' = w := Any.strings_CutPrefix Try.lays103 s p w
end Go.Proofs
namespace Go.Proofs.Ytlponhgbbfgkgaa
open Go.RowKit (wrap64)
def S (n : Nat) : Int := wrap64 n
end Go.Proofs.Ytlponhgbbfgkgaa
namespace Go.Proofs.Ytlponhgbbfgkgaa
open Go.RowKit
def valB : List Int → Nat
 | [] => 0
 | x :: t => x.toNat + 256 * valB t
theorem valB_append (xs ys : List Int) : valB (xs ++ ys) = valB xs + 256 ^ xs.length * valB ys := by
 induction xs with
 | nil => simp [valB]
 | cons x t ih =>
  simp only [List.cons_append, valB, ih, List.length_cons, Nat.pow_succ, Nat.mul_add, Nat.add_assoc]
  rw [← Nat.mul_assoc 256, Nat.mul_comm 256 (256 ^ _)]
theorem valB_lt (xs : List Int) (h : ∀ x ∈ xs, 0 ≤ x ∧ x < 256) : valB xs < 256 ^ xs.length := by
 induction xs with
 | nil => simp [valB]
 | cons x t ih =>
  have h1 := ih fun y hy => h y (List.mem_cons_of_mem _ hy)
  have h2 := h x List.mem_cons_self
  simp only [valB, List.length_cons, Nat.pow_succ]
  omega
theorem getD_byte {xs : List Int} (h : ∀ x ∈ xs, 0 ≤ x ∧ x < 256) (k : Nat) (hk : k < xs.length) : 0 ≤ xs.getD k 0 ∧ xs.getD k 0 < 256 := by
 have e : xs.getD k 0 = xs[k] := by simp [List.getD, hk]
 rw [e]; exact h _ (List.getElem_mem hk)
theorem take_more (xs : List Int) (k : Nat) (hk : k < xs.length) : xs.take (k + 1) = xs.take k ++ [xs.getD k 0] := by
 rw [List.take_add_one, List.getElem?_eq_getElem hk]; simp [List.getD, hk]
theorem drop_more (xs : List Int) (k : Nat) (hk : k < xs.length) : xs.drop k = xs.getD k 0 :: xs.drop (k + 1) := by
 rw [List.drop_eq_getElem_cons hk]; simp [List.getD, hk]
theorem or_byte (acc x k : Nat) (hacc : acc < 256 ^ k) (hx : x < 256) (hk : k < 8) :
  bits .or .u64 (acc : Int) (IntKind.u64.wrap ((x : Int) * 2 ^ (8 * k))) = ((acc + 256 ^ k * x : Nat) : Int) := by
 have e0 : (256 : Nat) ^ k = 2 ^ (8 * k) := by rw [show (256 : Nat) = 2 ^ 8 from rfl, ← Nat.pow_mul]
 have e1 : (x : Int) * 2 ^ (8 * k) = ((x * 2 ^ (8 * k) : Nat) : Int) := by simp
 have hp : 2 ^ (8 * k) ≤ 2 ^ 56 := Nat.pow_le_pow_right (by omega) (by omega)
 have hq : x * 2 ^ (8 * k) ≤ 255 * 2 ^ 56 := Nat.mul_le_mul (by omega) hp
 have h56 : (2 : Nat) ^ 56 = 72057594037927936 := by decide
 rw [e0] at hacc
 rw [e1, IntWalk.u64_in _ (by omega), u64_or_nat _ _ (by omega) (by omega), e0]
 congr 1
 have := Nat.shiftLeft_add_eq_or_of_lt hacc x
 rw [Nat.shiftLeft_eq] at this
 rw [Nat.or_comm, ← this, Nat.mul_comm, Nat.add_comm]
set_option maxRecDepth 100000 in
theorem cell_Get (b o c : Nat) (xs : List Int) (w : World) (hl : xs.length = 8) (hb : ∀ x ∈ xs, 0 ≤ x ∧ x < 256) (hc : ∀ i, i < 8 → w.cell? ⟨b, o + i, none⟩ = some (.int .u8 (xs.getD i 0))) :
  Calls Try.prog 77 #[.slice (some ⟨b, o, none⟩) 8 c] w fun e w' => e = .returned (.tuple #[.int .i64 (wrap64 (valB xs)), .int .i64 0]) ∧ w = w' := by
 have HC := Lib.hid hc
 have HL := Lib.hid hl
 have HB := Lib.hid hb
 clear hc hl hb
 go_enter Try.func77, Try.ntmps77
 go_wp2_with fail
 go_loop [4, 12] (fun a i => ∃ k m : Nat, k ≤ 8 ∧ i = .int .i64 k ∧ a = .int .u64 m ∧ Hid (m = valB (xs.take k))) (fun _ i => 8 - (intOf i).toNat)
 case atStart => exact ⟨0, 0, by omega, rfl, rfl, rfl⟩
 case round =>
  obtain ⟨k, m, hk, rfl, rfl, hm⟩ := hrel
  by_cases hlt : k < 8
  ·obtain ⟨x, hx, hx2, hcell⟩ : ∃ x : Nat, (xs.getD k 0 = (x : Int)) ∧ x < 256 ∧ w.cell? ⟨b, o + k, none⟩ = some (.int .u8 (x : Int)) := by
    have h1 := getD_byte HB.out k (by have := HL.out; omega)
    refine ⟨(xs.getD k 0).toNat, by omega, by omega, ?_⟩
    rw [HC.out k hlt]
    congr 2
    omega
   have hmlt : m < 256 ^ k := by
    have := valB_lt (xs.take k) fun y hy => HB.out y (List.mem_of_mem_take hy)
    rw [← hm.out, List.length_take] at this
    rwa [Nat.min_eq_left (by have := HL.out; omega)] at this
   have hor := or_byte m x k hmlt hx2 hlt
   have hm' : Hid (m + 256 ^ k * x = valB (xs.take (k + 1))) := by
    show _ = _
    rw [take_more _ _ (by have := HL.out; omega), valB_append, ← hm.out, hx, List.length_take, Nat.min_eq_left (by have := HL.out; omega)]
    simp [valB]
   generalize m + 256 ^ k * x = m' at *
   clear hm hmlt hx
   go_wp2
   go_round
   case rel => exact ⟨k + 1, m', by omega, by go_num, rfl, hm'⟩
   case measure => simp [intOf]; omega
  ·have e : m = valB xs := by rw [hm.out, List.take_of_length_le (by have := HL.out; omega)]
   clear hm
   go_wp2
   go_ret2
   exact ⟨rfl, rfl⟩
set_option maxRecDepth 100000 in
theorem ref_Get (b o c : Nat) (xs : List Int) (w : World) (hl : xs.length = 8) (hb : ∀ x ∈ xs, 0 ≤ x ∧ x < 256) (hc : ∀ i, i < 8 → w.cell? ⟨b, o + i, none⟩ = some (.int .u8 (xs.getD i 0))) :
  Calls Try.prog 100 #[.slice (some ⟨b, o, none⟩) 8 c] w fun e w' => e = .returned (.tuple #[.int .i64 (wrap64 (valB xs)), .int .i64 0]) ∧ w = w' := by
 have HC := Lib.hid hc
 have HL := Lib.hid hl
 have HB := Lib.hid hb
 clear hc hl hb
 go_enter Try.func100, Try.ntmps100
 go_wp2_with fail
 go_loop [4, 5] (fun a i => ∃ (k m : Nat) (j : Int), k ≤ 8 ∧ Hid (j = (k : Int) - 1) ∧ i = .int .i64 j ∧ a = .int .u64 m ∧ Hid (m = valB (xs.drop k))) (fun _ i => (intOf i + 1).toNat)
 case atStart => exact ⟨8, 0, 7, by omega, (by decide : (7 : Int) = ((8 : Nat) : Int) - 1), rfl, rfl, by show _ = _; rw [List.drop_eq_nil_of_le (by have := HL.out; omega)]; rfl⟩
 case round =>
  obtain ⟨k, m, j, hk, hj, rfl, rfl, hm⟩ := hrel
  by_cases h0 : k = 0
  ·obtain rfl : j = -1 := by have := hj.out; omega
   have e : m = valB xs := by rw [hm.out, h0]; rfl
   clear hm hj h0
   go_wp2
   go_ret2
   exact ⟨rfl, rfl⟩
  ·obtain ⟨i, rfl⟩ : ∃ i, k = i + 1 := ⟨k - 1, by omega⟩
   obtain rfl : j = (i : Int) := by have := hj.out; omega
   obtain ⟨x, hx, hx2, hcell⟩ : ∃ x : Nat, (xs.getD i 0 = (x : Int)) ∧ x < 256 ∧ w.cell? ⟨b, o + i, none⟩ = some (.int .u8 (x : Int)) := by
    have h1 := getD_byte HB.out i (by have := HL.out; omega)
    refine ⟨(xs.getD i 0).toNat, by omega, by omega, ?_⟩
    rw [HC.out i (by omega)]
    congr 2
    omega
   have hmlt : m < 72057594037927936 := by
    have := valB_lt (xs.drop (i + 1)) fun y hy => HB.out y (List.mem_of_mem_drop hy)
    rw [← hm.out, List.length_drop] at this
    have h2 : (256 : Nat) ^ (xs.length - (i + 1)) ≤ 256 ^ 7 := Nat.pow_le_pow_right (by omega) (by have := HL.out; omega)
    have h3 : (256 : Nat) ^ 7 = 72057594037927936 := by decide
    omega
   have hmI : (m : Int) ≤ 72057594037927935 := by omega
   have hi8 : (i : Int) < 8 := by omega
   have hm' : Hid (256 * m + x = valB (xs.drop i)) := by
    show _ = _
    rw [drop_more xs i (by have := HL.out; omega), hx]
    simp only [valB, ← hm.out]
    omega
   clear hm hj hx hmlt h0
   go_wp2
   go_round
   case rel => exact ⟨i, 256 * m + x, (i : Int) - 1, by omega, (rfl : (i : Int) - 1 = (i : Int) - 1), by go_num, by go_num, hm'⟩
   case measure => simp [intOf]
end Go.Proofs.Ytlponhgbbfgkgaa
namespace Go.Proofs.Ytlponhgbbfgkgaa
open Go.RowKit
set_option maxRecDepth 100000
def Fit64 (n : Int) : Prop := -9223372036854775808 ≤ n ∧ n ≤ 9223372036854775807
def memThere (m : VMem) (at_ n : Int) : Bool := decide (n = 0 ∨ (0 < n ∧ 0 ≤ at_ ∧ at_ + n ≤ m.b.length))
def memCellAt (m : VMem) (at_ : Int) : Int := if memThere m at_ 8 then (if at_.tmod 8 = 0 then 0 else -23) else -9
def getC (l : List UInt8) : Int := wrap64 (valB (l.map fun b => (b.toNat : Int)))
def memFetch (m : VMem) (at_ : Int) : Int × Int := if memCellAt m at_ = 0 then (getC ((m.b.drop at_.toNat).take 8), 0) else (0, memCellAt m at_)
theorem mem_there (m : VMem) (at_ n : Int) (hm : m.b.length ≤ 9223372036854775807) (ha : Fit64 at_) (hn : Fit64 n) : PureC Try.prog 95 [eMem m, i64 at_, i64 n] (boo (memThere m at_ n)) := by
 unfold Fit64 at ha hn
 refine pW tG (rs := [.tmp 6]) Try.func95 rfl rfl rfl (by simp) (by simp) (fun B => ?_)
 refine zu2 ?_
 refine zp3 ?_
 refine Wb 9 rfl (fun hg1 => ?_) (fun hg1 => ?_)
 ·refine z6 ?_
  iterate 21 refine z6 ?_
  refine zs2 ?_
  refine zR ?_
  exact congrArg boo (by (simp only [memThere, i64w]; rw [Bool.eq_iff_iff]; simp only [dnL] at *; (try simp only [i64w, wrap64] at *); omega))
 ·refine zy3 ?_
  refine Wb 12 rfl (fun hg2 => ?_) (fun hg2 => ?_)
  ·refine zy4 ?_
   refine Wb 16 rfl (fun hg3 => ?_) (fun hg3 => ?_)
   ·refine zy5 ?_
    refine zy2 ?_
    refine Wb 23 rfl (fun hg4 => ?_) (fun hg4 => ?_)
    ·refine zy5 ?_
     refine zs5 ?_
     refine zR ?_
     exact congrArg boo (by (simp only [memThere, i64w]; rw [Bool.eq_iff_iff]; simp only [dnL] at *; (try simp only [i64w, wrap64] at *); omega))
    ·refine z6 ?_
     iterate 6 refine z6 ?_
     refine zs3 ?_
     refine zR ?_
     exact congrArg boo (by (simp only [memThere, i64w]; rw [Bool.eq_iff_iff]; simp only [dnL] at *; (try simp only [i64w, wrap64] at *); omega))
   ·refine z6 ?_
    iterate 4 refine z6 ?_
    refine zy2 ?_
    iterate 7 refine z6 ?_
    refine zs3 ?_
    refine zR ?_
    exact congrArg boo (by (simp only [memThere, i64w]; rw [Bool.eq_iff_iff]; simp only [dnL] at *; (try simp only [i64w, wrap64] at *); omega))
  ·refine z6 ?_
   refine z6 ?_
   refine zy2 ?_
   iterate 5 refine z6 ?_
   refine zy2 ?_
   iterate 7 refine z6 ?_
   refine zs3 ?_
   refine zR ?_
   exact congrArg boo (by (simp only [memThere, i64w]; rw [Bool.eq_iff_iff]; simp only [dnL] at *; (try simp only [i64w, wrap64] at *); omega))
theorem ref_There (m : VMem) (at_ n : Int) (hm : m.b.length ≤ 9223372036854775807) (ha : Fit64 at_) (hn : Fit64 n) : PureC Try.prog 48 [eMem m, i64 at_, i64 n] (boo (memThere m at_ n)) := by
 unfold Fit64 at ha hn
 refine pW tG (rs := [.tmp 6]) Try.func48 rfl rfl rfl (by simp) (by simp) (fun B => ?_)
 refine zu2 ?_
 refine Ws ?_
 refine zu2 ?_
 refine Wi rfl (fun hi1 => ?_) (fun hi1 => ?_)
 ·refine zu1 ?_
  refine zR ?_
  exact congrArg boo (by (simp only [memThere, i64w]; rw [Bool.eq_iff_iff]; simp only [dnL] at *; (try simp only [i64w, wrap64] at *); omega))
 ·refine Wj ?_
  refine zp3 ?_
  refine Wb 11 rfl (fun hg1 => ?_) (fun hg1 => ?_)
  ·refine zy4 ?_
   refine Wb 15 rfl (fun hg2 => ?_) (fun hg2 => ?_)
   ·refine zy5 ?_
    refine zy2 ?_
    refine Wb 22 rfl (fun hg3 => ?_) (fun hg3 => ?_)
    ·refine zy5 ?_
     refine zs4 ?_
     refine zR ?_
     exact congrArg boo (by (simp only [memThere, i64w]; rw [Bool.eq_iff_iff]; simp only [dnL] at *; (try simp only [i64w, wrap64] at *); omega))
    ·refine z6 ?_
     iterate 6 refine z6 ?_
     refine zs2 ?_
     refine zR ?_
     exact congrArg boo (by (simp only [memThere, i64w]; rw [Bool.eq_iff_iff]; simp only [dnL] at *; (try simp only [i64w, wrap64] at *); omega))
   ·refine z6 ?_
    iterate 4 refine z6 ?_
    refine zy2 ?_
    iterate 7 refine z6 ?_
    refine zs2 ?_
    refine zR ?_
    exact congrArg boo (by (simp only [memThere, i64w]; rw [Bool.eq_iff_iff]; simp only [dnL] at *; (try simp only [i64w, wrap64] at *); omega))
  ·refine z6 ?_
   refine z6 ?_
   refine zy2 ?_
   iterate 5 refine z6 ?_
   refine zy2 ?_
   iterate 7 refine z6 ?_
   refine zs2 ?_
   refine zR ?_
   exact congrArg boo (by (simp only [memThere, i64w]; rw [Bool.eq_iff_iff]; simp only [dnL] at *; (try simp only [i64w, wrap64] at *); omega))
theorem fit8 : Fit64 8 := by unfold Fit64; omega
theorem mem_cellAt (m : VMem) (at_ : Int) (hm : m.b.length ≤ 9223372036854775807) (ha : Fit64 at_) : PureC Try.prog 76 [eMem m, i64 at_] (i64 (memCellAt m at_)) := by
 refine pW tG (rs := [.tmp 4]) Try.func76 rfl rfl rfl (by simp) (by simp) (fun B => ?_)
 refine zu2 ?_
 refine Ws ?_
 refine Wl ?_
 refine zp2 ?_
 refine zc rfl Try.func95 ((mem_there m at_ 8 hm ha fit8) _) ?_
 refine zs2 ?_
 refine Wi rfl (fun hi1 => ?_) (fun hi1 => ?_)
 ·refine zu1 ?_
  refine zR ?_
  simp_all [memCellAt, tup2, tup3, tup4, i64, boo, str]
 ·refine zu4 ?_
  refine Wi rfl (fun hi2 => ?_) (fun hi2 => ?_)
  ·refine zu1 ?_
   refine zR ?_
   simp_all [memCellAt, tup2, tup3, tup4, i64, boo, str]
  ·refine Wj ?_
   refine zu1 ?_
   refine zR ?_
   simp_all [memCellAt, tup2, tup3, tup4, i64, boo, str]
theorem ref_cellAt (m : VMem) (at_ : Int) (hm : m.b.length ≤ 9223372036854775807) (ha : Fit64 at_) : PureC Try.prog 99 [eMem m, i64 at_] (i64 (memCellAt m at_)) := by
 refine pW tG (rs := [.tmp 4]) Try.func99 rfl rfl rfl (by simp) (by simp) (fun B => ?_)
 refine zu2 ?_
 refine zp2 ?_
 refine zc rfl Try.func48 ((ref_There m at_ 8 hm ha fit8) _) ?_
 refine zs1 ?_
 refine Ws ?_
 refine zu2 ?_
 refine Wi rfl (fun hi1 => ?_) (fun hi1 => ?_)
 ·refine zu1 ?_
  refine zR ?_
  simp_all [memCellAt, tup2, tup3, tup4, i64, boo, str]
 ·refine Wj ?_
  refine Ws ?_
  refine zu3 ?_
  refine Wi rfl (fun hi2 => ?_) (fun hi2 => ?_)
  ·refine zu1 ?_
   refine zR ?_
   simp_all [memCellAt, tup2, tup3, tup4, i64, boo, str]
  ·refine Wj ?_
   refine zu1 ?_
   refine zR ?_
   simp_all [memCellAt, tup2, tup3, tup4, i64, boo, str]
theorem mem_cell8 (m : VMem) (at_ : Int) (h : memCellAt m at_ = 0) (ha : Fit64 at_) (hm : m.b.length ≤ 140737488355328) : 0 ≤ at_ ∧ at_ + 8 ≤ m.b.length ∧ wrap64 (at_ + 8) = at_ + 8 := by
 unfold memCellAt memThere at h
 simp only [decide_eq_true_eq] at h
 split at h
 ·rename_i h0
  refine ⟨by omega, by omega, ?_⟩
  unfold wrap64 Fit64 at *; omega
 ·omega
theorem bytes_lies {c : Cx} {l : List UInt8} {b : Addr} {vs : List Value} (hrl : RepL c (l.flatMap cByte) vs) : vs = l.map (fun x => Value.int .u8 (x.toNat : Int)) := by
 rw [cByte_map] at hrl
 rw [repL_bytes hrl, List.map_map]
 rfl
theorem cell_of_get {f : FuncId} (l : List UInt8) (hl : l.length = 8) (H0 : ∀ (b o c : Nat) (xs : List Int) (w : World) (hl : xs.length = 8) (hb : ∀ x ∈ xs, 0 ≤ x ∧ x < 256) (hc : ∀ i, i < 8 → w.cell? ⟨b, o + i, none⟩ = some (.int .u8 (xs.getD i 0))), Calls Try.prog f #[.slice (some ⟨b, o, none⟩) 8 c] w fun e w' => e = .returned (.tuple #[.int .i64 (wrap64 (valB xs)), .int .i64 0]) ∧ w = w') :
  PureC Try.prog f [sq cByte l] (tup2 (i64 (getC l)) (i64 0)) := by
 intro H B σ w vs s hv
 match vs, hv with
 | [], hv => unfold RepL at hv; obtain ⟨u, us, h1, _⟩ := hv; cases h1
 | v :: vs, hv =>
  rw [repL_cons, repL_nil] at hv
  obtain ⟨hv, rfl⟩ := hv
  unfold sq at hv
  obtain ⟨ad, cap, ws, rfl, hle, hnil, hrl, hlies, _⟩ := rep_seq hv
  have hws := bytes_lies (b := default) hrl
  have hwl : ws.length = 8 := by rw [hws]; simpa using hl
  match ad, hnil, hlies with
  | none, hnil, _ => have := (hnil rfl).1; omega
  | some b, _, hlies =>
   have hl2 := (hlies b rfl).resolve_right (by rintro ⟨_, h3⟩; rw [h3] at hwl; simp at hwl)
   have hbe := lies_addr hl2
   rw [hbe, hl]
   refine Calls.mono (H0 b.block b.off cap (l.map fun x => (x.toNat : Int)) w (by simpa using hl) (fun x hx => ?_) (fun i hi => (hl2.2 i _ (by rw [hws, List.getElem?_map, List.getElem?_eq_getElem (by omega)]; simp [List.getD, show i < l.length by omega])).1)) ?_
   ·obtain ⟨y, _, rfl⟩ := List.mem_map.1 hx
    have := y.toNat_lt; omega
   rintro e w' ⟨rfl, rfl⟩
   refine ⟨_, σ, rfl, ?_, s, Step.refl _ _ _ _⟩
   unfold tup2 Rep
   exact ⟨[_, _], rfl, repL_cons.2 ⟨rep_val _ _, repL_cons.2 ⟨rep_val _ _, repL_nil.2 rfl⟩⟩⟩
theorem cell_get8 (l : List UInt8) (hl : l.length = 8) : PureC Try.prog 77 [sq cByte l] (tup2 (i64 (getC l)) (i64 0)) := cell_of_get l hl cell_Get
theorem ref_get8 (l : List UInt8) (hl : l.length = 8) : PureC Try.prog 100 [sq cByte l] (tup2 (i64 (getC l)) (i64 0)) := cell_of_get l hl ref_Get
theorem len8 {m : VMem} {at_ : Int} (h0 : 0 ≤ at_) (h1 : at_ + 8 ≤ m.b.length) (h2 : wrap64 (at_ + 8) = at_ + 8) : ((m.b.take (IntKind.i64.wrap (at_ + 8)).toNat).drop at_.toNat).length = 8 := by
 rw [i64w, h2]; simp; omega
theorem sub8 {m : VMem} {at_ : Int} (h0 : 0 ≤ at_) (h1 : at_ + 8 ≤ m.b.length) (h2 : wrap64 (at_ + 8) = at_ + 8) : (m.b.take (IntKind.i64.wrap (at_ + 8)).toNat).drop at_.toNat = (m.b.drop at_.toNat).take 8 := by
 rw [i64w, h2, List.drop_take]; congr 1; omega
def tFetch (r : Int × Int) : PV := tup2 (i64 r.1) (i64 r.2)
@[simp] theorem flat_tFetch (r : Int × Int) : Flat (tFetch r) := by simp [tFetch]
theorem mem_Fetch (m : VMem) (at_ : Int) (hm : m.b.length ≤ 140737488355328) (ha : Fit64 at_) : PureC Try.prog 51 [eMem m, i64 at_] (tFetch (memFetch m at_)) := by
 have hF : memCellAt m at_ = 0 → 0 ≤ at_ ∧ at_ + 8 ≤ m.b.length ∧ wrap64 (at_ + 8) = at_ + 8 := fun h => mem_cell8 m at_ h ha hm
 refine pW tG (rs := [.tmp 4, .tmp 5]) Try.func51 rfl rfl rfl (by simp) (by simp) (fun B => ?_)
 refine zu3 ?_
 refine Ws ?_
 refine zp2 ?_
 refine zc rfl Try.func76 ((mem_cellAt m at_ (by omega) ha) _) ?_
 refine zs1 ?_
 refine zu2 ?_
 refine Wi rfl (fun hi1 => ?_) (fun hi1 => ?_)
 ·refine zu3 ?_
  refine zR ?_
  simp_all [tFetch, memFetch, tup2, i64]
 ·have h0 : memCellAt m at_ = 0 := by simpa using hi1
  obtain ⟨k0, k1, k2⟩ := hF h0
  refine Wj ?_
  refine zp5 ?_
  refine z2 ?_ (q := (by rw [i64w, k2]; omega))
  refine Wa 18 rfl (sq_slice cByte 1 (fun _ => rfl) (by rw [i64w, k2]; omega)) ?_
  refine zc rfl Try.func77 ((cell_get8 _ (len8 k0 k1 k2)) _) ?_
  refine zs4 ?_
  refine zR ?_
  (rw [sub8 k0 k1 k2]; simp [tFetch, memFetch, tup2, i64, h0])
theorem ref_Fetch (m : VMem) (at_ : Int) (hm : m.b.length ≤ 140737488355328) (ha : Fit64 at_) : PureC Try.prog 92 [eMem m, i64 at_] (tFetch (memFetch m at_)) := by
 have hF : memCellAt m at_ = 0 → 0 ≤ at_ ∧ at_ + 8 ≤ m.b.length ∧ wrap64 (at_ + 8) = at_ + 8 := fun h => mem_cell8 m at_ h ha hm
 refine pW tG (rs := [.tmp 4, .tmp 5]) Try.func92 rfl rfl rfl (by simp) (by simp) (fun B => ?_)
 refine zu3 ?_
 refine zp2 ?_
 refine zc rfl Try.func99 ((ref_cellAt m at_ (by omega) ha) _) ?_
 refine zs1 ?_
 refine Ws ?_
 refine zu2 ?_
 refine Wi rfl (fun hi1 => ?_) (fun hi1 => ?_)
 ·refine zu3 ?_
  refine zR ?_
  simp_all [tFetch, memFetch, tup2, i64]
 ·have h0 : memCellAt m at_ = 0 := by simpa using hi1
  obtain ⟨k0, k1, k2⟩ := hF h0
  refine Wj ?_
  refine zp5 ?_
  refine z2 ?_ (q := (by rw [i64w, k2]; omega))
  refine Wa 21 rfl (sq_slice cByte 1 (fun _ => rfl) (by rw [i64w, k2]; omega)) ?_
  refine zc rfl Try.func100 ((ref_get8 _ (len8 k0 k1 k2)) _) ?_
  refine zs5 ?_
  refine zu3 ?_
  refine zR ?_
  (rw [sub8 k0 k1 k2]; simp [tFetch, memFetch, tup2, i64, h0])
end Go.Proofs.Ytlponhgbbfgkgaa
namespace Go.Proofs.Ytlponhgbbfgkgaa
open Go.RowKit
set_option maxRecDepth 100000
theorem vm_Names : PureC Try.prog 84 [] (sq cStr names) := by
 refine pW tG (rs := [.tmp 0]) Try.func84 rfl rfl rfl (by simp) (by simp) (fun B => ?_)
 refine zu1 ?_
 refine zp1 ?_
 refine Wa 1 rfl (bsL cStr [_, _, _, _, _, _, _, _, _, _, _, _, _, _, _, _, _, _, _, _, _, _, _, _, _, _, _, _, _, _, _, _, _, _, _, _, _, _, _, _, _, _, _, _, _, _, _, _, _, _, _, _, _, _, _, _, _, _, _, _, _, _, _, _, _, _, _, _, _, _, _, _, _, _, _, _, _, _, _, _, _, _, _, _, _, _, _, _, _, _, _, _, _, _, _, _, _, _, _, _, _, _, _, _, _, _, _, _, _, _, _, _, _, _, _, _, _, _, _, _, _, _, _, _, _, _, _, _, _, _] rfl rfl) ?_
 refine zs1 ?_
 refine zR ?_
 exact rfl
end Go.Proofs.Ytlponhgbbfgkgaa
namespace Go.Proofs.Ytlponhgbbfgkgaa
open Go.RowKit
set_option maxRecDepth 100000
@[simp] theorem flatc_patch (l : List VPatch) : Flat (sqc cPatch l) := flat_sqc flat_cPatch l
@[simp] theorem flatc_req (l : List VReq) : Flat (sqc cReq l) := flat_sqc flat_cReq l
@[simp] theorem flatc_byte (l : List UInt8) : Flat (sqc cByte l) := flat_sqc flat_cByte l
@[simp] theorem flatc_int (l : List Int) : Flat (sqc cInt l) := flat_sqc flat_cInt l
end Go.Proofs.Ytlponhgbbfgkgaa
namespace Go.Proofs.Ytlponhgbbfgkgaa
open Go.RowKit
theorem Grows.drewN (w : World) (n : Nat) : Grows w (w.drewN n) := by
 have e : w.drewN n = { w with drawn := w.drawn + n } := rfl
 exact ⟨rfl, rfl, rfl, Nat.le_refl _, fun b hb => rfl⟩
end Go.Proofs.Ytlponhgbbfgkgaa
namespace Go.Proofs.Ytlponhgbbfgkgaa
open Go.ChangeShapes Go.WideShapes Go.ChangeAt Go.RowKit
open Go.ChangeMaps (open_string)
def Rd (w : World) (t : TypeId) (cs : List Value) : Prop := ∃ (H : Type) (enc : TypeId × Value → H) (fuel : Nat) (x : DataW H × List MemPlace), DataW.trod enc Try.prog w 0 (fun _ => true) true fuel t cs = some x
def Reads (w : World) (t : TypeId) (v : Value) : Prop := ∃ (H : Type) (enc : TypeId × Value → H) (d : DataW H) (p : List MemPlace) (base : Nat), Value.okWide Try.prog w .any base t v ∧ DataW.Trod enc Try.prog w 0 (fun _ => true) true t v d p
theorem reads_rd {w : World} {t : TypeId} {v : Value} (h : Reads w t v) : Rd w t v.cells.toList := by
 obtain ⟨H, enc, d, p, base, _, fuel, hf⟩ := h
 exact ⟨H, enc, fuel, _, hf⟩
set_option maxRecDepth 100000 in
theorem reads_struct {w : World} {t : TypeId} {v : Value} {fs : Array Field} (ht : Try.prog.underlying t = some (.struct fs)) (h : Reads w t v) : ∃ cs : Array Value, v = .agg cs ∧ cs.toList.length = Try.prog.cellsOf t ∧ Rd w t cs.toList := by
 have hr := reads_rd h
 obtain ⟨H, enc, d, p, base, hv, hd⟩ := h
 obtain ⟨cs, rfl, hs⟩ := okWide_struct ht hv
 exact ⟨cs, rfl, by simpa using hs, hr⟩
theorem rd_int {w : World} {t : TypeId} {cs : List Value} {k : IntKind} (ht : Try.prog.underlying t = some (.int k)) (h : Rd w t cs) : ∃ n, cs = [.int k n] ∧ (Lit.int k n).wf = true := by
 obtain ⟨H, enc, fuel, x, hf⟩ := h
 obtain ⟨n, hc, _, hw⟩ := DataW.trod_int ht hf
 exact ⟨n, hc, hw⟩
theorem rd_bool {w : World} {t : TypeId} {cs : List Value} (ht : Try.prog.underlying t = some .bool) (h : Rd w t cs) : ∃ b, cs = [.bool b] := by
 obtain ⟨H, enc, fuel, x, hf⟩ := h
 obtain ⟨b, hc, _⟩ := DataW.trod_bool ht hf
 exact ⟨b, hc⟩
theorem rd_string {w : World} {t : TypeId} {cs : List Value} (ht : Try.prog.underlying t = some .string) (h : Rd w t cs) : ∃ s : ByteArray, cs = [.string s] ∧ s.size ≤ maxLen := by
 obtain ⟨H, enc, fuel, x, hf⟩ := h
 obtain ⟨s, hc, _, hw⟩ := DataW.trod_string ht hf
 exact ⟨s, hc, hw⟩
theorem rd_len {w : World} {t : TypeId} {cs : List Value} {fs : Array Field} (ht : Try.prog.underlying t = some (.struct fs)) (h : Rd w t cs) : cs.length = Try.prog.cellsOf t := by
 obtain ⟨H, enc, fuel, x, hf⟩ := h
 obtain ⟨xs, n, _, _, hl, _⟩ := DataW.trod_struct ht hf
 exact hl
theorem rd_field {w : World} {t : TypeId} {cs : List Value} {fs : Array Field} (ht : Try.prog.underlying t = some (.struct fs)) (h : Rd w t cs) (i : Nat) (f : Field) (hf : fs[i]? = some f) :
  Rd w f.type ((cs.drop f.offset).take (Try.prog.cellsOf f.type)) := by
 obtain ⟨H, enc, fuel, x, hx⟩ := h
 obtain ⟨xs, n, _, _, _, hlen, hfs⟩ := DataW.trod_struct ht hx
 have hi : i < xs.length := by
  rw [hlen]
  rcases Nat.lt_or_ge i fs.size with h' | h'
  ·exact h'
  ·rw [Array.getElem?_eq_none h'] at hf; cases hf
 have := hfs i f hf
 rw [List.getElem?_eq_getElem hi] at this
 exact ⟨H, enc, n, _, this⟩
theorem rd_slice {w : World} {t : TypeId} {cs : List Value} {e : TypeId} (ht : Try.prog.underlying t = some (.slice e)) (h : Rd w t cs) :
  cs = [.slice none 0 0] ∨ ∃ (a : Addr) (len cap : Nat), cs = [.slice (some a) len cap] ∧ len ≤ cap ∧ cap ≤ maxLen ∧
   ∀ i, i < cap → ∃ es, w.cells? 0 (a.add (i * Try.prog.cellsOf e)) (Try.prog.cellsOf e) = some es ∧ Rd w e es := by
 obtain ⟨H, enc, fuel, x, hx⟩ := h
 rcases DataW.trod_slice ht hx with ⟨h0, _⟩ | ⟨a, len, cap, elems, rest, n, _, hc, _, _, hl, hm, hlen, hel, hsp, _⟩
 ·exact .inl h0
 ·refine .inr ⟨a, len, cap, hc, hl, hm, fun i hi => ?_⟩
  have key : ∀ (o : Option (List Value)) (y : Option (DataW H × List MemPlace)) (k : Nat) (l : List (DataW H × List MemPlace)), k < l.length → o.bind (DataW.trod enc Try.prog w 0 (fun _ => true) true n e) = l[k]? → ∃ es, o = some es ∧ Rd w e es := by
   intro o y k l hk ho
   rw [List.getElem?_eq_getElem hk] at ho
   cases o with
   | none => cases ho
   | some es => exact ⟨es, rfl, H, enc, n, _, ho⟩
  by_cases h1 : i < len
  ·exact key _ none i elems (by omega) (hel i h1)
  ·obtain ⟨hr1, hr2⟩ := hsp rfl
   have := hr2 (i - len) (by omega)
   rw [show len + (i - len) = i from by omega] at this
   exact key _ none (i - len) rest (by omega) this
theorem cellsOf_int : Try.prog.cellsOf 3 = 1 := by kernel_rfl
theorem four_list {α : Type} {l : List α} (h : l.length = 4) : ∃ a b c d, l = [a, b, c, d] := by
 match l, h with
 | [a, b, c, d], _ => exact ⟨a, b, c, d, rfl⟩
theorem fit_wf {n : Int} (h : (Lit.int .i64 n).wf = true) : -9223372036854775808 ≤ n ∧ n ≤ 9223372036854775807 := by
 have := h; simp [Lit.wf, IntKind.min, IntKind.max, IntKind.bits, IntKind.signed] at this; omega
theorem byte_wf {n : Int} (h : (Lit.int .u8 n).wf = true) : 0 ≤ n ∧ n ≤ 255 := by
 have := h; simp [Lit.wf, IntKind.min, IntKind.max, IntKind.bits, IntKind.signed] at this; omega
end Go.Proofs.Ytlponhgbbfgkgaa
namespace Go.Proofs.Ytlponhgbbfgkgaa
open Go.RowKit
def c0 (w : World) : Cx := cx (fun _ _ => False) [] (fun _ => none) w
theorem sim0 (w : World) : Sim (fun _ _ => False) [] (fun _ => none) w :=
 ⟨fun i j b oi oj h => by simp at h, fun i b oi h => by simp at h, fun b off h => h.elim, fun i oi h => by simp at h⟩
theorem wr0 (w : World) (b off : Nat) : ¬ (c0 w).Wr b off := by
 rintro (h | ⟨i, oi, h1, _⟩)
 ·exact h
 ·simp at h1
theorem law_calls {P : Program} {f : FuncId} {args : List PV} {vs : List Value} {w : World} (h : PureC P f args (.val (.bool true))) (hr : RepL (c0 w) args vs) :
  Calls P f vs.toArray w fun e w' => e = .returned (.bool true) ∧ Below w.heap.size w w' := by
 refine Calls.mono (h [] (fun _ _ => False) (fun _ => none) w vs (sim0 w) hr) ?_
 rintro e w' ⟨v, σ', rfl, h1, _, h3⟩
 unfold Rep at h1
 subst h1
 exact ⟨rfl, ⟨h3.os, h3.tape, h3.output, h3.size, fun b hb => h3.block b hb (fun i oi hi => by simp at hi)⟩⟩
def RdAll (w : World) : List (TypeId × Nat) → List Value → Prop
 | [], cs => cs = []
 | (t, n) :: l, cs => ∃ a b, cs = a ++ b ∧ a.length = n ∧ Rd w t a ∧ RdAll w l b
def contig (fs : List Field) (k : Nat) : List (TypeId × Nat) → Bool
 | [] => fs.isEmpty
 | (t, n) :: l => match fs with
  | [] => false
  | f :: fs => f.type == t && f.offset == k && contig fs (k + n) l
def contigN (P : Program) : List (TypeId × Nat) → Bool
 | [] => true
 | (t, n) :: l => P.cellsOf t == n && contigN P l
def total : List (TypeId × Nat) → Nat
 | [] => 0
 | (_, n) :: l => n + total l
theorem rd_all {w : World} {t : TypeId} {cs : List Value} {fs : Array Field} (ht : Try.prog.underlying t = some (.struct fs)) (l : List (TypeId × Nat)) (h1 : contig fs.toList 0 l = true) (h2 : contigN Try.prog l = true) (h3 : Try.prog.cellsOf t = total l) (h : Rd w t cs) : RdAll w l cs := by
 have hl := rd_len ht h
 rw [h3] at hl
 have hf := rd_field ht h
 have key : ∀ (l : List (TypeId × Nat)) (fs' : List Field) (j k : Nat), (∀ i, fs'[i]? = fs.toList[j + i]?) → contig fs' k l = true → contigN Try.prog l = true → cs.length = k + total l → RdAll w l (cs.drop k) := by
  intro l
  induction l with
  | nil =>
   intro fs' j k _ _ _ h4
   show cs.drop k = []
   rw [List.drop_eq_nil_iff]; simp [total] at h4; omega
  | cons q l ih =>
   obtain ⟨t', n⟩ := q
   intro fs' j k hg h4 h5 h6
   cases fs' with
   | nil => simp [contig] at h4
   | cons f fs' =>
    simp only [contig, Bool.and_eq_true, beq_iff_eq] at h4
    simp only [contigN, Bool.and_eq_true, beq_iff_eq] at h5
    simp only [total] at h6
    obtain ⟨⟨rfl, rfl⟩, h4⟩ := h4
    have hfj := hg 0
    simp only [List.getElem?_cons_zero, Nat.add_zero] at hfj
    have r := hf j f (by simpa using hfj.symm)
    rw [h5.1] at r
    refine ⟨_, _, (List.take_append_drop n (cs.drop f.offset)).symm, by simp; omega, r, ?_⟩
    rw [List.drop_drop]
    exact ih fs' (j + 1) (f.offset + n) (fun i => by have := hg (i + 1); simpa [Nat.add_assoc, Nat.add_comm 1 i] using this) h4 h5.2 (by omega)
 have := key l fs.toList 0 0 (fun i => by simp) h1 h2 (by omega)
 simpa using this
theorem rd_int_rep {w : World} {t : TypeId} {cs : List Value} {k : IntKind} (ht : Try.prog.underlying t = some (.int k)) (h : Rd w t cs) : ∃ n, (Lit.int k n).wf = true ∧ RepL (c0 w) [.val (.int k n)] cs := by
 obtain ⟨n, rfl, hw⟩ := rd_int ht h
 exact ⟨n, hw, repL_cons.2 ⟨rep_val _ _, repL_nil.2 rfl⟩⟩
theorem rd_bool_rep {w : World} {t : TypeId} {cs : List Value} (ht : Try.prog.underlying t = some .bool) (h : Rd w t cs) : ∃ b, RepL (c0 w) [.val (.bool b)] cs := by
 obtain ⟨n, rfl⟩ := rd_bool ht h
 exact ⟨n, repL_cons.2 ⟨rep_val _ _, repL_nil.2 rfl⟩⟩
theorem rd_string_rep {w : World} {t : TypeId} {cs : List Value} (ht : Try.prog.underlying t = some .string) (h : Rd w t cs) : ∃ s : ByteArray, s.size ≤ maxLen ∧ RepL (c0 w) [.val (.string s)] cs := by
 obtain ⟨n, rfl, hw⟩ := rd_string ht h
 exact ⟨n, hw, repL_cons.2 ⟨rep_val _ _, repL_nil.2 rfl⟩⟩
set_option maxRecDepth 100000 in
theorem rd_slice_repQ {α : Type} (enc : α → List PV) (Ok : α → Prop) {w : World} {cs : List Value} (k : Nat) (hk0 : 0 < k) (Q : List Value → Prop) (hel : ∀ es, Q es → ∃ x, Ok x ∧ RepL (c0 w) (enc x) es)
  (h : cs = [.slice none 0 0] ∨ ∃ (a : Addr) (len cap : Nat), cs = [.slice (some a) len cap] ∧ len ≤ cap ∧ cap ≤ maxLen ∧ ∀ i, i < cap → ∃ es, w.cells? 0 (a.add (i * k)) k = some es ∧ Q es) :
  ∃ l : List α, (∀ x ∈ l, Ok x) ∧ l.length ≤ maxLen ∧ RepL (c0 w) [.seq l.length (l.flatMap enc) .any] cs := by
 rcases h with rfl | ⟨a, len, cap, rfl, hlc, hcap, hc⟩
 ·refine ⟨[], by simp, by simp, repL_cons.2 ⟨?_, repL_nil.2 rfl⟩⟩
  have := rep_nil (c0 w)
  exact imp_seq _ _ _ _ _ this
 ·have build : ∀ n, n ≤ len → a.spot = none → ∃ (l : List α) (vs : List Value), l.length = n ∧ (∀ x ∈ l, Ok x) ∧ RepL (c0 w) (l.flatMap enc) vs ∧ vs.length = n * k ∧ ∀ j, j < n * k → w.cell? ⟨a.block, a.off + j, none⟩ = vs[j]? := by
   intro n hn hs
   induction n with
   | zero => exact ⟨[], [], rfl, by simp, repL_nil.2 rfl, by simp, fun j hj => by simp at hj⟩
   | succ n ih =>
    obtain ⟨l, vs, h1, h2, h3, h4, h5⟩ := ih (by omega)
    obtain ⟨es, h6, h7⟩ := hc n (by omega)
    obtain ⟨_, h8, h9⟩ := World.cells?_some h6
    obtain ⟨x, hx, hr⟩ := hel es h7
    refine ⟨l ++ [x], vs ++ es, by simp [h1], ?_, ?_, by rw [List.length_append, h4, h8, Nat.succ_mul], fun j hj => ?_⟩
    ·intro y hy; rcases List.mem_append.1 hy with hy | hy
     ·exact h2 y hy
     ·simp at hy; subst hy; exact hx
    ·rw [List.flatMap_append]; refine RepL.append h3 ?_; simpa using hr
    ·by_cases hj' : j < n * k
     ·rw [List.getElem?_append_left (by omega)]; exact h5 j hj'
     ·rw [List.getElem?_append_right (by omega), h4]
      rw [Nat.succ_mul] at hj
      rw [← h9 (j - n * k) (by omega)]
      have e : (a.add (n * k)).add (j - n * k) = ⟨a.block, a.off + j, none⟩ := by
       obtain ⟨b, o, sp⟩ := a
       simp only at hs
       subst hs
       rw [Addr.add_lit, Addr.add_lit]
       have : o + n * k + (j - n * k) = o + j := by omega
       rw [this]
      rw [e]
  by_cases h0 : cap = 0
  ·have hl0 : len = 0 := by omega
   subst hl0
   refine ⟨[], by simp, by simp, repL_cons.2 ⟨?_, repL_nil.2 rfl⟩⟩
   unfold Rep
   exact ⟨some a, cap, [], rfl, by simp, (fun h => by cases h), repL_nil.2 rfl, (fun b hb => .inr ⟨h0, rfl⟩), trivial⟩
  ·have hs : a.spot = none := by
    obtain ⟨es, h6, _⟩ := hc 0 (by omega)
    obtain ⟨_, h8, h9⟩ := World.cells?_some h6
    have h10 := h9 0 hk0
    simp only [Nat.zero_mul] at h10
    have e : (a.add 0).add 0 = a := by simp [Addr.add]
    rw [e, List.getElem?_eq_getElem (by omega)] at h10
    unfold World.cell? at h10
    cases hsp : a.spot with
    | none => rfl
    | some q => rw [hsp] at h10; split at h10 <;> simp at h10
   obtain ⟨l, vs, h1, h2, h3, h4, h5⟩ := build len (Nat.le_refl _) hs
   refine ⟨l, h2, by omega, repL_cons.2 ⟨?_, repL_nil.2 rfl⟩⟩
   unfold Rep
   refine ⟨some a, cap, vs, by rw [h1], by omega, (fun h => by cases h), h3, fun b hb => .inl ?_, trivial⟩
   cases hb
   refine ⟨hs, fun j u hj => ⟨?_, wr0 w _ _⟩⟩
   have hjl := lt_of_get hj
   have := h5 j (by omega)
   rw [hj] at this
   exact this
theorem rd_slice_rep {α : Type} (enc : α → List PV) (Ok : α → Prop) {w : World} {t e : TypeId} {cs : List Value} (k : Nat) (ht : Try.prog.underlying t = some (.slice e)) (hk : Try.prog.cellsOf e = k) (hk0 : 0 < k) (hel : ∀ es, Rd w e es → ∃ x, Ok x ∧ RepL (c0 w) (enc x) es) (h : Rd w t cs) :
  ∃ l : List α, (∀ x ∈ l, Ok x) ∧ l.length ≤ maxLen ∧ RepL (c0 w) [.seq l.length (l.flatMap enc) .any] cs :=
 rd_slice_repQ enc Ok k hk0 (Rd w e) hel (by rw [← hk]; exact rd_slice ht h)
theorem reads_agg {w : World} {t : TypeId} {v : Value} {xs : List PV} (h : ∃ cs : Array Value, v = .agg cs ∧ RepL (c0 w) xs cs.toList) : Rep (c0 w) (.agg xs) v := by
 obtain ⟨cs, rfl, h⟩ := h
 unfold Rep
 exact ⟨cs.toList, by simp, h⟩
end Go.Proofs.Ytlponhgbbfgkgaa
namespace Go.Proofs.Ytlponhgbbfgkgaa
open Go.RowKit
set_option maxRecDepth 100000
set_option maxHeartbeats 4000000
def fitsV (c : VConf) : Prop := 2048 ≤ c.mem ∧ c.mem ≤ 65536 ∧ c.mem.tmod 8 = 0 ∧ 1 ≤ c.data ∧ c.data ≤ 256 ∧ 1 ≤ c.ret ∧ c.ret ≤ 256 ∧ 200 ≤ c.words ∧ c.words ≤ 1024 ∧ 0 ≤ c.out ∧ c.out ≤ 65536
instance (c : VConf) : Decidable (fitsV c) := by unfold fitsV; infer_instance
theorem ref_Fits (c : VConf) : PureC Try.prog 31 [eConf c] (boo (decide (fitsV c))) := by
 refine pW tG (rs := [.tmp 2]) Try.func31 rfl rfl rfl (by simp) (by simp) (fun B => ?_)
 refine zu2 ?_
 refine zp4 ?_
 refine Wb 6 rfl (fun hg1 => ?_) (fun hg1 => ?_)
 ·refine zy5 ?_
  refine Wb 11 rfl (fun hg2 => ?_) (fun hg2 => ?_)
  ·refine zy5 ?_
   refine z1 ?_
   refine Wb 17 rfl (fun hg3 => ?_) (fun hg3 => ?_)
   ·refine zy5 ?_
    refine Wb 22 rfl (fun hg4 => ?_) (fun hg4 => ?_)
    ·refine zy5 ?_
     refine Wb 27 rfl (fun hg5 => ?_) (fun hg5 => ?_)
     ·refine zy5 ?_
      refine Wb 32 rfl (fun hg6 => ?_) (fun hg6 => ?_)
      ·refine zy5 ?_
       refine Wb 37 rfl (fun hg7 => ?_) (fun hg7 => ?_)
       ·refine zy5 ?_
        refine Wb 42 rfl (fun hg8 => ?_) (fun hg8 => ?_)
        ·refine zy5 ?_
         refine Wb 47 rfl (fun hg9 => ?_) (fun hg9 => ?_)
         ·refine zy5 ?_
          refine Wb 52 rfl (fun hg10 => ?_) (fun hg10 => ?_)
          ·refine zs5 ?_
           refine zR ?_
           (refine congrArg boo (decide_eq_decide.2 ?_); unfold fitsV; (try simp only [dnL] at *); omega)
          ·refine z6 ?_
           iterate 2 refine z6 ?_
           refine zs2 ?_
           refine zR ?_
           (refine congrArg boo (decide_eq_false ?_).symm; unfold fitsV; (try simp only [dnL] at *); omega)
         ·refine z6 ?_
          iterate 2 refine z6 ?_
          refine zy2 ?_
          iterate 3 refine z6 ?_
          refine zs2 ?_
          refine zR ?_
          (refine congrArg boo (decide_eq_false ?_).symm; unfold fitsV; (try simp only [dnL] at *); omega)
        ·refine z6 ?_
         iterate 2 refine z6 ?_
         refine zy2 ?_
         iterate 3 refine z6 ?_
         refine zy2 ?_
         iterate 3 refine z6 ?_
         refine zs2 ?_
         refine zR ?_
         (refine congrArg boo (decide_eq_false ?_).symm; unfold fitsV; (try simp only [dnL] at *); omega)
       ·refine z6 ?_
        iterate 2 refine z6 ?_
        refine zy2 ?_
        iterate 3 refine z6 ?_
        refine zy2 ?_
        iterate 3 refine z6 ?_
        refine zy2 ?_
        iterate 3 refine z6 ?_
        refine zs2 ?_
        refine zR ?_
        (refine congrArg boo (decide_eq_false ?_).symm; unfold fitsV; (try simp only [dnL] at *); omega)
      ·refine z6 ?_
       iterate 2 refine z6 ?_
       refine zy2 ?_
       iterate 3 refine z6 ?_
       refine zy2 ?_
       iterate 3 refine z6 ?_
       refine zy2 ?_
       iterate 3 refine z6 ?_
       refine zy2 ?_
       iterate 3 refine z6 ?_
       refine zs2 ?_
       refine zR ?_
       (refine congrArg boo (decide_eq_false ?_).symm; unfold fitsV; (try simp only [dnL] at *); omega)
     ·refine z6 ?_
      iterate 2 refine z6 ?_
      refine zy2 ?_
      iterate 3 refine z6 ?_
      refine zy2 ?_
      iterate 3 refine z6 ?_
      refine zy2 ?_
      iterate 3 refine z6 ?_
      refine zy2 ?_
      iterate 3 refine z6 ?_
      refine zy2 ?_
      iterate 3 refine z6 ?_
      refine zs2 ?_
      refine zR ?_
      (refine congrArg boo (decide_eq_false ?_).symm; unfold fitsV; (try simp only [dnL] at *); omega)
    ·refine z6 ?_
     iterate 2 refine z6 ?_
     refine zy2 ?_
     iterate 3 refine z6 ?_
     refine zy2 ?_
     iterate 3 refine z6 ?_
     refine zy2 ?_
     iterate 3 refine z6 ?_
     refine zy2 ?_
     iterate 3 refine z6 ?_
     refine zy2 ?_
     iterate 3 refine z6 ?_
     refine zy2 ?_
     iterate 3 refine z6 ?_
     refine zs2 ?_
     refine zR ?_
     (refine congrArg boo (decide_eq_false ?_).symm; unfold fitsV; (try simp only [dnL] at *); omega)
   ·refine z6 ?_
    iterate 2 refine z6 ?_
    refine zy2 ?_
    iterate 3 refine z6 ?_
    refine zy2 ?_
    iterate 3 refine z6 ?_
    refine zy2 ?_
    iterate 3 refine z6 ?_
    refine zy2 ?_
    iterate 3 refine z6 ?_
    refine zy2 ?_
    iterate 3 refine z6 ?_
    refine zy2 ?_
    iterate 3 refine z6 ?_
    refine zy2 ?_
    iterate 3 refine z6 ?_
    refine zs2 ?_
    refine zR ?_
    (refine congrArg boo (decide_eq_false ?_).symm; unfold fitsV; (try simp only [dnL] at *); omega)
  ·refine z6 ?_
   iterate 3 refine z6 ?_
   refine zy2 ?_
   iterate 3 refine z6 ?_
   refine zy2 ?_
   iterate 3 refine z6 ?_
   refine zy2 ?_
   iterate 3 refine z6 ?_
   refine zy2 ?_
   iterate 3 refine z6 ?_
   refine zy2 ?_
   iterate 3 refine z6 ?_
   refine zy2 ?_
   iterate 3 refine z6 ?_
   refine zy2 ?_
   iterate 3 refine z6 ?_
   refine zy2 ?_
   iterate 3 refine z6 ?_
   refine zs2 ?_
   refine zR ?_
   (refine congrArg boo (decide_eq_false ?_).symm; unfold fitsV; (try simp only [dnL] at *); omega)
 ·refine z6 ?_
  iterate 2 refine z6 ?_
  refine zy2 ?_
  iterate 4 refine z6 ?_
  refine zy2 ?_
  iterate 3 refine z6 ?_
  refine zy2 ?_
  iterate 3 refine z6 ?_
  refine zy2 ?_
  iterate 3 refine z6 ?_
  refine zy2 ?_
  iterate 3 refine z6 ?_
  refine zy2 ?_
  iterate 3 refine z6 ?_
  refine zy2 ?_
  iterate 3 refine z6 ?_
  refine zy2 ?_
  iterate 3 refine z6 ?_
  refine zy2 ?_
  iterate 3 refine z6 ?_
  refine zs2 ?_
  refine zR ?_
  (refine congrArg boo (decide_eq_false ?_).symm; unfold fitsV; (try simp only [dnL] at *); omega)
def picRight (p : VPic) : Prop := p.b.length ≤ 130 ∧ (p.on = true ∨ p.b.length = 0)
instance (p : VPic) : Decidable (picRight p) := by unfold picRight; infer_instance
theorem ref_Right7 (p : VPic) : PureC Try.prog 34 [ePic p] (boo (decide (picRight p))) := by
 refine pW tG (rs := [.tmp 2]) Try.func34 rfl rfl rfl (by simp) (by simp) (fun B => ?_)
 refine zu2 ?_
 refine zp5 ?_
 refine Wb 7 rfl (fun hg1 => ?_) (fun hg1 => ?_)
 ·refine zy3 ?_
  refine Wb 10 rfl (fun hg2 => ?_) (fun hg2 => ?_)
  ·refine z6 ?_
   iterate 3 refine z6 ?_
   refine zs3 ?_
   refine zR ?_
   (refine congrArg boo ?_; rw [Bool.eq_iff_iff]; unfold picRight; (try simp only [dnL] at *); simp_all; omega)
  ·refine zy5 ?_
   refine zs2 ?_
   refine zR ?_
   (refine congrArg boo ?_; rw [Bool.eq_iff_iff]; unfold picRight; (try simp only [dnL] at *); simp_all; done)
 ·refine z6 ?_
  iterate 7 refine z6 ?_
  refine zs2 ?_
  refine zR ?_
  (refine congrArg boo ?_; rw [Bool.eq_iff_iff]; unfold picRight; (try simp only [dnL] at *); simp_all; omega)
end Go.Proofs.Ytlponhgbbfgkgaa
namespace Go.Proofs.Ytlponhgbbfgkgaa
open Go.RowKit
set_option maxRecDepth 100000
set_option maxHeartbeats 4000000
def memRight (m : VMem) : Bool := m.old.all (fun p => memThere m p.place p.old.length) && (decide (m.b.length ≤ 65536) && decide (m.b.length % 8 = 0))
theorem all_snoc {α : Type} {f : α → Bool} {l : List α} {k : Nat} (d : α) (hk : k < l.length) (h : (l.take k).all f = true) (hf : f (l.getD k d) = true) : (l.take (k + 1)).all f = true := by
 rw [take_snoc' l k d hk, List.all_append, h]; simp only [List.all_cons, List.all_nil, hf]; rfl
theorem all_no {α : Type} {f : α → Bool} {l : List α} {k : Nat} (d : α) (hk : k < l.length) (hf : f (l.getD k d) = false) : l.all f = false := by
 rw [List.all_eq_false]
 refine ⟨l.getD k d, ?_, by rw [hf]; simp⟩
 unfold List.getD
 rw [List.getElem?_eq_getElem hk]
 exact List.getElem_mem hk
theorem mem_getD {α : Type} {l : List α} {k : Nat} (d : α) (hk : k < l.length) : l.getD k d ∈ l := by
 unfold List.getD
 rw [List.getElem?_eq_getElem hk]
 exact List.getElem_mem hk
theorem ref_There2 (m : VMem) (at_ n : Int) (hm : m.b.length ≤ 9223372036854775807) (ha : n = 0 ∨ Fit64 at_) (hn : Fit64 n) : PureC Try.prog 48 [eMem m, i64 at_, i64 n] (boo (memThere m at_ n)) := by
 unfold Fit64 at ha hn
 refine pW tG (rs := [.tmp 6]) Try.func48 rfl rfl rfl (by simp) (by simp) (fun B => ?_)
 refine zu2 ?_
 refine Ws ?_
 refine zu2 ?_
 refine Wi rfl (fun hi1 => ?_) (fun hi1 => ?_)
 ·refine zu1 ?_
  refine zR ?_
  exact congrArg boo (by (simp only [memThere, i64w]; rw [Bool.eq_iff_iff]; simp only [dnL] at *; (try simp only [i64w, wrap64] at *); omega))
 ·refine Wj ?_
  refine zp3 ?_
  refine Wb 11 rfl (fun hg1 => ?_) (fun hg1 => ?_)
  ·refine zy4 ?_
   refine Wb 15 rfl (fun hg2 => ?_) (fun hg2 => ?_)
   ·refine zy5 ?_
    refine zy2 ?_
    refine Wb 22 rfl (fun hg3 => ?_) (fun hg3 => ?_)
    ·refine zy5 ?_
     refine zs4 ?_
     refine zR ?_
     exact congrArg boo (by (simp only [memThere, i64w]; rw [Bool.eq_iff_iff]; simp only [dnL] at *; (try simp only [i64w, wrap64] at *); omega))
    ·refine z6 ?_
     iterate 6 refine z6 ?_
     refine zs2 ?_
     refine zR ?_
     exact congrArg boo (by (simp only [memThere, i64w]; rw [Bool.eq_iff_iff]; simp only [dnL] at *; (try simp only [i64w, wrap64] at *); omega))
   ·refine z6 ?_
    iterate 4 refine z6 ?_
    refine zy2 ?_
    iterate 7 refine z6 ?_
    refine zs2 ?_
    refine zR ?_
    exact congrArg boo (by (simp only [memThere, i64w]; rw [Bool.eq_iff_iff]; simp only [dnL] at *; (try simp only [i64w, wrap64] at *); omega))
  ·refine z6 ?_
   refine z6 ?_
   refine zy2 ?_
   iterate 5 refine z6 ?_
   refine zy2 ?_
   iterate 7 refine z6 ?_
   refine zs2 ?_
   refine zR ?_
   exact congrArg boo (by (simp only [memThere, i64w]; rw [Bool.eq_iff_iff]; simp only [dnL] at *; (try simp only [i64w, wrap64] at *); omega))
theorem ref_Right3 (m : VMem) (hb : m.b.length ≤ 9223372036854775807) (ho : m.old.length ≤ 9223372036854775807) (hp : ∀ p ∈ m.old, (p.old.length = 0 ∨ Fit64 p.place) ∧ p.old.length ≤ 9223372036854775807) : PureC Try.prog 32 [eMem m] (boo (memRight m)) := by
 refine pW tG (rs := [.tmp 2]) Try.func32 rfl rfl rfl (by simp) (by simp) (fun B => ?_)
 refine zu2 ?_
 refine Ws ?_
 refine zu1 ?_
 refine Wl ?_
 show W _ _ _ _ _ _ _
 refine W_loopS (fun (k : Nat) => [(1, .ptr 0 0), (3, i64 k)]) (fun (k : Nat) => [.cells (cMem m) 27]) (fun (k : Nat) => []) (fun (k : Nat) => k ≤ m.old.length ∧ (m.old.take k).all (fun p => memThere m p.place p.old.length) = true) (fun (k : Nat) => m.old.length - k) (0) (by simp) [] ?_ ?_
 ·exact fitT
 ·intro k hk
  refine Ws ?_
  refine zu5 ?_
  refine Wi rfl (fun hi1 => ?_) (fun hi1 => ?_)
  ·have hlt : k < m.old.length := by have := oT hi1; omega
   have hq := hp _ (mem_getD default hlt)
   refine Wj ?_
   refine Ws ?_
   refine Wl ?_
   refine Ws ?_
   refine W_drawU [1, 0, 1, 0, 0, 0, 1, 0, 1, 0, 0, 0, 1, 0, 0, 0] [0, 1, 2, 3, 4, 5, 6, 7, 8, 9, 10, 11, 12, 13, 14, 15] mG rfl (by kernel_rfl) ?_
   refine z5 ?_
   refine z3 ?_
   refine z5 ?_
   refine z3 ?_
   refine Xi tG rfl rfl rfl rfl (fun _ => rfl) (by omega) (iN cPatch 2 (fun _ => rfl) default (by omega)) ?_
   refine z3 ?_
   refine z5 ?_
   refine z3 ?_
   refine z5 ?_
   refine z3 ?_
   refine Xi tG rfl rfl rfl rfl (fun _ => rfl) (by omega) (iN cPatch 2 (fun _ => rfl) default (by omega)) ?_
   refine z3 ?_
   refine z5 ?_
   refine z3 ?_
   refine Xc rfl rfl rfl rfl (fun _ => dC rfl Try.func48 rfl rfl ((ref_There2 m (m.old.getD k default).place (m.old.getD k default).old.length (by omega) (by rcases hq.1 with h | h; exact .inl (by omega); exact .inr h) (by unfold Fit64; omega)) _)) ?_
   refine z3 ?_
   refine WU_nil ?_
   refine zu2 ?_
   refine Wi rfl (fun hi2 => ?_) (fun hi2 => ?_)
   ·have hno : m.old.all (fun p => memThere m p.place p.old.length) = false := all_no default hlt (by simpa using hi2)
    refine zu1 ?_
    refine zR ?_
    refine congrArg boo ?_; unfold memRight; rw [hno]; rfl
   ·have hyes : memThere m (m.old.getD k default).place (m.old.getD k default).old.length = true := by simpa using hi2
    refine Wj ?_
    refine W_region rfl ?_
    refine zs3 ?_
    exact ⟨k + 1, [], (by exact ⟨by omega, all_snoc default hlt hk.2 hyes⟩), (by omega), fitT⟩
  ·have hge : m.old.length ≤ k := by have := oF hi1; omega
   have hall : m.old.all (fun p => memThere m p.place p.old.length) = true := by have h1 := hk.2; rw [take_all' _ k hge] at h1; exact h1
   have ht : (m.b.length : Int).tmod 8 = ((m.b.length % 8 : Nat) : Int) := by rw [Int.tmod_eq_emod_of_nonneg (by omega)]; omega
   refine W_exit ?_
   refine zp5 ?_
   refine Wb 33 rfl (fun hg1 => ?_) (fun hg1 => ?_)
   ·refine zy5 ?_
    refine zs2 ?_
    refine zR ?_
    refine congrArg boo ?_; unfold memRight; rw [hall, Bool.true_and]; rw [Bool.eq_iff_iff]; (try simp only [dnL] at *); omega
   ·refine z6 ?_
    iterate 4 refine z6 ?_
    refine zs2 ?_
    refine zR ?_
    refine congrArg boo ?_; unfold memRight; rw [hall, Bool.true_and]; rw [Bool.eq_iff_iff]; (try simp only [dnL] at *); omega
end Go.Proofs.Ytlponhgbbfgkgaa
namespace Go.Proofs.Ytlponhgbbfgkgaa
open Go.RowKit
set_option maxRecDepth 100000
set_option maxHeartbeats 4000000
theorem ref_Names : PureC Try.prog 45 [] (sq cStr names) := by
 refine pW tG (rs := [.tmp 0]) Try.func45 rfl rfl rfl (by simp) (by simp) (fun B => ?_)
 refine zu1 ?_
 refine zp1 ?_
 refine Wa 1 rfl (bsL cStr [_, _, _, _, _, _, _, _, _, _, _, _, _, _, _, _, _, _, _, _, _, _, _, _, _, _, _, _, _, _, _, _, _, _, _, _, _, _, _, _, _, _, _, _, _, _, _, _, _, _, _, _, _, _, _, _, _, _, _, _, _, _, _, _, _, _, _, _, _, _, _, _, _, _, _, _, _, _, _, _, _, _, _, _, _, _, _, _, _, _, _, _, _, _, _, _, _, _, _, _, _, _, _, _, _, _, _, _, _, _, _, _, _, _, _, _, _, _, _, _, _, _, _, _, _, _, _, _, _, _] rfl rfl) ?_
 refine zs1 ?_
 refine zR ?_
 exact rfl
theorem vm_Specials : PureC Try.prog 54 [] (sq cStr specials) := by
 refine pW tG (rs := [.tmp 0]) Try.func54 rfl rfl rfl (by simp) (by simp) (fun B => ?_)
 refine zu1 ?_
 refine zp1 ?_
 refine Wa 1 rfl (bsL cStr [_, _, _, _, _, _, _, _, _, _, _, _, _, _, _, _, _, _, _, _, _, _, _, _, _, _, _, _, _, _, _, _, _, _, _, _, _] rfl rfl) ?_
 refine zs1 ?_
 refine zR ?_
 exact rfl
theorem ref_Specials : PureC Try.prog 46 [] (sq cStr specials) := by
 refine pW tG (rs := [.tmp 0]) Try.func46 rfl rfl rfl (by simp) (by simp) (fun B => ?_)
 refine zu1 ?_
 refine zp1 ?_
 refine Wa 1 rfl (bsL cStr [_, _, _, _, _, _, _, _, _, _, _, _, _, _, _, _, _, _, _, _, _, _, _, _, _, _, _, _, _, _, _, _, _, _, _, _, _] rfl rfl) ?_
 refine zs1 ?_
 refine zR ?_
 exact rfl
end Go.Proofs.Ytlponhgbbfgkgaa
namespace Go.Proofs.Ytlponhgbbfgkgaa
open Go.RowKit
set_option maxRecDepth 100000
set_option maxHeartbeats 4000000
theorem vm_within (n lo hi : Int) : PureC Try.prog 83 [i64 n, i64 lo, i64 hi] (boo (decide (lo ≤ n ∧ n ≤ hi))) := by
 refine pW tG (rs := [.tmp 6]) Try.func83 rfl rfl rfl (by simp) (by simp) (fun B => ?_)
 refine zu1 ?_
 refine zp4 ?_
 refine Wb 10 rfl (fun hg1 => ?_) (fun hg1 => ?_)
 ·refine zs5 ?_
  refine zR ?_
  (refine congrArg boo (decide_eq_decide.2 ?_); (try simp only [dnL] at *); omega)
 ·refine z6 ?_
  iterate 2 refine z6 ?_
  refine zs2 ?_
  refine zR ?_
  (refine congrArg boo (decide_eq_false ?_).symm; (try simp only [dnL] at *); omega)
end Go.Proofs.Ytlponhgbbfgkgaa
namespace Go.Proofs.Ytlponhgbbfgkgaa
open Go.RowKit
set_option maxRecDepth 100000
set_option maxHeartbeats 4000000
def tVm (r : VVm × Int) : PV := tup2 (eVm r.1) (i64 r.2)
@[simp] theorem flat_tVm (r : VVm × Int) : Flat (tVm r) := by simp [tVm]
end Go.Proofs.Ytlponhgbbfgkgaa
namespace Go.Proofs.Ytlponhgbbfgkgaa
open Go.RowKit
set_option maxRecDepth 100000
set_option maxHeartbeats 4000000
def kindOk (n : Int) : Prop := (0 ≤ n ∧ n ≤ 129) ∨ (256 ≤ n ∧ n ≤ 260) ∨ (300 ≤ n ∧ n ≤ 336)
instance (n : Int) : Decidable (kindOk n) := by unfold kindOk; infer_instance
def vmKind (v : VVm) (xt : Int) : Int × Int := if (memFetch v.mem xt).2 = 0 then (if kindOk (memFetch v.mem xt).1 then ((memFetch v.mem xt).1, 0) else (0, -9)) else (0, (memFetch v.mem xt).2)
theorem ref_Kind (v : VVm) (xt : Int) (hm : v.mem.b.length ≤ 140737488355328) (hx : Fit64 xt) : PureC Try.prog 67 [eVm v, i64 xt] (tFetch (vmKind v xt)) := by
 have h1 := names_len
 have h2 := specials_len
 refine pW tG (rs := [.tmp 4, .tmp 5]) Try.func67 rfl rfl rfl (by simp) (by simp) (fun B => ?_)
 refine zu3 ?_
 refine zp3 ?_
 refine zc rfl Try.func92 ((ref_Fetch v.mem xt hm hx) _) ?_
 refine zs5 ?_
 refine Ws ?_
 refine zu2 ?_
 refine Wi rfl (fun hi1 => ?_) (fun hi1 => ?_)
 ·have h0 : ¬ (memFetch v.mem xt).2 = 0 := by simpa using hi1
  refine zu3 ?_
  refine zR ?_
  rw [vmKind, if_neg h0]; rfl
 ·have h0 : (memFetch v.mem xt).2 = 0 := by simpa using hi1
  have w1 : IntKind.i64.wrap (300 + (specials.length : Int)) = 337 := by rw [h2]; decide
  refine Wj ?_
  refine Ws ?_
  refine zp3 ?_
  refine Wb 20 rfl (fun hg1 => ?_) (fun hg1 => ?_)
  ·refine z1 ?_
   refine zc rfl Try.func45 ((ref_Names) _) ?_
   refine zy4 ?_
   refine Wb 26 rfl (fun hg2 => ?_) (fun hg2 => ?_)
   ·refine z6 ?_
    iterate 5 refine z6 ?_
    refine zy2 ?_
    iterate 9 refine z6 ?_
    refine zs1 ?_
    refine Wt rfl rfl ?_
    refine zu3 ?_
    refine zR ?_
    (rw [vmKind, if_pos h0, if_pos (by unfold kindOk; (try simp only [dnL] at *); omega)]; rfl)
   ·refine zy3 ?_
    refine Wb 29 rfl (fun hg3 => ?_) (fun hg3 => ?_)
    ·refine zy5 ?_
     refine Wb 34 rfl (fun hg4 => ?_) (fun hg4 => ?_)
     ·refine z6 ?_
      iterate 8 refine z6 ?_
      refine zs1 ?_
      refine Wt rfl rfl ?_
      refine zu3 ?_
      refine zR ?_
      (rw [vmKind, if_pos h0, if_pos (by unfold kindOk; (try simp only [dnL] at *); omega)]; rfl)
     ·refine zy3 ?_
      refine Wb 37 rfl (fun hg5 => ?_) (fun hg5 => ?_)
      ·refine z1 ?_
       refine zc rfl Try.func46 ((ref_Specials) _) ?_
       refine zs5 ?_
       refine Wi rfl (fun hi2 => ?_) (fun hi2 => ?_)
       ·refine zu3 ?_
        refine zR ?_
        (rw [vmKind, if_pos h0, if_pos (by unfold kindOk; (try simp only [dnL] at *); omega)]; rfl)
       ·refine Wj ?_
        refine zu2 ?_
        refine zR ?_
        (rw [vmKind, if_pos h0, if_neg (by unfold kindOk; (try simp only [dnL] at *); omega)]; rfl)
      ·refine z6 ?_
       iterate 4 refine z6 ?_
       refine zs2 ?_
       refine Wf rfl rfl ?_
       refine Wj ?_
       refine zu2 ?_
       refine zR ?_
       (rw [vmKind, if_pos h0, if_neg (by unfold kindOk; (try simp only [dnL] at *); omega)]; rfl)
    ·refine z6 ?_
     refine z6 ?_
     refine zy5 ?_
     refine z1 ?_
     refine Wb 37 rfl (fun hg5 => ?_) (fun hg5 => ?_)
     ·refine z1 ?_
      refine zc rfl Try.func46 ((ref_Specials) _) ?_
      refine zs5 ?_
      refine Wi rfl (fun hi2 => ?_) (fun hi2 => ?_)
      ·refine zu3 ?_
       refine zR ?_
       (rw [vmKind, if_pos h0, if_pos (by unfold kindOk; (try simp only [dnL] at *); omega)]; rfl)
      ·refine Wj ?_
       refine zu2 ?_
       refine zR ?_
       (rw [vmKind, if_pos h0, if_neg (by unfold kindOk; (try simp only [dnL] at *); omega)]; rfl)
     ·refine z6 ?_
      iterate 4 refine z6 ?_
      refine zs2 ?_
      refine Wf rfl rfl ?_
      refine Wj ?_
      refine zu2 ?_
      refine zR ?_
      (rw [vmKind, if_pos h0, if_neg (by unfold kindOk; (try simp only [dnL] at *); omega)]; rfl)
  ·refine z6 ?_
   iterate 3 refine z6 ?_
   refine zy5 ?_
   refine Wb 29 rfl (fun hg3 => ?_) (fun hg3 => ?_)
   ·refine zy5 ?_
    refine Wb 34 rfl (fun hg4 => ?_) (fun hg4 => ?_)
    ·refine z6 ?_
     iterate 8 refine z6 ?_
     refine zs1 ?_
     refine Wt rfl rfl ?_
     refine zu3 ?_
     refine zR ?_
     (rw [vmKind, if_pos h0, if_pos (by unfold kindOk; (try simp only [dnL] at *); omega)]; rfl)
    ·refine zy3 ?_
     refine Wb 37 rfl (fun hg5 => ?_) (fun hg5 => ?_)
     ·refine z1 ?_
      refine zc rfl Try.func46 ((ref_Specials) _) ?_
      refine zs5 ?_
      refine Wi rfl (fun hi2 => ?_) (fun hi2 => ?_)
      ·refine zu3 ?_
       refine zR ?_
       (rw [vmKind, if_pos h0, if_pos (by unfold kindOk; (try simp only [dnL] at *); omega)]; rfl)
      ·refine Wj ?_
       refine zu2 ?_
       refine zR ?_
       (rw [vmKind, if_pos h0, if_neg (by unfold kindOk; (try simp only [dnL] at *); omega)]; rfl)
     ·refine z6 ?_
      iterate 4 refine z6 ?_
      refine zs2 ?_
      refine Wf rfl rfl ?_
      refine Wj ?_
      refine zu2 ?_
      refine zR ?_
      (rw [vmKind, if_pos h0, if_neg (by unfold kindOk; (try simp only [dnL] at *); omega)]; rfl)
   ·refine z6 ?_
    refine z6 ?_
    refine zy5 ?_
    refine z1 ?_
    refine Wb 37 rfl (fun hg5 => ?_) (fun hg5 => ?_)
    ·refine z1 ?_
     refine zc rfl Try.func46 ((ref_Specials) _) ?_
     refine zs5 ?_
     refine Wi rfl (fun hi2 => ?_) (fun hi2 => ?_)
     ·refine zu3 ?_
      refine zR ?_
      (rw [vmKind, if_pos h0, if_pos (by unfold kindOk; (try simp only [dnL] at *); omega)]; rfl)
     ·refine Wj ?_
      refine zu2 ?_
      refine zR ?_
      (rw [vmKind, if_pos h0, if_neg (by unfold kindOk; (try simp only [dnL] at *); omega)]; rfl)
    ·refine z6 ?_
     iterate 4 refine z6 ?_
     refine zs2 ?_
     refine Wf rfl rfl ?_
     refine Wj ?_
     refine zu2 ?_
     refine zR ?_
     (rw [vmKind, if_pos h0, if_neg (by unfold kindOk; (try simp only [dnL] at *); omega)]; rfl)
theorem vm_Kind (v : VVm) (xt : Int) (hm : v.mem.b.length ≤ 140737488355328) (hx : Fit64 xt) : PureC Try.prog 53 [eVm v, i64 xt] (tFetch (vmKind v xt)) := by
 have h1 := names_len
 have h2 := specials_len
 refine pW tG (rs := [.tmp 4, .tmp 5]) Try.func53 rfl rfl rfl (by simp) (by simp) (fun B => ?_)
 refine zu3 ?_
 refine zp3 ?_
 refine zc rfl Try.func51 ((mem_Fetch v.mem xt hm hx) _) ?_
 refine zs5 ?_
 refine Ws ?_
 refine zu2 ?_
 refine Wi rfl (fun hi1 => ?_) (fun hi1 => ?_)
 ·have h0 : ¬ (memFetch v.mem xt).2 = 0 := by simpa using hi1
  refine zu3 ?_
  refine zR ?_
  rw [vmKind, if_neg h0]; rfl
 ·have h0 : (memFetch v.mem xt).2 = 0 := by simpa using hi1
  have w1 : IntKind.i64.wrap (IntKind.i64.wrap (300 + (specials.length : Int)) - 1) = 336 := by rw [h2]; decide
  have w2 : IntKind.i64.wrap ((names.length : Int) - 1) = 129 := by rw [h1]; decide
  refine Wj ?_
  refine Ws ?_
  refine zp1 ?_
  refine zc rfl Try.func84 ((vm_Names) _) ?_
  refine zy2 ?_
  refine zc rfl Try.func83 ((vm_within _ _ _) _) ?_
  refine z1 ?_
  refine Wb 23 rfl (fun hg1 => ?_) (fun hg1 => ?_)
  ·refine z6 ?_
   refine z6 ?_
   refine zy2 ?_
   iterate 6 refine z6 ?_
   refine zs1 ?_
   refine Wt rfl rfl ?_
   refine zu3 ?_
   refine zR ?_
   (rw [vmKind, if_pos h0, if_pos (by unfold kindOk; (try simp only [dnL] at *); omega)]; rfl)
  ·refine z1 ?_
   refine zc rfl Try.func83 ((vm_within _ _ _) _) ?_
   refine zy2 ?_
   refine Wb 27 rfl (fun hg2 => ?_) (fun hg2 => ?_)
   ·refine z6 ?_
    iterate 5 refine z6 ?_
    refine zs1 ?_
    refine Wt rfl rfl ?_
    refine zu3 ?_
    refine zR ?_
    (rw [vmKind, if_pos h0, if_pos (by unfold kindOk; (try simp only [dnL] at *); omega)]; rfl)
   ·refine z1 ?_
    refine zc rfl Try.func54 ((vm_Specials) _) ?_
    refine zy3 ?_
    refine zc rfl Try.func83 ((vm_within _ _ _) _) ?_
    refine zs1 ?_
    refine Wi rfl (fun hi2 => ?_) (fun hi2 => ?_)
    ·refine zu3 ?_
     refine zR ?_
     (rw [vmKind, if_pos h0, if_pos (by unfold kindOk; (try simp only [dnL] at *); omega)]; rfl)
    ·refine Wj ?_
     refine zu2 ?_
     refine zR ?_
     (rw [vmKind, if_pos h0, if_neg (by unfold kindOk; (try simp only [dnL] at *); omega)]; rfl)
end Go.Proofs.Ytlponhgbbfgkgaa
namespace Go.Proofs.Ytlponhgbbfgkgaa
open Go.RowKit
set_option maxRecDepth 100000
def upC (c : UInt8) : UInt8 := if 97 ≤ c.toNat ∧ c.toNat ≤ 122 then c - 32 else c
def upper (l : Str) : Str := l.map upC
def alike (a b : Str) : Bool := decide (upper a = upper b)
theorem upC_yes {c : UInt8} (h : 97 ≤ c.toNat ∧ c.toNat ≤ 122) : IntKind.u8.wrap ((c.toNat : Int) - 32) = ((upC c).toNat : Int) := by
 unfold upC
 rw [if_pos h, UInt8.toNat_sub]
 simp [IntKind.wrap, IntKind.bits, IntKind.signed]
 omega
theorem upC_no {c : UInt8} (h : ¬ (97 ≤ c.toNat ∧ c.toNat ≤ 122)) : upC c = c := by unfold upC; rw [if_neg h]
theorem up_snoc {l : Str} {k : Nat} {c : UInt8} (h : k < l.length) (hc : c = upC (l.getD k 0)) : str ((l.take k).map upC ++ [c]) = str ((l.take (k + 1)).map upC) := by
 rw [take_snoc' l k 0 h, List.map_append, hc]; rfl
theorem ref_Upper (l : Str) (hl : l.length ≤ 9223372036854775807) : PureC Try.prog 98 [str l] (str (upper l)) := by
 refine pW tG (rs := [.tmp 2]) Try.func98 rfl rfl rfl (by simp) (by simp) (fun B => ?_)
 refine zu1 ?_
 refine zu1 ?_
 refine Ws ?_
 refine zu1 ?_
 refine Wl ?_
 show W _ _ _ _ _ _ _
 refine W_loopS (fun (k : Nat) => [(0, str l), (4, i64 k), (3, str ((l.take k).map upC))]) (fun (k : Nat) => []) (fun (k : Nat) => []) (fun (k : Nat) => k ≤ l.length) (fun (k : Nat) => l.length - k) (0) (by omega) [] ?_ ?_
 ·exact fitT
 ·intro k hk
  have hlt : (k : Int) < l.length → k < l.length := fun h => by omega
  refine Ws ?_
  refine zp3 ?_
  refine Wa 8 rfl (str_len _) ?_
  refine zs1 ?_
  refine Wi rfl (fun hi1 => ?_) (fun hi1 => ?_)
  ·have hk2 := hlt (oT hi1)
   refine Wj ?_
   refine Ws ?_
   refine Wl ?_
   refine zp2 ?_
   refine z2 ?_ (q := (by simp only [str_size]; omega))
   refine Wa 14 rfl (str_byteN _ _) ?_
   refine zs1 ?_
   refine Ws ?_
   refine zp3 ?_
   refine Wb 17 rfl (fun hg1 => ?_) (fun hg1 => ?_)
   ·refine zs3 ?_
    refine Wi rfl (fun hi2 => ?_) (fun hi2 => ?_)
    ·refine W_region rfl ?_
     refine zy2 ?_
     refine Wa 22 rfl (congrArg (fun z => PV.val (Value.int .u8 z)) (upC_yes (c := l.getD k 0) (by simp only [decide_eq_true_eq] at *; omega))) ?_
     refine zs1 ?_
     refine W_region rfl ?_
     refine zy3 ?_
     refine Wa 25 rfl (bsL cByte [_] rfl rfl) ?_
     refine Wd rfl rfl (does_bytes_str (lO tG rfl) rfl (lO tG rfl) rfl (lO tG rfl) rfl rfl rfl) ?_
     refine z2 ?_ (q := (by simp only [str_size]; ((simp_all; omega))))
     refine Wa 27 rfl (str_append _ _) ?_
     refine zs1 ?_
     refine W_region rfl ?_
     refine zs3 ?_
     exact ⟨k + 1, [], (by omega), (by omega), (fitT (sub := by repeat (first | exact subL_nil | refine subL_cons (by first | exact imp_of rfl | exact imp_of (up_snoc hk2 (by rfl)) | exact imp_of (congrArg i64 (by (rw [i64w]; unfold wrap64; omega)))) ?_)))⟩
    ·refine Wj ?_
     refine W_region rfl ?_
     refine zy3 ?_
     refine Wa 25 rfl (bsL cByte [_] rfl rfl) ?_
     refine Wd rfl rfl (does_bytes_str (lO tG rfl) rfl (lO tG rfl) rfl (lO tG rfl) rfl rfl rfl) ?_
     refine z2 ?_ (q := (by simp only [str_size]; ((simp_all; omega))))
     refine Wa 27 rfl (str_append _ _) ?_
     refine zs1 ?_
     refine W_region rfl ?_
     refine zs3 ?_
     exact ⟨k + 1, [], (by omega), (by omega), (fitT (sub := by repeat (first | exact subL_nil | refine subL_cons (by first | exact imp_of rfl | exact imp_of (up_snoc hk2 (by (symm; apply upC_no; simp only [decide_eq_true_eq, decide_eq_false_iff_not] at *; omega))) | exact imp_of (congrArg i64 (by (rw [i64w]; unfold wrap64; omega)))) ?_)))⟩
   ·refine z6 ?_
    refine z6 ?_
    refine zs1 ?_
    refine Wf rfl rfl ?_
    refine Wj ?_
    refine W_region rfl ?_
    refine zy3 ?_
    refine Wa 25 rfl (bsL cByte [_] rfl rfl) ?_
    refine Wd rfl rfl (does_bytes_str (lO tG rfl) rfl (lO tG rfl) rfl (lO tG rfl) rfl rfl rfl) ?_
    refine z2 ?_ (q := (by simp only [str_size]; ((simp_all; omega))))
    refine Wa 27 rfl (str_append _ _) ?_
    refine zs1 ?_
    refine W_region rfl ?_
    refine zs3 ?_
    exact ⟨k + 1, [], (by omega), (by omega), (fitT (sub := by repeat (first | exact subL_nil | refine subL_cons (by first | exact imp_of rfl | exact imp_of (up_snoc hk2 (by (symm; apply upC_no; simp only [decide_eq_true_eq, decide_eq_false_iff_not] at *; omega))) | exact imp_of (congrArg i64 (by (rw [i64w]; unfold wrap64; omega)))) ?_)))⟩
  ·refine W_exit ?_
   refine zu2 ?_
   refine zR ?_
   exact congrArg str (by rw [take_all' l k (by simp only [decide_eq_false_iff_not] at *; omega)]; rfl)
theorem ref_Alike (a b : Str) (ha : a.length ≤ 9223372036854775807) (hb : b.length ≤ 9223372036854775807) : PureC Try.prog 89 [str a, str b] (boo (alike a b)) := by
 refine pW tG (rs := [.tmp 4]) Try.func89 rfl rfl rfl (by simp) (by simp) (fun B => ?_)
 refine zu1 ?_
 refine zp1 ?_
 refine zc rfl Try.func98 ((ref_Upper a ha) _) ?_
 refine zs1 ?_
 refine zp1 ?_
 refine zc rfl Try.func98 ((ref_Upper b hb) _) ?_
 refine zs1 ?_
 refine zp3 ?_
 refine zq 13 ?_
 refine zs1 ?_
 refine zR ?_
 rfl
theorem lex_turn (l : List UInt8) (k : Nat) (hk : k < l.length) (H : List Ob) (i : Nat) (hi : H[i]? = some (.cells (l.flatMap cByte) 5)) : HC Try.prog 102 [.ptr i k] H (.tup []) (H.set i (.cells ((l.set k (upC (l.getD k 0))).flatMap cByte) 5)) := by
 revert hi
 revert i H
 refine mut_of_W (off := k) tG (rs := []) Try.func102 rfl rfl rfl (by simp) (by simp) (flatL_map' flat_cByte _) (flatL_map' flat_cByte _) (fun B => ?_)
 refine zp2 ?_
 refine Wd rfl rfl (does_load_ptr (lO tG rfl) rfl rfl rfl (ld_byte rfl hk)) ?_
 refine zy2 ?_
 refine Wb 6 rfl (fun hg1 => ?_) (fun hg1 => ?_)
 ·refine zy2 ?_
  refine Wd rfl rfl (does_load_ptr (lO tG rfl) rfl rfl rfl (ld_byte rfl hk)) ?_
  refine zs2 ?_
  refine Wi rfl (fun hi1 => ?_) (fun hi1 => ?_)
  ·refine W_region rfl ?_
   refine zy2 ?_
   refine Wd rfl rfl (does_load_ptr (lO tG rfl) rfl rfl rfl (ld_byte rfl hk)) ?_
   refine z1 ?_
   refine Wa 15 rfl (congrArg (fun z => PV.val (Value.int .u8 z)) (upC_yes (c := l.getD k 0) (by simp only [decide_eq_true_eq] at *; omega))) ?_
   refine z1 ?_
   refine Wd rfl rfl (does_store (lO tG rfl) rfl rfl rfl rfl rfl rfl (by rw [Nat.ble_eq, flatMap_len cByte 1 (fun _ => rfl)]; simp; omega)) ?_
   refine WO_ob (H' := [.cells ((l.set k (upC (l.getD k 0))).flatMap cByte) 5]) (by rw [← splice_byte hk]; rfl) ?_
   refine Wn ?_
   refine leafMsn rfl rfl ?_ ?_
   ·rfl
   ·rfl
  ·refine Wj ?_
   refine leafMsn rfl rfl ?_ ?_
   ·rfl
   ·(rw [upC_no (by simp only [decide_eq_true_eq, decide_eq_false_iff_not] at *; omega)]; congr 1; simp [List.getD, hk])
 ·refine z6 ?_
  iterate 3 refine z6 ?_
  refine zs1 ?_
  refine Wf rfl rfl ?_
  refine Wj ?_
  refine leafMsn rfl rfl ?_ ?_
  ·rfl
  ·(rw [upC_no (by simp only [decide_eq_true_eq, decide_eq_false_iff_not] at *; omega)]; congr 1; simp [List.getD, hk])
theorem up_at {l : Str} {k : Nat} (h : k < l.length) : ((l.take k).map upC ++ l.drop k).getD k 0 = l.getD k 0 := by
 have hl : ((l.take k).map upC).length = k := by simp; omega
 unfold List.getD
 rw [List.getElem?_append_right (by omega), hl, Nat.sub_self, List.getElem?_drop, Nat.add_zero]
theorem up_step {l : Str} {k : Nat} (h : k < l.length) : ((l.take k).map upC ++ l.drop k).set k (upC (((l.take k).map upC ++ l.drop k).getD k 0)) = (l.take (k + 1)).map upC ++ l.drop (k + 1) := by
 have hl : ((l.take k).map upC).length = k := by simp; omega
 rw [up_at h, List.drop_eq_getElem_cons h, List.set_append_right _ _ (by omega), hl, Nat.sub_self, List.set_cons_zero, take_snoc' l k 0 h, List.map_append, List.append_assoc]
 rfl
theorem up_end {l : Str} {k : Nat} (h : l.length ≤ k) : (l.take k).map upC ++ l.drop k = upper l := by
 rw [take_all' l k h, List.drop_eq_nil_of_le h, List.append_nil]; rfl
theorem lex_Upper (l : Str) (hl : l.length ≤ 9223372036854775807) : PureC Try.prog 94 [str l] (str (upper l)) := by
 refine pW tG (rs := [.tmp 2]) Try.func94 rfl rfl rfl (by simp) (by simp) (fun B => ?_)
 refine zu1 ?_
 refine zp1 ?_
 refine Wd rfl rfl (does_convert_toOwn (lO tG rfl) rfl (lO tG rfl) rfl (lO tG rfl) rfl rfl rfl) ?_
 refine Wa 7 rfl (show PV.arw 0 0 (⟨l.toArray⟩ : ByteArray).size = .arw 0 0 l.length by rw [str_size]) ?_
 refine WO_ob (H' := [.cells (l.flatMap cByte) 5]) (by rw [cByte_map]; simp [List.map_map]) ?_
 refine zs1 ?_
 refine zu1 ?_
 refine Ws ?_
 refine zu3 ?_
 refine Wl ?_
 show W _ _ _ _ _ _ _
 refine W_loopS (fun (k : Nat) => [(3, .arw 0 0 l.length), (4, .fn (.func 102) [] []), (9, i64 l.length), (10, i64 k)]) (fun (k : Nat) => [.cells (((l.take k).map upC ++ l.drop k).flatMap cByte) 5]) (fun (k : Nat) => []) (fun (k : Nat) => k ≤ l.length) (fun (k : Nat) => l.length - k) (0) (by omega) [] ?_ ?_
 ·exact fitT
 ·intro k hk
  refine zu1 ?_
  refine Ws ?_
  refine Wi rfl (fun hi1 => ?_) (fun hi1 => ?_)
  ·have hk2 : k < l.length := by have := oT hi1; omega
   refine Wj ?_
   refine Ws ?_
   refine Wl ?_
   refine zu2 ?_
   refine W_region rfl ?_
   refine zy3 ?_
   refine z2 ?_ (q := (by omega))
   refine Wa 16 rfl ((by show PV.ptr 0 (0 + ((k : Int)).toNat * 1) = .ptr 0 k; simp)) ?_
   refine Wc rfl rfl (doesCWv rfl rfl Try.func102 rfl rfl (lex_turn ((l.take k).map upC ++ l.drop k) k (by simp; omega) _ 0 rfl)) ?_
   refine WO_ob (H' := [.cells (((l.take (k + 1)).map upC ++ l.drop (k + 1)).flatMap cByte) 5]) (by rw [← up_step hk2]; rfl) ?_
   refine Wn ?_
   refine W_region rfl ?_
   refine zs2 ?_
   exact ⟨k + 1, [], (by omega), (by omega), fitT⟩
  ·refine W_exit ?_
   refine zp1 ?_
   refine Wd rfl rfl (does_arw_str (lO tG rfl) rfl (lO tG rfl) rfl (lO tG rfl) rfl rfl rfl rfl (by simp; omega)) ?_
   refine zs1 ?_
   refine zR ?_
   exact congrArg str (up_end (by simp only [decide_eq_false_iff_not] at *; omega))
theorem lex_Alike (a b : Str) (ha : a.length ≤ 9223372036854775807) (hb : b.length ≤ 9223372036854775807) : PureC Try.prog 75 [str a, str b] (boo (alike a b)) := by
 refine pW tG (rs := [.tmp 4]) Try.func75 rfl rfl rfl (by simp) (by simp) (fun B => ?_)
 refine zu1 ?_
 refine zp1 ?_
 refine zc rfl Try.func94 ((lex_Upper a ha) _) ?_
 refine z1 ?_
 refine zc rfl Try.func94 ((lex_Upper b hb) _) ?_
 refine z1 ?_
 refine zq 9 ?_
 refine zs1 ?_
 refine zR ?_
 rfl
end Go.Proofs.Ytlponhgbbfgkgaa
namespace Go.Proofs.Ytlponhgbbfgkgaa
open Go.RowKit (wrap64)
theorem wrap64_more (x q : Int) : wrap64 (x + q * 18446744073709551616) = wrap64 x := by unfold wrap64; omega
theorem wrap64_is (x : Int) : ∃ q, wrap64 x = x + q * 18446744073709551616 := ⟨-((x + 9223372036854775808) / 18446744073709551616), by unfold wrap64; omega⟩
theorem wrap64_add_left (x y : Int) : wrap64 (wrap64 x + y) = wrap64 (x + y) := by
 obtain ⟨q, h⟩ := wrap64_is x; rw [h, show x + q * 18446744073709551616 + y = (x + y) + q * 18446744073709551616 from by omega, wrap64_more]
def wd (c : Int) : Int := if 48 ≤ c ∧ c ≤ 57 then c - 48 else if 97 ≤ c ∧ c ≤ 122 then c - 87 else if 65 ≤ c ∧ c ≤ 90 then c - 55 else -1
def isB (b : Int) : Bool := decide (2 ≤ b) && decide (b ≤ 36)
def worthS (c b : Int) : Int × Bool := if isB b ∧ 0 ≤ wd c ∧ wd c < b then (wd c, true) else (0, false)
theorem isB_iff (b : Int) : isB b = true ↔ 2 ≤ b ∧ b ≤ 36 := by unfold isB; simp
theorem wd_rng (c : Int) : -1 ≤ wd c ∧ wd c ≤ 35 := by unfold wd; split <;> (try split) <;> (try split) <;> omega
def okD (b : Int) (c : UInt8) : Bool := decide (0 ≤ wd c.toNat) && decide (wd c.toNat < b)
theorem okD_iff (b : Int) (c : UInt8) : okD b c = true ↔ 0 ≤ wd c.toNat ∧ wd c.toNat < b := by unfold okD; simp
def valD (b : Int) : Int → List UInt8 → Int
 | n, [] => n
 | n, c :: l => valD b (n * b + wd c.toNat) l
theorem valD_append (b : Int) (l m : List UInt8) : ∀ n, valD b n (l ++ m) = valD b (valD b n l) m := by
 induction l with
 | nil => intro n; rfl
 | cons c l ih => intro n; exact ih _
theorem valD_snoc (b n : Int) (l : List UInt8) (c : UInt8) : valD b n (l ++ [c]) = valD b n l * b + wd c.toNat := by rw [valD_append]; rfl
theorem wrap_valD_snoc (b n : Int) (l : List UInt8) (c : UInt8) : wrap64 (wrap64 (wrap64 (valD b n l) * b) + wd c.toNat) = wrap64 (valD b n (l ++ [c])) := by
 rw [valD_snoc, wrap64_add_left, wrap64_mul_left_add]
where
 wrap64_mul_left_add {x y z : Int} : wrap64 (wrap64 x * y + z) = wrap64 (x * y + z) := by
  obtain ⟨q, h⟩ := wrap64_is x
  rw [h, Int.add_mul, show q * 18446744073709551616 * y = (q * y) * 18446744073709551616 from by rw [Int.mul_right_comm], show x * y + q * y * 18446744073709551616 + z = (x * y + z) + (q * y) * 18446744073709551616 from by omega, wrap64_more]
def signS : List UInt8 → Option Int
 | [a, c, d] => if a = 39 ∧ d = 39 ∧ 33 ≤ c.toNat ∧ c.toNat ≤ 126 then some c.toNat else none
 | _ => none
def prefS (l : List UInt8) (b : Int) : Int × List UInt8 :=
 match l with
 | [] => (b, [])
 | c :: m => if c = 35 then (10, m) else if c = 36 then (16, m) else if c = 37 then (2, m) else (b, c :: m)
def cutS (l : List UInt8) : List UInt8 × Bool :=
 match l with
 | [] => ([], false)
 | c :: m => if c = 45 then (m, true) else (c :: m, false)
def bareS (l : List UInt8) (b : Int) (below : Bool) : Int × Bool :=
 if l = [] ∨ isB b = false ∨ l.all (okD b) = false then (0, false) else (if below then wrap64 (-wrap64 (valD b 0 l)) else wrap64 (valD b 0 l), true)
def parseS (l : List UInt8) (b : Int) : Int × Bool :=
 match signS l with
 | some n => (n, true)
 | none => bareS (cutS (prefS l b).2).1 (prefS l b).1 (cutS (prefS l b).2).2
theorem bareS_ok (l : List UInt8) (b : Int) (below : Bool) (hb : isB b = true) (hl : l ≠ []) (hd : l.all (okD b) = true) :
  bareS l b below = (if below then wrap64 (-wrap64 (valD b 0 l)) else wrap64 (valD b 0 l), true) := by
 unfold bareS; rw [if_neg (by rw [hb, hd]; simp [hl])]
theorem bareS_no (l : List UInt8) (b : Int) (below : Bool) (h : l.all (okD b) = false) : bareS l b below = (0, false) := by
 unfold bareS; rw [if_pos (.inr (.inr h))]
end Go.Proofs.Ytlponhgbbfgkgaa
namespace Go.Proofs.Ytlponhgbbfgkgaa
open Go.RowKit
section
variable {P : Program}
def NewC (P : Program) (f : FuncId) (args : List PV) (n : Nat) (xs : List PV) (k : Nat) : Prop := ∀ H, HC P f args H (.seq n xs (.own H.length k)) (H ++ [.free (n * k)])
theorem NewC.pure {f : FuncId} {args : List PV} {n k : Nat} {xs : List PV} (h : NewC P f args n xs k) (ha : FlatL args) (hxs : FlatL xs) : PureC P f args (.seq n xs .any) := by
 refine pure_of_hc ha (by unfold Flat; exact ⟨hxs, .inl rfl⟩) fun B σ w vs s hr => ?_
 refine Calls.mono (h [] B σ w vs s hr) ?_
 rintro e w' ⟨v, σ', rfl, h1, h2, h3⟩
 exact ⟨v, _, σ', rfl, imp_seq _ _ _ _ _ h1, h3⟩
section
variable {B : Nat → Nat → Prop} {o : Oper} {T : Nat → PV} {H : List Ob}
end
end
theorem nlo_iter {b m : Nat} {s : List UInt8} {l : List Ob} (k : NLo b l) : NLo b (.iter s m :: l) := k
section
variable {P : Program} {B : Nat → Nat → Prop} {o : Oper} {T : Nat → PV} {H : List Ob}
end
end Go.Proofs.Ytlponhgbbfgkgaa
namespace Go.Proofs.Ytlponhgbbfgkgaa
open Go.RowKit
set_option maxRecDepth 100000
set_option maxHeartbeats 4000000
theorem not_f {b : Bool} (h : (!b) = false) : b = true := by cases b <;> simp_all
theorem not_t {b : Bool} (h : (!b) = true) : b = false := by cases b <;> simp_all
end Go.Proofs.Ytlponhgbbfgkgaa
namespace Go.Proofs.Ytlponhgbbfgkgaa
open Go.RowKit
set_option maxRecDepth 100000
set_option maxHeartbeats 4000000
def few3 (m : VMem) (most : Int) : Bool := decide ((m.b.length : Int) ≤ most ∧ m.old.length ≤ 60) && m.old.all (fun p => decide (p.old.length ≤ 200))
theorem ref_Few3 (m : VMem) (most : Int) (hb : m.b.length ≤ 9223372036854775807) (ho : m.old.length ≤ 9223372036854775807) : PureC Try.prog 29 [eMem m, i64 most] (boo (few3 m most)) := by
 refine pW tG (rs := [.tmp 4]) Try.func29 rfl rfl rfl (by simp) (by simp) (fun B => ?_)
 refine zu2 ?_
 refine Ws ?_
 refine zp5 ?_
 refine z1 ?_
 refine Wb 11 rfl (fun hg1 => ?_) (fun hg1 => ?_)
 ·have hno : ¬ ((m.b.length : Int) ≤ most ∧ m.old.length ≤ 60) := fun h => by have := oT hg1; omega
  iterate 4 refine z6 ?_
  refine zs1 ?_
  refine Wt rfl rfl ?_
  refine zu1 ?_
  refine zR ?_
  exact congrArg boo (by rw [few3, decide_eq_false hno]; rfl)
 ·have h0 : ¬ (m.b.length : Int) > most := oF hg1
  refine zs5 ?_
  refine Wi rfl (fun hi1 => ?_) (fun hi1 => ?_)
  ·have hno : ¬ ((m.b.length : Int) ≤ most ∧ m.old.length ≤ 60) := fun h => by have := oT hi1; omega
   refine zu1 ?_
   refine zR ?_
   exact congrArg boo (by rw [few3, decide_eq_false hno]; rfl)
  ·have h1 : ¬ (m.old.length : Int) > 60 := oF hi1
   have hyes : (m.b.length : Int) ≤ most ∧ m.old.length ≤ 60 := ⟨by omega, by omega⟩
   refine Wj ?_
   refine Ws ?_
   refine zu1 ?_
   refine Wl ?_
   show W _ _ _ _ _ _ _
   refine W_loopS (fun (k : Nat) => [(2, .ptr 0 0), (5, i64 k)]) (fun (k : Nat) => [.cells (cMem m) 27]) (fun (k : Nat) => []) (fun (k : Nat) => k ≤ m.old.length ∧ (m.old.take k).all (fun p => decide (p.old.length ≤ 200)) = true) (fun (k : Nat) => m.old.length - k) (0) (by simp) [] ?_ ?_
   ·exact fitT
   ·intro k hk
    refine Ws ?_
    refine zu5 ?_
    refine Wi rfl (fun hi2 => ?_) (fun hi2 => ?_)
    ·have hlt : k < m.old.length := by have := oT hi2; omega
     refine Wj ?_
     refine Ws ?_
     refine Wl ?_
     refine zp3 ?_
     refine Wv tG rfl rfl rfl (by omega) (iN cPatch 2 (fun _ => rfl) default (by omega)) ?_
     refine zs4 ?_
     refine Wi rfl (fun hi3 => ?_) (fun hi3 => ?_)
     ·have hn : m.old.all (fun p => decide (p.old.length ≤ 200)) = false := all_no default hlt (decide_eq_false (by have := oT hi3; omega))
      refine zu1 ?_
      refine zR ?_
      exact congrArg boo (by rw [few3, hn, Bool.and_false])
     ·have hy : decide ((m.old.getD k default).old.length ≤ 200) = true := decide_eq_true (by have := oF hi3; omega)
      refine Wj ?_
      refine W_region rfl ?_
      refine zs3 ?_
      exact ⟨k + 1, [], (by exact ⟨by omega, all_snoc default hlt hk.2 hy⟩), (by omega), fitT⟩
    ·have hge : m.old.length ≤ k := by have := oF hi2; omega
     have hall : m.old.all (fun p => decide (p.old.length ≤ 200)) = true := by have h1 := hk.2; rw [take_all' _ k hge] at h1; exact h1
     refine W_exit ?_
     refine zu1 ?_
     refine zR ?_
     exact congrArg boo (by rw [few3, hall, decide_eq_true hyes]; rfl)
def namedS (s : Str) : Int := if s.length = 0 then -16 else if 31 < s.length then -19 else if s.all (fun c => decide (32 < c.toNat)) then 0 else -32
theorem ref_named (s : Str) : PureC Try.prog 49 [str s] (i64 (namedS s)) := by
 refine pW tG (rs := [.tmp 2]) Try.func49 rfl rfl rfl (by simp) (by simp) (fun B => ?_)
 refine zu1 ?_
 refine Ws ?_
 refine zp2 ?_
 refine Wa 5 rfl (str_len _) ?_
 refine zs1 ?_
 refine Wi rfl (fun hi1 => ?_) (fun hi1 => ?_)
 ·have h0 : s.length = 0 := by have := beq_iff_eq.1 hi1; omega
  refine zu1 ?_
  refine zR ?_
  rw [namedS, if_pos h0]; rfl
 ·have h0 : ¬ s.length = 0 := by have := beq_eq_false_iff_ne.1 hi1; omega
  refine Wj ?_
  refine Ws ?_
  refine zp2 ?_
  refine Wa 8 rfl (str_len _) ?_
  refine zs1 ?_
  refine Wi rfl (fun hi2 => ?_) (fun hi2 => ?_)
  ·have h1 : 31 < s.length := by have := oT hi2; omega
   refine zu1 ?_
   refine zR ?_
   rw [namedS, if_neg h0, if_pos h1]; rfl
  ·have h1 : ¬ 31 < s.length := by have := oF hi2; omega
   refine Wj ?_
   refine Ws ?_
   refine zu1 ?_
   refine Wl ?_
   show W _ _ _ _ _ _ _
   refine W_loopS (fun (k : Nat) => [(0, str s), (3, i64 k)]) (fun (k : Nat) => []) (fun (k : Nat) => []) (fun (k : Nat) => k ≤ s.length ∧ (s.take k).all (fun c => decide (32 < c.toNat)) = true) (fun (k : Nat) => s.length - k) (0) (by simp) [] ?_ ?_
   ·exact fitT
   ·intro k hk
    refine Ws ?_
    refine zp3 ?_
    refine Wa 12 rfl (str_len _) ?_
    refine zs1 ?_
    refine Wi rfl (fun hi3 => ?_) (fun hi3 => ?_)
    ·have hlt : k < s.length := by have := oT hi3; omega
     refine Wj ?_
     refine Ws ?_
     refine Wl ?_
     refine zp2 ?_
     refine z2 ?_ (q := (by simp only [str_size]; omega))
     refine Wa 18 rfl (str_byteN _ _) ?_
     refine zs1 ?_
     refine Wi rfl (fun hi4 => ?_) (fun hi4 => ?_)
     ·have hn : s.all (fun c => decide (32 < c.toNat)) = false := all_no 0 hlt (decide_eq_false (by have := oT hi4; omega))
      refine zu1 ?_
      refine zR ?_
      rw [namedS, if_neg h0, if_neg h1, hn]; rfl
     ·have hy : decide (32 < (s.getD k 0).toNat) = true := decide_eq_true (by have := oF hi4; omega)
      refine Wj ?_
      refine W_region rfl ?_
      refine zs3 ?_
      exact ⟨k + 1, [], (by exact ⟨by omega, all_snoc 0 hlt hk.2 hy⟩), (by omega), fitT⟩
    ·have hge : s.length ≤ k := by have := oF hi3; omega
     have hall : s.all (fun c => decide (32 < c.toNat)) = true := by have h1 := hk.2; rw [take_all' _ k hge] at h1; exact h1
     refine W_exit ?_
     refine zu1 ?_
     refine zR ?_
     rw [namedS, if_neg h0, if_neg h1, hall]; rfl
def wordOk (w : VWord) : Bool := decide (namedS w.name = 0 ∧ 0 ≤ w.flags ∧ w.flags ≤ 7)
def right9 (l : List VWord) : Bool := l.all wordOk && decide (l.length ≤ 1024)
theorem ref_Right9 (l : List VWord) (hl : l.length ≤ 9223372036854775807) : PureC Try.prog 33 [sq cWord l] (boo (right9 l)) := by
 refine pW tG (rs := [.tmp 2]) Try.func33 rfl rfl rfl (by simp) (by simp) (fun B => ?_)
 refine zu1 ?_
 refine Ws ?_
 refine zu1 ?_
 refine Wl ?_
 show W _ _ _ _ _ _ _
 refine W_loopS (fun (k : Nat) => [(0, sq cWord l), (3, i64 k)]) (fun (k : Nat) => []) (fun (k : Nat) => []) (fun (k : Nat) => k ≤ l.length ∧ (l.take k).all wordOk = true) (fun (k : Nat) => l.length - k) (0) (by simp) [] ?_ ?_
 ·exact fitT
 ·intro k hk
  refine Ws ?_
  refine zu4 ?_
  refine Wi rfl (fun hi1 => ?_) (fun hi1 => ?_)
  ·have hlt : k < l.length := by have := oT hi1; omega
   refine Wj ?_
   refine Ws ?_
   refine Wl ?_
   refine zp2 ?_
   refine Wv tG rfl rfl rfl (by omega) (iN cWord 3 (fun _ => rfl) default (by omega)) ?_
   refine zy2 ?_
   refine zc rfl Try.func49 ((ref_named _) _) ?_
   refine zy2 ?_
   refine Wb 17 rfl (fun hg1 => ?_) (fun hg1 => ?_)
   ·have hn : l.all wordOk = false := all_no default hlt (decide_eq_false (fun h => by have := bne_iff_ne.1 hg1; omega))
    iterate 6 refine z6 ?_
    refine zy2 ?_
    iterate 6 refine z6 ?_
    refine zs1 ?_
    refine Wt rfl rfl ?_
    refine zu1 ?_
    refine zR ?_
    exact congrArg boo (by rw [right9, hn]; rfl)
   ·have h0 : namedS (l.getD k default).name = 0 := bne_eq_false_iff_eq.1 hg1
    refine zy2 ?_
    refine Wv tG rfl rfl rfl (by omega) (iN cWord 3 (fun _ => rfl) default (by omega)) ?_
    refine zy5 ?_
    refine Wb 25 rfl (fun hg2 => ?_) (fun hg2 => ?_)
    ·have hn : l.all wordOk = false := all_no default hlt (decide_eq_false (fun h => by have := oT hg2; omega))
     iterate 6 refine z6 ?_
     refine zs1 ?_
     refine Wt rfl rfl ?_
     refine zu1 ?_
     refine zR ?_
     exact congrArg boo (by rw [right9, hn]; rfl)
    ·have h1 := oF hg2
     refine zy2 ?_
     refine Wv tG rfl rfl rfl (by omega) (iN cWord 3 (fun _ => rfl) default (by omega)) ?_
     refine zs4 ?_
     refine Wi rfl (fun hi2 => ?_) (fun hi2 => ?_)
     ·have hn : l.all wordOk = false := all_no default hlt (decide_eq_false (fun h => by have := oT hi2; omega))
      refine zu1 ?_
      refine zR ?_
      exact congrArg boo (by rw [right9, hn]; rfl)
     ·have hy : wordOk (l.getD k default) = true := decide_eq_true ⟨h0, by omega, by have := oF hi2; omega⟩
      refine Wj ?_
      refine W_region rfl ?_
      refine zs3 ?_
      exact ⟨k + 1, [], (by exact ⟨by omega, all_snoc default hlt hk.2 hy⟩), (by omega), fitT⟩
  ·have hge : l.length ≤ k := by have := oF hi1; omega
   have hall : l.all wordOk = true := by have h1 := hk.2; rw [take_all' _ k hge] at h1; exact h1
   refine W_exit ?_
   refine zu4 ?_
   refine zR ?_
   exact congrArg boo (by rw [right9, hall, Bool.true_and, Bool.eq_iff_iff, decide_eq_true_eq, decide_eq_true_eq]; omega)
def few9 (l : List VWord) (most : Int) : Bool := decide ((l.length : Int) ≤ most) && l.all (fun w => decide (w.name.length ≤ 60))
theorem ref_Few9 (l : List VWord) (most : Int) (hl : l.length ≤ 9223372036854775807) : PureC Try.prog 30 [sq cWord l, i64 most] (boo (few9 l most)) := by
 refine pW tG (rs := [.tmp 4]) Try.func30 rfl rfl rfl (by simp) (by simp) (fun B => ?_)
 refine zu1 ?_
 refine Ws ?_
 refine zu4 ?_
 refine Wi rfl (fun hi1 => ?_) (fun hi1 => ?_)
 ·have hno : ¬ (l.length : Int) ≤ most := by have := oT hi1; omega
  refine zu1 ?_
  refine zR ?_
  exact congrArg boo (by rw [few9, decide_eq_false hno]; rfl)
 ·have hyes : (l.length : Int) ≤ most := by have := oF hi1; omega
  refine Wj ?_
  refine Ws ?_
  refine zu1 ?_
  refine Wl ?_
  show W _ _ _ _ _ _ _
  refine W_loopS (fun (k : Nat) => [(0, sq cWord l), (5, i64 k)]) (fun (k : Nat) => []) (fun (k : Nat) => []) (fun (k : Nat) => k ≤ l.length ∧ (l.take k).all (fun w => decide (w.name.length ≤ 60)) = true) (fun (k : Nat) => l.length - k) (0) (by simp) [] ?_ ?_
  ·exact fitT
  ·intro k hk
   refine Ws ?_
   refine zu4 ?_
   refine Wi rfl (fun hi2 => ?_) (fun hi2 => ?_)
   ·have hlt : k < l.length := by have := oT hi2; omega
    refine Wj ?_
    refine Ws ?_
    refine Wl ?_
    refine zp2 ?_
    refine Wv tG rfl rfl rfl (by omega) (iN cWord 3 (fun _ => rfl) default (by omega)) ?_
    refine zy3 ?_
    refine Wa 21 rfl (str_len _) ?_
    refine zs1 ?_
    refine Wi rfl (fun hi3 => ?_) (fun hi3 => ?_)
    ·have hn : l.all (fun w => decide (w.name.length ≤ 60)) = false := all_no default hlt (decide_eq_false (by have := oT hi3; omega))
     refine zu1 ?_
     refine zR ?_
     exact congrArg boo (by rw [few9, hn, Bool.and_false])
    ·have hy : decide ((l.getD k default).name.length ≤ 60) = true := decide_eq_true (by have := oF hi3; omega)
     refine Wj ?_
     refine W_region rfl ?_
     refine zs3 ?_
     exact ⟨k + 1, [], (by exact ⟨by omega, all_snoc default hlt hk.2 hy⟩), (by omega), fitT⟩
   ·have hge : l.length ≤ k := by have := oF hi2; omega
    have hall : l.all (fun w => decide (w.name.length ≤ 60)) = true := by have h1 := hk.2; rw [take_all' _ k hge] at h1; exact h1
    refine W_exit ?_
    refine zu1 ?_
    refine zR ?_
    exact congrArg boo (by rw [few9, hall, decide_eq_true hyes]; rfl)
def few10 (v : VVm) : Bool := few3 v.mem 8192 && (few9 v.dict 300 && (decide (v.d.length ≤ 300) && (decide (v.r.length ≤ 300) && (decide (v.f.length ≤ 70) && (decide (v.out.length ≤ 5000) && (decide (v.pic.b.length ≤ 200) && (decide (v.req.length ≤ 20) && decide (v.hand.length ≤ 70))))))))
structure VIn (v : VVm) : Prop where
 b : v.mem.b.length ≤ 9223372036854775807
 old : v.mem.old.length ≤ 9223372036854775807
 dict : v.dict.length ≤ 9223372036854775807
 pt : ∀ p ∈ v.mem.old, (p.old.length = 0 ∨ Fit64 p.place) ∧ p.old.length ≤ 9223372036854775807
theorem dec_nat {a : Nat} {b : Int} (n : Nat) (hb : b = n) : decide ((a : Int) ≤ b) = decide (a ≤ n) := by subst hb; rw [Bool.eq_iff_iff, decide_eq_true_eq, decide_eq_true_eq]; omega
theorem ref_Few10 (v : VVm) (h : VIn v) : PureC Try.prog 16 [eVm v] (boo (few10 v)) := by
 refine pW tG (rs := [.tmp 2]) Try.func16 rfl rfl rfl (by simp) (by simp) (fun B => ?_)
 refine zu2 ?_
 refine zp2 ?_
 refine zc rfl Try.func29 ((ref_Few3 v.mem 8192 h.b h.old) _) ?_
 refine zs1 ?_
 refine zp2 ?_
 refine zc rfl Try.func30 ((ref_Few9 v.dict 300 h.dict) _) ?_
 refine zs1 ?_
 refine zp2 ?_
 refine Wb 12 rfl (fun hg1 => ?_) (fun hg1 => ?_)
 ·refine zy3 ?_
  refine Wb 15 rfl (fun hg2 => ?_) (fun hg2 => ?_)
  ·refine zy4 ?_
   refine Wa 19 rfl (congrArg (fun z => PV.val (Value.bool z)) (dec_nat 300 rfl)) ?_
   refine zy2 ?_
   refine Wb 21 rfl (fun hg3 => ?_) (fun hg3 => ?_)
   ·refine zy4 ?_
    refine Wa 25 rfl (congrArg (fun z => PV.val (Value.bool z)) (dec_nat 300 rfl)) ?_
    refine zy2 ?_
    refine Wb 27 rfl (fun hg4 => ?_) (fun hg4 => ?_)
    ·refine zy4 ?_
     refine Wa 31 rfl (congrArg (fun z => PV.val (Value.bool z)) (dec_nat 70 rfl)) ?_
     refine zy2 ?_
     refine Wb 33 rfl (fun hg5 => ?_) (fun hg5 => ?_)
     ·refine zy4 ?_
      refine Wa 37 rfl (congrArg (fun z => PV.val (Value.bool z)) (dec_nat 5000 rfl)) ?_
      refine zy2 ?_
      refine Wb 39 rfl (fun hg6 => ?_) (fun hg6 => ?_)
      ·refine zy5 ?_
       refine Wa 44 rfl (congrArg (fun z => PV.val (Value.bool z)) (dec_nat 200 rfl)) ?_
       refine zy2 ?_
       refine Wb 46 rfl (fun hg7 => ?_) (fun hg7 => ?_)
       ·refine zy4 ?_
        refine Wa 50 rfl (congrArg (fun z => PV.val (Value.bool z)) (dec_nat 20 rfl)) ?_
        refine zy2 ?_
        refine Wb 52 rfl (fun hg8 => ?_) (fun hg8 => ?_)
        ·refine zy4 ?_
         refine Wa 56 rfl (congrArg (fun z => PV.val (Value.bool z)) (dec_nat 70 rfl)) ?_
         refine zs2 ?_
         refine zR ?_
         exact congrArg boo (by rw [few10]; simp only [*, Bool.true_and, Bool.false_and])
        ·refine z6 ?_
         iterate 3 refine z6 ?_
         refine zs2 ?_
         refine zR ?_
         exact congrArg boo (by rw [few10]; simp only [*, Bool.true_and, Bool.false_and])
       ·refine z6 ?_
        iterate 3 refine z6 ?_
        refine zy2 ?_
        iterate 4 refine z6 ?_
        refine zs2 ?_
        refine zR ?_
        exact congrArg boo (by rw [few10]; simp only [*, Bool.true_and, Bool.false_and])
      ·refine z6 ?_
       iterate 4 refine z6 ?_
       refine zy2 ?_
       iterate 4 refine z6 ?_
       refine zy2 ?_
       iterate 4 refine z6 ?_
       refine zs2 ?_
       refine zR ?_
       exact congrArg boo (by rw [few10]; simp only [*, Bool.true_and, Bool.false_and])
     ·refine z6 ?_
      iterate 3 refine z6 ?_
      refine zy2 ?_
      iterate 5 refine z6 ?_
      refine zy2 ?_
      iterate 4 refine z6 ?_
      refine zy2 ?_
      iterate 4 refine z6 ?_
      refine zs2 ?_
      refine zR ?_
      exact congrArg boo (by rw [few10]; simp only [*, Bool.true_and, Bool.false_and])
    ·refine z6 ?_
     iterate 3 refine z6 ?_
     refine zy2 ?_
     iterate 4 refine z6 ?_
     refine zy2 ?_
     iterate 5 refine z6 ?_
     refine zy2 ?_
     iterate 4 refine z6 ?_
     refine zy2 ?_
     iterate 4 refine z6 ?_
     refine zs2 ?_
     refine zR ?_
     exact congrArg boo (by rw [few10]; simp only [*, Bool.true_and, Bool.false_and])
   ·refine z6 ?_
    iterate 3 refine z6 ?_
    refine zy2 ?_
    iterate 4 refine z6 ?_
    refine zy2 ?_
    iterate 4 refine z6 ?_
    refine zy2 ?_
    iterate 5 refine z6 ?_
    refine zy2 ?_
    iterate 4 refine z6 ?_
    refine zy2 ?_
    iterate 4 refine z6 ?_
    refine zs2 ?_
    refine zR ?_
    exact congrArg boo (by rw [few10]; simp only [*, Bool.true_and, Bool.false_and])
  ·refine z6 ?_
   iterate 3 refine z6 ?_
   refine zy2 ?_
   iterate 4 refine z6 ?_
   refine zy2 ?_
   iterate 4 refine z6 ?_
   refine zy2 ?_
   iterate 4 refine z6 ?_
   refine zy2 ?_
   iterate 5 refine z6 ?_
   refine zy2 ?_
   iterate 4 refine z6 ?_
   refine zy2 ?_
   iterate 4 refine z6 ?_
   refine zs2 ?_
   refine zR ?_
   exact congrArg boo (by rw [few10]; simp only [*, Bool.true_and, Bool.false_and])
 ·refine z6 ?_
  refine zy2 ?_
  iterate 4 refine z6 ?_
  refine zy2 ?_
  iterate 4 refine z6 ?_
  refine zy2 ?_
  iterate 4 refine z6 ?_
  refine zy2 ?_
  iterate 4 refine z6 ?_
  refine zy2 ?_
  iterate 5 refine z6 ?_
  refine zy2 ?_
  iterate 4 refine z6 ?_
  refine zy2 ?_
  iterate 4 refine z6 ?_
  refine zs2 ?_
  refine zR ?_
  exact congrArg boo (by rw [few10]; simp only [*, Bool.true_and, Bool.false_and])
end Go.Proofs.Ytlponhgbbfgkgaa
namespace Go.Proofs.Ytlponhgbbfgkgaa
open Go.RowKit
set_option maxRecDepth 100000
mutual
def rN : VNode → List PV
 | .mk k n a b => [i64 k, i64 n, .seq a.length (rNs a) .any, .seq b.length (rNs b) .any]
def rNs : List VNode → List PV
 | [] => []
 | x :: l => rN x ++ rNs l
end
def sqN (l : List VNode) : PV := .seq l.length (rNs l) .any
def cNode (x : VNode) : List PV := [i64 x.kind, i64 x.n, sqN x.a, sqN x.b]
theorem rN_c (x : VNode) : rN x = cNode x := by cases x; rfl
theorem rNs_eq : ∀ l : List VNode, rNs l = l.flatMap cNode
 | [] => rfl
 | x :: l => by rw [rNs, rN_c, rNs_eq l]; rfl
theorem sqN_eq (l : List VNode) : sqN l = sq cNode l := by unfold sqN sq; rw [rNs_eq]
mutual
theorem flat_rN : ∀ x : VNode, FlatL (rN x)
 | .mk k n a b => by
  have h1 := flat_rNs a
  have h2 := flat_rNs b
  simp [rN, FlatL, Flat, i64, h1, h2]
theorem flat_rNs : ∀ l : List VNode, FlatL (rNs l)
 | [] => by simp only [rNs, FlatL]
 | x :: l => by rw [rNs]; exact flatL_app (flat_rN x) (flat_rNs l)
end
@[simp] theorem flat_cNode (x : VNode) : FlatL (cNode x) := by rw [← rN_c]; exact flat_rN x
@[simp] theorem flat_sqN (l : List VNode) : Flat (sqN l) := by unfold sqN Flat; exact ⟨flat_rNs l, .inl rfl⟩
@[simp] theorem flat_sNode (l : List VNode) : Flat (sq cNode l) := flat_sq flat_cNode l
def eNode (x : VNode) : PV := .agg (cNode x)
@[simp] theorem flat_eNode (x : VNode) : Flat (eNode x) := by unfold eNode Flat; exact flat_cNode x
def hidW (w : VWord) : Bool := decide (w.flags / 2 % 2 = 1)
def hitW (w : VWord) (name : Str) : Bool := !hidW w && alike w.name name
def findK (l : List VWord) (name : Str) : Nat → VWord × Int × Bool
 | 0 => (⟨[], 0, 0⟩, 0, false)
 | k + 1 => if hitW (l.getD k default) name then (l.getD k default, (k : Int), true) else findK l name k
def findS (l : List VWord) (name : Str) : VWord × Int × Bool := findK l name l.length
def tFind (r : VWord × Int × Bool) : PV := tup3 (eWord r.1) (i64 r.2.1) (boo r.2.2)
@[simp] theorem flat_tFind (r : VWord × Int × Bool) : Flat (tFind r) := by simp [tFind]
theorem findK_fit {l : List VWord} (h : ∀ w ∈ l, Fit64 w.xt) (name : Str) : ∀ k, k ≤ l.length → Fit64 (findK l name k).1.xt
 | 0, _ => by show Fit64 0; unfold Fit64; omega
 | k + 1, hk => by
  unfold findK
  split
  ·exact h _ (by rw [List.getD_eq_getElem?_getD, List.getElem?_eq_getElem (by omega)]; exact List.getElem_mem _)
  ·exact findK_fit h name k (by omega)
theorem findK_flags {l : List VWord} (h : ∀ w ∈ l, 0 ≤ w.flags ∧ w.flags ≤ 7) (name : Str) : ∀ k, k ≤ l.length → 0 ≤ (findK l name k).1.flags ∧ (findK l name k).1.flags ≤ 7
 | 0, _ => by show (0 : Int) ≤ 0 ∧ (0 : Int) ≤ 7; omega
 | k + 1, hk => by
  unfold findK
  split
  ·exact h _ (by rw [List.getD_eq_getElem?_getD, List.getElem?_eq_getElem (by omega)]; exact List.getElem_mem _)
  ·exact findK_flags h name k (by omega)
def fitsK (k loops : Int) : Bool := decide (k = 14) || (decide (k = 15 ∧ 1 ≤ loops) || (decide (k = 16 ∧ 2 ≤ loops) || decide (23 ≤ k)))
def rdS (v : VVm) (w : Str) (loops : Int) : Int × Str × VNode :=
 if (findS v.dict w).2.2 = false then (if (parseS w (memFetch v.mem 0).1).2 = true then 0 else -13, [], .mk 1 (parseS w (memFetch v.mem 0).1).1 [] [])
 else if (vmKind v (findS v.dict w).1.xt).2 ≠ 0 then ((vmKind v (findS v.dict w).1.xt).2, [], .mk 0 0 [] [])
 else if 300 ≤ (vmKind v (findS v.dict w).1.xt).1 then (0, specials.getD ((vmKind v (findS v.dict w).1.xt).1 - 300).toNat [], .mk 0 0 [] [])
 else (if fitsK (vmKind v (findS v.dict w).1.xt).1 loops = true ∧ (findS v.dict w).1.flags % 2 = 0 then 0 else -32, [], .mk 2 (findS v.dict w).1.xt [] [])
def readerS (v : VVm) : Rdr := ⟨rdS v, fun w => ((findS v.dict w).1.xt, (findS v.dict w).2.2)⟩
theorem specials_ne : ∀ i < 37, specials.getD i [] ≠ [] := by decide +kernel
theorem kind_le {v : VVm} {xt : Int} (h : (vmKind v xt).2 = 0) : kindOk (vmKind v xt).1 := by
 unfold vmKind at h ⊢
 split at h
 ·rename_i h1
  rw [if_pos h1]
  split at h
  ·rename_i h2; rw [if_pos h2]; exact h2
  ·cases h
 ·rename_i h1; exact absurd h h1
theorem spec_ne {v : VVm} {xt : Int} (h : (vmKind v xt).2 = 0) (h3 : 300 ≤ (vmKind v xt).1) : specials.getD ((vmKind v xt).1 - 300).toNat [] ≠ [] := by
 have := kind_le h
 unfold kindOk at this
 exact specials_ne _ (by omega)
theorem readerS_ok (v : VVm) : RdOk (readerS v) := by
 refine ⟨fun w l => ?_, fun w l => ?_⟩
 ·show (rdS v w l).1 ≠ 0 → (rdS v w l).2.1 = []
  unfold rdS
  by_cases c1 : (findS v.dict w).2.2 = false
  ·rw [if_pos c1]; exact fun _ => rfl
  rw [if_neg c1]
  by_cases c2 : (vmKind v (findS v.dict w).1.xt).2 ≠ 0
  ·rw [if_pos c2]; exact fun _ => rfl
  rw [if_neg c2]
  by_cases c3 : 300 ≤ (vmKind v (findS v.dict w).1.xt).1
  ·rw [if_pos c3]; exact fun k => absurd rfl k
  rw [if_neg c3]; exact fun _ => rfl
 ·show (rdS v w l).1 = 0 → (rdS v w l).2.1 = [] → ∃ k n, (rdS v w l).2.2 = .mk k n [] [] ∧ (k = 1 ∨ k = 2)
  unfold rdS
  by_cases c1 : (findS v.dict w).2.2 = false
  ·rw [if_pos c1]; exact fun _ _ => ⟨_, _, rfl, .inl rfl⟩
  rw [if_neg c1]
  by_cases c2 : (vmKind v (findS v.dict w).1.xt).2 ≠ 0
  ·rw [if_pos c2]; exact fun k => absurd k c2
  rw [if_neg c2]
  by_cases c3 : 300 ≤ (vmKind v (findS v.dict w).1.xt).1
  ·rw [if_pos c3]; exact fun _ k => absurd k (spec_ne (by simpa using c2) c3)
  rw [if_neg c3]; exact fun _ _ => ⟨_, _, rfl, .inr rfl⟩
mutual
def sameN : VNode → VNode → Bool
 | .mk k n a b, .mk k' n' a' b' => (decide (k = k') && decide (n = n')) && (sameL a a' && sameL b b')
def sameL : List VNode → List VNode → Bool
 | [], [] => true
 | x :: xs, y :: ys => sameN x y && sameL xs ys
 | [], _ :: _ => false
 | _ :: _, [] => false
end
mutual
theorem sameN_rfl : ∀ x : VNode, sameN x x = true
 | .mk k n a b => by rw [sameN, sameL_rfl a, sameL_rfl b]; simp
theorem sameL_rfl : ∀ l : List VNode, sameL l l = true
 | [] => by rw [sameL]
 | x :: l => by rw [sameL, sameN_rfl x, sameL_rfl l]; rfl
end
mutual
def szN : VNode → Nat
 | .mk _ _ a b => 1 + szL a + szL b
def szL : List VNode → Nat
 | [] => 0
 | x :: l => szN x + szL l
end
theorem sz_pos (x : VNode) : 1 ≤ szN x := by cases x; rw [szN]; omega
theorem sz_parts (x : VNode) : szN x = 1 + szL x.a + szL x.b := by cases x; rw [szN]; rfl
theorem sz_len : ∀ l : List VNode, l.length ≤ szL l
 | [] => Nat.zero_le _
 | x :: l => by have := sz_len l; have := sz_pos x; rw [szL, List.length_cons]; omega
theorem sz_mem {x : VNode} : ∀ {l : List VNode}, x ∈ l → szN x ≤ szL l
 | y :: l, h => by
  rw [szL]
  rcases List.mem_cons.1 h with rfl | h
  ·omega
  ·have := sz_mem h; omega
theorem sz_get {l : List VNode} {k : Nat} (h : k < l.length) : szN (l.getD k default) ≤ szL l :=
 sz_mem (by rw [List.getD_eq_getElem?_getD, List.getElem?_eq_getElem h]; exact List.getElem_mem _)
theorem sz_app : ∀ (x y : List VNode), szL (x ++ y) = szL x + szL y
 | [], y => by rw [List.nil_append, szL]; omega
 | a :: x, y => by rw [List.cons_append, szL, szL, sz_app x y]; omega
mutual
def okN : VNode → Prop
 | .mk _ _ a b => okL a ∧ okL b
def okL : List VNode → Prop
 | [] => True
 | x :: l => okN x ∧ okL l ∧ l.length + 1 ≤ 9223372036854775807
end
theorem ok_len {l : List VNode} (h : okL l) : l.length ≤ 9223372036854775807 := by
 cases l with
 | nil => show (0 : Nat) ≤ _; omega
 | cons x l => rw [okL] at h; exact h.2.2
theorem ok_mem {x : VNode} : ∀ {l : List VNode}, okL l → x ∈ l → okN x
 | y :: l, h, hm => by
  rw [okL] at h
  rcases List.mem_cons.1 hm with rfl | hm
  ·exact h.1
  ·exact ok_mem h.2.1 hm
theorem ok_get {l : List VNode} {k : Nat} (h : okL l) (hk : k < l.length) : okL (l.getD k default).a ∧ okL (l.getD k default).b := by
 have := ok_mem (x := l.getD k default) h (by rw [List.getD_eq_getElem?_getD, List.getElem?_eq_getElem hk]; exact List.getElem_mem _)
 cases e : l.getD k default
 rw [e, okN] at this; exact this
theorem ok_all : ∀ {l : List VNode}, (∀ x ∈ l, okN x) → l.length ≤ 9223372036854775807 → okL l
 | [], _, _ => by rw [okL]; trivial
 | x :: l, h, hl => by
  rw [List.length_cons] at hl
  rw [okL]
  exact ⟨h x (by simp), ok_all (fun y hy => h y (by simp [hy])) (by omega), hl⟩
mutual
theorem okN_sz : ∀ x : VNode, szN x ≤ 9223372036854775807 → okN x
 | .mk _ _ a b, h => by rw [szN] at h; rw [okN]; exact ⟨okL_sz a (by omega), okL_sz b (by omega)⟩
theorem okL_sz : ∀ l : List VNode, szL l ≤ 9223372036854775807 → okL l
 | [], _ => by rw [okL]; trivial
 | x :: l, h => by
  rw [szL] at h
  have h1 := sz_len l
  have h2 := sz_pos x
  rw [okL]; exact ⟨okN_sz x (by omega), okL_sz l (by omega), by omega⟩
end
theorem sameL_len : ∀ {a b : List VNode}, sameL a b = true → a.length = b.length
 | [], [], _ => rfl
 | x :: xs, y :: ys, h => by rw [sameL, Bool.and_eq_true] at h; rw [List.length_cons, List.length_cons, sameL_len h.2]
 | [], _ :: _, h => by rw [sameL] at h; cases h
 | _ :: _, [], h => by rw [sameL] at h; cases h
theorem sameL_get : ∀ {a b : List VNode} {k : Nat}, sameL a b = true → k < a.length → sameN (a.getD k default) (b.getD k default) = true
 | x :: xs, y :: ys, 0, h, _ => by rw [sameL, Bool.and_eq_true] at h; exact h.1
 | x :: xs, y :: ys, k + 1, h, hk => by rw [sameL, Bool.and_eq_true] at h; exact sameL_get (a := xs) (b := ys) h.2 (by rw [List.length_cons] at hk; omega)
 | [], [], k, _, hk => by simp at hk
 | [], _ :: _, _, h, _ => by rw [sameL] at h; cases h
 | _ :: _, [], _, h, _ => by rw [sameL] at h; cases h
theorem sameL_all : ∀ {a b : List VNode}, a.length = b.length → (∀ k, k < a.length → sameN (a.getD k default) (b.getD k default) = true) → sameL a b = true
 | [], [], _, _ => by rw [sameL]
 | x :: xs, y :: ys, hl, h => by
  rw [sameL, show sameN x y = true from h 0 (by simp), sameL_all (a := xs) (b := ys) (by simpa using hl) (fun k hk => h (k + 1) (by rw [List.length_cons]; omega))]; rfl
theorem sameN_parts (x y : VNode) : sameN x y = ((decide (x.kind = y.kind) && decide (x.n = y.n)) && (sameL x.a y.a && sameL x.b y.b)) := by cases x; cases y; rw [sameN]; rfl
theorem mayN_parts (x : VNode) (o l : Int) : mayN x o l = (if x.kind = 1 ∨ x.kind = 2 then x.a.isEmpty && x.b.isEmpty
  else if x.kind = 9 then (x.a.isEmpty && x.b.isEmpty) && (decide (x.n = 0) && decide (0 < l))
  else if x.kind = 10 then (x.a.isEmpty && x.b.isEmpty) && (decide (x.n = 0) && decide (l = 0))
  else if x.kind = 11 then (x.a.isEmpty && x.b.isEmpty) && decide (x.n = 0)
  else if 16 ≤ o then false
  else flagN x.kind x.n x.b && (mayL x.a (o + 1) (if x.kind = 7 ∨ x.kind = 8 then l + 1 else l) && mayL x.b (o + 1) (if x.kind = 7 ∨ x.kind = 8 then l + 1 else l))) := by cases x; rw [mayN]; rfl
end Go.Proofs.Ytlponhgbbfgkgaa
namespace Go.Proofs.Ytlponhgbbfgkgaa
open Go.RowKit
set_option maxRecDepth 100000
set_option maxHeartbeats 4000000
theorem i64_ok2 {n : Int} (h0 : -9223372036854775808 ≤ n) (h1 : n ≤ 9223372036854775807) : IntKind.i64.wrap n = n := by rw [i64w]; unfold wrap64; omega
theorem flags8 {f : Int} (h0 : 0 ≤ f) (h7 : f ≤ 7) : f = 0 ∨ f = 1 ∨ f = 2 ∨ f = 3 ∨ f = 4 ∨ f = 5 ∨ f = 6 ∨ f = 7 := by omega
theorem land2 {f : Int} (h0 : 0 ≤ f) (h7 : f ≤ 7) : (IntKind.i64.wrap ↑(BitVec.ofInt IntKind.i64.bits f &&& BitVec.ofInt IntKind.i64.bits 2).toNat == 0) = !decide (f / 2 % 2 = 1) := by
 rcases flags8 h0 h7 with rfl | rfl | rfl | rfl | rfl | rfl | rfl | rfl <;> decide
theorem find1 (x : VWord) (name : Str) (hx : x.name.length ≤ 9223372036854775807) (hn : name.length ≤ 9223372036854775807) (h0 : 0 ≤ x.flags) (h7 : x.flags ≤ 7) : PureC Try.prog 74 [eWord x, .row [str name]] (boo (hitW x name)) := by
 have hl := land2 h0 h7
 refine pW tG (rs := [.tmp 3]) Try.func74 rfl rfl rfl (by (simp [Flat, FlatL]; done)) (by (simp; done)) (fun B => ?_)
 refine zu2 ?_
 refine zp5 ?_
 refine Wb 8 rfl (fun hg1 => ?_) (fun hg1 => ?_)
 ·refine zy3 ?_
  refine zc rfl Try.func75 ((lex_Alike x.name name hx hn) _) ?_
  refine zs2 ?_
  refine zR ?_
  exact congrArg boo (by unfold hitW hidW; rw [hg1] at hl; rw [← hl]; simp)
 ·refine z6 ?_
  iterate 3 refine z6 ?_
  refine zs2 ?_
  refine zR ?_
  exact congrArg boo (by unfold hitW hidW; rw [hg1] at hl; rw [← hl]; simp)
theorem hidden9 (x : VWord) (h0 : 0 ≤ x.flags) (h7 : x.flags ≤ 7) : PureC Try.prog 90 [eWord x] (boo (hidW x)) := by
 refine pW tG (rs := [.tmp 2]) Try.func90 rfl rfl rfl (by simp) (by simp) (fun B => ?_)
 refine zu2 ?_
 refine zp5 ?_
 refine zs1 ?_
 refine zR ?_
 exact congrArg boo (by unfold hidW; rcases flags8 h0 h7 with h | h | h | h | h | h | h | h <;> rw [h] <;> decide)
theorem fm_get {α : Type} (enc : α → List PV) (n : Nat) (hk : ∀ x, (enc x).length = n) (d : α) : ∀ (l : List α) (j k : Nat), j < l.length → k < n → (l.flatMap enc)[j * n + k]? = (enc (l.getD j d))[k]?
 | [], j, k, h, _ => by simp at h
 | x :: l, 0, k, _, h => by
  rw [List.flatMap_cons, Nat.zero_mul, Nat.zero_add, List.getElem?_append_left (by rw [hk]; exact h)]; rfl
 | x :: l, j + 1, k, h, h2 => by
  rw [List.flatMap_cons, List.getElem?_append_right (by rw [hk, Nat.succ_mul]; omega), hk, show (j + 1) * n + k - n = j * n + k by rw [Nat.succ_mul]; omega, fm_get enc n hk d l j k (by simpa using h) h2]
  rfl
def DictOk (l : List VWord) : Prop := l.length ≤ 1000000 ∧ ∀ w ∈ l, w.name.length ≤ 9223372036854775807 ∧ 0 ≤ w.flags ∧ w.flags ≤ 7
theorem DictOk.get {l : List VWord} (h : DictOk l) {j : Nat} (hj : j < l.length) : (l.getD j default).name.length ≤ 9223372036854775807 ∧ 0 ≤ (l.getD j default).flags ∧ (l.getD j default).flags ≤ 7 :=
 h.2 _ (by rw [List.getD_eq_getElem?_getD, List.getElem?_eq_getElem hj]; exact List.getElem_mem _)
def zOf (l : List VWord) (j : Nat) : WX := if h : (l.getD j default).name.length ≤ 9223372036854775807 ∧ 0 ≤ (l.getD j default).flags ∧ (l.getD j default).flags ≤ 7 then
  ⟨(⟨(l.getD j default).name.toArray⟩, (l.getD j default).xt, (l.getD j default).flags), by simpa [ByteArray.size] using h.1, h.2⟩ else ⟨(⟨#[]⟩, 0, 0), by decide, by decide, by decide⟩
theorem zOf_eq {l : List VWord} (h : DictOk l) {j : Nat} (hj : j < l.length) : (zOf l j).1 = (⟨(l.getD j default).name.toArray⟩, (l.getD j default).xt, (l.getD j default).flags) := by
 unfold zOf; rw [dif_pos (h.get hj)]
def wOf (x : WX) : VWord := ⟨x.1.1.data.toList, x.1.2.1, x.1.2.2⟩
theorem wOf_z {l : List VWord} (h : DictOk l) {j : Nat} (hj : j < l.length) : wOf (zOf l j) = l.getD j default := by
 unfold wOf; rw [zOf_eq h hj]
theorem findK_none {l : List VWord} {name : Str} : ∀ k, (∀ j, j < k → hitW (l.getD j default) name = false) → findK l name k = (⟨[], 0, 0⟩, 0, false)
 | 0, _ => rfl
 | k + 1, h => by unfold findK; rw [h k (by omega)]; simp; exact findK_none k (fun j hj => h j (by omega))
theorem findK_some {l : List VWord} {name : Str} {m : Nat} (hm : hitW (l.getD m default) name = true) : ∀ k, m < k → (∀ j, m < j → j < k → hitW (l.getD j default) name = false) → findK l name k = (l.getD m default, (m : Int), true)
 | 0, h, _ => by omega
 | k + 1, h, h2 => by
  unfold findK
  by_cases e : m = k
  ·subst e; rw [hm]; rfl
  ·rw [h2 k (by omega) (by omega)]; simp; exact findK_some hm k (by omega) (fun j h3 h4 => h2 j h3 (by omega))
theorem rep_eWord (c : Cx) (x : VWord) : Rep c (eWord x) (.agg #[.string ⟨x.name.toArray⟩, .int .i64 x.xt, .int .i64 x.flags]) := by
 unfold eWord Rep
 exact ⟨[_, _, _], rfl, repL_cons.2 ⟨rep_val _ _, repL_cons.2 ⟨rep_val _ _, repL_cons.2 ⟨rep_val _ _, repL_nil.2 rfl⟩⟩⟩⟩
theorem dict_last (l : List VWord) (name : Str) (hl : DictOk l) (hn : name.length ≤ 9223372036854775807) : PureC Try.prog 73 [sq cWord l, .fn (.func 74) [] [.row [str name]]] (tFind (findS l name)) := by
 intro H B σ w vs s hr
 match vs, hr with
 | [v0, v1], hr =>
  obtain ⟨h0, hr⟩ := repL_cons.1 hr
  obtain ⟨h1, _⟩ := repL_cons.1 hr
  unfold sq Rep at h0
  obtain ⟨a, cap, us, rfl, hle, hnil, hrep, hlies, _⟩ := h0
  unfold Rep at h1
  obtain ⟨fs, cs, rfl, hf, hc⟩ := h1
  rw [repL_nil] at hf; subst hf
  match cs, hc with
  | [u], hc =>
   obtain ⟨hu, _⟩ := repL_cons.1 hc
   unfold Rep at hu
   obtain ⟨nb, us', rfl, hn', hln⟩ := hu
   have hcell : ∀ j k, j < l.length → k < 3 → ∃ u, us[j * 3 + k]? = some u ∧ ∃ x, (cWord (l.getD j default))[k]? = some x ∧ Rep (cx B H σ w) x u := fun j k hj hk => by
    have e := fm_get cWord 3 (fun _ => rfl) default l j k hj hk
    have : ∃ x, (cWord (l.getD j default))[k]? = some x := by match k, hk with | 0, _ => exact ⟨_, rfl⟩ | 1, _ => exact ⟨_, rfl⟩ | 2, _ => exact ⟨_, rfl⟩
    obtain ⟨x, hx⟩ := this
    rw [hx] at e
    obtain ⟨u, h5, h6⟩ := RepL.get hrep e
    exact ⟨u, h5, x, hx, h6⟩
   have hI : WordsAt w.heap.size w (.slice a l.length cap) l.length (zOf l) := by
    by_cases hz : l.length = 0
    ·rw [hz]; exact .inl ⟨a, cap, rfl, rfl⟩
    ·match a, hnil, hlies with
     | none, hnil, _ => exact absurd (hnil rfl).1 hz
     | some b, _, hlies =>
      rcases hlies b rfl with hL | ⟨h9, _⟩
      ·obtain ⟨hs, hL⟩ := hL
       obtain ⟨blk, off, spot⟩ := b
       simp only at hs hL
       subst hs
       obtain ⟨u0, q0, x0, q1, q2⟩ := hcell 0 0 (by omega) (by omega)
       have hb : blk < w.heap.size := by
        have := (hL _ _ q0).1
        simp only [cx] at this
        unfold World.cell? at this
        by_cases hh : blk < w.heap.size
        ·exact hh
        ·simp [Array.getElem?_eq_none (Nat.le_of_not_lt hh)] at this
       refine .inr ⟨blk, off, cap, rfl, hb, fun j hj => ?_, fun j hj => ?_, fun j hj => ?_⟩
       ·obtain ⟨u, g1, x, g2, g3⟩ := hcell j 0 hj (by omega)
        cases g2
        unfold str Rep at g3
        subst g3
        have := (hL _ _ g1).1
        rw [zOf_eq hl hj]; exact this
       ·obtain ⟨u, g1, x, g2, g3⟩ := hcell j 1 hj (by omega)
        cases g2
        unfold i64 Rep at g3
        subst g3
        have := (hL _ _ g1).1
        rw [zOf_eq hl hj]; rw [← Nat.add_assoc] at this; exact this
       ·obtain ⟨u, g1, x, g2, g3⟩ := hcell j 2 hj (by omega)
        cases g2
        unfold i64 Rep at g3
        subst g3
        have := (hL _ _ g1).1
        rw [zOf_eq hl hj]; rw [← Nat.add_assoc] at this; exact this
      ·omega
   have hname : ∀ W, Below w.heap.size w W → Lies ⟨W, 0, fun _ => none, fun _ _ => False⟩ nb us' := fun W hB => by
    refine ⟨hln.1, fun j u hj => ⟨?_, fun k => k⟩⟩
    have := (hln.2 j u hj).1
    exact (Grows.of_below hB).cell this
   have key := callsIn_wide.1 (last_in a l.length cap nb (zOf l) (fun x => hitW (wOf x) name) (by have := hl.1; omega) w hI (fun W hB x => by
    have f := find1 (wOf x) name (by show x.1.1.data.toList.length ≤ _; have q := x.2.1; unfold ByteArray.size at q; rw [Array.length_toList]; exact q) hn x.2.2.1 x.2.2.2 [] (fun _ _ => False) (fun _ => none) W [wv x, .pointer (some nb)] ⟨fun i j b oi oj h => by simp at h, fun i b oi h => by simp at h, fun b off h => h.elim, fun i oi h => by simp at h⟩
     (repL_cons.2 ⟨by have := rep_eWord (cx (fun _ _ => False) [] (fun _ => none) W) (wOf x); simpa [wOf] using this, repL_cons.2 ⟨by
      unfold Rep
      refine ⟨nb, us', rfl, ?_, ?_⟩
      ·exact repL_flat (c := cx B H σ w) (c' := ⟨w, 0, fun _ => none, fun b off => (cx B H σ w).Wr b off⟩) rfl (fun _ _ k => k) (by simp [FlatL]) hn' |> fun h => by
        match us', h with
        | [u'], h => obtain ⟨h5, _⟩ := repL_cons.1 h; unfold str Rep at h5; subst h5; exact repL_cons.2 ⟨rep_val _ _, repL_nil.2 rfl⟩
      ·refine ⟨(hname W hB).1, fun j u hj => ⟨((hname W hB).2 j u hj).1, fun k => ?_⟩⟩
       rcases k with k | ⟨i, oi, k, _⟩
       ·exact k
       ·simp at k, repL_nil.2 rfl⟩⟩)
    refine Calls.mono f ?_
    rintro e W' ⟨v, σ', rfl, g1, _, g3⟩
    unfold boo Rep at g1
    subst g1
    exact ⟨rfl, g3.os, g3.tape, g3.output, g3.size, fun b hb => g3.block b hb (fun i oi h => by simp at h)⟩))
   refine Calls.mono key ?_
   rintro e W' ⟨he, hB⟩
   obtain ⟨s', st⟩ := grow_sim s (Grows.of_below hB)
   rcases he with ⟨rfl, hno⟩ | ⟨k, hk, rfl, hy, hno⟩
   ·refine ⟨_, σ, rfl, ?_, s', st⟩
    have : findS l name = (⟨[], 0, 0⟩, 0, false) := findK_none l.length (fun j hj => by have := hno j hj; rw [wOf_z hl hj] at this; exact this)
    rw [this]
    unfold tFind tup3 Rep
    exact ⟨[_, _, _], rfl, repL_cons.2 ⟨rep_eWord _ _, repL_cons.2 ⟨rep_val _ _, repL_cons.2 ⟨rep_val _ _, repL_nil.2 rfl⟩⟩⟩⟩
   ·refine ⟨_, σ, rfl, ?_, s', st⟩
    have : findS l name = (l.getD k default, (k : Int), true) := findK_some (by rw [← wOf_z hl hk]; exact hy) l.length hk (fun j h1 h2 => by have := hno j h1 h2; rw [wOf_z hl h2] at this; exact this)
    rw [this]
    unfold tFind tup3 Rep
    refine ⟨[_, _, _], rfl, repL_cons.2 ⟨?_, repL_cons.2 ⟨rep_val _ _, repL_cons.2 ⟨rep_val _ _, repL_nil.2 rfl⟩⟩⟩⟩
    have := rep_eWord (cx B H σ W') (l.getD k default)
    show Rep _ _ (.agg #[.string (zOf l k).1.1, .int .i64 (zOf l k).1.2.1, .int .i64 (zOf l k).1.2.2])
    rw [zOf_eq hl hk]; exact this
theorem dict_Find (l : List VWord) (name : Str) (hl : DictOk l) (hn : name.length ≤ 9223372036854775807) : PureC Try.prog 50 [sq cWord l, str name] (tFind (findS l name)) := by
 refine pW tG (rs := [.cell 4 111, .tmp 5, .tmp 6]) Try.func50 rfl rfl rfl (by simp) (by simp) (fun B => ?_)
 refine zp1 ?_
 refine WO_freezeP 3 _ rfl rfl rfl ?_
 refine zs3 ?_
 refine zp2 ?_
 refine zc rfl Try.func73 ((dict_last l name hl hn) _) ?_
 refine zy5 ?_
 refine zs1 ?_
 refine zR ?_
 rfl
theorem findK_no {l : List VWord} {name : Str} {j : Nat} (h : hitW (l.getD j default) name = false) : findK l name (j + 1) = findK l name j := by
 show (if hitW (l.getD j default) name then _ else _) = _
 rw [h]; rfl
theorem findK_yes {l : List VWord} {name : Str} {j : Nat} (h : hitW (l.getD j default) name = true) : findK l name (j + 1) = (l.getD j default, (j : Int), true) := by
 show (if hitW (l.getD j default) name then _ else _) = _
 rw [h]; rfl
theorem ref_Find9 (l : List VWord) (name : Str) (hl : DictOk l) (hn : name.length ≤ 9223372036854775807) : PureC Try.prog 64 [sq cWord l, str name] (tFind (findS l name)) := by
 have hll := hl.1
 have w1 : IntKind.i64.wrap ((l.length : Int) - 1) = (l.length : Int) - 1 := i64_ok2 (by omega) (by omega)
 refine pW tG (rs := [.cell 4 111, .tmp 5, .tmp 6]) Try.func64 rfl rfl rfl (by simp) (by simp) (fun B => ?_)
 refine zu3 ?_
 refine Ws ?_
 refine zp3 ?_
 refine Wa 11 rfl (congrArg (fun z => PV.val (Value.int .i64 z)) w1) ?_
 refine zs1 ?_
 refine Wl ?_
 show W _ _ _ _ _ _ _
 refine W_loopS (fun (k : Nat) => [(0, sq cWord l), (1, str name), (4, .ptr 0 0), (5, i64 0), (6, boo false), (7, i64 ((k : Int) - 1))]) (fun (k : Nat) => [.cells (cWord ⟨[], 0, 0⟩) 111]) (fun (k : Nat) => []) (fun (k : Nat) => k ≤ l.length ∧ findS l name = findK l name k) (fun (k : Nat) => k) (l.length) (by exact ⟨Nat.le_refl _, rfl⟩) [] ?_ ?_
 ·exact fitT
 ·intro k hk
  refine Ws ?_
  refine zu2 ?_
  refine Wi rfl (fun hi1 => ?_) (fun hi1 => ?_)
  ·have hk1 : 0 < k := by have := oT hi1; omega
   obtain ⟨j, rfl⟩ : ∃ j, k = j + 1 := ⟨k - 1, by omega⟩
   have hlt : j < l.length := by omega
   refine W_as 7 rfl (congrArg i64 (show ((j + 1 : Nat) : Int) - 1 = (j : Int) by omega)) ?_
   refine Wj ?_
   refine Ws ?_
   refine Wl ?_
   refine zp2 ?_
   refine Wv tG rfl rfl rfl (by omega) (iN cWord 3 (fun _ => rfl) default (by omega)) ?_
   refine zy3 ?_
   refine zc rfl Try.func89 ((ref_Alike _ _ (hl.get hlt).1 hn) _) ?_
   refine zs1 ?_
   refine zp2 ?_
   refine Wb 24 rfl (fun hg1 => ?_) (fun hg1 => ?_)
   ·refine zy2 ?_
    refine Wv tG rfl rfl rfl (by omega) (iN cWord 3 (fun _ => rfl) default (by omega)) ?_
    refine z1 ?_
    refine zc rfl Try.func90 ((hidden9 _ (hl.get hlt).2.1 (hl.get hlt).2.2) _) ?_
    refine zs2 ?_
    refine Wi rfl (fun hi2 => ?_) (fun hi2 => ?_)
    ·have hh : hitW (l.getD j default) name = true := by unfold hitW; rw [hg1, hi2]; rfl
     refine zp2 ?_
     refine Wv tG rfl rfl rfl (by omega) (iN cWord 3 (fun _ => rfl) default (by omega)) ?_
     refine zs5 ?_
     refine zR ?_
     rw [hk.2, findK_yes hh]; rfl
    ·have hh : hitW (l.getD j default) name = false := by unfold hitW; rw [hg1, hi2]; rfl
     refine Wj ?_
     refine W_region rfl ?_
     refine zs3 ?_
     exact ⟨j, [], (by exact ⟨by omega, hk.2.trans (findK_no hh)⟩), (by omega), fitT⟩
   ·have hh : hitW (l.getD j default) name = false := by unfold hitW; rw [hg1]; simp
    iterate 6 refine z6 ?_
    refine zs1 ?_
    refine Wf rfl rfl ?_
    refine Wj ?_
    refine W_region rfl ?_
    refine zs3 ?_
    exact ⟨j, [], (by exact ⟨by omega, hk.2.trans (findK_no hh)⟩), (by omega), fitT⟩
  ·have hk0 : k = 0 := by have := oF hi1; omega
   subst hk0
   refine W_exit ?_
   refine zu4 ?_
   refine zR ?_
   rw [hk.2]; rfl
end Go.Proofs.Ytlponhgbbfgkgaa
namespace Go.Proofs.Ytlponhgbbfgkgaa
open Go.RowKit
namespace V
section
variable {P : Program} {B : Nat → Nat → Prop} {n : Nat} {md : Region.Mode} {ops : Array Oper} {cl : Nat → Nat}
def YU (P : Program) (B : Nat → Nat → Prop) (ops : Array Oper) (o : Oper) (T : Nat → PV) (H : List Ob) (x : PV) (H' : List Ob) : Prop :=
 (wantedA ops T o = some true ∧ (Does P B o T H x H' ∨ DoesC P B o T H x H')) ∨ (wantedA ops T o = some false ∧ x = .val undef ∧ H' = H)
def FU (P : Program) (B : Nat → Nat → Prop) (ops : Array Oper) (c : Nat) (o : Oper) (T : Nat → PV) (H : List Ob) (x : PV) (H' : List Ob) : Prop :=
 match c with
 | 0 => H' = H ∧ ∀ H2, YU P B ops o T H2 x H2
 | 1 => H' = H ∧ ∀ E, YU P B ops o T (H ++ E) x (H ++ E)
 | 2 => ∃ E, H' = H ++ E
 | 3 => True
 | c + 4 => match Nat.beq (c % 2) 0 with
  | true => H' = H ∧ c / 2 < H.length ∧ ∀ H2 : List Ob, H2[c / 2]? = H[c / 2]? → YU P B ops o T H2 x H2
  | false => ∃ ob, H' = H.set (c / 2) ob
def rdB (c : Nat) : Bool := Nat.ble 4 c && Nat.beq (c % 2) 0
def wrB (c : Nat) : Bool := Nat.ble 4 c && Nat.beq (c % 2) 1
def blk (c : Nat) : Nat := (c - 4) / 2
def compatU (a b : Nat) : Bool := Nat.beq a 0 || Nat.beq b 0 || (Nat.beq a 1 && Nat.ble b 2) || (rdB a && (Nat.ble b 2 || rdB b || (wrB b && !Nat.beq (blk a) (blk b)))) || (wrB a && rdB b && !Nat.beq (blk a) (blk b))
theorem YU.congr {o : Oper} {T T' : Nat → PV} {H H' : List Ob} {x : PV} (h : ∀ t ∈ o.looksAt ops, T' t = T t) (y : YU P B ops o T H x H') : YU P B ops o T' H x H' := by
 have hw : wantedA ops T' o = wantedA ops T o := by
  unfold wantedA
  cases hg : o.guard with
  | none => rfl
  | some q =>
   obtain ⟨g, b⟩ := q
   simp only
   cases hd : (ops[g]?).bind (·.dst) with
   | none => rfl
   | some d => simp only; rw [h d (looks_guard hg hd)]
 have ho : ∀ z ∈ o.op.operands.toList, opv T' z = opv T z := fun z hz => opv_congr fun t ht => h t (looks_op (by rw [← ht]; exact hz))
 rcases y with ⟨h1, h2 | h2⟩ | ⟨h1, h2⟩
 ·exact .inl ⟨by rw [hw]; exact h1, .inl fun σ w a s k => h2 σ w a s (fun z hz => by rw [← ho z hz]; exact k z hz)⟩
 ·exact .inl ⟨by rw [hw]; exact h1, .inr fun σ w a s k => h2 σ w a s (fun z hz => by rw [← ho z hz]; exact k z hz)⟩
 ·exact .inr ⟨by rw [hw]; exact h1, h2⟩
theorem FU.congr {c : Nat} {o : Oper} {T T' : Nat → PV} {H H' : List Ob} {x : PV} (h : ∀ t ∈ o.looksAt ops, T' t = T t) (y : FU P B ops c o T H x H') : FU P B ops c o T' H x H' := by
 match c, y with
 | 0, y => exact ⟨y.1, fun H2 => (y.2 H2).congr h⟩
 | 1, y => exact ⟨y.1, fun E => (y.2 E).congr h⟩
 | 2, y => exact y
 | 3, _ => trivial
 | c + 4, y =>
  simp only [FU] at y ⊢
  split at y
  ·exact ⟨y.1, y.2.1, fun H2 h2 => (y.2.2 H2 h2).congr h⟩
  ·exact y
theorem FU.rd {c : Nat} {o : Oper} {T : Nat → PV} {H H' : List Ob} {x : PV} (hc : rdB c = true) (f : FU P B ops c o T H x H') : H' = H ∧ blk c < H.length ∧ ∀ H2 : List Ob, H2[blk c]? = H[blk c]? → YU P B ops o T H2 x H2 := by
 simp only [rdB, Bool.and_eq_true, Nat.ble_eq, Nat.beq_eq] at hc
 obtain ⟨d, rfl⟩ : ∃ d, c = d + 4 := ⟨c - 4, by omega⟩
 have hd : Nat.beq (d % 2) 0 = true := by rw [Nat.beq_eq]; omega
 simp only [FU, hd] at f
 exact f
theorem FU.of_rd {c : Nat} {o : Oper} {T : Nat → PV} {H H' : List Ob} {x : PV} (hc : rdB c = true) (f : H' = H ∧ blk c < H.length ∧ ∀ H2 : List Ob, H2[blk c]? = H[blk c]? → YU P B ops o T H2 x H2) : FU P B ops c o T H x H' := by
 simp only [rdB, Bool.and_eq_true, Nat.ble_eq, Nat.beq_eq] at hc
 obtain ⟨d, rfl⟩ : ∃ d, c = d + 4 := ⟨c - 4, by omega⟩
 have hd : Nat.beq (d % 2) 0 = true := by rw [Nat.beq_eq]; omega
 simp only [FU, hd]
 exact f
theorem FU.wr {c : Nat} {o : Oper} {T : Nat → PV} {H H' : List Ob} {x : PV} (hc : wrB c = true) (f : FU P B ops c o T H x H') : ∃ ob, H' = H.set (blk c) ob := by
 simp only [wrB, Bool.and_eq_true, Nat.ble_eq, Nat.beq_eq] at hc
 obtain ⟨d, rfl⟩ : ∃ d, c = d + 4 := ⟨c - 4, by omega⟩
 have hd : Nat.beq (d % 2) 0 = false := by rw [← Bool.not_eq_true, Nat.beq_eq]; omega
 simp only [FU, hd] at f
 exact f
def qU (P : Program) (B : Nat → Nat → Prop) (ops : Array Oper) (cl : Nat → Nat) (i : Nat) (K : (Nat → PV) → List Ob → Prop) (T : Nat → PV) (H : List Ob) : Prop :=
 match ops[i]? with
 | none => K T H
 | some o => ∃ x H', YU P B ops o T H x H' ∧ FU P B ops (cl i) o T H x H' ∧ K (updD o.dst x T) H'
def anyU (P : Program) (B : Nat → Nat → Prop) (md : Region.Mode) (ops : Array Oper) (cl : Nat → Nat) (Q : (Nat → PV) → List Ob → Prop) : Nat → Array Bool → (Nat → PV) → List Ob → Prop
 | 0, listed, T, H => Region.ready md ops listed = [] ∧ Q T H
 | fuel + 1, listed, T, H => (Region.ready md ops listed = [] → Q T H) ∧ ∀ i ∈ Region.ready md ops listed, qU P B ops cl i (anyU P B md ops cl Q fuel (listed.setIfInBounds i true)) T H
theorem anyU_sound (hall : dstsOk n ops = true) {Q' : Exit → Act → World → Prop} {Q : (Nat → PV) → List Ob → Prop} {H0 : List Ob} {σ0 : Nat → Option Nat} {w0 : World} (hQ : ∀ T H σ w a, Good B n T H σ w a → Step B H0 σ0 w0 H σ w → Q T H → Q' .normal a w) :
  ∀ (fuel : Nat) (listed : Array Bool) (T : Nat → PV) (H : List Ob) (σ : Nat → Option Nat) (w : World) (a : Act), Good B n T H σ w a → Step B H0 σ0 w0 H σ w → anyU P B md ops cl Q fuel listed T H → wpAny P md ops Q' fuel listed a w
 | 0, _, _, _, _, _, _, g, st, h => ⟨h.1, hQ _ _ _ _ _ g st h.2⟩
 | fuel + 1, listed, T, H, σ, w, a, g, st, h => by
  refine ⟨fun h0 => hQ _ _ _ _ _ g st (h.1 h0), fun i hi => ?_⟩
  have h1 := h.2 i hi
  unfold qU at h1
  unfold wpOp
  cases ho : ops[i]? with
  | none => simp only [ho] at h1 ⊢; exact anyU_sound hall hQ fuel _ T H σ w a g st h1
  | some o =>
   simp only [ho] at h1 ⊢
   obtain ⟨x, H', hy, _, hk⟩ := h1
   have hd : ∀ j, o.dst = some j → Nat.blt j n = true := fun j hj => dstsOk_spec hall i j (by rw [ho]; exact hj)
   have hgd : ∀ q, wantedA ops T o = some q → Region.wanted o (yielded ops a.tmps) = q := fun q hq => guard_ok (dstsOk_spec hall) g hq
   rcases hy with ⟨hw, hdo | hdo⟩ | ⟨hw, rfl, rfl⟩
   ·rw [if_pos (hgd true hw)]
    refine .inl ?_
    obtain ⟨v, w', σ', h2, h3, h4, h5⟩ := hdo σ w a g.sim (fun y _ => rep_opv g.rep y)
    have k := anyU_sound hall hQ fuel _ _ _ σ' w' _ (good_put hd g h3 h4 h5) (st.trans h5) hk
    unfold Oper.wp
    rcases h2 with h2 | ⟨h2, rfl⟩
    ·rw [h2]; exact k
    ·rw [h2]; exact k
   ·rw [if_pos (hgd true hw)]
    refine .inl ?_
    obtain ⟨f, args, h2, hc⟩ := hdo σ w a g.sim (fun y _ => rep_opv g.rep y)
    unfold Oper.wp
    rw [h2]
    refine Calls.mono hc ?_
    rintro e w' ⟨v, σ', rfl, h3, h4, h5⟩
    exact anyU_sound hall hQ fuel _ _ _ σ' w' _ (good_put hd g h3 h4 h5) (st.trans h5) hk
   ·rw [if_neg (by rw [hgd false hw]; simp)]
    exact anyU_sound hall hQ fuel _ _ _ σ w _ (good_put hd g (rep_val _ _) g.sim (Step.refl _ _ _ _)) st hk
theorem swapU {ci cj : Nat} {oi oj : Oper} {T : Nat → PV} {H Hi Hj : List Ob} {x y : PV} (hc : compatU ci cj = true) (h1 : ∀ t ∈ oj.looksAt ops, updD oi.dst x T t = T t) (h2 : ∀ t ∈ oi.looksAt ops, updD oj.dst y T t = T t)
  (yi : YU P B ops oi T H x Hi) (fi : FU P B ops ci oi T H x Hi) (yj : YU P B ops oj (updD oi.dst x T) Hi y Hj) (fj : FU P B ops cj oj (updD oi.dst x T) Hi y Hj) :
  ∃ H', YU P B ops oj T H y H' ∧ FU P B ops cj oj T H y H' ∧ YU P B ops oi (updD oj.dst y T) H' x Hj ∧ FU P B ops ci oi (updD oj.dst y T) H' x Hj := by
 have b1 : ∀ t ∈ oj.looksAt ops, T t = updD oi.dst x T t := fun t ht => (h1 t ht).symm
 have yj' := yj.congr b1
 have fj' := fj.congr b1
 simp only [compatU, Bool.or_eq_true, Bool.and_eq_true, Nat.beq_eq, Nat.ble_eq] at hc
 rcases hc with (((rfl | rfl) | ⟨rfl, hj⟩) | ⟨hr, hj⟩) | ⟨⟨hw, hr⟩, hne⟩
 ·obtain ⟨rfl, hl⟩ := fi
  exact ⟨Hj, yj', fj', (hl Hj).congr h2, rfl, fun H2 => (hl H2).congr h2⟩
 ·obtain ⟨rfl, hl⟩ := fj'
  exact ⟨H, hl H, ⟨rfl, hl⟩, yi.congr h2, fi.congr h2⟩
 ·obtain ⟨rfl, hl⟩ := fi
  have : ∃ E, Hj = Hi ++ E := by
   match cj, hj, fj' with
   | 0, _, fj' => exact ⟨[], by rw [fj'.1]; simp⟩
   | 1, _, fj' => exact ⟨[], by rw [fj'.1]; simp⟩
   | 2, _, fj' => exact fj'
   | c + 3, hj, _ => omega
  obtain ⟨E, rfl⟩ := this
  exact ⟨Hi ++ E, yj', fj', (hl E).congr h2, rfl, fun E2 => by rw [List.append_assoc]; exact (hl (E ++ E2)).congr h2⟩
 ·obtain ⟨rfl, hlt, hl⟩ := fi.rd hr
  have key : Hj[blk ci]? = Hi[blk ci]? ∧ blk ci < Hj.length := by
   rcases hj with (hj | hj) | ⟨hj, hne⟩
   ·have : ∃ E, Hj = Hi ++ E := by
     match cj, hj, fj' with
     | 0, _, fj' => exact ⟨[], by rw [fj'.1]; simp⟩
     | 1, _, fj' => exact ⟨[], by rw [fj'.1]; simp⟩
     | 2, _, fj' => exact fj'
     | c + 3, hj, _ => omega
    obtain ⟨E, rfl⟩ := this
    exact ⟨List.getElem?_append_left hlt, by simp; omega⟩
   ·obtain ⟨rfl, _⟩ := fj'.rd hj
    exact ⟨rfl, hlt⟩
   ·obtain ⟨ob, rfl⟩ := fj'.wr hj
    refine ⟨List.getElem?_set_ne ?_, by simpa using hlt⟩
    intro h; rw [h] at hne; simp at hne
  exact ⟨Hj, yj', fj', (hl Hj key.1).congr h2, FU.of_rd hr ⟨rfl, key.2, fun H2 h3 => (hl H2 (h3.trans key.1)).congr h2⟩⟩
 ·obtain ⟨ob, rfl⟩ := fi.wr hw
  obtain ⟨rfl, hlt, hl⟩ := fj'.rd hr
  have hk : H[blk cj]? = (H.set (blk ci) ob)[blk cj]? := by
   rw [List.getElem?_set_ne]
   intro h; rw [h] at hne; simp at hne
  exact ⟨H, hl H hk, FU.of_rd hr ⟨rfl, by simpa using hlt, fun H2 h3 => hl H2 (h3.trans hk)⟩, yi.congr h2, fi.congr h2⟩
theorem anyU_first {Q : (Nat → PV) → List Ob → Prop} {i : Nat} {oi : Oper} {x : PV} (hi : ops[i]? = some oi) : ∀ (fuel : Nat) (listed : Array Bool) (T : Nat → PV) (H Hi : List Ob),
  (∀ j oj, ops[j]? = some oj → j ≠ i → listed.getD j true = false → (∀ e ∈ oj.after, Region.binds md e = true → e.on ≠ i) → oi.apart ops oj = true ∧ compatU (cl i) (cl j) = true) →
  i ∈ Region.ready md ops listed → YU P B ops oi T H x Hi → FU P B ops (cl i) oi T H x Hi → anyU P B md ops cl Q fuel (listed.setIfInBounds i true) (updD oi.dst x T) Hi → anyU P B md ops cl Q (fuel + 1) listed T H := by
 intro fuel
 have self : ∀ (fuel : Nat) (listed : Array Bool) (T : Nat → PV) (H Hi : List Ob), YU P B ops oi T H x Hi → FU P B ops (cl i) oi T H x Hi → anyU P B md ops cl Q fuel (listed.setIfInBounds i true) (updD oi.dst x T) Hi → qU P B ops cl i (anyU P B md ops cl Q fuel (listed.setIfInBounds i true)) T H := by
  intro fuel listed T H Hi hy hf h
  unfold qU
  simp only [hi]
  exact ⟨x, Hi, hy, hf, h⟩
 induction fuel with
 | zero =>
  intro listed T H Hi _ hr hy hf h
  refine ⟨fun h0 => (by rw [h0] at hr; cases hr), fun j hj => ?_⟩
  by_cases hji : j = i
  ·subst hji; exact self 0 listed T H Hi hy hf h
  ·have := ready_mono hj hji
   rw [h.1] at this
   cases this
 | succ fuel ih =>
  intro listed T H Hi hfree hr hy hf h
  refine ⟨fun h0 => (by rw [h0] at hr; cases hr), fun j hj => ?_⟩
  by_cases hji : j = i
  ·subst hji; exact self (fuel + 1) listed T H Hi hy hf h
  ·have h1 := h.2 j (ready_mono hj hji)
   obtain ⟨hjun, oj, hoj, hall⟩ := mem_ready.1 hj
   have hnot : ∀ e ∈ oj.after, Region.binds md e = true → e.on ≠ i := fun e he hb heq => by
    have a1 := hall e he hb
    have a0 := (mem_ready.1 hr).1
    rw [heq] at a1
    rcases Nat.lt_or_ge i listed.size with h' | h'
    ·simp [h'] at a0 a1; rw [a0] at a1; cases a1
    ·simp [Array.getElem?_eq_none h'] at a1
   obtain ⟨hap, hcp⟩ := hfree j oj hoj hji hjun hnot
   obtain ⟨l1, l2, l3⟩ := apart_looks hap
   unfold qU at h1 ⊢
   simp only [hoj] at h1 ⊢
   obtain ⟨y, Hj, hyj, hfj, hk⟩ := h1
   obtain ⟨H', k1, k2, k3, k4⟩ := swapU hcp (fun t ht => updD_look (l1 t ht)) (fun t ht => updD_look (l2 t ht)) hy hf hyj hfj
   refine ⟨y, H', k1, k2, ih (listed.setIfInBounds j true) _ H' Hj (fun k ok hk hki hun hno => ?_) (ready_mono hr (Ne.symm hji)) k3 k4 ?_⟩
   ·refine hfree k ok hk hki ?_ hno
    by_cases hjk : j = k
    ·subst hjk; exact hjun
    ·rw [getD_set_ne true hjk] at hun; exact hun
   ·rw [Array.setIfInBounds_comm _ _ hji, updD_comm _ _ _ l3]
    exact hk
def freeU (md : Region.Mode) (ops : Array Oper) (cl : Nat → Nat) (listed : Array Bool) (i : Nat) (oi : Oper) : Bool :=
 ops.toList.zipIdx.all fun q => Nat.beq q.2 i || listed.getD q.2 true || (q.1.after.any fun e => Region.binds md e && Nat.beq e.on i) || (oi.apart ops q.1 && compatU (cl i) (cl q.2))
def lexU (md : Region.Mode) (ops : Array Oper) (cl : Nat → Nat) : List Nat → Array Bool → Bool
 | [], listed => (Region.ready md ops listed).isEmpty
 | i :: l, listed => (Region.ready md ops listed).contains i && (match ops[i]? with | some oi => freeU md ops cl listed i oi | none => false) && lexU md ops cl l (listed.setIfInBounds i true)
theorem freeU_spec {listed : Array Bool} {i : Nat} {oi : Oper} (h : freeU md ops cl listed i oi = true) : ∀ j oj, ops[j]? = some oj → j ≠ i → listed.getD j true = false → (∀ e ∈ oj.after, Region.binds md e = true → e.on ≠ i) → oi.apart ops oj = true ∧ compatU (cl i) (cl j) = true := by
 intro j oj hj hji hun hno
 have h1 := List.all_eq_true.1 h (oj, j) (zip_get (by rw [Array.getElem?_toList]; exact hj))
 simp only [Bool.or_eq_true, Bool.and_eq_true, Nat.beq_eq] at h1
 rcases h1 with ((h1 | h1) | h1) | h1
 ·exact absurd h1 hji
 ·rw [hun] at h1; cases h1
 ·obtain ⟨e, he, h3⟩ := Array.any_eq_true'.1 h1
  simp only [Bool.and_eq_true, Nat.beq_eq] at h3
  exact absurd h3.2 (hno e he h3.1)
 ·exact h1
def WU (P : Program) (B : Nat → Nat → Prop) (n : Nat) (ops : Array Oper) (cl : Nat → Nat) : List Nat → (Nat → PV) → List Ob → ((Nat → PV) → List Ob → Prop) → Prop
 | [], T, H, K => K T H
 | i :: l, T, H, K => ∃ o, ops[i]? = some o ∧ ∃ x H', YU P B ops o T H x H' ∧ FU P B ops (cl i) o T H x H' ∧ WU P B n ops cl l (updD o.dst x T) H' K
theorem anyU_lex {Q : (Nat → PV) → List Ob → Prop} : ∀ (l : List Nat) (listed : Array Bool) (T : Nat → PV) (H : List Ob), lexU md ops cl l listed = true → WU P B n ops cl l T H Q → anyU P B md ops cl Q l.length listed T H
 | [], listed, T, H, hB, h => ⟨by simpa [lexU] using hB, h⟩
 | i :: l, listed, T, H, hB, h => by
  simp only [lexU, Bool.and_eq_true] at hB
  obtain ⟨⟨hr, hf⟩, hB'⟩ := hB
  obtain ⟨o, ho, x, H', hy, hfu, hK⟩ := h
  rw [ho] at hf
  exact anyU_first ho l.length listed T H H' (freeU_spec hf) (by simpa using hr) hy hfu (anyU_lex l _ _ _ hB' hK)
def clOf (l : List Nat) (i : Nat) : Nat := l.getD i 3
def lexUB (md : Region.Mode) (ops : Array Oper) (cl : List Nat) (ord : List Nat) : Bool := Nat.beq ord.length ops.size && lexU md ops (clOf cl) ord (Array.replicate ops.size false)
variable {T : Nat → PV} {H : List Ob} {Q : Exit → (Nat → PV) → List Ob → Prop}
theorem W_drawU {id : Nat} (cl ord : List Nat) (hm : P.follows .mixedOrders = true) (hall : dstsOk n ops = true) (hB : lexUB .any ops cl ord = true) (h : WU P B n ops (clOf cl) ord T H (fun T' H' => Q .normal T' H')) : W P B n (.region id ops true) T H Q := by
 intro σ w a g
 simp only [lexUB, Bool.and_eq_true, Nat.beq_eq] at hB
 refine wp_region_any hm ?_
 have hd : Grows w { w with drawn := w.drawn + 1 } := Grows.drew w
 obtain ⟨s', st⟩ := grow_sim g.sim hd
 have hA := anyU_lex (P := P) (B := B) (n := n) (md := .any) ord (Array.replicate ops.size false) T H hB.2 h
 rw [hB.1] at hA
 exact anyU_sound (P := P) (md := .any) hall (H0 := H) (σ0 := σ) (w0 := w) (Q' := Post B n H σ w Q) (fun T' H' σ' w' a' g' st' hq => ⟨T', H', σ', hq, g', st'⟩) ops.size _ T H σ _ a ⟨s', fun i => (g.rep i).mono st.le, g.size, g.defers⟩ st hA
variable {o : Oper} {l : List Nat} {i : Nat} {K : (Nat → PV) → List Ob → Prop} {x : PV} {H' : List Ob} {G : List (Nat × TD)} {p : Prop} {d : Option Tmp}
theorem WU_nil (h : K T H) : WU P B n ops cl [] T H K := h
theorem WU_does0 (h0 : ops[i]? = some o) (hc : cl i = 0) (hd : nfD n o.dst = some d) (hw : wantedA ops T o = some true) (h : ∀ H2, Does P B o T H2 x H2) (k : WU P B n ops cl l (updD d x T) H K) : WU P B n ops cl (i :: l) T H K :=
 ⟨o, h0, x, H, .inl ⟨hw, .inl (h H)⟩, by rw [hc]; exact ⟨rfl, fun H2 => .inl ⟨hw, .inl (h H2)⟩⟩, (nfD_eq hd).1 ▸ k⟩
theorem Xc (h0 : ops[i]? = some o) (hc : cl i = 0) (hd : nfD n o.dst = some d) (hw : wantedA ops T o = some true) (h : ∀ H2, DoesC P B o T H2 x H2) (k : WU P B n ops cl l (updD d x T) H K) : WU P B n ops cl (i :: l) T H K :=
 ⟨o, h0, x, H, .inl ⟨hw, .inr (h H)⟩, by rw [hc]; exact ⟨rfl, fun H2 => .inl ⟨hw, .inr (h H2)⟩⟩, (nfD_eq hd).1 ▸ k⟩
theorem Xe (hG : tysOk P G = true) (h0 : ops[i]? = some o) (hc : cl i = 0) (hd : nfD n o.dst = some d) (hw : wantedA ops T o = some true) (h : ∀ H2, evS G T H2 o.type o.op = some (x, H2, p)) (hp : p) (k : WU P B n ops cl l (updD d x T) H K) : WU P B n ops cl (i :: l) T H K :=
 WU_does0 h0 hc hd hw (fun H2 => evOp_ok hG rfl (evS_ok (h H2)) hp) k
theorem Xi {y : PV} (hG : tysOk P G = true) (h0 : ops[i]? = some o) (hc : cl i = 0) (hd : nfD n o.dst = some d) (hw : wantedA ops T o = some true) (h : ∀ H2, evS G T H2 o.type o.op = some (x, H2, p)) (hp : p) (hi : Imp x y) (k : WU P B n ops cl l (updD d y T) H K) : WU P B n ops cl (i :: l) T H K :=
 WU_does0 h0 hc hd hw (fun H2 => (evOp_ok hG rfl (evS_ok (h H2)) hp).imp hi) k
theorem WU_skip (h0 : ops[i]? = some o) (hc : Nat.ble (cl i) 3 = true) (hd : nfD n o.dst = some d) (hw : wantedA ops T o = some false) (k : WU P B n ops cl l (updD d (.val undef) T) H K) : WU P B n ops cl (i :: l) T H K := by
 refine ⟨o, h0, _, H, .inr ⟨hw, rfl, rfl⟩, ?_, (nfD_eq hd).1 ▸ k⟩
 generalize cl i = q at hc
 match q, hc with
 | 0, _ => exact ⟨rfl, fun H2 => .inr ⟨hw, rfl, rfl⟩⟩
 | 1, _ => exact ⟨rfl, fun E => .inr ⟨hw, rfl, rfl⟩⟩
 | 2, _ => exact ⟨[], by simp⟩
 | 3, _ => trivial
 | c + 4, hc => rw [Nat.ble_eq] at hc; omega
theorem Xf (hG : tysOk P G = true) (h0 : ops[i]? = some o) (hc : cl i = 1) (hd : nfD n o.dst = some d) (hw : wantedA ops T o = some true) (h : ∀ E, evS G T (H ++ E) o.type o.op = some (x, H ++ E, p)) (hp : p) (k : WU P B n ops cl l (updD d x T) H K) : WU P B n ops cl (i :: l) T H K :=
 ⟨o, h0, x, H, .inl ⟨hw, .inl (by have := evOp_ok (P := P) (B := B) (o := o) hG rfl (evS_ok (h [])) hp; rwa [List.append_nil] at this)⟩, by rw [hc]; exact ⟨rfl, fun E => .inl ⟨hw, .inl (evOp_ok hG rfl (evS_ok (h E)) hp)⟩⟩, (nfD_eq hd).1 ▸ k⟩
theorem WU_does3 (h0 : ops[i]? = some o) (hc : cl i = 3) (hd : nfD n o.dst = some d) (hw : wantedA ops T o = some true) (h : Does P B o T H x H') (k : WU P B n ops cl l (updD d x T) H' K) : WU P B n ops cl (i :: l) T H K :=
 ⟨o, h0, x, H', .inl ⟨hw, .inl h⟩, by rw [hc]; trivial, (nfD_eq hd).1 ▸ k⟩
theorem WU_split (d : Nat) {b : Bool} (hT : T d = .val (.bool b)) (h1 : b = true → WU P B n ops cl l (upd d (.val (.bool true)) T) H K) (h2 : b = false → WU P B n ops cl l (upd d (.val (.bool false)) T) H K) : WU P B n ops cl l T H K := by
 have e : ∀ q, b = q → upd d (.val (.bool q)) T = T := by
  rintro q rfl
  funext i
  by_cases hi : i = d
  ·subst hi; rw [upd_same, hT]
  ·rw [upd_other _ _ _ _ hi]
 cases hb : b with
 | true => have := h1 hb; rwa [e true hb] at this
 | false => have := h2 hb; rwa [e false hb] at this
theorem WU_true (d : Nat) {b : Bool} (hT : T d = .val (.bool b)) (hb : b = true) (h1 : WU P B n ops cl l (upd d (.val (.bool true)) T) H K) : WU P B n ops cl l T H K :=
 WU_split d hT (fun _ => h1) (fun h => by rw [hb] at h; cases h)
theorem WU_false (d : Nat) {b : Bool} (hT : T d = .val (.bool b)) (hb : b = false) (h1 : WU P B n ops cl l (upd d (.val (.bool false)) T) H K) : WU P B n ops cl l T H K :=
 WU_split d hT (fun h => by rw [hb] at h; cases h) (fun _ => h1)
theorem Xa (d : Nat) {x y : PV} (hT : T d = x) (hxy : x = y) (h1 : WU P B n ops cl l (upd d y T) H K) : WU P B n ops cl l T H K := by
 have e : upd d y T = T := by
  funext i
  by_cases hi : i = d
  ·subst hi; rw [upd_same, hT, hxy]
  ·rw [upd_other _ _ _ _ hi]
 rwa [e] at h1
end
section
variable {B : Nat → Nat → Prop} {n : Nat} {all ops : Array Oper} {cl : Nat → Nat} {i : Nat} {li : List Nat} {T : Nat → PV} {H H' : List Ob} {K : (Nat → PV) → List Ob → Prop} {Q : Exit → (Nat → PV) → List Ob → Prop} {l : List Oper} {o : Oper} {x : PV} {d : Option Tmp} {p : Prop}
theorem z3 (k : WU Try.prog B n ops cl li (updD d x T) H K) (h0 : ops[i]? = some o := by exact rfl) (hc : cl i = 0 := by exact rfl) (hd : nfD n o.dst = some d := by exact rfl) (hw : wantedA ops T o = some true := by exact rfl) (h : ∀ H2, evS tys T H2 o.type o.op = some (x, H2, True) := by exact fun _ => rfl) : WU Try.prog B n ops cl (i :: li) T H K :=
 Xe tG h0 hc hd hw h trivial k
theorem z4 (k : WU Try.prog B n ops cl li (updD d x T) H K) (h0 : ops[i]? = some o := by exact rfl) (hc : cl i = 0 := by exact rfl) (hd : nfD n o.dst = some d := by exact rfl) (hw : wantedA ops T o = some true := by exact rfl) (h : ∀ H2, evS tys T H2 o.type o.op = some (x, H2, p) := by exact fun _ => rfl) (q : p) : WU Try.prog B n ops cl (i :: li) T H K :=
 Xe tG h0 hc hd hw h q k
theorem z5 (k : WU Try.prog B n ops cl li (updD d x T) H K) (h0 : ops[i]? = some o := by exact rfl) (hc : cl i = 1 := by exact rfl) (hd : nfD n o.dst = some d := by exact rfl) (hw : wantedA ops T o = some true := by exact rfl) (h : ∀ E, evS tys T (H ++ E) o.type o.op = some (x, H ++ E, True) := by exact fun _ => rfl) : WU Try.prog B n ops cl (i :: li) T H K :=
 Xf tG h0 hc hd hw h trivial k
theorem z7 (k : WU Try.prog B n ops cl li (updD d (.val undef) T) H K) (h0 : ops[i]? = some o := by exact rfl) (hc : Nat.ble (cl i) 3 = true := by exact rfl) (hd : nfD n o.dst = some d := by exact rfl) (hw : wantedA ops T o = some false := by exact rfl) : WU Try.prog B n ops cl (i :: li) T H K :=
 WU_skip h0 hc hd hw k
end
end V
end Go.Proofs.Ytlponhgbbfgkgaa
namespace Go.Proofs.Ytlponhgbbfgkgaa
open Go.RowKit
namespace V
section
variable {P : Program} {B : Nat → Nat → Prop} {n : Nat} {ops : Array Oper} {cl : Nat → Nat} {md : Region.Mode}
theorem anyU_first2 {Q : (Nat → PV) → List Ob → Prop} {i : Nat} {oi : Oper} {x : PV} (hi : ops[i]? = some oi) (D : List Nat) (hDi : i ∈ D) (hD : ∀ j ∈ D, j ≠ i → ∃ oj e, ops[j]? = some oj ∧ e ∈ oj.after ∧ Region.binds md e = true ∧ e.on ∈ D) : ∀ (fuel : Nat) (listed : Array Bool) (T : Nat → PV) (H Hi : List Ob),
  (∀ j ∈ D, listed.getD j true = false) →
  (∀ j oj, ops[j]? = some oj → j ∉ D → listed.getD j true = false → oi.apart ops oj = true ∧ compatU (cl i) (cl j) = true) →
  i ∈ Region.ready md ops listed → YU P B ops oi T H x Hi → FU P B ops (cl i) oi T H x Hi → anyU P B md ops cl Q fuel (listed.setIfInBounds i true) (updD oi.dst x T) Hi → anyU P B md ops cl Q (fuel + 1) listed T H := by
 intro fuel
 have self : ∀ (fuel : Nat) (listed : Array Bool) (T : Nat → PV) (H Hi : List Ob), YU P B ops oi T H x Hi → FU P B ops (cl i) oi T H x Hi → anyU P B md ops cl Q fuel (listed.setIfInBounds i true) (updD oi.dst x T) Hi → qU P B ops cl i (anyU P B md ops cl Q fuel (listed.setIfInBounds i true)) T H := by
  intro fuel listed T H Hi hy hf h
  unfold qU
  simp only [hi]
  exact ⟨x, Hi, hy, hf, h⟩
 induction fuel with
 | zero =>
  intro listed T H Hi _ _ hr hy hf h
  refine ⟨fun h0 => (by rw [h0] at hr; cases hr), fun j hj => ?_⟩
  by_cases hji : j = i
  ·subst hji; exact self 0 listed T H Hi hy hf h
  ·have := ready_mono hj hji
   rw [h.1] at this
   cases this
 | succ fuel ih =>
  intro listed T H Hi hun0 hfree hr hy hf h
  refine ⟨fun h0 => (by rw [h0] at hr; cases hr), fun j hj => ?_⟩
  by_cases hji : j = i
  ·subst hji; exact self (fuel + 1) listed T H Hi hy hf h
  ·have h1 := h.2 j (ready_mono hj hji)
   obtain ⟨hjun, oj, hoj, hall⟩ := mem_ready.1 hj
   have hnot : j ∉ D := fun hjD => by
    obtain ⟨oj2, e, k1, k2, k3, k4⟩ := hD j hjD hji
    rw [hoj] at k1
    obtain rfl := Option.some.inj k1
    have a1 := hall e k2 k3
    have a0 := hun0 e.on k4
    rcases Nat.lt_or_ge e.on listed.size with h' | h'
    ·simp [h'] at a0 a1; rw [a0] at a1; cases a1
    ·simp [Array.getElem?_eq_none h'] at a1
   obtain ⟨hap, hcp⟩ := hfree j oj hoj hnot hjun
   obtain ⟨l1, l2, l3⟩ := apart_looks hap
   unfold qU at h1 ⊢
   simp only [hoj] at h1 ⊢
   obtain ⟨y, Hj, hyj, hfj, hk⟩ := h1
   obtain ⟨H', k1, k2, k3, k4⟩ := swapU hcp (fun t ht => updD_look (l1 t ht)) (fun t ht => updD_look (l2 t ht)) hy hf hyj hfj
   refine ⟨y, H', k1, k2, ih (listed.setIfInBounds j true) _ H' Hj (fun k hk => ?_) (fun k ok hk hki hun => ?_) (ready_mono hr (Ne.symm hji)) k3 k4 ?_⟩
   ·rw [getD_set_ne true (by rintro rfl; exact hnot hk)]; exact hun0 k hk
   ·refine hfree k ok hk hki ?_
    by_cases hjk : j = k
    ·subst hjk; exact hjun
    ·rw [getD_set_ne true hjk] at hun; exact hun
   ·rw [Array.setIfInBounds_comm _ _ hji, updD_comm _ _ _ l3]
    exact hk
def depsU (md : Region.Mode) (ops : Array Oper) : Nat → List Nat → List Nat
 | 0, D => D
 | k + 1, D => depsU md ops k (D ++ ((ops.toList.zipIdx.filter fun q => !D.contains q.2 && (q.1.after.any fun e => Region.binds md e && D.contains e.on)).map (·.2)))
def freeD (md : Region.Mode) (ops : Array Oper) (cl : Nat → Nat) (listed : Array Bool) (i : Nat) (oi : Oper) (D : List Nat) : Bool :=
 D.contains i && (D.all fun j => Nat.beq j i || (match ops[j]? with | some oj => oj.after.any fun e => Region.binds md e && D.contains e.on | none => false)) && (D.all fun j => !listed.getD j true) &&
  ops.toList.zipIdx.all fun q => D.contains q.2 || listed.getD q.2 true || (oi.apart ops q.1 && compatU (cl i) (cl q.2))
def lexD (md : Region.Mode) (ops : Array Oper) (cl : Nat → Nat) : List Nat → Array Bool → Bool
 | [], listed => (Region.ready md ops listed).isEmpty
 | i :: l, listed => (Region.ready md ops listed).contains i && (match ops[i]? with | some oi => freeD md ops cl listed i oi (depsU md ops 6 [i]) | none => false) && lexD md ops cl l (listed.setIfInBounds i true)
theorem anyU_lexD {Q : (Nat → PV) → List Ob → Prop} : ∀ (l : List Nat) (listed : Array Bool) (T : Nat → PV) (H : List Ob), lexD md ops cl l listed = true → WU P B n ops cl l T H Q → anyU P B md ops cl Q l.length listed T H
 | [], listed, T, H, hB, h => ⟨by simpa [lexD] using hB, h⟩
 | i :: l, listed, T, H, hB, h => by
  simp only [lexD, Bool.and_eq_true] at hB
  obtain ⟨⟨hr, hf⟩, hB'⟩ := hB
  obtain ⟨o, ho, x, H', hy, hfu, hK⟩ := h
  rw [ho] at hf
  simp only [freeD, Bool.and_eq_true] at hf
  obtain ⟨⟨⟨f1, f2⟩, f3⟩, f4⟩ := hf
  refine anyU_first2 ho (depsU md ops 6 [i]) (by simpa using f1) (fun j hj hji => ?_) l.length listed T H H' (fun j hj => ?_) (fun j oj hj hjD hun => ?_) (by simpa using hr) hy hfu (anyU_lexD l _ _ _ hB' hK)
  ·have := List.all_eq_true.1 f2 j hj
   rw [Bool.or_eq_true, Nat.beq_eq] at this
   rcases this with h | h
   ·exact absurd h hji
   ·cases hoj : ops[j]? with
    | none => rw [hoj] at h; cases h
    | some oj =>
     rw [hoj] at h
     obtain ⟨e, he, h3⟩ := Array.any_eq_true'.1 h
     rw [Bool.and_eq_true] at h3
     exact ⟨oj, e, rfl, he, h3.1, by simpa using h3.2⟩
  ·have := List.all_eq_true.1 f3 j hj
   simpa using this
  ·have h1 := List.all_eq_true.1 f4 (oj, j) (zip_get (by rw [Array.getElem?_toList]; exact hj))
   simp only [Bool.or_eq_true, Bool.and_eq_true] at h1
   rcases h1 with (h1 | h1) | h1
   ·exact absurd (by simpa using h1) hjD
   ·rw [hun] at h1; cases h1
   ·exact h1
def lexDB (md : Region.Mode) (ops : Array Oper) (cl : List Nat) (ord : List Nat) : Bool := Nat.beq ord.length ops.size && lexD md ops (clOf cl) ord (Array.replicate ops.size false)
variable {T : Nat → PV} {H : List Ob} {Q : Exit → (Nat → PV) → List Ob → Prop}
theorem W_drawD {id : Nat} (cl ord : List Nat) (hm : P.follows .mixedOrders = true) (hall : dstsOk n ops = true) (hB : lexDB .any ops cl ord = true) (h : WU P B n ops (clOf cl) ord T H (fun T' H' => Q .normal T' H')) : W P B n (.region id ops true) T H Q := by
 intro σ w a g
 simp only [lexDB, Bool.and_eq_true, Nat.beq_eq] at hB
 refine wp_region_any hm ?_
 have hd : Grows w { w with drawn := w.drawn + 1 } := Grows.drew w
 obtain ⟨s', st⟩ := grow_sim g.sim hd
 have hA := anyU_lexD (P := P) (B := B) (n := n) (md := .any) ord (Array.replicate ops.size false) T H hB.2 h
 rw [hB.1] at hA
 exact anyU_sound (P := P) (md := .any) hall (H0 := H) (σ0 := σ) (w0 := w) (Q' := Post B n H σ w Q) (fun T' H' σ' w' a' g' st' hq => ⟨T', H', σ', hq, g', st'⟩) ops.size _ T H σ _ a ⟨s', fun i => (g.rep i).mono st.le, g.size, g.defers⟩ st hA
end
end V
end Go.Proofs.Ytlponhgbbfgkgaa
namespace Go.Proofs.Ytlponhgbbfgkgaa
open Go.RowKit
namespace V3
section
variable {P : Program} {B : Nat → Nat → Prop} {n : Nat} {md : Region.Mode} {ops : Array Oper} {cl : Nat → Nat}
def YU_3 (P : Program) (B : Nat → Nat → Prop) (ops : Array Oper) (o : Oper) (T : Nat → PV) (H : List Ob) (x : PV) (H' : List Ob) : Prop :=
 (wantedA ops T o = some true ∧ (Does P B o T H x H' ∨ DoesC P B o T H x H')) ∨ (wantedA ops T o = some false ∧ x = .val undef ∧ H' = H)
def FU_3 (P : Program) (B : Nat → Nat → Prop) (ops : Array Oper) (c : Nat) (o : Oper) (T : Nat → PV) (H : List Ob) (x : PV) (H' : List Ob) : Prop :=
 match c with
 | 0 => H' = H ∧ ∀ H2, YU_3 P B ops o T H2 x H2
 | 1 => H' = H ∧ ∀ E, YU_3 P B ops o T (H ++ E) x (H ++ E)
 | 2 => ∃ E, H' = H ++ E
 | 3 => True
 | c + 4 => match Nat.beq (c % 2) 0 with
  | true => H' = H ∧ c / 2 < H.length ∧ ∀ H2 : List Ob, H2[c / 2]? = H[c / 2]? → YU_3 P B ops o T H2 x H2
  | false => ∃ ob E, H' = H.set (c / 2) ob ++ E
def rdB_3 (c : Nat) : Bool := Nat.ble 4 c && Nat.beq (c % 2) 0
def wrB_3 (c : Nat) : Bool := Nat.ble 4 c && Nat.beq (c % 2) 1
def blk_3 (c : Nat) : Nat := (c - 4) / 2
theorem YU_3.congr {o : Oper} {T T' : Nat → PV} {H H' : List Ob} {x : PV} (h : ∀ t ∈ o.looksAt ops, T' t = T t) (y : YU_3 P B ops o T H x H') : YU_3 P B ops o T' H x H' := by
 have hw : wantedA ops T' o = wantedA ops T o := by
  unfold wantedA
  cases hg : o.guard with
  | none => rfl
  | some q =>
   obtain ⟨g, b⟩ := q
   simp only
   cases hd : (ops[g]?).bind (·.dst) with
   | none => rfl
   | some d => simp only; rw [h d (looks_guard hg hd)]
 have ho : ∀ z ∈ o.op.operands.toList, opv T' z = opv T z := fun z hz => opv_congr fun t ht => h t (looks_op (by rw [← ht]; exact hz))
 rcases y with ⟨h1, h2 | h2⟩ | ⟨h1, h2⟩
 ·exact .inl ⟨by rw [hw]; exact h1, .inl fun σ w a s k => h2 σ w a s (fun z hz => by rw [← ho z hz]; exact k z hz)⟩
 ·exact .inl ⟨by rw [hw]; exact h1, .inr fun σ w a s k => h2 σ w a s (fun z hz => by rw [← ho z hz]; exact k z hz)⟩
 ·exact .inr ⟨by rw [hw]; exact h1, h2⟩
theorem FU_3.congr {c : Nat} {o : Oper} {T T' : Nat → PV} {H H' : List Ob} {x : PV} (h : ∀ t ∈ o.looksAt ops, T' t = T t) (y : FU_3 P B ops c o T H x H') : FU_3 P B ops c o T' H x H' := by
 match c, y with
 | 0, y => exact ⟨y.1, fun H2 => (y.2 H2).congr h⟩
 | 1, y => exact ⟨y.1, fun E => (y.2 E).congr h⟩
 | 2, y => exact y
 | 3, _ => trivial
 | c + 4, y =>
  simp only [FU_3] at y ⊢
  split at y
  ·exact ⟨y.1, y.2.1, fun H2 h2 => (y.2.2 H2 h2).congr h⟩
  ·exact y
theorem FU_3.rd {c : Nat} {o : Oper} {T : Nat → PV} {H H' : List Ob} {x : PV} (hc : rdB_3 c = true) (f : FU_3 P B ops c o T H x H') : H' = H ∧ blk_3 c < H.length ∧ ∀ H2 : List Ob, H2[blk_3 c]? = H[blk_3 c]? → YU_3 P B ops o T H2 x H2 := by
 simp only [rdB_3, Bool.and_eq_true, Nat.ble_eq, Nat.beq_eq] at hc
 obtain ⟨d, rfl⟩ : ∃ d, c = d + 4 := ⟨c - 4, by omega⟩
 have hd : Nat.beq (d % 2) 0 = true := by rw [Nat.beq_eq]; omega
 simp only [FU_3, hd] at f
 exact f
theorem FU_3.of_rd {c : Nat} {o : Oper} {T : Nat → PV} {H H' : List Ob} {x : PV} (hc : rdB_3 c = true) (f : H' = H ∧ blk_3 c < H.length ∧ ∀ H2 : List Ob, H2[blk_3 c]? = H[blk_3 c]? → YU_3 P B ops o T H2 x H2) : FU_3 P B ops c o T H x H' := by
 simp only [rdB_3, Bool.and_eq_true, Nat.ble_eq, Nat.beq_eq] at hc
 obtain ⟨d, rfl⟩ : ∃ d, c = d + 4 := ⟨c - 4, by omega⟩
 have hd : Nat.beq (d % 2) 0 = true := by rw [Nat.beq_eq]; omega
 simp only [FU_3, hd]
 exact f
theorem FU_3.wr {c : Nat} {o : Oper} {T : Nat → PV} {H H' : List Ob} {x : PV} (hc : wrB_3 c = true) (f : FU_3 P B ops c o T H x H') : ∃ ob E, H' = H.set (blk_3 c) ob ++ E := by
 simp only [wrB_3, Bool.and_eq_true, Nat.ble_eq, Nat.beq_eq] at hc
 obtain ⟨d, rfl⟩ : ∃ d, c = d + 4 := ⟨c - 4, by omega⟩
 have hd : Nat.beq (d % 2) 0 = false := by rw [← Bool.not_eq_true, Nat.beq_eq]; omega
 simp only [FU_3, hd] at f
 exact f
variable {T : Nat → PV} {H : List Ob} {Q : Exit → (Nat → PV) → List Ob → Prop}
variable {o : Oper} {l : List Nat} {i : Nat} {K : (Nat → PV) → List Ob → Prop} {x : PV} {H' : List Ob} {G : List (Nat × TD)} {p : Prop} {d : Option Tmp}
end
section
variable {B : Nat → Nat → Prop} {n : Nat} {all ops : Array Oper} {cl : Nat → Nat} {i : Nat} {li : List Nat} {T : Nat → PV} {H H' : List Ob} {K : (Nat → PV) → List Ob → Prop} {Q : Exit → (Nat → PV) → List Ob → Prop} {l : List Oper} {o : Oper} {x : PV} {d : Option Tmp} {p : Prop}
end
section
variable {P : Program} {B : Nat → Nat → Prop} {n : Nat} {ops : Array Oper} {cl : Nat → Nat} {md : Region.Mode}
variable {T : Nat → PV} {H : List Ob} {Q : Exit → (Nat → PV) → List Ob → Prop}
end
end V3
end Go.Proofs.Ytlponhgbbfgkgaa
