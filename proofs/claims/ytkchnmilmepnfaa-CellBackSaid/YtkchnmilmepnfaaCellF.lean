/- The walks of layer 1 (cell), part F: bytes as cells, by the program and by the document's answer. -/
import Derived.Test.YtkchnmilmepnfaaCellE
namespace Go.Proofs.Ytkchnmilmepnfaa
open Go.RowKit

/-- The number that bytes tell, the lowest first. -/
def valB : List Int → Nat
  | [] => 0
  | x :: t => x.toNat + 256 * valB t
theorem valB_append (xs ys : List Int) : valB (xs ++ ys) = valB xs + 256 ^ xs.length * valB ys := by
  induction xs with
  | nil => simp [valB]
  | cons x t ih =>
    simp only [List.cons_append, valB, ih, List.length_cons, Nat.pow_succ, Nat.mul_add, Nat.add_assoc]
    rw [← Nat.mul_assoc 256, Nat.mul_comm 256 (256 ^ _)]
theorem valB_lt (xs : List Int) (h : ∀ x ∈ xs, 0 ≤ x ∧ x < 256) : valB xs < 256 ^ xs.length := by
  induction xs with
  | nil => simp [valB]
  | cons x t ih =>
    have h1 := ih fun y hy => h y (List.mem_cons_of_mem _ hy)
    have h2 := h x List.mem_cons_self
    simp only [valB, List.length_cons, Nat.pow_succ]
    omega
theorem getD_byte {xs : List Int} (h : ∀ x ∈ xs, 0 ≤ x ∧ x < 256) (k : Nat) (hk : k < xs.length) : 0 ≤ xs.getD k 0 ∧ xs.getD k 0 < 256 := by
  have e : xs.getD k 0 = xs[k] := by simp [List.getD, hk]
  rw [e]; exact h _ (List.getElem_mem hk)
theorem take_more (xs : List Int) (k : Nat) (hk : k < xs.length) : xs.take (k + 1) = xs.take k ++ [xs.getD k 0] := by
  rw [List.take_add_one, List.getElem?_eq_getElem hk]; simp [List.getD, hk]
theorem drop_more (xs : List Int) (k : Nat) (hk : k < xs.length) : xs.drop k = xs.getD k 0 :: xs.drop (k + 1) := by
  rw [List.drop_eq_getElem_cons hk]; simp [List.getD, hk]

/-- A byte laid above what was so far. -/
theorem or_byte (acc x k : Nat) (hacc : acc < 256 ^ k) (hx : x < 256) (hk : k < 8) :
    bits .or .u64 (acc : Int) (IntKind.u64.wrap ((x : Int) * 2 ^ (8 * k))) = ((acc + 256 ^ k * x : Nat) : Int) := by
  have e0 : (256 : Nat) ^ k = 2 ^ (8 * k) := by rw [show (256 : Nat) = 2 ^ 8 from rfl, ← Nat.pow_mul]
  have e1 : (x : Int) * 2 ^ (8 * k) = ((x * 2 ^ (8 * k) : Nat) : Int) := by simp
  have hp : 2 ^ (8 * k) ≤ 2 ^ 56 := Nat.pow_le_pow_right (by omega) (by omega)
  have hq : x * 2 ^ (8 * k) ≤ 255 * 2 ^ 56 := Nat.mul_le_mul (by omega) hp
  have h56 : (2 : Nat) ^ 56 = 72057594037927936 := by decide
  rw [e0] at hacc
  rw [e1, IntWalk.u64_in _ (by omega), u64_or_nat _ _ (by omega) (by omega), e0]
  congr 1
  have := Nat.shiftLeft_add_eq_or_of_lt hacc x
  rw [Nat.shiftLeft_eq] at this
  rw [Nat.or_comm, ← this, Nat.mul_comm, Nat.add_comm]

theorem cell_Get_bad (p : Option Addr) (n c : Nat) (w : World) (h : n ≠ 8) :
    Calls Try.prog 9 #[.slice p n c] w fun e w' => e = .returned (.tuple #[.int .i64 0, .int .i64 (-24)]) ∧ w = w' := by
  have t : ((n : Int) != 8) = true := by simp; omega
  have t2 : ((n : Int) == 8) = false := by simp; omega
  go_enter Try.func9, Try.ntmps9
  go_wp2
  go_ret2
  exact ⟨rfl, rfl⟩
theorem ref_Get_bad (p : Option Addr) (n c : Nat) (w : World) (h : n ≠ 8) :
    Calls Try.prog 124 #[.slice p n c] w fun e w' => e = .returned (.tuple #[.int .i64 0, .int .i64 (-24)]) ∧ w = w' := by
  have t : ((n : Int) != 8) = true := by simp; omega
  have t2 : ((n : Int) == 8) = false := by simp; omega
  go_enter Try.func124, Try.ntmps124
  go_wp2
  go_ret2
  exact ⟨rfl, rfl⟩

set_option maxRecDepth 100000 in
theorem cell_Get (b o c : Nat) (xs : List Int) (w : World) (hl : xs.length = 8) (hb : ∀ x ∈ xs, 0 ≤ x ∧ x < 256) (hc : ∀ i, i < 8 → w.cell? ⟨b, o + i, none⟩ = some (.int .u8 (xs.getD i 0))) :
    Calls Try.prog 9 #[.slice (some ⟨b, o, none⟩) 8 c] w fun e w' => e = .returned (.tuple #[.int .i64 (wrap64 (valB xs)), .int .i64 0]) ∧ w = w' := by
  have HC := Lib.hid hc
  have HL := Lib.hid hl
  have HB := Lib.hid hb
  clear hc hl hb
  go_enter Try.func9, Try.ntmps9
  go_wp2_with fail
  go_loop [4, 12] (fun a i => ∃ k m : Nat, k ≤ 8 ∧ i = .int .i64 k ∧ a = .int .u64 m ∧ Hid (m = valB (xs.take k))) (fun _ i => 8 - (intOf i).toNat)
  case atStart => exact ⟨0, 0, by omega, rfl, rfl, rfl⟩
  case round =>
    obtain ⟨k, m, hk, rfl, rfl, hm⟩ := hrel
    by_cases hlt : k < 8
    · obtain ⟨x, hx, hx2, hcell⟩ : ∃ x : Nat, (xs.getD k 0 = (x : Int)) ∧ x < 256 ∧ w.cell? ⟨b, o + k, none⟩ = some (.int .u8 (x : Int)) := by
        have h1 := getD_byte HB.out k (by have := HL.out; omega)
        refine ⟨(xs.getD k 0).toNat, by omega, by omega, ?_⟩
        rw [HC.out k hlt]
        congr 2
        omega
      have hmlt : m < 256 ^ k := by
        have := valB_lt (xs.take k) fun y hy => HB.out y (List.mem_of_mem_take hy)
        rw [← hm.out, List.length_take] at this
        rwa [Nat.min_eq_left (by have := HL.out; omega)] at this
      have hor := or_byte m x k hmlt hx2 hlt
      have hm' : Hid (m + 256 ^ k * x = valB (xs.take (k + 1))) := by
        show _ = _
        rw [take_more _ _ (by have := HL.out; omega), valB_append, ← hm.out, hx, List.length_take, Nat.min_eq_left (by have := HL.out; omega)]
        simp [valB]
      generalize m + 256 ^ k * x = m' at *
      clear hm hmlt hx
      go_wp2
      go_round
      case rel => exact ⟨k + 1, m', by omega, by go_num, rfl, hm'⟩
      case measure => simp [intOf]; omega
    · have e : m = valB xs := by rw [hm.out, List.take_of_length_le (by have := HL.out; omega)]
      clear hm
      go_wp2
      go_ret2
      exact ⟨rfl, rfl⟩

set_option maxRecDepth 100000 in
theorem ref_Get (b o c : Nat) (xs : List Int) (w : World) (hl : xs.length = 8) (hb : ∀ x ∈ xs, 0 ≤ x ∧ x < 256) (hc : ∀ i, i < 8 → w.cell? ⟨b, o + i, none⟩ = some (.int .u8 (xs.getD i 0))) :
    Calls Try.prog 124 #[.slice (some ⟨b, o, none⟩) 8 c] w fun e w' => e = .returned (.tuple #[.int .i64 (wrap64 (valB xs)), .int .i64 0]) ∧ w = w' := by
  have HC := Lib.hid hc
  have HL := Lib.hid hl
  have HB := Lib.hid hb
  clear hc hl hb
  go_enter Try.func124, Try.ntmps124
  go_wp2_with fail
  go_loop [4, 5] (fun a i => ∃ (k m : Nat) (j : Int), k ≤ 8 ∧ Hid (j = (k : Int) - 1) ∧ i = .int .i64 j ∧ a = .int .u64 m ∧ Hid (m = valB (xs.drop k))) (fun _ i => (intOf i + 1).toNat)
  case atStart => exact ⟨8, 0, 7, by omega, (by decide : (7 : Int) = ((8 : Nat) : Int) - 1), rfl, rfl, by show _ = _; rw [List.drop_eq_nil_of_le (by have := HL.out; omega)]; rfl⟩
  case round =>
    obtain ⟨k, m, j, hk, hj, rfl, rfl, hm⟩ := hrel
    by_cases h0 : k = 0
    · obtain rfl : j = -1 := by have := hj.out; omega
      have e : m = valB xs := by rw [hm.out, h0]; rfl
      clear hm hj h0
      go_wp2
      go_ret2
      exact ⟨rfl, rfl⟩
    · obtain ⟨i, rfl⟩ : ∃ i, k = i + 1 := ⟨k - 1, by omega⟩
      obtain rfl : j = (i : Int) := by have := hj.out; omega
      obtain ⟨x, hx, hx2, hcell⟩ : ∃ x : Nat, (xs.getD i 0 = (x : Int)) ∧ x < 256 ∧ w.cell? ⟨b, o + i, none⟩ = some (.int .u8 (x : Int)) := by
        have h1 := getD_byte HB.out i (by have := HL.out; omega)
        refine ⟨(xs.getD i 0).toNat, by omega, by omega, ?_⟩
        rw [HC.out i (by omega)]
        congr 2
        omega
      have hmlt : m < 72057594037927936 := by
        have := valB_lt (xs.drop (i + 1)) fun y hy => HB.out y (List.mem_of_mem_drop hy)
        rw [← hm.out, List.length_drop] at this
        have h2 : (256 : Nat) ^ (xs.length - (i + 1)) ≤ 256 ^ 7 := Nat.pow_le_pow_right (by omega) (by have := HL.out; omega)
        have h3 : (256 : Nat) ^ 7 = 72057594037927936 := by decide
        omega
      have hmI : (m : Int) ≤ 72057594037927935 := by omega
      have hi8 : (i : Int) < 8 := by omega
      have hm' : Hid (256 * m + x = valB (xs.drop i)) := by
        show _ = _
        rw [drop_more xs i (by have := HL.out; omega), hx]
        simp only [valB, ← hm.out]
        omega
      clear hm hj hx hmlt h0
      go_wp2
      go_round
      case rel => exact ⟨i, 256 * m + x, (i : Int) - 1, by omega, (rfl : (i : Int) - 1 = (i : Int) - 1), by go_num, by go_num, hm'⟩
      case measure => simp [intOf]
end Go.Proofs.Ytkchnmilmepnfaa
