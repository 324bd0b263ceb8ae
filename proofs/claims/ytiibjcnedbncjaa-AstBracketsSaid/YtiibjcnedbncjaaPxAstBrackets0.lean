import Derived.Ground.SlgnProg
import Derived.Lib.OwnBridge
import Derived.Maps.AppendAt
import Derived.Shelf.SlGeneric
import Derived.Shelf.SlicesE.Clone
import Derived.Shelf.SlicesE.Reverse
import Derived.Test.YtiibjcnedbncjaaPk4
set_option linter.unusedVariables false
set_option linter.unusedSimpArgs false
namespace Go.Proofs.Ytiibjcnedbncjaa
set_option maxRecDepth 100000
theorem parse_none {R : Rdr} (ws : List (List UInt8)) (h : (parseP R ws).2 ≠ 0) : (parseP R ws).1 = [] := by
 have key : ∀ (z : PSt) (x : List VNode), (if z.bad ≠ 0 then (([] : List VNode), z.bad) else (x, 0)).2 ≠ 0 → (if z.bad ≠ 0 then (([] : List VNode), z.bad) else (x, 0)).1 = [] := by
  intro z x k
  by_cases c : z.bad ≠ 0
  ·rw [if_pos c]
  ·rw [if_neg c] at k; exact absurd rfl k
 exact key _ _ h
theorem parse_ok {R : Rdr} (ws : List (List UInt8)) : ((parseP R ws).2 = 0 ↔ (loopP R (ws.length + 1) ⟨ws, 0, 0, 0⟩ []).1.bad = 0 ∧ (loopP R (ws.length + 1) ⟨ws, 0, 0, 0⟩ []).2.2 = []) ∧
  ((parseP R ws).2 = 0 → (parseP R ws).1 = (loopP R (ws.length + 1) ⟨ws, 0, 0, 0⟩ []).2.1) ∧
  ((loopP R (ws.length + 1) ⟨ws, 0, 0, 0⟩ []).1.bad ≠ 0 → (parseP R ws).2 = (loopP R (ws.length + 1) ⟨ws, 0, 0, 0⟩ []).1.bad) ∧
  ((loopP R (ws.length + 1) ⟨ws, 0, 0, 0⟩ []).1.bad = 0 → (loopP R (ws.length + 1) ⟨ws, 0, 0, 0⟩ []).2.2 ≠ [] → (parseP R ws).2 = endCode (loopP R (ws.length + 1) ⟨ws, 0, 0, 0⟩ []).2.2) := by
 unfold parseP
 dsimp only
 generalize loopP R (ws.length + 1) ⟨ws, 0, 0, 0⟩ [] = P
 by_cases b : P.1.bad = 0
 ·by_cases e : P.2.2 = []
  ·rw [if_neg (show ¬ (P.1.bad = 0 ∧ P.2.2 ≠ []) from fun k => k.2 e), if_neg (show ¬ P.1.bad ≠ 0 from fun k => k b)]
   exact ⟨⟨fun _ => ⟨b, e⟩, fun _ => rfl⟩, fun _ => rfl, fun k => absurd b k, fun _ k => absurd e k⟩
  ·have hb := ends_bad (e := P.2.2) b
   rw [if_pos (show P.1.bad = 0 ∧ P.2.2 ≠ [] from ⟨b, e⟩), if_pos (show (endsP P.1 P.2.2).bad ≠ 0 by rw [hb]; exact endCode_ne _), hb]
   exact ⟨⟨fun k => absurd k (endCode_ne _), fun k => absurd k.2 e⟩, fun k => absurd k (endCode_ne _), fun k => absurd b k, fun _ _ => rfl⟩
 ·rw [if_neg (show ¬ (P.1.bad = 0 ∧ P.2.2 ≠ []) from fun k => b k.1), if_pos (show P.1.bad ≠ 0 from b)]
  exact ⟨⟨fun k => absurd k b, fun k => absurd k.1 b⟩, fun k => absurd k b, fun _ => rfl, fun k => absurd k b⟩
end Go.Proofs.Ytiibjcnedbncjaa
namespace Go.Proofs.Ytiibjcnedbncjaa
open Go.RowKit
section
variable {P : Program} {B : Nat → Nat → Prop} {n : Nat} {md : Region.Mode} {ops : Array Oper} {cl : Nat → Nat}
variable {T : Nat → PV} {H : List Ob} {Q : Exit → (Nat → PV) → List Ob → Prop}
variable {o : Oper} {l : List Nat} {i : Nat} {K : (Nat → PV) → List Ob → Prop} {x : PV} {H' : List Ob} {G : List (Nat × TD)} {p : Prop} {d : Option Tmp}
theorem WU_split (d : Nat) {b : Bool} (hT : T d = .val (.bool b)) (h1 : b = true → WU P B n ops cl l (upd d (.val (.bool true)) T) H K) (h2 : b = false → WU P B n ops cl l (upd d (.val (.bool false)) T) H K) : WU P B n ops cl l T H K := by
 have e : ∀ q, b = q → upd d (.val (.bool q)) T = T := by
  rintro q rfl
  funext i
  by_cases hi : i = d
  ·subst hi; rw [upd_same, hT]
  ·rw [upd_other _ _ _ _ hi]
 cases hb : b with
 | true => have := h1 hb; rwa [e true hb] at this
 | false => have := h2 hb; rwa [e false hb] at this
theorem WU_true (d : Nat) {b : Bool} (hT : T d = .val (.bool b)) (hb : b = true) (h1 : WU P B n ops cl l (upd d (.val (.bool true)) T) H K) : WU P B n ops cl l T H K :=
 WU_split d hT (fun _ => h1) (fun h => by rw [hb] at h; cases h)
theorem WU_false (d : Nat) {b : Bool} (hT : T d = .val (.bool b)) (hb : b = false) (h1 : WU P B n ops cl l (upd d (.val (.bool false)) T) H K) : WU P B n ops cl l T H K :=
 WU_split d hT (fun h => by rw [hb] at h; cases h) (fun _ => h1)
end
end Go.Proofs.Ytiibjcnedbncjaa
namespace Go.Proofs.Ytiibjcnedbncjaa
open Go.RowKit (wrap64)
def U (x : Int) : Nat := (x % 18446744073709551616).toNat
theorem U_lt (x : Int) : U x < 18446744073709551616 := by unfold U; omega
theorem U_wrap (x : Int) : IntKind.u64.wrap x = ((U x : Nat) : Int) := by
 rw [show IntKind.u64.wrap x = x % 18446744073709551616 from by simp [IntKind.wrap, IntKind.bits, IntKind.signed]]; unfold U; omega
theorem S_U (x : Int) (h : -9223372036854775808 ≤ x ∧ x ≤ 9223372036854775807) : S (U x) = x := by unfold S U wrap64; omega
theorem wrap64_rng (n : Int) : -9223372036854775808 ≤ wrap64 n ∧ wrap64 n ≤ 9223372036854775807 := by unfold wrap64; omega
end Go.Proofs.Ytiibjcnedbncjaa
namespace Go.Proofs.Ytiibjcnedbncjaa
open Go.ChangeShapes Go.WideShapes Go.ChangeAt Go.RowKit
open Go.ChangeMaps (open_string)
theorem fit_wf {n : Int} (h : (Lit.int .i64 n).wf = true) : -9223372036854775808 ≤ n ∧ n ≤ 9223372036854775807 := by
 have := h; simp [Lit.wf, IntKind.min, IntKind.max, IntKind.bits, IntKind.signed] at this; omega
end Go.Proofs.Ytiibjcnedbncjaa
namespace Go.Proofs.Ytiibjcnedbncjaa
open Go.RowKit (wrap64)
def digS (n : Int) : Int := if 0 ≤ n ∧ n ≤ 9 then 48 + n else if 10 ≤ n ∧ n ≤ 35 then 55 + n else 63
theorem digS_rng (n : Int) : 48 ≤ digS n ∧ digS n ≤ 90 := by unfold digS; split <;> (try split) <;> omega
theorem wd_digS (n : Int) (h : 0 ≤ n) (h1 : n ≤ 35) : wd (digS n) = n := by
 unfold digS
 by_cases c : n ≤ 9
 ·rw [if_pos ⟨h, c⟩]; unfold wd; rw [if_pos (by omega)]; omega
 ·rw [if_neg (by omega), if_pos (by omega)]; unfold wd; rw [if_neg (by omega), if_neg (by omega), if_pos (by omega)]; omega
def chr (n : Nat) : UInt8 := UInt8.ofNat (digS n).toNat
theorem chr_toNat (n : Nat) : ((chr n).toNat : Int) = digS n := by
 have := digS_rng n
 unfold chr
 rw [UInt8.toNat_ofNat']
 omega
theorem wd_chr (n : Nat) (h : n ≤ 35) : wd ((chr n).toNat : Int) = n := by rw [chr_toNat]; exact wd_digS n (by omega) (by omega)
theorem parseS_plain (c : UInt8) (l : List UInt8) (b : Int) (h1 : c ≠ 35) (h2 : c ≠ 36) (h3 : c ≠ 37) (h4 : c ≠ 39) :
  parseS (c :: l) b = bareS (cutS (c :: l)).1 b (cutS (c :: l)).2 := by
 have hs : signS (c :: l) = none := by
  unfold signS
  split
  ·rename_i a d e heq
   rw [if_neg]
   rintro ⟨ha, _⟩
   simp only [List.cons.injEq] at heq
   exact h4 (heq.1.trans ha)
  ·rfl
 have hp : prefS (c :: l) b = (b, c :: l) := by simp [prefS, h1, h2, h3]
 unfold parseS
 rw [hs, hp]
theorem okD_not (b : Int) {c : UInt8} (h : okD b c = true) : c ≠ 35 ∧ c ≠ 36 ∧ c ≠ 37 ∧ c ≠ 39 ∧ c ≠ 45 := by
 rw [okD_iff] at h
 refine ⟨?_, ?_, ?_, ?_, ?_⟩ <;> (rintro rfl; revert h; simp [wd])
theorem parseS_digits (l : List UInt8) (b : Int) (hb : isB b = true) (hl : l ≠ []) (hd : l.all (okD b) = true) : parseS l b = (wrap64 (valD b 0 l), true) := by
 match l, hl with
 | c :: m, _ =>
  have hc : okD b c = true := by simp at hd; exact hd.1
  obtain ⟨h1, h2, h3, h4, h5⟩ := okD_not b hc
  rw [parseS_plain c m b h1 h2 h3 h4]
  simp only [cutS, h5, if_false]
  unfold bareS
  rw [if_neg (by rw [hb, hd]; simp)]
  simp
theorem parseS_minus (l : List UInt8) (b : Int) : parseS (45 :: l) b = bareS l b true := by
 rw [parseS_plain 45 l b (by decide) (by decide) (by decide) (by decide)]
 simp [cutS]
def digL (b : Nat) : Nat → Nat → List Nat
 | 0, _ => []
 | k + 1, u => u % b :: (if u / b = 0 then [] else digL b k (u / b))
def ushowL (u b : Nat) : List UInt8 := ((digL b 64 u).map chr).reverse
def ushowS (n b : Int) : List UInt8 × Int := if isB b then (ushowL (U n) b.toNat, 0) else ([], -24)
def showS (n b : Int) : List UInt8 × Int := if isB b then (if 0 ≤ n then ushowL (U n) b.toNat else 45 :: ushowL (U (wrap64 (-n))) b.toNat, 0) else ([], -24)
theorem digL_lt (b : Nat) (hb : 0 < b) : ∀ k u, ∀ d ∈ digL b k u, d < b := by
 intro k
 induction k with
 | zero => intro u d hd; simp [digL] at hd
 | succ k ih =>
  intro u d hd
  simp only [digL, List.mem_cons] at hd
  rcases hd with rfl | hd
  ·exact Nat.mod_lt _ hb
  ·split at hd
   ·simp at hd
   ·exact ih _ _ hd
theorem valD_digL (b : Nat) (hb : 2 ≤ b) (hb1 : b ≤ 36) : ∀ k u, u < b ^ k → valD b 0 (((digL b k u).map chr).reverse) = (u : Int) := by
 intro k
 induction k with
 | zero => intro u h; simp at h; subst h; rfl
 | succ k ih =>
  intro u h
  have hlt : u % b < b := Nat.mod_lt _ (by omega)
  have hw : wd ((chr (u % b)).toNat : Int) = ((u % b : Nat) : Int) := wd_chr _ (by omega)
  simp only [digL, List.map_cons, List.reverse_cons]
  rw [valD_snoc, hw]
  by_cases h0 : u / b = 0
  ·rw [if_pos h0]
   have : u % b = u := Nat.mod_eq_of_lt ((Nat.div_eq_zero_iff_lt (by omega)).1 h0)
   simp [valD, this]
  ·rw [if_neg h0, ih (u / b) (by rw [Nat.pow_succ] at h; exact Nat.div_lt_of_lt_mul (by rw [Nat.mul_comm]; exact h))]
   have := Nat.div_add_mod u b
   have e : ((u / b : Nat) : Int) * (b : Int) = ((b * (u / b) : Nat) : Int) := by rw [Nat.mul_comm]; simp
   rw [e]
   omega
theorem pow64 (b : Nat) (hb : 2 ≤ b) {u : Nat} (h : u < 18446744073709551616) : u < b ^ 64 :=
 Nat.lt_of_lt_of_le h (by rw [show (18446744073709551616 : Nat) = 2 ^ 64 from by decide]; exact Nat.pow_le_pow_left hb 64)
theorem all_digits (b : Nat) (hb : 2 ≤ b) (hb1 : b ≤ 36) (u : Nat) : (ushowL u b).all (okD b) = true := by
 unfold ushowL
 rw [List.all_reverse, List.all_eq_true]
 intro c hc
 obtain ⟨d, hd, rfl⟩ := List.mem_map.1 hc
 have := digL_lt b (by omega) 64 u d hd
 rw [okD_iff, wd_chr d (by omega)]
 omega
theorem ushowL_ne (u b : Nat) : ushowL u b ≠ [] := by
 unfold ushowL; simp [digL]
theorem valD_ushowL (u b : Nat) (hb : 2 ≤ b) (hb1 : b ≤ 36) (h : u < 18446744073709551616) : valD b 0 (ushowL u b) = (u : Int) :=
 valD_digL b hb hb1 64 u (pow64 b hb h)
theorem base_nat {b : Int} (h : isB b = true) : ∃ B : Nat, b = (B : Int) ∧ 2 ≤ B ∧ B ≤ 36 := by
 rw [isB_iff] at h; exact ⟨b.toNat, by omega, by omega, by omega⟩
theorem parse_ushow (n b : Int) (hb : isB b = true) (hn : -9223372036854775808 ≤ n ∧ n ≤ 9223372036854775807) : parseS (ushowL (U n) b.toNat) b = (n, true) := by
 obtain ⟨B, rfl, h2, h3⟩ := base_nat hb
 rw [Int.toNat_natCast, parseS_digits _ _ hb (ushowL_ne _ _) (all_digits B h2 h3 _), valD_ushowL _ _ h2 h3 (U_lt n)]
 exact congrArg (·, true) (S_U n hn)
theorem parse_show (n b : Int) (hb : isB b = true) (hn : -9223372036854775808 ≤ n ∧ n ≤ 9223372036854775807) : parseS (showS n b).1 b = (n, true) := by
 unfold showS
 rw [if_pos hb]
 by_cases h : 0 ≤ n
 ·simp only [h, if_true]; exact parse_ushow n b hb hn
 ·simp only [h, if_false]
  obtain ⟨B, rfl, h2, h3⟩ := base_nat hb
  rw [Int.toNat_natCast, parseS_minus, bareS_ok _ _ _ hb (ushowL_ne _ _) (all_digits B h2 h3 _), valD_ushowL _ _ h2 h3 (U_lt _)]
  simp only [if_true]
  refine congrArg (·, true) ?_
  have := S_U (wrap64 (-n)) (wrap64_rng _)
  unfold S at this
  rw [this]
  unfold wrap64
  omega
end Go.Proofs.Ytiibjcnedbncjaa
namespace Go.Proofs.Ytiibjcnedbncjaa
open Go.RowKit
namespace V
section
variable {P : Program} {B : Nat → Nat → Prop} {n : Nat} {md : Region.Mode} {ops : Array Oper} {cl : Nat → Nat}
variable {T : Nat → PV} {H : List Ob} {Q : Exit → (Nat → PV) → List Ob → Prop}
variable {o : Oper} {l : List Nat} {i : Nat} {K : (Nat → PV) → List Ob → Prop} {x : PV} {H' : List Ob} {G : List (Nat × TD)} {p : Prop} {d : Option Tmp}
theorem WU_split (d : Nat) {b : Bool} (hT : T d = .val (.bool b)) (h1 : b = true → WU P B n ops cl l (upd d (.val (.bool true)) T) H K) (h2 : b = false → WU P B n ops cl l (upd d (.val (.bool false)) T) H K) : WU P B n ops cl l T H K := by
 have e : ∀ q, b = q → upd d (.val (.bool q)) T = T := by
  rintro q rfl
  funext i
  by_cases hi : i = d
  ·subst hi; rw [upd_same, hT]
  ·rw [upd_other _ _ _ _ hi]
 cases hb : b with
 | true => have := h1 hb; rwa [e true hb] at this
 | false => have := h2 hb; rwa [e false hb] at this
theorem WU_true (d : Nat) {b : Bool} (hT : T d = .val (.bool b)) (hb : b = true) (h1 : WU P B n ops cl l (upd d (.val (.bool true)) T) H K) : WU P B n ops cl l T H K :=
 WU_split d hT (fun _ => h1) (fun h => by rw [hb] at h; cases h)
theorem WU_false (d : Nat) {b : Bool} (hT : T d = .val (.bool b)) (hb : b = false) (h1 : WU P B n ops cl l (upd d (.val (.bool false)) T) H K) : WU P B n ops cl l T H K :=
 WU_split d hT (fun h => by rw [hb] at h; cases h) (fun _ => h1)
end
section
variable {B : Nat → Nat → Prop} {n : Nat} {all ops : Array Oper} {cl : Nat → Nat} {i : Nat} {li : List Nat} {T : Nat → PV} {H H' : List Ob} {K : (Nat → PV) → List Ob → Prop} {Q : Exit → (Nat → PV) → List Ob → Prop} {l : List Oper} {o : Oper} {x : PV} {d : Option Tmp} {p : Prop}
end
end V
end Go.Proofs.Ytiibjcnedbncjaa
namespace Go.Proofs.Ytiibjcnedbncjaa
open Go.RowKit
theorem ref_Digit (n : Int) (w : World) : Calls Try.prog 52 #[.int .i64 n] w fun e w' => e = .returned (.int .u8 (digS n)) ∧ w = w' := by
 go_enter Try.func52, Try.ntmps52
 go_wp2
 all_goals go_ret
 all_goals exact ⟨ret_k (by unfold digS; first | (rw [if_pos (by omega)]; done) | (rw [if_neg (by omega), if_pos (by omega)]; done) | (rw [if_neg (by omega), if_neg (by omega)]; done)), rfl⟩
end Go.Proofs.Ytiibjcnedbncjaa
namespace Go.Proofs.Ytiibjcnedbncjaa
open Go.RowKit
set_option maxRecDepth 100000
set_option maxHeartbeats 8000000
theorem r_BEGIN (l : Int) : rdS vF [66, 69, 71, 73, 78] l = (0, [66, 69, 71, 73, 78], .mk 0 0 [] []) := rdF _ _ 147 (by decide) (by kernel_rfl) (by decide) (by kernel_rfl) l
theorem r_UNTIL (l : Int) : rdS vF [85, 78, 84, 73, 76] l = (0, [85, 78, 84, 73, 76], .mk 0 0 [] []) := rdF _ _ 150 (by decide) (by kernel_rfl) (by decide) (by kernel_rfl) l
theorem r_AGAIN (l : Int) : rdS vF [65, 71, 65, 73, 78] l = (0, [65, 71, 65, 73, 78], .mk 0 0 [] []) := rdF _ _ 151 (by decide) (by kernel_rfl) (by decide) (by kernel_rfl) l
theorem r_QDO (l : Int) : rdS vF [63, 68, 79] l = (0, [63, 68, 79], .mk 0 0 [] []) := rdF _ _ 153 (by decide) (by kernel_rfl) (by decide) (by kernel_rfl) l
theorem r_PLOOP (l : Int) : rdS vF [43, 76, 79, 79, 80] l = (0, [43, 76, 79, 79, 80], .mk 0 0 [] []) := rdF _ _ 155 (by decide) (by kernel_rfl) (by decide) (by kernel_rfl) l
end Go.Proofs.Ytiibjcnedbncjaa
namespace Go.Proofs.Ytiibjcnedbncjaa
open Go.RowKit
set_option maxRecDepth 100000
theorem wf_fit {n : Int} (h : (Lit.int .i64 n).wf = true) : Fit64 n := fit_wf h
theorem reads_i64 {w : World} {v : Value} (h : Reads w 3 v) : ∃ n, Fit64 n ∧ Rep (c0 w) (i64 n) v := by
 obtain ⟨n, rfl, h2⟩ := reads_int Try.underlying3 h
 exact ⟨n, wf_fit h2, by unfold i64; exact rep_val _ _⟩
end Go.Proofs.Ytiibjcnedbncjaa
namespace Go.Proofs.Ytiibjcnedbncjaa
set_option maxRecDepth 100000
structure Brk (R : Rdr) (O C : List UInt8) (kind ask dl : Int) : Prop where
 o1 : ∀ l, (R.rd O l).1 = 0
 o2 : ∀ l, (R.rd O l).2.1 = O
 on : O ≠ []
 c1 : ∀ l, (R.rd C l).1 = 0
 c2 : ∀ l, (R.rd C l).2.1 = C
 cc : C ∈ closers
 cn : C ≠ []
 ok : ∀ (row : PSt → PRes) (rest : List (List UInt8)) (o l : Int), ¬ 16 ≤ o → ∀ r1 ls, row ⟨rest, o + 1, l + dl, 0⟩ = (⟨r1, o + 1, l + dl, 0⟩, ls, C) → onP R row O ⟨rest, o, l, 0⟩ = some (⟨r1, o, l, 0⟩, .mk kind ask ls [])
 full : ∀ (row : PSt → PRes) (rest : List (List UInt8)) (o l : Int), (∀ s : PSt, s.bad ≠ 0 → row s = (s, [], [])) → (16 ≤ o ∨ (row ⟨rest, o + 1, l + dl, 0⟩).1.bad = -22) → ∃ q, onP R row O ⟨rest, o, l, 0⟩ = some q ∧ q.1.bad = -22
def nestN (kind ask n : Int) : Nat → VNode
 | 0 => .mk 1 n [] []
 | k + 1 => .mk kind ask [nestN kind ask n k] []
theorem body_in {row : PSt → PRes} {s s1 : PSt} {ls : List VNode} {C : List UInt8} {ends : List (List UInt8)} (h : row s = (s1, ls, C)) (he : C ∈ ends) : bodyP row s ends = (s1, ls, C) := by
 unfold bodyP; rw [h]; simp [he]
theorem body_22 {row : PSt → PRes} {s : PSt} {ends : List (List UInt8)} (h : (row s).1.bad = -22) : bodyP row s ends = row s := by
 unfold bodyP; dsimp only; rw [if_neg (show ¬ ((row s).1.bad = 0 ∧ _) from fun k => absurd (h.symm.trans k.1) (by decide))]
theorem full_of {row : PSt → PRes} {s : PSt} (hs : s.bad = 0) (pb : ∀ s : PSt, s.bad ≠ 0 → row s = (s, [], [])) (dl : Int) (h : 16 ≤ s.opn ∨ (row { s with opn := s.opn + 1, loops := s.loops + dl }).1.bad = -22) (ends : List (List UInt8)) :
  (bodyP row { opensP s with loops := (opensP s).loops + dl } ends).1.bad = -22 := by
 by_cases q : 16 ≤ s.opn
 ·rw [opens_no hs q]
  dsimp only
  rw [body_bad (show (-22 : Int) ≠ 0 by decide) (pb _ (show (-22 : Int) ≠ 0 by decide))]
 ·rw [opens_ok q]
  dsimp only
  have h2 := h.resolve_left q
  rw [body_22 h2]; exact h2
theorem brk_if (R : Rdr) (h : ∀ l, (R.rd [73, 70] l).1 = 0 ∧ (R.rd [73, 70] l).2.1 = [73, 70]) (k : ∀ l, (R.rd [84, 72, 69, 78] l).1 = 0 ∧ (R.rd [84, 72, 69, 78] l).2.1 = [84, 72, 69, 78]) : Brk R [73, 70] [84, 72, 69, 78] 3 0 0 := by
 refine ⟨fun l => (h l).1, fun l => (h l).2, by decide, fun l => (k l).1, fun l => (k l).2, by decide, by decide, ?_, ?_⟩
 ·intro row rest o l ho r1 ls e
  unfold onP
  rw [if_pos rfl]
  unfold ifP
  rw [opens_ok (s := ⟨rest, o, l, 0⟩) ho]
  rw [Int.add_zero] at e
  rw [body_in e (by decide)]
  dsimp only
  rw [if_neg (by decide)]
  unfold shutP
  dsimp only
  rw [show o + 1 - 1 = o by omega]
 ·intro row rest o l pb h
  have f := full_of (s := ⟨rest, o, l, 0⟩) rfl pb 0 h [[69, 76, 83, 69], [84, 72, 69, 78]]
  have e : ({ opensP ⟨rest, o, l, 0⟩ with loops := (opensP ⟨rest, o, l, 0⟩).loops + 0 } : PSt) = opensP ⟨rest, o, l, 0⟩ := by rw [Int.add_zero]
  rw [e] at f
  refine ⟨_, by unfold onP; rw [if_pos rfl], ?_⟩
  unfold ifP
  dsimp only
  split
  ·show (bodyP row _ _).1.bad = -22
   rw [body_bad (show _ ≠ (0 : Int) by rw [f]; decide) (pb _ (show _ ≠ (0 : Int) by rw [f]; decide))]; exact f
  ·exact f
theorem brk_begin (R : Rdr) (C : List UInt8) (kind : Int) (hC : (C = [85, 78, 84, 73, 76] ∧ kind = 4) ∨ (C = [65, 71, 65, 73, 78] ∧ kind = 5)) (h : ∀ l, (R.rd [66, 69, 71, 73, 78] l).1 = 0 ∧ (R.rd [66, 69, 71, 73, 78] l).2.1 = [66, 69, 71, 73, 78]) (k : ∀ l, (R.rd C l).1 = 0 ∧ (R.rd C l).2.1 = C) : Brk R [66, 69, 71, 73, 78] C kind 0 0 := by
 refine ⟨fun l => (h l).1, fun l => (h l).2, by decide, fun l => (k l).1, fun l => (k l).2, ?_, ?_, ?_, ?_⟩
 ·rcases hC with ⟨rfl, _⟩ | ⟨rfl, _⟩ <;> decide
 ·rcases hC with ⟨rfl, _⟩ | ⟨rfl, _⟩ <;> decide
 ·intro row rest o l ho r1 ls e
  unfold onP
  rw [if_neg (show ¬ ([66, 69, 71, 73, 78] : List UInt8) = [73, 70] by decide), if_pos rfl]
  unfold beginP
  rw [opens_ok (s := ⟨rest, o, l, 0⟩) ho]
  rw [Int.add_zero] at e
  rw [body_in e (by rcases hC with ⟨rfl, _⟩ | ⟨rfl, _⟩ <;> decide)]
  dsimp only
  unfold shutP
  dsimp only
  rcases hC with ⟨rfl, rfl⟩ | ⟨rfl, rfl⟩
  ·rw [if_neg (by decide), if_neg (by decide), show o + 1 - 1 = o by omega]
  ·rw [if_pos rfl, show o + 1 - 1 = o by omega]
 ·intro row rest o l pb h
  have f := full_of (s := ⟨rest, o, l, 0⟩) rfl pb 0 h [[85, 78, 84, 73, 76], [65, 71, 65, 73, 78], [87, 72, 73, 76, 69]]
  have e : ({ opensP ⟨rest, o, l, 0⟩ with loops := (opensP ⟨rest, o, l, 0⟩).loops + 0 } : PSt) = opensP ⟨rest, o, l, 0⟩ := by rw [Int.add_zero]
  rw [e] at f
  refine ⟨_, by unfold onP; rw [if_neg (show ¬ ([66, 69, 71, 73, 78] : List UInt8) = [73, 70] by decide), if_pos rfl], ?_⟩
  unfold beginP
  dsimp only
  split
  ·exact f
  split
  ·show (bodyP row _ _).1.bad = -22
   rw [body_bad (show _ ≠ (0 : Int) by rw [f]; decide) (pb _ (show _ ≠ (0 : Int) by rw [f]; decide))]; exact f
  ·exact f
theorem brk_do (R : Rdr) (O C : List UInt8) (kind ask : Int) (hO : (O = [68, 79] ∧ ask = 0) ∨ (O = [63, 68, 79] ∧ ask = 1)) (hC : (C = [76, 79, 79, 80] ∧ kind = 7) ∨ (C = [43, 76, 79, 79, 80] ∧ kind = 8)) (h : ∀ l, (R.rd O l).1 = 0 ∧ (R.rd O l).2.1 = O) (k : ∀ l, (R.rd C l).1 = 0 ∧ (R.rd C l).2.1 = C) : Brk R O C kind ask 1 := by
 have on : ∀ (row : PSt → PRes) (s : PSt), onP R row O s = some (loopN row ask s) := by
  intro row s
  unfold onP
  rcases hO with ⟨rfl, rfl⟩ | ⟨rfl, rfl⟩
  ·rw [if_neg (show ¬ ([68, 79] : List UInt8) = [73, 70] by decide), if_neg (show ¬ ([68, 79] : List UInt8) = [66, 69, 71, 73, 78] by decide), if_pos rfl]
  ·rw [if_neg (show ¬ ([63, 68, 79] : List UInt8) = [73, 70] by decide), if_neg (show ¬ ([63, 68, 79] : List UInt8) = [66, 69, 71, 73, 78] by decide), if_neg (show ¬ ([63, 68, 79] : List UInt8) = [68, 79] by decide), if_pos rfl]
 refine ⟨fun l => (h l).1, fun l => (h l).2, ?_, fun l => (k l).1, fun l => (k l).2, ?_, ?_, ?_, ?_⟩
 ·rcases hO with ⟨rfl, _⟩ | ⟨rfl, _⟩ <;> decide
 ·rcases hC with ⟨rfl, _⟩ | ⟨rfl, _⟩ <;> decide
 ·rcases hC with ⟨rfl, _⟩ | ⟨rfl, _⟩ <;> decide
 ·intro row rest o l ho r1 ls e
  rw [on]
  unfold loopN
  rw [opens_ok (s := ⟨rest, o, l, 0⟩) ho]
  dsimp only
  rw [body_in e (by rcases hC with ⟨rfl, _⟩ | ⟨rfl, _⟩ <;> decide)]
  dsimp only
  unfold shutP
  dsimp only
  rw [show o + 1 - 1 = o by omega, show l + 1 - 1 = l by omega]
  rcases hC with ⟨rfl, rfl⟩ | ⟨rfl, rfl⟩
  ·rw [if_neg (by decide)]
  ·rw [if_pos rfl]
 ·intro row rest o l pb h
  have f := full_of (s := ⟨rest, o, l, 0⟩) rfl pb 1 h [[76, 79, 79, 80], [43, 76, 79, 79, 80]]
  exact ⟨_, on row _, f⟩
theorem step_part {R : Rdr} {m : Nat} {w : List UInt8} {ws : List (List UInt8)} {o l : Int} {acc : List VNode} {x : VNode} (h : R.rd w l = (0, [], x)) : loopP R (m + 1) ⟨w :: ws, o, l, 0⟩ acc = loopP R m ⟨ws, o, l, 0⟩ (acc ++ [x]) := by
 rw [loopP, if_neg (show ¬ (0 : Int) ≠ 0 by decide)]
 dsimp only
 rw [h, fail0 rfl, if_pos rfl]
theorem step_spec {R : Rdr} {m : Nat} {w sp : List UInt8} {ws : List (List UInt8)} {o l : Int} {acc : List VNode} (h1 : (R.rd w l).1 = 0) (h2 : (R.rd w l).2.1 = sp) (hn : sp ≠ []) {q : PSt × VNode} (hq : onP R (fun s => loopP R m s []) sp ⟨ws, o, l, 0⟩ = some q) : loopP R (m + 1) ⟨w :: ws, o, l, 0⟩ acc = loopP R m q.1 (acc ++ [q.2]) := by
 rw [loopP, if_neg (show ¬ (0 : Int) ≠ 0 by decide)]
 dsimp only
 rw [h1, h2, fail0 rfl, if_neg hn]
 dsimp only
 rw [hq]
theorem step_end {R : Rdr} {m : Nat} {w sp : List UInt8} {ws : List (List UInt8)} {o l : Int} {acc : List VNode} (h1 : (R.rd w l).1 = 0) (h2 : (R.rd w l).2.1 = sp) (hn : sp ≠ []) (hc : sp ∈ closers) : loopP R (m + 1) ⟨w :: ws, o, l, 0⟩ acc = (⟨ws, o, l, 0⟩, acc, sp) := by
 rw [loopP, if_neg (show ¬ (0 : Int) ≠ 0 by decide)]
 dsimp only
 rw [h1, h2, fail0 rfl, if_neg hn]
 dsimp only
 cases ho : onP R (fun s => loopP R m s []) sp ⟨ws, o, l, 0⟩ with
 | none => rfl
 | some q => exact absurd hc (some_not ho)
theorem nest_ok {R : Rdr} (hR : RdOk R) {O C : List UInt8} {kind ask dl n : Int} (B : Brk R O C kind ask dl) {s : List UInt8} (hs : ∀ l, R.rd s l = (0, [], .mk 1 n [] [])) :
  ∀ (d : Nat) (o l : Int) (rest : List (List UInt8)) (m : Nat), o + d ≤ 16 → 2 * d + 1 + rest.length < m → loopP R m ⟨List.replicate d O ++ s :: (List.replicate d C ++ rest), o, l, 0⟩ [] = loopP R (rest.length + 1) ⟨rest, o, l, 0⟩ [nestN kind ask n d] := by
 intro d
 induction d with
 | zero =>
  intro o l rest m _ hm
  obtain ⟨m, rfl⟩ : ∃ k, m = k + 1 := ⟨m - 1, by omega⟩
  show loopP R (m + 1) ⟨s :: rest, o, l, 0⟩ [] = _
  rw [step_part (hs l)]
  exact loop_fuel hR _ _ _ _ (by show rest.length < m; omega) (by show rest.length < _; omega)
 | succ d ih =>
  intro o l rest m ho hm
  obtain ⟨m, rfl⟩ : ∃ k, m = k + 1 := ⟨m - 1, by omega⟩
  have hin : loopP R m ⟨List.replicate d O ++ s :: (List.replicate d C ++ C :: rest), o + 1, l + dl, 0⟩ [] = (⟨rest, o + 1, l + dl, 0⟩, [nestN kind ask n d], C) := by
   rw [ih (o + 1) (l + dl) (C :: rest) m (by omega) (by rw [List.length_cons]; omega), List.length_cons, step_end (B.c1 _) (B.c2 _) B.cn B.cc]
  have e : List.replicate (d + 1) O ++ s :: (List.replicate (d + 1) C ++ rest) = O :: (List.replicate d O ++ s :: (List.replicate d C ++ C :: rest)) := by
   rw [List.replicate_succ, List.replicate_succ', List.append_assoc]; rfl
  rw [e, step_spec (B.o1 _) (B.o2 _) B.on (B.ok _ _ o l (by omega) _ _ hin)]
  exact loop_fuel hR _ _ _ _ (by show rest.length < m; omega) (by show rest.length < _; omega)
theorem nest_no {R : Rdr} {O C : List UInt8} {kind ask dl : Int} (B : Brk R O C kind ask dl) :
  ∀ (d : Nat) (o l : Int) (X : List (List UInt8)) (m : Nat) (acc : List VNode), o ≤ 16 → 16 < o + d → d < m → (loopP R m ⟨List.replicate d O ++ X, o, l, 0⟩ acc).1.bad = -22 := by
 intro d
 induction d with
 | zero => intro o l X m acc h1 h2; omega
 | succ d ih =>
  intro o l X m acc h1 h2 hm
  obtain ⟨m, rfl⟩ : ∃ k, m = k + 1 := ⟨m - 1, by omega⟩
  obtain ⟨q, q1, q2⟩ := B.full (fun s => loopP R m s []) (List.replicate d O ++ X) o l (fun s h => loopP_bad R m [] h) (by
   by_cases k : 16 ≤ o
   ·exact .inl k
   ·exact .inr (ih (o + 1) (l + dl) X m [] (by omega) (by omega) (by omega)))
  have e : List.replicate (d + 1) O ++ X = O :: (List.replicate d O ++ X) := by rw [List.replicate_succ]; rfl
  rw [e, step_spec (B.o1 _) (B.o2 _) B.on q1, loopP_bad R m _ (by rw [q2]; decide)]
  exact q2
theorem parse_nest {R : Rdr} (hR : RdOk R) {O C : List UInt8} {kind ask dl n : Int} (B : Brk R O C kind ask dl) {s : List UInt8} (hs : ∀ l, R.rd s l = (0, [], .mk 1 n [] [])) (d : Nat) :
  parseP R (List.replicate d O ++ s :: List.replicate d C) = if d ≤ 16 then ([nestN kind ask n d], 0) else ([], -22) := by
 by_cases h : d ≤ 16
 ·rw [if_pos h]
  have k := nest_ok hR B hs d 0 0 [] ((List.replicate d O ++ s :: List.replicate d C).length + 1) (by omega) (by simp; omega)
  rw [List.append_nil] at k
  unfold parseP
  rw [k]; rfl
 ·rw [if_neg h]
  have k := nest_no B d 0 0 (s :: List.replicate d C) ((List.replicate d O ++ s :: List.replicate d C).length + 1) [] (by omega) (by omega) (by simp; omega)
  have p := (parse_ok (R := R) (List.replicate d O ++ s :: List.replicate d C)).2.2.1 (by rw [k]; decide)
  rw [k] at p
  have q := parse_none (R := R) (List.replicate d O ++ s :: List.replicate d C) (by rw [p]; decide)
  exact Prod.ext q p
end Go.Proofs.Ytiibjcnedbncjaa
namespace Go.Proofs.Ytiibjcnedbncjaa
open Go.RowKit
open Go.WideShapes
set_option maxRecDepth 100000
set_option maxHeartbeats 8000000
def dgB (c : UInt8) : Bool := decide (48 ≤ c.toNat) && decide (c.toNat ≤ 57)
def numB : Str → Bool
 | [] => false
 | c :: l => (decide (c = 45) || dgB c) && (l.all dgB && (c :: l).any dgB)
theorem numB_cons (c : UInt8) (l : Str) : numB (c :: l) = ((decide (c = 45) || dgB c) && (l.all dgB && (c :: l).any dgB)) := rfl
theorem names_no : ((newL 167).all fun w => !numB (upper w.name)) = true := by kernel_rfl
theorem chr_dg : ∀ d < 10, dgB (chr d) = true := by decide
theorem show_dg (u : Nat) : (ushowL u 10).all dgB = true := by
 unfold ushowL
 rw [List.all_reverse, List.all_eq_true]
 intro c hc
 obtain ⟨d, hd, rfl⟩ := List.mem_map.1 hc
 exact chr_dg d (digL_lt 10 (by decide) 64 u d hd)
theorem show_num (u : Nat) : numB (ushowL u 10) = true ∧ numB (45 :: ushowL u 10) = true := by
 have h := show_dg u
 have hn := ushowL_ne u 10
 cases e : ushowL u 10 with
 | nil => exact absurd e hn
 | cons c l =>
  rw [e] at h
  rw [List.all_cons, Bool.and_eq_true] at h
  constructor
  ·rw [numB_cons, h.1, h.2, List.any_cons, h.1]; simp
  ·rw [numB_cons, List.all_cons, h.1, h.2, List.any_cons, List.any_cons, h.1]; simp
theorem showS_num (n : Int) : numB (showS n 10).1 = true := by
 unfold showS
 rw [if_pos (by decide)]
 dsimp only
 split
 ·exact (show_num _).1
 ·exact (show_num _).2
theorem upC_dg {c : UInt8} (h : c = 45 ∨ dgB c = true) : upC c = c := upC_no (by
 rcases h with rfl | h
 ·decide
 ·unfold dgB at h; simp at h; omega)
theorem upper_num {s : Str} (h : numB s = true) : upper s = s := by
 cases s with
 | nil => rfl
 | cons c l =>
  unfold numB at h
  rw [Bool.and_eq_true, Bool.and_eq_true, Bool.or_eq_true, decide_eq_true_eq, List.all_eq_true] at h
  show upC c :: l.map upC = _
  rw [upC_dg h.1, List.map_congr_left (fun x hx => upC_dg (.inr (h.2.1 x hx))), List.map_id']
theorem num_hit {s : Str} (h : numB s = true) (w : VWord) (hw : w ∈ newL 167) : hitW w s = false := by
 have k := List.all_eq_true.1 names_no w hw
 unfold hitW alike
 rw [upper_num h]
 by_cases q : upper w.name = s
 ·rw [q, h] at k; cases k
 ·rw [decide_eq_false q, Bool.and_false]
theorem num_find {s : Str} (h : numB s = true) : ∀ k, k ≤ 167 → (findK (newL 167) s k).2.2 = false
 | 0, _ => rfl
 | k + 1, hk => by
  unfold findK
  rw [if_neg]
  ·exact num_find h k (by omega)
  ·rw [num_hit h _ (by rw [List.getD_eq_getElem?_getD, List.getElem?_eq_getElem (by rw [newL_len]; omega)]; exact List.getElem_mem _)]
   decide
theorem r_num (n : Int) (hn : Fit64 n) (l : Int) : rdS vF (showS n 10).1 l = (0, [], .mk 1 n [] []) := by
 have h : (findS vF.dict (showS n 10).1).2.2 = false := by
  show (findK (newL 167) _ (newL 167).length).2.2 = false
  rw [newL_len]; exact num_find (showS_num n) 167 (Nat.le_refl _)
 unfold Fit64 at hn
 rw [rdF3 _ h, parse_show n 10 (by decide) (by omega)]
 rfl
def brO (i : Nat) : Str := [[73, 70], [66, 69, 71, 73, 78], [66, 69, 71, 73, 78], [68, 79], [63, 68, 79]].getD i []
def brC (i : Nat) : Str := [[84, 72, 69, 78], [85, 78, 84, 73, 76], [65, 71, 65, 73, 78], [76, 79, 79, 80], [43, 76, 79, 79, 80]].getD i []
def brK (i : Nat) : Int := [(3 : Int), 4, 5, 7, 8].getD i 0
def brA (i : Nat) : Int := if i = 4 then 1 else 0
theorem sp_rd {w : Str} (h : ∀ l, rdS vF w l = (0, w, .mk 0 0 [] [])) : ∀ l, ((readerS vF).rd w l).1 = 0 ∧ ((readerS vF).rd w l).2.1 = w := fun l => by
 show (rdS vF w l).1 = 0 ∧ (rdS vF w l).2.1 = w
 rw [h]; exact ⟨rfl, rfl⟩
theorem br_pair : ∀ i < 5, ∃ dl, Brk (readerS vF) (brO i) (brC i) (brK i) (brA i) dl := fun i hi => by
 have : i = 0 ∨ i = 1 ∨ i = 2 ∨ i = 3 ∨ i = 4 := by omega
 rcases this with rfl | rfl | rfl | rfl | rfl
 ·exact ⟨_, brk_if _ (sp_rd r_IF) (sp_rd r_THEN)⟩
 ·exact ⟨_, brk_begin _ _ _ (.inl ⟨rfl, rfl⟩) (sp_rd r_BEGIN) (sp_rd r_UNTIL)⟩
 ·exact ⟨_, brk_begin _ _ _ (.inr ⟨rfl, rfl⟩) (sp_rd r_BEGIN) (sp_rd r_AGAIN)⟩
 ·exact ⟨_, brk_do _ _ _ _ _ (.inl ⟨rfl, rfl⟩) (.inl ⟨rfl, rfl⟩) (sp_rd r_DO) (sp_rd r_LOOP)⟩
 ·exact ⟨_, brk_do _ _ _ _ _ (.inr ⟨rfl, rfl⟩) (.inr ⟨rfl, rfl⟩) (sp_rd r_QDO) (sp_rd r_PLOOP)⟩
theorem br_parse (n : Int) (hn : Fit64 n) (i d : Nat) (hi : i < 5) : parseP (readerS vF) (List.replicate d (brO i) ++ (showS n 10).1 :: List.replicate d (brC i)) = if d ≤ 16 then ([nestN (brK i) (brA i) n d], 0) else ([], -22) := by
 obtain ⟨dl, B⟩ := br_pair i hi
 exact parse_nest (readerS_ok vF) B (r_num n hn) d
end Go.Proofs.Ytiibjcnedbncjaa
namespace Go.Proofs.Ytiibjcnedbncjaa
open Go.RowKit
theorem r_pos {u r B : Nat} (hz : ¬ u / B = 0) (h : u < 2 ^ (r + 1)) (hB : 2 ≤ B) : 1 ≤ r := by
 rcases Nat.eq_zero_or_pos r with rfl | h1
 ·exact absurd (Nat.div_eq_of_lt (by simp at h; omega)) hz
 ·exact h1
def dig0 (B u : Nat) : List Nat := digL B 64 u
theorem dig0_start (B u : Nat) : Hid ([] ++ digL B 64 u = dig0 B u) := Lib.hid rfl
theorem two64 {u : Nat} (h : u < 18446744073709551616) : Hid (u < 2 ^ 64) := Lib.hid (by rw [show (2:Nat)^64 = 18446744073709551616 from by decide]; exact h)
theorem digL_more {B r u : Nat} {ds all : List Nat} (h : ds ++ digL B (r + 1) u = all) (hz : ¬ u / B = 0) : (ds ++ [u % B]) ++ digL B r (u / B) = all := by
 rw [← h]; simp only [digL, hz, if_false, List.append_assoc, List.singleton_append]
theorem digL_end {B r u : Nat} {ds all : List Nat} (h : ds ++ digL B (r + 1) u = all) (hz : u / B = 0) : ds ++ [u % B] = all := by
 rw [← h]; simp only [digL, hz, if_true]
theorem pow_half {u r B : Nat} (h : u < 2 ^ (r + 1)) (hB : 2 ≤ B) : u / B < 2 ^ r := by
 rw [Nat.pow_succ] at h
 have := Nat.div_le_div_left hB (show 0 < 2 by omega) (a := u)
 omega
end Go.Proofs.Ytiibjcnedbncjaa
namespace Go.Proofs.Ytiibjcnedbncjaa
open Go.RowKit
theorem text_one (w : World) (x : Int) : (convert 24 9 (.slice (some ⟨w.heap.size, 0, none⟩) 1 1)).run Try.prog (w.alloc (.cells #[.int .u8 x] 5)) = .ok (.string (strOfNums [x])) (w.alloc (.cells #[.int .u8 x] 5)) := by
 refine run_convert_bytes_arg _ 24 5 Try.underlying24 Try.underlying5 w.heap.size 0 1 1 [x] rfl (fun i hi => ?_) 9 Try.underlying9
 obtain rfl : i = 0 := by omega
 have := cell_one_new w (.int .u8 x) 5 0 (.int .u8 x) rfl
 exact this
theorem str_eq {a b : ByteArray} (h : a.data.toList = b.data.toList) : a = b := by
 apply ByteArray.ext; exact Array.toList_inj.1 h
theorem cat_list (a b : ByteArray) : (a ++ b).data.toList = a.data.toList ++ b.data.toList := by simp
theorem one_list (d : Nat) : (strOfNums [digS (d : Int)]).data.toList = [chr d] := by rw [strOfNums_data]; rfl
theorem ret_si {a b : ByteArray} {x y : Int} (h : a = b) (g : x = y) : Ending.returned (.tuple #[.string a, .int .i64 x]) = .returned (.tuple #[.string b, .int .i64 y]) := by rw [h, g]
theorem digL_le (B : Nat) : ∀ k u, (digL B k u).length ≤ k := by
 intro k
 induction k with
 | zero => intro u; simp [digL]
 | succ k ih =>
  intro u
  simp only [digL, List.length_cons]
  split
  ·simp
  ·have := ih (u / B); omega
theorem ushowL_len (u B : Nat) : (ushowL u B).length ≤ 64 := by unfold ushowL; simpa using digL_le B 64 u
theorem mod_cast_eq {u B m : Nat} (h : u % B = m) : (u : Int) % (B : Int) = (m : Int) := by rw [← h]; simp
theorem div_cast_eq {u B m : Nat} (h : u / B = m) : (u : Int) / (B : Int) = (m : Int) := by rw [← h]; simp
theorem u64_base (B : Nat) (h : B ≤ 36) : IntKind.u64.wrap (B : Int) = B := IntWalk.u64_in _ (by omega)
set_option maxRecDepth 100000 in
set_option maxHeartbeats 1000000 in
theorem ref_UShow (n b : Int) (w : World) : Calls Try.prog 32 #[.int .i64 n, .int .i64 b] w fun e w' => e = .returned (.tuple #[.string ⟨(ushowS n b).1.toArray⟩, .int .i64 (ushowS n b).2]) ∧ Below w.heap.size w w' := by
 by_cases hb : isB b = true
 ·obtain ⟨B, rfl, h2, h3⟩ := base_nat hb
  have e : ushowS n (B : Int) = (ushowL (U n) B, 0) := by unfold ushowS; rw [if_pos hb, Int.toNat_natCast]
  have E := Lib.hid e
  have u1 := U_wrap n
  have u2 := u64_base B h3
  have HU := Lib.hid (U_lt n)
  clear e
  obtain ⟨u, hu⟩ : ∃ u, U n = u := ⟨_, rfl⟩
  rw [hu] at E HU u1
  clear hu
  obtain ⟨m, hm⟩ : ∃ m, u % B = m := ⟨_, rfl⟩
  have hmI := mod_cast_eq hm
  have hmB : m ≤ 35 := by have := Nat.mod_lt u (show 0 < B by omega); omega
  have hm36 : (m : Int) ≤ 35 := by omega
  have tx := fun w => text_one w (digS (m : Int))
  have HM := Lib.hid hm
  clear hm hmB
  go_enter Try.func32, Try.ntmps32
  go_wp2_with (go_at_call 52; refine (ref_Digit _ _).mono ?_; rintro e w' ⟨rfl, rfl⟩)
  clear hmI hm36 tx
  go_loopw [6, 8] (fun x t wr => ∃ (r v : Nat) (ds : List Nat) (z : ByteArray), x = .int .u64 (v : Int) ∧ t = .string z ∧ Hid (v < 18446744073709551616) ∧ Hid (v < 2 ^ (r + 1)) ∧ Hid (ds.length + r = 63) ∧ Hid (ds ++ digL B (r + 1) v = dig0 B u) ∧
   Hid (z.data.toList = ((ds ++ [v % B]).map chr).reverse) ∧ Below w.heap.size w wr) (fun x _ _ => (intOf x).toNat)
  case atStart => exact ⟨63, u, [], _, rfl, rfl, HU, two64 HU.out, Lib.hid rfl, dig0_start _ _, by show _ = _; rw [HM.out, one_list]; rfl, (Below.refl _ _).alloc (Nat.le_refl _) _⟩
  case round =>
   obtain ⟨r, v, ds, z, rfl, rfl, hv, hvr, hlen, hds, hz, hbel⟩ := hrel
   by_cases hlt : v / B = 0
   ·have hlt2 : (v : Int) < (B : Int) := by have := (Nat.div_eq_zero_iff_lt (show 0 < B by omega)).1 hlt; omega
    have he := Lib.hid (digL_end hds.out hlt)
    clear hlt
    go_wp2
    go_ret2
    exact ⟨by rw [E.out]; exact ret_si (str_eq (by rw [hz.out, he.out]; rfl)) rfl, hbel⟩
   ·have hge : ¬ (v : Int) < (B : Int) := fun h => hlt (Nat.div_eq_of_lt (by omega))
    have hge2 : (B : Int) ≤ (v : Int) := by omega
    obtain ⟨q, hq⟩ : ∃ q, v / B = q := ⟨_, rfl⟩
    have hqI := div_cast_eq hq
    obtain ⟨m, hm⟩ : ∃ m, q % B = m := ⟨_, rfl⟩
    have hmI := mod_cast_eq hm
    have hmB : m ≤ 35 := by have := Nat.mod_lt q (show 0 < B by omega); omega
    have hm36 : (m : Int) ≤ 35 := by omega
    have tx := fun w => text_one w (digS (m : Int))
    have hzl : z.size ≤ 64 := by
     have := hlen.out
     rw [← size_list, hz.out]; simp; omega
    have hs1 : (strOfNums [digS (m : Int)]).size ≤ 1 := by rw [strOfNums_size]; simp
    have hr1 := r_pos hlt hvr.out h2
    obtain ⟨r, rfl⟩ : ∃ r', r = r' + 1 := ⟨r - 1, by omega⟩
    have hd' := digL_more hds.out hlt
    have hv' : v / B < 18446744073709551616 := Nat.lt_of_le_of_lt (Nat.div_le_self _ _) hv.out
    have hvr' := pow_half hvr.out h2
    rw [hq] at hd' hv' hvr'
    have hqw : IntKind.u64.wrap (q : Int) = (q : Int) := IntWalk.u64_in _ (by omega)
    have hz' : (strOfNums [digS (m : Int)] ++ z).data.toList = ((ds ++ [v % B] ++ [q % B]).map chr).reverse := by
     rw [cat_list, one_list, hz.out, hm]; simp
    have hmeas : q < v := by rw [← hq]; exact Nat.div_lt_self (Nat.pos_of_ne_zero (fun e => hlt (by rw [e]; exact Nat.zero_div B))) h2
    have HD := Lib.hid hd'
    have HV := Lib.hid hv'
    have HR := Lib.hid hvr'
    have HZ := Lib.hid hz'
    have HS := Lib.hid hmeas
    clear hlt hq hm hmB hr1 hd' hv' hvr' hz' hmeas hge hz hds hv hvr
    go_wp2_with (go_at_call 52; refine (ref_Digit _ _).mono ?_; rintro e w' ⟨rfl, rfl⟩)
    go_roundw
    case rel => exact ⟨r, q, ds ++ [v % B], _, rfl, rfl, HV, HR, by have := hlen.out; show _ = _; simp; omega, HD, HZ, hbel.alloc hbel.size _⟩
    case measure => have := HS.out; simp [intOf]; omega
 ·have e : ushowS n b = ([], -24) := by unfold ushowS; rw [if_neg hb]
  have E := Lib.hid e
  have hb2 : ¬ (2 ≤ b ∧ b ≤ 36) := fun h => hb ((isB_iff b).2 h)
  clear hb e
  by_cases h2 : b < 2
  ·have t : decide (b < 2) = true := by simp [h2]
   go_enter Try.func32, Try.ntmps32
   go_wp2
   go_ret2
   exact ⟨by rw [E.out]; rfl, Below.refl _ _⟩
  ·have t : decide (b < 2) = false := by simp; omega
   have t2 : decide (36 < b) = true := by simp; omega
   go_enter Try.func32, Try.ntmps32
   go_wp2
   go_ret2
   exact ⟨by rw [E.out]; rfl, Below.refl _ _⟩
end Go.Proofs.Ytiibjcnedbncjaa
namespace Go.Proofs.Ytiibjcnedbncjaa
open Go.RowKit
theorem ref_Show (n b : Int) (w : World) (hn : -9223372036854775808 ≤ n ∧ n ≤ 9223372036854775807) : Calls Try.prog 18 #[.int .i64 n, .int .i64 b] w fun e w' => e = .returned (.tuple #[.string ⟨(showS n b).1.toArray⟩, .int .i64 (showS n b).2]) ∧ Below w.heap.size w w' := by
 by_cases h0 : 0 ≤ n
 ·have e : showS n b = ushowS n b := by unfold showS ushowS; simp only [h0, if_true]
  rw [e]
  have H := Lib.hid (ref_UShow n b w)
  go_enter Try.func18, Try.ntmps18
  go_wp2_with (go_at_call 32; refine H.out.mono ?_; rintro e w1 ⟨rfl, hb⟩)
  go_ret2
  exact ⟨rfl, hb⟩
 ·have h1 : decide (0 ≤ n) = false := by simp; omega
  by_cases hb : isB b = true
  ·have e : ushowS (wrap64 (-n)) b = (ushowL (U (wrap64 (-n))) b.toNat, 0) := by unfold ushowS; rw [if_pos hb]
   have e2 : showS n b = (45 :: ushowL (U (wrap64 (-n))) b.toNat, 0) := by unfold showS; rw [if_pos hb]; simp only [h0, if_false]
   have H0 := ref_UShow (wrap64 (-n)) b w
   rw [e] at H0
   clear e
   have hl := ushowL_len (U (wrap64 (-n))) b.toNat
   generalize ushowL (U (wrap64 (-n))) b.toNat = l at H0 e2 hl
   have H := Lib.hid H0
   have E2 := Lib.hid e2
   clear e2 H0
   go_enter Try.func18, Try.ntmps18
   go_wp2_with (go_at_call 32; refine H.out.mono ?_; rintro e w1 ⟨rfl, hb⟩)
   go_ret2
   exact ⟨by rw [E2.out]; exact ret_si (str_eq (by simp)) rfl, hb⟩
  ·have e : ushowS (wrap64 (-n)) b = ([], -24) := by unfold ushowS; rw [if_neg hb]
   have e2 : showS n b = ([], -24) := by unfold showS; rw [if_neg hb]
   have H0 := ref_UShow (wrap64 (-n)) b w
   rw [e] at H0
   have H := Lib.hid H0
   have E2 := Lib.hid e2
   clear e e2 H0
   go_enter Try.func18, Try.ntmps18
   go_wp2_with (go_at_call 32; refine H.out.mono ?_; rintro e w1 ⟨rfl, hb⟩)
   go_ret2
   exact ⟨by rw [E2.out]; rfl, hb⟩
end Go.Proofs.Ytiibjcnedbncjaa
namespace Go.Proofs.Ytiibjcnedbncjaa
open Go.RowKit
def tShow (r : List UInt8 × Int) : PV := tup2 (str r.1) (i64 r.2)
@[simp] theorem flat_tShow (r : List UInt8 × Int) : Flat (tShow r) := by simp [tShow]
theorem pureS {P : Program} {f : FuncId} {args : List Value} {r : List UInt8 × Int} (h : ∀ w, Calls P f args.toArray w fun e w' => e = .returned (.tuple #[.string ⟨r.1.toArray⟩, .int .i64 r.2]) ∧ Grows w w') : PureC P f (args.map .val) (tShow r) :=
 pure_of_calls (v := .tuple #[.string ⟨r.1.toArray⟩, .int .i64 r.2]) (fun c => by unfold tShow tup2 Rep; exact ⟨[_, _], rfl, repL_cons.2 ⟨rep_val _ _, repL_cons.2 ⟨rep_val _ _, repL_nil.2 rfl⟩⟩⟩) h
theorem gbelow {w : World} {v : Value} : ∀ {e : Ending} {w' : World}, (e = .returned v ∧ Below w.heap.size w w') → (e = .returned v ∧ Grows w w') := by rintro e w' ⟨h, k⟩; exact ⟨h, Grows.of_below k⟩
theorem r_Show (n b : Int) (hn : -9223372036854775808 ≤ n ∧ n ≤ 9223372036854775807) : PureC Try.prog 18 [i64 n, i64 b] (tShow (showS n b)) := pureS (args := [.int .i64 n, .int .i64 b]) fun w => Calls.mono (ref_Show n b w hn) fun _ _ h => gbelow h
end Go.Proofs.Ytiibjcnedbncjaa
namespace Go.Proofs.Ytiibjcnedbncjaa
open Go.RowKit
open Go.WideShapes
set_option maxRecDepth 100000
set_option maxHeartbeats 8000000
theorem digL_len (b : Nat) : ∀ k u, (digL b k u).length ≤ k
 | 0, u => Nat.le_refl _
 | k + 1, u => by
  have := digL_len b k (u / b)
  rw [digL, List.length_cons]
  split
  ·simp
  ·omega
theorem show_len (n : Int) : (showS n 10).1.length ≤ 100 := by
 have h : ∀ u b, (ushowL u b).length ≤ 64 := fun u b => by unfold ushowL; rw [List.length_reverse, List.length_map]; exact digL_len b 64 u
 unfold showS
 rw [if_pos (by decide)]
 dsimp only
 split
 ·have := h (U n) (Int.toNat 10); omega
 ·have := h (U (wrap64 (-n))) (Int.toNat 10); rw [List.length_cons]; omega
def rowsT : List (List Str) := [[[73, 70], [84, 72, 69, 78]], [[66, 69, 71, 73, 78], [85, 78, 84, 73, 76]], [[66, 69, 71, 73, 78], [65, 71, 65, 73, 78]], [[68, 79], [76, 79, 79, 80]], [[63, 68, 79], [43, 76, 79, 79, 80]]]
def cStrs (l : List Str) : List PV := [.seq l.length (l.flatMap cStr) .clip]
@[simp] theorem flat_cStrs (l : List Str) : FlatL (cStrs l) := by unfold cStrs FlatL; exact ⟨by unfold Flat; exact ⟨flatL_map' (fun x => by simp) _, .inr rfl⟩, trivial⟩
@[simp] theorem flat_rowsT : Flat (.seq rowsT.length (rowsT.flatMap cStrs) .clip) := by unfold Flat; exact ⟨flatL_map' (fun x => by simp) _, .inr rfl⟩
def kindsT : List Int := [3, 4, 5, 7, 8]
@[simp] theorem flat_kindsT : Flat (.seq kindsT.length (kindsT.flatMap cInt) .clip) := by unfold Flat; exact ⟨flatL_map' (fun x => by simp) _, .inr rfl⟩
theorem rows_get : ∀ i < 5, rowsT.getD i [] = [brO i, brC i] := by decide
theorem law_AstBrackets (n : Int) (hn : Fit64 n) (k q : Nat) (hk : k < 256) (hq : q < 256) : PureC Try.prog 5 [i64 n, .val (.int .u8 (k : Int)), .val (.int .u8 (q : Int))] (boo true) := by
 obtain ⟨i, hi⟩ : ∃ i : Nat, k % 5 = i := ⟨_, rfl⟩
 obtain ⟨d, hd⟩ : ∃ d : Nat, q % 20 = d := ⟨_, rfl⟩
 have hI5 : i < 5 := by omega
 have hd20 : d < 20 := by omega
 have w1 : (IntKind.i64.wrap (k : Int)).tmod 5 = (i : Int) := by
  rw [i64_okV (n := (k : Int)) (by unfold Fit64; omega), show (k : Int).tmod 5 = ((k % 5 : Nat) : Int) from tmodN k 5 (by decide), hi]
 have w2 : (IntKind.i64.wrap (q : Int)).tmod 20 = (d : Int) := by
  rw [i64_okV (n := (q : Int)) (by unfold Fit64; omega), show (q : Int).tmod 20 = ((q % 20 : Nat) : Int) from tmodN q 20 (by decide), hd]
 have hr := rows_get i hI5
 have hrl : rowsT.length = 5 := rfl
 have hkl : kindsT.length = 5 := rfl
 have ps := r_Show n 10 (by unfold Fit64 at hn; omega)
 have hp := br_parse n hn i d hI5
 obtain ⟨s, hs⟩ : ∃ s, (showS n 10).1 = s := ⟨_, rfl⟩
 have hsl : s.length ≤ 100 := by rw [← hs]; exact show_len n
 rw [hs] at hp
 obtain ⟨O, hO⟩ : ∃ O, brO i = O := ⟨_, rfl⟩
 obtain ⟨C, hC⟩ : ∃ C, brC i = C := ⟨_, rfl⟩
 have hOl : O.length ≤ 10 := by rw [← hO]; exact (show ∀ i < 5, (brO i).length ≤ 10 by decide) i hI5
 have hCl : C.length ≤ 10 := by rw [← hC]; exact (show ∀ i < 5, (brC i).length ≤ 10 by decide) i hI5
 rw [hO, hC] at hr hp
 obtain ⟨P, hP⟩ : ∃ P, parseP (readerS vF) (List.replicate d O ++ s :: List.replicate d C) = P := ⟨_, rfl⟩
 have p2 := ast_Parse vF (List.replicate d O ++ s :: List.replicate d C) vrd_F ⟨by simp; omega, fun w hw => by
  rcases List.mem_append.1 hw with hw | hw
  ·rw [List.eq_of_mem_replicate hw]; omega
  ·rcases List.mem_cons.1 hw with rfl | hw
   ·omega
   ·rw [List.eq_of_mem_replicate hw]; omega⟩ (by simp; omega)
 rw [hP] at p2 hp
 refine pW tG (rs := [.tmp 6]) Try.func5 rfl rfl rfl (by simp) (by simp) (fun B => ?_)
 refine zu1 ?_
 refine z8 ?_
 refine zc rfl Try.func7 ((lawAst_shown) _) ?_
 refine zs1 ?_
 refine z8 ?_
 refine zc rfl Try.func17 ((ref_New15) _) ?_
 refine zs3 ?_
 refine zp1 ?_
 refine Wa 24 rfl (bsL cStr [_, _] rfl rfl) ?_
 refine z1 ?_
 refine Wa 25 rfl (bsL cStr [_, _] rfl rfl) ?_
 refine z1 ?_
 refine Wa 26 rfl (bsL cStr [_, _] rfl rfl) ?_
 refine z1 ?_
 refine Wa 27 rfl (bsL cStr [_, _] rfl rfl) ?_
 refine z1 ?_
 refine Wa 28 rfl (bsL cStr [_, _] rfl rfl) ?_
 refine z1 ?_
 refine Wa 29 rfl ((show PV.seq 5 _ .clip = .seq (List.length rowsT) (List.flatMap cStrs rowsT) .clip from rfl)) ?_
 refine zs1 ?_
 refine zp1 ?_
 refine Wa 30 rfl ((show PV.seq 5 _ .clip = .seq (List.length kindsT) (List.flatMap cInt kindsT) .clip from rfl)) ?_
 refine zs1 ?_
 refine zp5 ?_
 refine Wa 35 rfl (congrArg (fun z => PV.val (Value.int .i64 z)) w1) ?_
 refine zs1 ?_
 refine zp3 ?_
 refine Wa 38 rfl (congrArg (fun z => PV.val (Value.int .i64 z)) w2) ?_
 refine zs1 ?_
 refine zp1 ?_
 refine zc rfl Try.func18 ((ps) _) ?_
 refine zy2 ?_
 refine Wa 42 rfl (congrArg str hs) ?_
 refine zs3 ?_
 refine zp1 ?_
 (refine WO_own 15 0 1 rfl rfl ?_)
 refine Wn ?_
 refine Ws ?_
 refine zu1 ?_
 refine Wl ?_
 show W _ _ _ _ _ _ _
 refine W_loopS (fun (x : (Nat × List Str)) => [(0, i64 n), (7, boo true), (8, .ptr 0 0), (9, .seq (List.length rowsT) (List.flatMap cStrs rowsT) .clip), (10, .seq (List.length kindsT) (List.flatMap cInt kindsT) .clip), (11, i64 i), (12, i64 d), (13, str s), (15, .seq x.2.length (x.2.flatMap cStr) (.own 2 1)), (16, i64 x.1)]) (fun (x : (Nat × List Str)) => [.cells (cVm vF) 36, .dead]) (fun (x : (Nat × List Str)) => [.free (x.2.length * 1)]) (fun (x : (Nat × List Str)) => x.1 ≤ d ∧ x.2 = List.replicate x.1 O) (fun (x : (Nat × List Str)) => d - x.1) ((0, [])) (by exact ⟨Nat.zero_le _, rfl⟩) [1] ?_ ?_
 ·exact fitT
 ·intro x hx
  refine Ws ?_
  refine zu3 ?_
  refine Wi rfl (fun hi1 => ?_) (fun hi1 => ?_)
  ·have hlt : x.1 < d := by have := oT hi1; omega
   have hl2 : x.2.length = x.1 := by rw [hx.2, List.length_replicate]
   refine Wj ?_
   refine Ws ?_
   refine Wl ?_
   refine W_region rfl ?_
   refine zy3 ?_
   refine Wv tG rfl rfl rfl (by omega) (iN cStrs 1 (fun _ => rfl) default (by omega)) ?_
   refine z1 ?_
   refine Wa 53 rfl (congrArg (fun z : List Str => PV.seq z.length (z.flatMap cStr) .clip) hr) ?_
   refine Wv tG rfl rfl rfl (by (simp; done)) (iN cStr 1 (fun _ => rfl) [] (by (simp_all; done))) ?_
   refine zy2 ?_
   refine Wa 56 rfl (bsL cStr [_] rfl rfl) ?_
   refine Wd rfl rfl (does_append_own (lO tG rfl) rfl (lO tG rfl) (lO tG rfl) rfl rfl rfl rfl (by simp) (by exact ⟨_, rfl⟩) (by exact ⟨rfl, rfl, flatMap_len _ 1 (fun _ => rfl) _, okC_flat _ (fun _ => rfl) _⟩) (by (simp; omega)) (by (simp; omega))) ?_
   refine Wa 57 rfl (sq_append cStr) ?_
   refine z1 ?_
   skip
   refine Wn ?_
   refine W_region rfl ?_
   refine zs3 ?_
   exact ⟨(x.1 + 1, x.2 ++ [O]), [3], (by exact ⟨by omega, by show _ = List.replicate (x.1 + 1) O; rw [List.replicate_succ', hx.2]⟩), (by omega), fitT⟩
  ·have hxd : x.1 = d := by have := oF hi1; omega
   have hx2 : x.2 = List.replicate d O := by rw [hx.2, hxd]
   have hl3 : x.2.length = d := by rw [hx2, List.length_replicate]
   refine W_exit ?_
   refine zp3 ?_
   refine Wa 60 rfl (bsL cStr [_] rfl rfl) ?_
   refine Wd rfl rfl (does_append_own (lO tG rfl) rfl (lO tG rfl) (lO tG rfl) rfl rfl rfl rfl (by simp) (by exact ⟨_, rfl⟩) (by exact ⟨rfl, rfl, flatMap_len _ 1 (fun _ => rfl) _, okC_flat _ (fun _ => rfl) _⟩) (by (simp; omega)) (by (simp; omega))) ?_
   refine Wa 61 rfl (sq_append cStr) ?_
   refine z1 ?_
   skip
   refine Wn ?_
   refine Ws ?_
   refine zu1 ?_
   refine Wl ?_
   show W _ _ _ _ _ _ _
   refine W_loopS (fun (y : (Nat × List Str)) => [(0, i64 n), (7, boo true), (8, .ptr 0 0), (9, .seq (List.length rowsT) (List.flatMap cStrs rowsT) .clip), (10, .seq (List.length kindsT) (List.flatMap cInt kindsT) .clip), (11, i64 i), (12, i64 d), (15, .seq y.2.length (y.2.flatMap cStr) (.own 4 1)), (17, i64 y.1)]) (fun (y : (Nat × List Str)) => [.cells (cVm vF) 36, .dead, .dead, .dead]) (fun (y : (Nat × List Str)) => [.free (y.2.length * 1)]) (fun (y : (Nat × List Str)) => y.1 ≤ d ∧ y.2 = (List.replicate d O ++ [s]) ++ List.replicate y.1 C) (fun (y : (Nat × List Str)) => d - y.1) ((0, x.2 ++ [s])) (by exact ⟨Nat.zero_le _, by show x.2 ++ [s] = _ ++ []; rw [hx2, List.append_nil]⟩) [3] ?_ ?_
   ·exact fitT
   ·intro y hy
    refine Ws ?_
    refine zu3 ?_
    refine Wi rfl (fun hi2 => ?_) (fun hi2 => ?_)
    ·have hlt2 : y.1 < d := by have := oT hi2; omega
     have hl4 : y.2.length = d + 1 + y.1 := by rw [hy.2]; simp; omega
     refine Wj ?_
     refine Ws ?_
     refine Wl ?_
     refine W_region rfl ?_
     refine zy3 ?_
     refine Wv tG rfl rfl rfl (by omega) (iN cStrs 1 (fun _ => rfl) default (by omega)) ?_
     refine z1 ?_
     refine Wa 71 rfl (congrArg (fun z : List Str => PV.seq z.length (z.flatMap cStr) .clip) hr) ?_
     refine Wv tG rfl rfl rfl (by (simp; done)) (iN cStr 1 (fun _ => rfl) [] (by (simp_all; done))) ?_
     refine zy2 ?_
     refine Wa 74 rfl (bsL cStr [_] rfl rfl) ?_
     refine Wd rfl rfl (does_append_own (lO tG rfl) rfl (lO tG rfl) (lO tG rfl) rfl rfl rfl rfl (by simp) (by exact ⟨_, rfl⟩) (by exact ⟨rfl, rfl, flatMap_len _ 1 (fun _ => rfl) _, okC_flat _ (fun _ => rfl) _⟩) (by (simp; omega)) (by (simp; omega))) ?_
     refine Wa 75 rfl (sq_append cStr) ?_
     refine z1 ?_
     skip
     refine Wn ?_
     refine W_region rfl ?_
     refine zs3 ?_
     exact ⟨(y.1 + 1, y.2 ++ [C]), [5], (by exact ⟨by omega, by show _ = _ ++ List.replicate (y.1 + 1) C; rw [List.replicate_succ', hy.2]; simp⟩), (by omega), fitT⟩
    ·have hyd : y.1 = d := by have := oF hi2; omega
     have hy2 : List.replicate d O ++ s :: List.replicate d C = y.2 := by rw [hy.2, hyd]; simp
     have p3 := p2
     rw [hy2] at p3
     refine W_exit ?_
     refine zp2 ?_
     refine zc rfl Try.func11 ((p3) _) ?_
     refine zs5 ?_
     refine Ws ?_
     refine zu2 ?_
     refine Wi rfl (fun hi3 => ?_) (fun hi3 => ?_)
     ·have hP2 : P = ([], -22) := by rw [hp, if_neg (by have := oT hi3; omega)]
      refine W_as 18 rfl (congrArg (fun q : List VNode × Int => sq cNode q.1) hP2) ?_
      refine W_as 19 rfl (congrArg (fun q : List VNode × Int => i64 q.2) hP2) ?_
      refine zp2 ?_
      refine WO_true 85 rfl (by rfl) ?_
      refine zy4 ?_
      refine WO_true 89 rfl (by rfl) ?_
      refine zs5 ?_
      refine zR ?_
      rfl
     ·have hP2 : P = ([nestN (brK i) (brA i) n d], 0) := by rw [hp, if_pos (by have := oF hi3; omega)]
      refine W_as 18 rfl (congrArg (fun q : List VNode × Int => sq cNode q.1) hP2) ?_
      refine W_as 19 rfl (congrArg (fun q : List VNode × Int => i64 q.2) hP2) ?_
      refine Wj ?_
      refine Ws ?_
      refine zu2 ?_
      refine Wf rfl (by rfl) ?_
      refine Wj ?_
      refine Ws ?_
      refine zu1 ?_
      refine Wl ?_
      show W _ _ _ _ _ _ _
      refine W_loopS (fun (z : Nat) => [(0, i64 n), (7, boo true), (10, .seq (List.length kindsT) (List.flatMap cInt kindsT) .clip), (11, i64 i), (12, i64 d), (18, sq cNode [nestN (brK i) (brA i) n (d - z)]), (20, i64 z)]) (fun (z : Nat) => [.cells (cVm vF) 36, .dead, .dead, .dead, .dead]) (fun (z : Nat) => []) (fun (z : Nat) => z ≤ d) (fun (z : Nat) => d - z) (0) (by exact Nat.zero_le _) [] ?_ ?_
      ·exact fitT
      ·intro z hz
       refine Ws ?_
       refine zu3 ?_
       refine Wi rfl (fun hi5 => ?_) (fun hi5 => ?_)
       ·have hlt3 : z < d := by have := oT hi5; omega
        have hN : nestN (brK i) (brA i) n (d - z) = .mk (brK i) (brA i) [nestN (brK i) (brA i) n (d - z - 1)] [] := by
         obtain ⟨m, hm⟩ : ∃ m, d - z = m + 1 := ⟨d - z - 1, by omega⟩
         rw [hm]; rfl
        refine W_as 18 rfl (congrArg (fun q : VNode => sq cNode [q]) hN) ?_
        clear hN p2 p3 hP hp hP2 hy hy2 hx hx2 hl3 hyd hxd ps hs hr hi1 hi2 hi3
        refine Wj ?_
        refine Ws ?_
        refine Wl ?_
        iterate 2 refine Ws ?_
        refine W_drawU [0, 0, 0, 0, 0, 0, 0, 1, 0, 0, 0, 1, 0, 0, 0, 0, 0, 0, 1, 0, 0, 0] [0, 1, 2, 3, 4, 5, 6, 7, 8, 9, 10, 11, 12, 13, 14, 15, 16, 17, 18, 19, 20, 21] mG rfl (by kernel_rfl) ?_
        iterate 4 refine z3 ?_
        refine WU_false 104 rfl (by rfl) ?_
        refine z3 ?_
        refine Xi tG rfl rfl rfl rfl (fun _ => rfl) (by (simp; done)) (iN cNode 4 (fun _ => rfl) default (by (simp_all; done))) ?_
        refine z3 ?_
        refine z5 ?_
        iterate 2 refine z3 ?_
        refine Xi tG rfl rfl rfl rfl (fun _ => rfl) (by omega) (iN cInt 1 (fun _ => rfl) 0 (by omega)) ?_
        refine z5 ?_
        iterate 3 refine z3 ?_
        refine WU_false 115 rfl (by exact bne_self_eq_false (brK i)) ?_
        refine z3 ?_
        refine Xi tG rfl rfl rfl rfl (fun _ => rfl) (by (simp; done)) (iN cNode 4 (fun _ => rfl) default (by (simp_all; done))) ?_
        refine z3 ?_
        refine z5 ?_
        iterate 3 refine z3 ?_
        refine WU_nil ?_
        refine Wf rfl (by rfl) ?_
        refine Wj ?_
        refine W_region rfl ?_
        refine z1 ?_
        refine Wv tG rfl rfl rfl (by (simp; done)) (iN cNode 4 (fun _ => rfl) default (by (simp_all; done))) ?_
        refine zy2 ?_
        refine Wa 126 rfl (sqN_eq [nestN (brK i) (brA i) n (d - z - 1)]) ?_
        refine zs1 ?_
        refine W_region rfl ?_
        refine zs3 ?_
        exact ⟨z + 1, [], (by omega), (by omega), fitT⟩
       ·have hN : nestN (brK i) (brA i) n (d - z) = .mk 1 n [] [] := by rw [show d - z = 0 by have := oF hi5; omega]; rfl
        refine W_as 18 rfl (congrArg (fun q : VNode => sq cNode [q]) hN) ?_
        clear hN p2 p3 hP hp hP2 hy hy2 hx hx2 hl3 hyd hxd ps hs hr hi1 hi2 hi3
        refine W_exit ?_
        refine Ws ?_
        refine W_drawU [0, 0, 0, 0, 0, 0, 0, 0, 0, 0, 1, 0, 0, 0, 0, 0, 0, 1, 0, 0, 0, 0, 0, 0, 0, 1, 0, 0, 0, 0, 1, 0, 0, 0, 0, 0] [0, 1, 2, 3, 4, 5, 6, 7, 8, 9, 10, 11, 12, 13, 14, 15, 16, 17, 18, 19, 20, 21, 22, 23, 24, 25, 26, 27, 28, 29, 30, 31, 32, 33, 34, 35] mG rfl (by kernel_rfl) ?_
        iterate 2 refine z3 ?_
        refine WU_true 128 rfl (by rfl) ?_
        iterate 5 refine z3 ?_
        refine WU_true 133 rfl (by rfl) ?_
        refine z3 ?_
        refine Xi tG rfl rfl rfl rfl (fun _ => rfl) (by (simp; done)) (iN cNode 4 (fun _ => rfl) default (by (simp_all; done))) ?_
        refine z3 ?_
        refine z5 ?_
        iterate 3 refine z3 ?_
        refine WU_true 140 rfl (by rfl) ?_
        refine z3 ?_
        refine Xi tG rfl rfl rfl rfl (fun _ => rfl) (by (simp; done)) (iN cNode 4 (fun _ => rfl) default (by (simp_all; done))) ?_
        refine z3 ?_
        refine z5 ?_
        iterate 4 refine z3 ?_
        refine WU_true 148 rfl (by exact beq_self_eq_true n) ?_
        refine z3 ?_
        refine Xi tG rfl rfl rfl rfl (fun _ => rfl) (by (simp; done)) (iN cNode 4 (fun _ => rfl) default (by (simp_all; done))) ?_
        refine z3 ?_
        refine z5 ?_
        iterate 2 refine z3 ?_
        refine Xi tG rfl rfl rfl rfl (fun _ => rfl) (by (simp; done)) (iN cNode 4 (fun _ => rfl) default (by (simp_all; done))) ?_
        refine z3 ?_
        refine z5 ?_
        iterate 5 refine z3 ?_
        refine WU_nil ?_
        refine zR ?_
        rfl
theorem walk_AstBrackets (v0 v1 v2 : Value) (w : World) (r0 : Reads w 3 v0) (r1 : Reads w 5 v1) (r2 : Reads w 5 v2) :
  Calls Try.prog 5 #[v0, v1, v2] w fun e w' => e = .returned (.bool true) ∧ Below w.heap.size w w' := by
 obtain ⟨n, hn, p0⟩ := reads_i64 r0
 obtain ⟨m, hm, p1⟩ := reads_u8 r1
 obtain ⟨q, hq, p2⟩ := reads_u8 r2
 exact law_calls (law_AstBrackets n hn m q hm hq) (repL_cons.2 ⟨p0, repL_cons.2 ⟨p1, repL_cons.2 ⟨p2, repL_nil.2 rfl⟩⟩⟩)
end Go.Proofs.Ytiibjcnedbncjaa
