/- What the functions of layer 6 (num) compute, as plain Lean functions, and the plain laws of these: no program in sight. -/
import Derived.Test.YtpjhgokdkgnbdaaSpec
namespace Go.Proofs.Ytpjhgokdkgnbdaa
open Go.RowKit (wrap64)

/-! ### Numbers that wrap round -/

theorem wrap64_more (x q : Int) : wrap64 (x + q * 18446744073709551616) = wrap64 x := by unfold wrap64; omega
theorem wrap64_is (x : Int) : ∃ q, wrap64 x = x + q * 18446744073709551616 := ⟨-((x + 9223372036854775808) / 18446744073709551616), by unfold wrap64; omega⟩
theorem wrap64_wrap (x : Int) : wrap64 (wrap64 x) = wrap64 x := by
  obtain ⟨q, h⟩ := wrap64_is x; rw [h, wrap64_more, h]
theorem wrap64_add_left (x y : Int) : wrap64 (wrap64 x + y) = wrap64 (x + y) := by
  obtain ⟨q, h⟩ := wrap64_is x; rw [h, show x + q * 18446744073709551616 + y = (x + y) + q * 18446744073709551616 from by omega, wrap64_more]
theorem wrap64_sub_left (x y : Int) : wrap64 (wrap64 x - y) = wrap64 (x - y) := by
  obtain ⟨q, h⟩ := wrap64_is x; rw [h, show x + q * 18446744073709551616 - y = (x - y) + q * 18446744073709551616 from by omega, wrap64_more]
theorem wrap64_mul_left (x y : Int) : wrap64 (wrap64 x * y) = wrap64 (x * y) := by
  obtain ⟨q, h⟩ := wrap64_is x; rw [h, Int.add_mul, show q * 18446744073709551616 * y = (q * y) * 18446744073709551616 from by rw [Int.mul_right_comm], wrap64_more]
theorem wrap64_neg (x : Int) : wrap64 (-wrap64 x) = wrap64 (-x) := by
  obtain ⟨q, h⟩ := wrap64_is x; rw [h, show -(x + q * 18446744073709551616) = -x + (-q) * 18446744073709551616 from by omega, wrap64_more]
theorem wrap64_zero_sub (x : Int) : wrap64 (0 - x) = wrap64 (-x) := by rw [Int.zero_sub]

/-! ### Digits -/

/-- What a sign is worth; -1: nothing. -/
def wd (c : Int) : Int := if 48 ≤ c ∧ c ≤ 57 then c - 48 else if 97 ≤ c ∧ c ≤ 122 then c - 87 else if 65 ≤ c ∧ c ≤ 90 then c - 55 else -1
/-- A digit's sign. -/
def digS (n : Int) : Int := if 0 ≤ n ∧ n ≤ 9 then 48 + n else if 10 ≤ n ∧ n ≤ 35 then 55 + n else 63
/-- Is it a base? -/
def isB (b : Int) : Bool := decide (2 ≤ b) && decide (b ≤ 36)
/-- What a sign is worth, by a base. -/
def worthS (c b : Int) : Int × Bool := if isB b ∧ 0 ≤ wd c ∧ wd c < b then (wd c, true) else (0, false)

theorem isB_iff (b : Int) : isB b = true ↔ 2 ≤ b ∧ b ≤ 36 := by unfold isB; simp
theorem wd_rng (c : Int) : -1 ≤ wd c ∧ wd c ≤ 35 := by unfold wd; split <;> (try split) <;> (try split) <;> omega
theorem digS_rng (n : Int) : 48 ≤ digS n ∧ digS n ≤ 90 := by unfold digS; split <;> (try split) <;> omega
theorem wd_digS (n : Int) (h : 0 ≤ n) (h1 : n ≤ 35) : wd (digS n) = n := by
  unfold digS
  by_cases c : n ≤ 9
  · rw [if_pos ⟨h, c⟩]; unfold wd; rw [if_pos (by omega)]; omega
  · rw [if_neg (by omega), if_pos (by omega)]; unfold wd; rw [if_neg (by omega), if_neg (by omega), if_pos (by omega)]; omega

/-- A sign's own number as a byte. -/
def chr (n : Nat) : UInt8 := UInt8.ofNat (digS n).toNat
theorem chr_toNat (n : Nat) : ((chr n).toNat : Int) = digS n := by
  have := digS_rng n
  unfold chr
  rw [UInt8.toNat_ofNat']
  omega
theorem wd_chr (n : Nat) (h : n ≤ 35) : wd ((chr n).toNat : Int) = n := by rw [chr_toNat]; exact wd_digS n (by omega) (by omega)

/-! ### Texts that tell cells -/

/-- Is it a digit of the base? -/
def okD (b : Int) (c : UInt8) : Bool := decide (0 ≤ wd c.toNat) && decide (wd c.toNat < b)
theorem okD_iff (b : Int) (c : UInt8) : okD b c = true ↔ 0 ≤ wd c.toNat ∧ wd c.toNat < b := by unfold okD; simp
/-- What digits are worth, behind a number. -/
def valD (b : Int) : Int → List UInt8 → Int
  | n, [] => n
  | n, c :: l => valD b (n * b + wd c.toNat) l
theorem valD_append (b : Int) (l m : List UInt8) : ∀ n, valD b n (l ++ m) = valD b (valD b n l) m := by
  induction l with
  | nil => intro n; rfl
  | cons c l ih => intro n; exact ih _
theorem valD_snoc (b n : Int) (l : List UInt8) (c : UInt8) : valD b n (l ++ [c]) = valD b n l * b + wd c.toNat := by rw [valD_append]; rfl
theorem wrap_valD_snoc (b n : Int) (l : List UInt8) (c : UInt8) : wrap64 (wrap64 (wrap64 (valD b n l) * b) + wd c.toNat) = wrap64 (valD b n (l ++ [c])) := by
  rw [valD_snoc, wrap64_add_left, wrap64_mul_left_add]
where
  wrap64_mul_left_add {x y z : Int} : wrap64 (wrap64 x * y + z) = wrap64 (x * y + z) := by
    obtain ⟨q, h⟩ := wrap64_is x
    rw [h, Int.add_mul, show q * 18446744073709551616 * y = (q * y) * 18446744073709551616 from by rw [Int.mul_right_comm], show x * y + q * y * 18446744073709551616 + z = (x * y + z) + (q * y) * 18446744073709551616 from by omega, wrap64_more]

/-- The sign between two others. -/
def signS : List UInt8 → Option Int
  | [a, c, d] => if a = 39 ∧ d = 39 ∧ 33 ≤ c.toNat ∧ c.toNat ≤ 126 then some c.toNat else none
  | _ => none
/-- A text's base, and what stands behind it. -/
def prefS (l : List UInt8) (b : Int) : Int × List UInt8 :=
  match l with
  | [] => (b, [])
  | c :: m => if c = 35 then (10, m) else if c = 36 then (16, m) else if c = 37 then (2, m) else (b, c :: m)
/-- What stands behind a minus, and whether there is one. -/
def cutS (l : List UInt8) : List UInt8 × Bool :=
  match l with
  | [] => ([], false)
  | c :: m => if c = 45 then (m, true) else (c :: m, false)
/-- Digits behind a minus or none. -/
def bareS (l : List UInt8) (b : Int) (below : Bool) : Int × Bool :=
  if l = [] ∨ isB b = false ∨ l.all (okD b) = false then (0, false) else (if below then wrap64 (-wrap64 (valD b 0 l)) else wrap64 (valD b 0 l), true)
/-- The cell that a text tells. -/
def parseS (l : List UInt8) (b : Int) : Int × Bool :=
  match signS l with
  | some n => (n, true)
  | none => bareS (cutS (prefS l b).2).1 (prefS l b).1 (cutS (prefS l b).2).2

/-- A text whose first sign is neither a mark nor a quote. -/
theorem parseS_plain (c : UInt8) (l : List UInt8) (b : Int) (h1 : c ≠ 35) (h2 : c ≠ 36) (h3 : c ≠ 37) (h4 : c ≠ 39) :
    parseS (c :: l) b = bareS (cutS (c :: l)).1 b (cutS (c :: l)).2 := by
  have hs : signS (c :: l) = none := by
    unfold signS
    split
    · rename_i a d e heq
      rw [if_neg]
      rintro ⟨ha, _⟩
      simp only [List.cons.injEq] at heq
      exact h4 (heq.1.trans ha)
    · rfl
  have hp : prefS (c :: l) b = (b, c :: l) := by simp [prefS, h1, h2, h3]
  unfold parseS
  rw [hs, hp]
theorem wd_marks : wd 35 = -1 ∧ wd 36 = -1 ∧ wd 37 = -1 ∧ wd 39 = -1 ∧ wd 45 = -1 ∧ wd 43 = -1 := by decide
theorem okD_not (b : Int) {c : UInt8} (h : okD b c = true) : c ≠ 35 ∧ c ≠ 36 ∧ c ≠ 37 ∧ c ≠ 39 ∧ c ≠ 45 := by
  rw [okD_iff] at h
  refine ⟨?_, ?_, ?_, ?_, ?_⟩ <;> (rintro rfl; revert h; simp [wd])
theorem parseS_digits (l : List UInt8) (b : Int) (hb : isB b = true) (hl : l ≠ []) (hd : l.all (okD b) = true) : parseS l b = (wrap64 (valD b 0 l), true) := by
  match l, hl with
  | c :: m, _ =>
    have hc : okD b c = true := by simp at hd; exact hd.1
    obtain ⟨h1, h2, h3, h4, h5⟩ := okD_not b hc
    rw [parseS_plain c m b h1 h2 h3 h4]
    simp only [cutS, h5, if_false]
    unfold bareS
    rw [if_neg (by rw [hb, hd]; simp)]
    simp
theorem parseS_minus (l : List UInt8) (b : Int) : parseS (45 :: l) b = bareS l b true := by
  rw [parseS_plain 45 l b (by decide) (by decide) (by decide) (by decide)]
  simp [cutS]
theorem bareS_ok (l : List UInt8) (b : Int) (below : Bool) (hb : isB b = true) (hl : l ≠ []) (hd : l.all (okD b) = true) :
    bareS l b below = (if below then wrap64 (-wrap64 (valD b 0 l)) else wrap64 (valD b 0 l), true) := by
  unfold bareS; rw [if_neg (by rw [hb, hd]; simp [hl])]
theorem bareS_no (l : List UInt8) (b : Int) (below : Bool) (h : l.all (okD b) = false) : bareS l b below = (0, false) := by
  unfold bareS; rw [if_pos (.inr (.inr h))]
theorem bareS_true {l : List UInt8} {b : Int} {below : Bool} {n : Int} (h : bareS l b below = (n, true)) : l ≠ [] ∧ isB b = true ∧ l.all (okD b) = true := by
  unfold bareS at h
  split at h
  · simp at h
  · rename_i hn
    simp only [not_or, Bool.not_eq_false] at hn
    exact hn

/-! ### Cells as texts -/

/-- A number's digits, the lowest first, by so many rounds at most. -/
def digL (b : Nat) : Nat → Nat → List Nat
  | 0, _ => []
  | k + 1, u => u % b :: (if u / b = 0 then [] else digL b k (u / b))
/-- A number in digits. -/
def ushowL (u b : Nat) : List UInt8 := ((digL b 64 u).map chr).reverse
/-- A cell in digits, with its sign. -/
def ushowS (n b : Int) : List UInt8 × Int := if isB b then (ushowL (U n) b.toNat, 0) else ([], -24)
def showS (n b : Int) : List UInt8 × Int := if isB b then (if 0 ≤ n then ushowL (U n) b.toNat else 45 :: ushowL (U (wrap64 (-n))) b.toNat, 0) else ([], -24)

theorem digL_lt (b : Nat) (hb : 0 < b) : ∀ k u, ∀ d ∈ digL b k u, d < b := by
  intro k
  induction k with
  | zero => intro u d hd; simp [digL] at hd
  | succ k ih =>
    intro u d hd
    simp only [digL, List.mem_cons] at hd
    rcases hd with rfl | hd
    · exact Nat.mod_lt _ hb
    · split at hd
      · simp at hd
      · exact ih _ _ hd
theorem digL_ne (b k u : Nat) : digL b (k + 1) u ≠ [] := by simp [digL]
theorem valD_digL (b : Nat) (hb : 2 ≤ b) (hb1 : b ≤ 36) : ∀ k u, u < b ^ k → valD b 0 (((digL b k u).map chr).reverse) = (u : Int) := by
  intro k
  induction k with
  | zero => intro u h; simp at h; subst h; rfl
  | succ k ih =>
    intro u h
    have hlt : u % b < b := Nat.mod_lt _ (by omega)
    have hw : wd ((chr (u % b)).toNat : Int) = ((u % b : Nat) : Int) := wd_chr _ (by omega)
    simp only [digL, List.map_cons, List.reverse_cons]
    rw [valD_snoc, hw]
    by_cases h0 : u / b = 0
    · rw [if_pos h0]
      have : u % b = u := Nat.mod_eq_of_lt ((Nat.div_eq_zero_iff_lt (by omega)).1 h0)
      simp [valD, this]
    · rw [if_neg h0, ih (u / b) (by rw [Nat.pow_succ] at h; exact Nat.div_lt_of_lt_mul (by rw [Nat.mul_comm]; exact h))]
      have := Nat.div_add_mod u b
      have e : ((u / b : Nat) : Int) * (b : Int) = ((b * (u / b) : Nat) : Int) := by rw [Nat.mul_comm]; simp
      rw [e]
      omega
theorem pow64 (b : Nat) (hb : 2 ≤ b) {u : Nat} (h : u < 18446744073709551616) : u < b ^ 64 :=
  Nat.lt_of_lt_of_le h (by rw [show (18446744073709551616 : Nat) = 2 ^ 64 from by decide]; exact Nat.pow_le_pow_left hb 64)
theorem all_digits (b : Nat) (hb : 2 ≤ b) (hb1 : b ≤ 36) (u : Nat) : (ushowL u b).all (okD b) = true := by
  unfold ushowL
  rw [List.all_reverse, List.all_eq_true]
  intro c hc
  obtain ⟨d, hd, rfl⟩ := List.mem_map.1 hc
  have := digL_lt b (by omega) 64 u d hd
  rw [okD_iff, wd_chr d (by omega)]
  omega
theorem ushowL_ne (u b : Nat) : ushowL u b ≠ [] := by
  unfold ushowL; simp [digL]
theorem valD_ushowL (u b : Nat) (hb : 2 ≤ b) (hb1 : b ≤ 36) (h : u < 18446744073709551616) : valD b 0 (ushowL u b) = (u : Int) :=
  valD_digL b hb hb1 64 u (pow64 b hb h)

theorem base_nat {b : Int} (h : isB b = true) : ∃ B : Nat, b = (B : Int) ∧ 2 ≤ B ∧ B ≤ 36 := by
  rw [isB_iff] at h; exact ⟨b.toNat, by omega, by omega, by omega⟩

/-- What is shown is parsed. -/
theorem parse_ushow (n b : Int) (hb : isB b = true) (hn : -9223372036854775808 ≤ n ∧ n ≤ 9223372036854775807) : parseS (ushowL (U n) b.toNat) b = (n, true) := by
  obtain ⟨B, rfl, h2, h3⟩ := base_nat hb
  rw [Int.toNat_natCast, parseS_digits _ _ hb (ushowL_ne _ _) (all_digits B h2 h3 _), valD_ushowL _ _ h2 h3 (U_lt n)]
  exact congrArg (·, true) (S_U n hn)
theorem parse_show (n b : Int) (hb : isB b = true) (hn : -9223372036854775808 ≤ n ∧ n ≤ 9223372036854775807) : parseS (showS n b).1 b = (n, true) := by
  unfold showS
  rw [if_pos hb]
  by_cases h : 0 ≤ n
  · simp only [h, if_true]; exact parse_ushow n b hb hn
  · simp only [h, if_false]
    obtain ⟨B, rfl, h2, h3⟩ := base_nat hb
    rw [Int.toNat_natCast, parseS_minus, bareS_ok _ _ _ hb (ushowL_ne _ _) (all_digits B h2 h3 _), valD_ushowL _ _ h2 h3 (U_lt _)]
    simp only [if_true]
    refine congrArg (·, true) ?_
    have := S_U (wrap64 (-n)) (wrap64_rng _)
    unfold S at this
    rw [this]
    unfold wrap64
    omega
theorem show_inj (n m b : Int) (hb : isB b = true) (hn : -9223372036854775808 ≤ n ∧ n ≤ 9223372036854775807) (hm : -9223372036854775808 ≤ m ∧ m ≤ 9223372036854775807)
    (h : (showS n b).1 = (showS m b).1) : n = m := by
  have h1 := parse_show n b hb hn
  rw [h, parse_show m b hb hm] at h1
  exact (Prod.mk.inj h1).1.symm
/-- A text behind the mark of its base. -/
theorem parseS_mark (c : UInt8) (l : List UInt8) (b o : Int) (hc : (c = 35 ∧ b = 10) ∨ (c = 36 ∧ b = 16) ∨ (c = 37 ∧ b = 2)) {n : Int} (hp : bareS (cutS l).1 b (cutS l).2 = (n, true)) :
    parseS (c :: l) o = (n, true) := by
  have hne : c ≠ 39 := by rcases hc with ⟨rfl, _⟩ | ⟨rfl, _⟩ | ⟨rfl, _⟩ <;> decide
  have hs : signS (c :: l) = none := by
    unfold signS
    split
    · rename_i a d e heq
      rw [if_neg]
      rintro ⟨ha, _⟩
      simp only [List.cons.injEq] at heq
      exact hne (heq.1.trans ha)
    · rfl
  have hq : prefS (c :: l) o = (b, l) := by
    rcases hc with ⟨rfl, rfl⟩ | ⟨rfl, rfl⟩ | ⟨rfl, rfl⟩ <;> simp [prefS]
  unfold parseS
  rw [hs, hq]
  exact hp
/-- What is shown has neither a mark nor a quote. -/
theorem show_head (n b : Int) (hb : isB b = true) : ∃ c l, (showS n b).1 = c :: l ∧ c ≠ 35 ∧ c ≠ 36 ∧ c ≠ 37 ∧ c ≠ 39 := by
  obtain ⟨B, rfl, h2, h3⟩ := base_nat hb
  have key : ∀ u, ∃ c l, ushowL u B = c :: l ∧ c ≠ 35 ∧ c ≠ 36 ∧ c ≠ 37 ∧ c ≠ 39 := by
    intro u
    have ha := all_digits B h2 h3 u
    match hu : ushowL u B with
    | [] => exact absurd hu (ushowL_ne u B)
    | c :: l =>
      rw [hu] at ha
      have hc : okD B c = true := by simp at ha; exact ha.1
      obtain ⟨h1, h2, h3, h4, _⟩ := okD_not _ hc
      exact ⟨c, l, rfl, h1, h2, h3, h4⟩
  unfold showS
  rw [if_pos hb, Int.toNat_natCast]
  by_cases h : 0 ≤ n
  · simp only [h, if_true]; exact key _
  · simp only [h, if_false]; exact ⟨45, _, rfl, by decide, by decide, by decide, by decide⟩
theorem parse_marked (c : UInt8) (n b o : Int) (hb : isB b = true) (hc : (c = 35 ∧ b = 10) ∨ (c = 36 ∧ b = 16) ∨ (c = 37 ∧ b = 2)) (hn : -9223372036854775808 ≤ n ∧ n ≤ 9223372036854775807) :
    parseS (c :: (showS n b).1) o = (n, true) := by
  have h := parse_show n b hb hn
  obtain ⟨d, l, e, h1, h2, h3, h4⟩ := show_head n b hb
  rw [e] at h ⊢
  rw [parseS_plain d l b h1 h2 h3 h4] at h
  exact parseS_mark c (d :: l) b o hc h

/-! ### Forms of texts -/

/-- A great letter as a small one. -/
def lowB (c : UInt8) : UInt8 := if 65 ≤ c.toNat ∧ c.toNat ≤ 90 then c + 32 else c
theorem wd_low (c : UInt8) : wd (lowB c).toNat = wd c.toNat := by
  unfold lowB
  split
  · rename_i h
    have e : (c + 32).toNat = c.toNat + 32 := by rw [UInt8.toNat_add]; simp; omega
    rw [e]
    unfold wd
    rw [if_neg (by omega), if_pos (by omega), if_neg (by omega), if_neg (by omega), if_pos (by omega)]
    omega
  · rfl
theorem okD_low (b : Int) (c : UInt8) : okD b (lowB c) = okD b c := by unfold okD; rw [wd_low]
theorem all_low (b : Int) (l : List UInt8) : (l.map lowB).all (okD b) = l.all (okD b) := by
  rw [List.all_map]; congr 1; funext c; exact okD_low b c
theorem valD_low (b : Int) (l : List UInt8) : ∀ n, valD b n (l.map lowB) = valD b n l := by
  induction l with
  | nil => intro n; rfl
  | cons c l ih => intro n; simp only [List.map_cons, valD, wd_low]; exact ih _
theorem parse_low (l : List UInt8) (b : Int) (hb : isB b = true) (hl : l ≠ []) (hd : l.all (okD b) = true) : parseS (l.map lowB) b = (wrap64 (valD b 0 l), true) := by
  rw [parseS_digits _ b hb (by simp [hl]) (by rw [all_low]; exact hd), valD_low]
theorem parse_nought (l : List UInt8) (b : Int) (hb : isB b = true) (hd : l.all (okD b) = true) : parseS (48 :: l) b = (wrap64 (valD b 0 l), true) := by
  have h48 : wd ((48 : UInt8).toNat : Int) = 0 := by decide
  rw [parseS_digits _ b hb (by simp) (by
    rw [List.all_cons, hd, Bool.and_true, okD_iff, h48]
    rw [isB_iff] at hb
    omega)]
  simp only [valD, h48]
  rw [show (0 : Int) * b + 0 = 0 from by omega]
theorem parse_neg (l : List UInt8) (b : Int) (hb : isB b = true) (hl : l ≠ []) (hd : l.all (okD b) = true) : parseS (45 :: l) b = (wrap64 (-wrap64 (valD b 0 l)), true) := by
  rw [parseS_minus, bareS_ok _ _ _ hb hl hd]; rfl
theorem okD_minus (b : Int) : okD b 45 = false := by
  unfold okD
  have : wd ((45 : UInt8).toNat : Int) = -1 := by decide
  rw [this]; rfl
theorem okD_plus (b : Int) : okD b 43 = false := by
  unfold okD
  have : wd ((43 : UInt8).toNat : Int) = -1 := by decide
  rw [this]; rfl
theorem parse_twice (l : List UInt8) (b : Int) : parseS (45 :: 45 :: l) b = (0, false) := by
  rw [parseS_minus]; exact bareS_no _ _ _ (by rw [List.all_cons, okD_minus]; rfl)
theorem parse_behind (l : List UInt8) (b : Int) (hl : l ≠ []) (hd : l.all (okD b) = true) : parseS (l ++ [45]) b = (0, false) := by
  match l, hl with
  | c :: m, _ =>
    have hc : okD b c = true := by simp at hd; exact hd.1
    obtain ⟨h1, h2, h3, h4, h5⟩ := okD_not b hc
    rw [List.cons_append, parseS_plain c _ b h1 h2 h3 h4]
    simp only [cutS, h5, if_false]
    exact bareS_no _ _ _ (by simp [okD_minus])
theorem parse_plus (l : List UInt8) (b : Int) : parseS (43 :: l) b = (0, false) := by
  rw [parseS_plain 43 l b (by decide) (by decide) (by decide) (by decide)]
  simp only [cutS]
  rw [if_neg (by decide)]
  exact bareS_no _ _ _ (by rw [List.all_cons, okD_plus]; rfl)

/-- A text of one digit more. -/
theorem parse_more (l : List UInt8) (b : Int) (k : Nat) (a : Int) (hb : isB b = true) (hk : k ≤ 35) (hp : parseS l b = (a, true))
    (h0 : ∀ c m, l = c :: m → c ≠ 35 ∧ c ≠ 36 ∧ c ≠ 37 ∧ c ≠ 39) :
    parseS (l ++ [chr k]) b = (if (k : Int) < b then (wrap64 (if l.head? = some 45 then wrap64 (a * b) - k else wrap64 (a * b) + k), true) else (0, false)) := by
  have hok : okD b (chr k) = decide ((k : Int) < b) := by
    unfold okD; rw [wd_chr k hk]
    have : decide ((0 : Int) ≤ k) = true := by simp
    rw [this, Bool.true_and]
  match l with
  | [] =>
    have : parseS [] b = (0, false) := by simp [parseS, signS, prefS, cutS, bareS]
    rw [this] at hp; simp at hp
  | c :: m =>
    obtain ⟨h1, h2, h3, h4⟩ := h0 c m rfl
    rw [parseS_plain c m b h1 h2 h3 h4] at hp
    rw [List.cons_append, parseS_plain c _ b h1 h2 h3 h4]
    by_cases h5 : c = 45
    · subst h5
      simp only [cutS, if_true] at hp ⊢
      obtain ⟨hne, _, hd⟩ := bareS_true hp
      rw [bareS_ok _ _ _ hb hne hd] at hp
      obtain ⟨rfl⟩ := (Prod.mk.inj hp)
      by_cases hlt : (k : Int) < b
      · rw [if_pos hlt, bareS_ok _ _ _ hb (by simp) (by simp [hd, hok, hlt])]
        simp only [if_true, List.head?_cons]
        refine congrArg (·, true) ?_
        rw [valD_snoc, wd_chr k hk, wrap64_neg, wrap64_sub_left, wrap64_neg]
        obtain ⟨q, hq⟩ := wrap64_is (-valD b 0 m)
        rw [hq, Int.add_mul, show q * 18446744073709551616 * b = (q * b) * 18446744073709551616 from by rw [Int.mul_right_comm],
          show -valD b 0 m * b + q * b * 18446744073709551616 - (k : Int) = (-valD b 0 m * b - k) + q * b * 18446744073709551616 from by omega, wrap64_more]
        congr 1
        rw [Int.neg_mul]
        omega
      · rw [if_neg hlt]
        exact bareS_no _ _ _ (by simp [hok, hlt])
    · simp only [cutS, h5, if_false] at hp ⊢
      obtain ⟨hne, _, hd⟩ := bareS_true hp
      rw [bareS_ok _ _ _ hb hne hd] at hp
      obtain ⟨rfl⟩ := (Prod.mk.inj hp)
      rw [← List.cons_append]
      by_cases hlt : (k : Int) < b
      · rw [if_pos hlt, bareS_ok _ _ _ hb (by simp) (by rw [List.all_append, hd]; simp [hok, hlt])]
        have e : ¬ (c :: m).head? = some 45 := by simp [h5]
        rw [if_neg e]
        simp only [Bool.false_eq_true, if_false]
        refine congrArg (·, true) ?_
        rw [← wrap_valD_snoc, wd_chr k hk]
      · rw [if_neg hlt]
        exact bareS_no _ _ _ (by rw [List.all_append]; simp [hok, hlt])

/-! ### How many digits -/

theorem digL_last (b : Nat) (hb : 2 ≤ b) : ∀ k u, 0 < u → u < b ^ k → ∀ d, (digL b k u).getLast? = some d → d ≠ 0 := by
  intro k
  induction k with
  | zero => intro u h0 h; simp at h; omega
  | succ k ih =>
    intro u h0 h d hd
    simp only [digL] at hd
    by_cases hz : u / b = 0
    · rw [if_pos hz] at hd
      have : u % b = u := Nat.mod_eq_of_lt ((Nat.div_eq_zero_iff_lt (by omega)).1 hz)
      simp at hd
      omega
    · rw [if_neg hz] at hd
      match k with
      | 0 => simp at h; exact absurd (Nat.div_eq_of_lt h) hz
      | k + 1 =>
        rw [List.getLast?_cons_of_ne_nil (digL_ne _ _ _)] at hd
        exact ih (u / b) (Nat.pos_of_ne_zero hz) (by rw [Nat.pow_succ] at h; exact Nat.div_lt_of_lt_mul (by rw [Nat.mul_comm]; exact h)) d hd
/-- The count that NumLong's loop makes. -/
def manyD (b : Nat) : Nat → Nat → Nat
  | 0, _ => 0
  | k + 1, u => if u / b = 0 then 1 else manyD b k (u / b) + 1
theorem digL_length (b : Nat) : ∀ k u, (digL b k u).length = manyD b k u := by
  intro k
  induction k with
  | zero => intro u; rfl
  | succ k ih => intro u; simp only [digL, manyD]; split <;> simp_all
end Go.Proofs.Ytpjhgokdkgnbdaa
