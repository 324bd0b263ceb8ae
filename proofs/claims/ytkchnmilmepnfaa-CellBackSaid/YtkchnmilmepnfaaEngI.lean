/- The engine, part I: the operations' rules in one word, reckoned by the kernel. No condition. -/
import Derived.Test.YtkchnmilmepnfaaEngH
namespace Go.Proofs.Ytkchnmilmepnfaa
open Go.RowKit
set_option linter.unusedVariables false

def look (G : List (Nat × TD)) (t : Nat) : Option TD := match G with
  | [] => none
  | (u, d) :: r => match Nat.beq u t with
    | true => some d
    | false => look r t
def tysOk (P : Program) (G : List (Nat × TD)) : Bool := G.all fun q => tyOk P q.1 q.2
theorem look_ok {P : Program} : ∀ {G : List (Nat × TD)} (_ : tysOk P G = true) {t : Nat} {d : TD} (_ : look G t = some d), TyFacts P t d
  | [], _, t, d, h => by cases h
  | (u, d') :: r, hG, t, d, h => by
    unfold tysOk at hG
    simp only [List.all_cons, Bool.and_eq_true] at hG
    unfold look at h
    split at h
    · rename_i hu
      rw [Nat.beq_eq] at hu
      injection h with h; subst h; subst hu
      exact tyOk_spec hG.1
    · exact look_ok (G := r) hG.2 h

abbrev Ev := Option (PV × List Ob × Prop)
section
variable (G : List (Nat × TD)) (T : Nat → PV) (H : List Ob)
def evPick : PV → PV → PV → Ev
  | .val (.bool true), x, _ => some (x, H, True)
  | .val (.bool false), _, y => some (y, H, True)
  | _, _, _ => none
def evStr (op : BinOp) (a b : ByteArray) : Ev := match op with
  | .eql => some (.val (.bool (strEq a b)), H, True)
  | .neq => some (.val (.bool (!strEq a b)), H, True)
  | .add => some (.val (.string (a ++ b)), H, a.size + b.size ≤ 9223372036854775807)
  | _ => none
def evBin (op : BinOp) (t : TypeId) (x y : Operand) : Ev := match opv T x, opv T y with
  | .val (.string a), .val (.string b) => evStr H op a b
  | .val (.bool a), .val (.bool b) => match look G t with
    | some d => match d.sh with
      | .bool => match op with
        | .eql => some (.val (.bool (a == b)), H, True)
        | .neq => some (.val (.bool (!(a == b))), H, True)
        | _ => none
      | _ => none
    | none => none
  | .val u, .val v => match binA op t x y u v with
    | some r => some (.val r, H, True)
    | none => none
  | _, _ => none
def evUn (op : UnOp) (x : Operand) : Ev := match opv T x with
  | .val u => match pureOf (Op.unary op u) with
    | some r => some (.val r, H, True)
    | none => none
  | _ => none
def evExtract (x : Operand) (i : Nat) : Ev := match opv T x with
  | .tup cs => match cs[i]? with
    | some r => some (r, H, True)
    | none => none
  | _ => none
def evNil (x : Operand) : Ev := match opv T x with
  | .ptr i off => some (.ptr i off, H, True)
  | .row xs => some (.row xs, H, True)
  | _ => none
def evLoad (t : TypeId) (x : Operand) : Ev := match look G t with
  | some d => match opv T x with
    | .ptr i off => match H[i]? with
      | some (.cells xs _) => match loadPV d xs off with
        | some r => some (r, H, True)
        | none => none
      | _ => none
    | .row xs => match loadPV d xs 0 with
      | some r => some (r, H, True)
      | none => none
    | _ => none
  | none => none
def evStore (t : TypeId) (x y : Operand) : Ev := match look G t with
  | some d => match opv T x with
    | .ptr i off => match H[i]? with
      | some (.cells xs e) => match cellsPV (opv T y) with
        | some ys => match Nat.beq ys.length d.size with
          | true => match ys.all okC with
            | true => match Nat.ble (off + ys.length) xs.length with
              | true => some (.val undef, H.set i (.cells (splice xs off ys) e), True)
              | false => none
            | false => none
          | false => none
        | none => none
      | _ => none
    | _ => none
  | none => none
def evFieldAddr (s : TypeId) (x : Operand) (k : Nat) : Ev := match look G s with
  | some d => match d.sh with
    | .struct fs => match fs[k]? with
      | some (fo, _, _) => match opv T x with
        | .ptr i off => some (.ptr i (off + fo), H, True)
        | .row xs => some (.row (xs.drop fo), H, True)
        | _ => none
      | none => none
    | _ => none
  | none => none
def evField (s : TypeId) (x : Operand) (k : Nat) : Ev := match look G s with
  | some d => match d.sh with
    | .struct fs => match fs[k]? with
      | some (fo, z, g) => match opv T x with
        | .agg cs => match fieldPV cs fo z g with
          | some r => some (r, H, True)
          | none => none
        | _ => none
      | none => none
    | _ => none
  | none => none
def evIndexAddr (t : TypeId) (x ix : Operand) : Ev := match look G t with
  | some d => match d.sh with
    | .slice e => match look G e with
      | some de => match opv T x, opv T ix with
        | .seq n xs _, .val (.int _ i) => some (.row (xs.drop (i.toNat * de.size)), H, 0 ≤ i ∧ i < n)
        | .arr id off n _, .val (.int _ i) => some (.ptr id (off + i.toNat * de.size), H, 0 ≤ i ∧ i < n)
        | _, _ => none
      | none => none
    | .array n e => match look G e with
      | some de => match opv T x, opv T ix with
        | .ptr id off, .val (.int _ i) => some (.ptr id (off + i.toNat * de.size), H, 0 ≤ i ∧ i < n)
        | .row xs, .val (.int _ i) => some (.row (xs.drop (i.toNat * de.size)), H, 0 ≤ i ∧ i < n)
        | _, _ => none
      | none => none
    | _ => none
  | none => none
def evIndex (t : TypeId) (x ix : Operand) : Ev := match look G t with
  | some d => match d.sh with
    | .str => match opv T x, opv T ix with
      | .val (.string s), .val (.int _ i) => some (.val (.int .u8 (byteAt s i.toNat)), H, 0 ≤ i ∧ i < s.size)
      | _, _ => none
    | .array n e => match look G e with
      | some de => match de.agg with
        | false => match opv T x, opv T ix with
          | .agg cs, .val (.int _ i) => match cs[i.toNat * de.size]? with
            | some r => some (r, H, 0 ≤ i ∧ i < n)
            | none => none
          | _, _ => none
        | true => none
      | none => none
    | _ => none
  | none => none
def evBox (t : TypeId) (x : Operand) : Ev := match cellsPV (opv T x) with
  | some xs => some (.ptr H.length 0, H ++ [.cells xs t], True)
  | none => none
def evAlloc (t : TypeId) : Ev := match look G t with
  | some d => some (.ptr H.length 0, H ++ [.cells d.zero t], True)
  | none => none
def evBuild (t : TypeId) (parts : Array (Nat × Operand)) : Ev := match look G t with
  | some d => match d.sh with
    | .struct fs => match fillPV (fun i => match fs[i]? with | some (of, z, _) => some (of, z) | none => none) T parts.toList d.zero with
      | some out => some (.agg out, H, True)
      | none => none
    | .array _ e => match look G e with
      | some de => match fillPV (fun i => some (i * de.size, de.size)) T parts.toList d.zero with
        | some out => some (.agg out, H, True)
        | none => none
      | none => none
    | _ => none
  | none => none
def evBuildSlice (t : TypeId) (n : Nat) (parts : Array (Nat × Operand)) : Ev := match look G t with
  | some d => match d.sh with
    | .slice e => match look G e with
      | some de => match Nat.ble (n * de.size) 16777216 with
        | true => match fillPV (fun i => some (i * de.size, de.size)) T parts.toList (zerosPV n de) with
          | some out => some (.seq n out .clip, H, True)
          | none => none
        | false => none
      | none => none
    | _ => none
  | none => none
def bnd (dflt : Nat) : Option Operand → Option (Nat × Prop)
  | none => some (dflt, True)
  | some z => match opv T z with
    | .val (.int _ i) => some (i.toNat, 0 ≤ i)
    | _ => none
theorem bnd_ok {T : Nat → PV} {dflt v : Nat} {y : Option Operand} {p : Prop} (h : bnd T dflt y = some (v, p)) (hp : p) : BndOk T y dflt v := by
  unfold bnd at h
  split at h
  · cases h; rfl
  · split at h
    · rename_i k i hz
      cases h
      exact ⟨_, _, hz, hp, rfl⟩
    · cases h
def evSlice (t : TypeId) (x : Operand) (lo hi mx : Option Operand) : Ev := match look G t with
  | some d => match d.sh with
    | .slice e => match look G e with
      | some de => match opv T x with
        | .seq n xs _ => match bnd T 0 lo, bnd T n hi, mx with
          | some (l, p), some (h, q), none => some (.seq (h - l) ((xs.drop (l * de.size)).take ((h - l) * de.size)) .any, H, p ∧ q ∧ l ≤ h ∧ h ≤ n)
          | some (l, p), some (h, q), some z => match hi, bnd T n (some z) with
            | some _, some (m, r) => some (.seq (h - l) ((xs.drop (l * de.size)).take ((h - l) * de.size)) .clip, H, p ∧ q ∧ r ∧ m = h ∧ l ≤ h ∧ h ≤ n)
            | _, _ => none
          | _, _, _ => none
        | .arr id off n cap => match bnd T 0 lo, bnd T n hi, mx with
          | some (l, p), some (h, q), none => some (.arr id (if cap = l then off else off + l * de.size) (h - l) (cap - l), H, p ∧ q ∧ l ≤ h ∧ h ≤ n ∧ n ≤ cap)
          | _, _, _ => none
        | _ => none
      | none => none
    | .str => match opv T x with
      | .val (.string s) => match bnd T 0 lo, bnd T s.size hi, mx with
        | some (l, p), some (h, q), none => some (.val (.string (s.extract l h)), H, p ∧ q ∧ l ≤ h ∧ h ≤ s.size)
        | _, _, _ => none
      | _ => none
    | .array n e => match look G e with
      | some de => match opv T x, lo, hi, mx with
        | .ptr id off, none, none, none => some (.arr id off n n, H, True)
        | _, _, _, _ => none
      | none => none
    | _ => none
  | none => none
def evConvert (src dst : TypeId) (x : Operand) : Ev := match look G src, look G dst with
  | some ds, some dd => match dd.sh, opv T x with
    | .int k, .val (.int _ i) => some (.val (.int k (k.wrap i)), H, True)
    | .str, .val (.string s) => some (.val (.string s), H, True)
    | .slice e, .val (.string s) => match look G e with
      | some de => match ds.sh, de.sh with
        | .str, .int .u8 => some (.seq s.size (s.data.toList.map fun b => byteP b.toNat) .any, H, True)
        | _, _ => none
      | none => none
    | _, _ => none
  | _, _ => none
def evMake (t : TypeId) (x y : Operand) : Ev := match look G t with
  | some d => match d.sh with
    | .slice e => match look G e with
      | some de => match opv T x, opv T y with
        | .val (.int _ n), .val (.int _ m) => some (.arr H.length 0 n.toNat n.toNat, H ++ [.cells (zerosPV n.toNat de) e], m = n ∧ 0 ≤ n ∧ (de.bytes : Int) * n ≤ 281474976710656 ∧ n ≤ 9223372036854775807)
        | _, _ => none
      | none => none
    | _ => none
  | none => none
def evLen (ts : List TypeId) (xs : List Operand) : Ev := match ts, xs with
  | [t], [x] => match look G t with
    | some d => match d.sh, opv T x with
      | .slice _, .seq n _ _ => some (.val (.int .i64 n), H, True)
      | .slice _, .arr _ _ n _ => some (.val (.int .i64 n), H, True)
      | .str, .val (.string s) => some (.val (.int .i64 s.size), H, True)
      | _, _ => none
    | none => none
  | _, _ => none
def evMinMax (mx : Bool) (ats : Array TypeId) (ty : TypeId) (xs : List Operand) : Ev := match xs with
  | [x, y] => match opv T x, opv T y with
    | .val u, .val v => match (match mx with | true => pureOf (Builtin.max_ ats ty #[u, v]) | false => pureOf (Builtin.min_ ats ty #[u, v])) with
      | some r => some (.val r, H, True)
      | none => none
    | _, _ => none
  | _ => none
end
section
variable {P : Program} {B : Nat → Nat → Prop} {o : Oper} {G : List (Nat × TD)} {T : Nat → PV} {H : List Ob} {x : PV} {H' : List Ob} {p : Prop}
theorem evPick_ok {c a b : Operand} (ho : o.op = .pick c a b) (h : evPick H (opv T c) (opv T a) (opv T b) = some (x, H', p)) : Does P B o T H x H' := by
  unfold evPick at h
  split at h
  · rename_i hc; cases h; exact does_pick (b := true) ho hc
  · rename_i hc; cases h; exact does_pick (b := false) ho hc
  · cases h
theorem evBin_ok (hG : tysOk P G = true) {op : BinOp} {t yt : TypeId} {a b : Operand} (ho : o.op = .binOp op t a b yt) (h : evBin G T H op t a b = some (x, H', p)) (hp : p) : Does P B o T H x H' := by
  unfold evBin at h
  split at h
  · rename_i u v hu hv
    unfold evStr at h
    split at h
    · cases h; exact does_str_eql ho hu hv
    · cases h; exact does_str_neq ho hu hv
    · cases h; exact does_str_add ho hu hv hp
    · cases h
  · rename_i u v hu hv
    split at h
    · rename_i d hd
      split at h
      · rename_i hs
        split at h
        · cases h; exact does_bool_eql (look_ok hG hd) hs ho hu hv
        · cases h; exact does_bool_neq (look_ok hG hd) hs ho hu hv
        · cases h
      · cases h
    · cases h
  · rename_i u v _ _ hu hv
    split at h
    · rename_i r hr; cases h; exact does_bin ho hu hv hr
    · cases h
  · cases h
theorem evUn_ok {op : UnOp} {t : TypeId} {a : Operand} (ho : o.op = .unOp op t a) (h : evUn T H op a = some (x, H', p)) : Does P B o T H x H' := by
  unfold evUn at h
  split at h
  · rename_i u hu
    split at h
    · rename_i r hr; cases h; exact does_un ho hu hr
    · cases h
  · cases h
theorem evExtract_ok {a : Operand} {i : Nat} (ho : o.op = .extract a i) (h : evExtract T H a i = some (x, H', p)) : Does P B o T H x H' := by
  unfold evExtract at h
  split at h
  · rename_i cs hc
    split at h
    · rename_i r hr; cases h; exact does_extract ho hc hr
    · cases h
  · cases h
theorem evNil_ok {a : Operand} (ho : o.op = .nilCheck a) (h : evNil T H a = some (x, H', p)) : Does P B o T H x H' := by
  unfold evNil at h
  split at h
  · rename_i i off hc; cases h; exact does_nilCheck_ptr ho hc
  · rename_i xs hc; cases h; exact does_nilCheck_row ho hc
  · cases h
theorem evLoad_ok (hG : tysOk P G = true) {t : TypeId} {a : Operand} (ho : o.op = .load t a) (h : evLoad G T H t a = some (x, H', p)) : Does P B o T H x H' := by
  unfold evLoad at h
  split at h
  · rename_i d hd
    split at h
    · rename_i i off hx
      split at h
      · rename_i xs e hi
        split at h
        · rename_i r hr; cases h; exact does_load_ptr (look_ok hG hd) ho hx hi hr
        · cases h
      · cases h
    · rename_i xs hx
      split at h
      · rename_i r hr; cases h; exact does_load_row (look_ok hG hd) ho hx hr
      · cases h
    · cases h
  · cases h
theorem evStore_ok (hG : tysOk P G = true) {t : TypeId} {a b : Operand} (ho : o.op = .store t a b) (h : evStore G T H t a b = some (x, H', p)) : Does P B o T H x H' := by
  unfold evStore at h
  split at h
  · rename_i d hd
    split at h
    · rename_i i off hx
      split at h
      · rename_i xs e hi
        split at h
        · rename_i ys hy
          split at h
          · rename_i hl
            split at h
            · rename_i hok
              split at h
              · rename_i hle; cases h; exact does_store (look_ok hG hd) ho hx hi hy hl hok hle
              · cases h
            · cases h
          · cases h
        · cases h
      · cases h
    · cases h
  · cases h
theorem evFieldAddr_ok (hG : tysOk P G = true) {s : TypeId} {a : Operand} {k : Nat} (ho : o.op = .fieldAddr s a k) (h : evFieldAddr G T H s a k = some (x, H', p)) : Does P B o T H x H' := by
  unfold evFieldAddr at h
  split at h
  · rename_i d hd
    split at h
    · rename_i fs hs
      split at h
      · rename_i fo z g hk
        split at h
        · rename_i i off hx; cases h; exact does_fieldAddr_ptr (look_ok hG hd) ho hs hk hx
        · rename_i xs hx; cases h; exact does_fieldAddr_row (look_ok hG hd) ho hs hk hx
        · cases h
      · cases h
    · cases h
  · cases h
theorem evField_ok (hG : tysOk P G = true) {s : TypeId} {a : Operand} {k : Nat} (ho : o.op = .field s a k) (h : evField G T H s a k = some (x, H', p)) : Does P B o T H x H' := by
  unfold evField at h
  split at h
  · rename_i d hd
    split at h
    · rename_i fs hs
      split at h
      · rename_i fo z g hk
        split at h
        · rename_i cs hx
          split at h
          · rename_i r hr; cases h; exact does_field (look_ok hG hd) ho hs hk hx hr
          · cases h
        · cases h
      · cases h
    · cases h
  · cases h
theorem evIndexAddr_ok (hG : tysOk P G = true) {t : TypeId} {a b : Operand} (ho : o.op = .indexAddr t a b) (h : evIndexAddr G T H t a b = some (x, H', p)) (hp : p) : Does P B o T H x H' := by
  unfold evIndexAddr at h
  split at h
  · rename_i d hd
    split at h
    · rename_i e hs
      split at h
      · rename_i de he
        split at h
        · rename_i hx hi; cases h; exact does_indexAddr_seq (look_ok hG hd) hs (look_ok hG he) ho hx hi hp
        · rename_i hx hi; cases h; exact does_indexAddr_arr (look_ok hG hd) hs (look_ok hG he) ho hx hi hp
        · cases h
      · cases h
    · rename_i n e hs
      split at h
      · rename_i de he
        split at h
        · rename_i hx hi; cases h; exact does_indexAddr_ptr (look_ok hG hd) hs (look_ok hG he) ho hx hi hp
        · rename_i hx hi; cases h; exact does_indexAddr_row (look_ok hG hd) hs (look_ok hG he) ho hx hi hp
        · cases h
      · cases h
    · cases h
  · cases h
theorem evIndex_ok (hG : tysOk P G = true) {t : TypeId} {a b : Operand} (ho : o.op = .index t a b) (h : evIndex G T H t a b = some (x, H', p)) (hp : p) : Does P B o T H x H' := by
  unfold evIndex at h
  split at h
  · rename_i d hd
    split at h
    · rename_i hs
      split at h
      · rename_i hx hi; cases h; exact does_index_str (look_ok hG hd) hs ho hx hi hp
      · cases h
    · rename_i n e hs
      split at h
      · rename_i de he
        split at h
        · rename_i ha
          split at h
          · rename_i hx hi
            split at h
            · rename_i r hr; cases h; exact does_index_agg (look_ok hG hd) hs (look_ok hG he) ha ho hx hi hp hr
            · cases h
          · cases h
        · cases h
      · cases h
    · cases h
  · cases h
theorem evBox_ok {t : TypeId} {a : Operand} (ho : o.op = .box t a) (h : evBox T H t a = some (x, H', p)) : Does P B o T H x H' := by
  unfold evBox at h
  split at h
  · rename_i xs hx; cases h; exact does_box ho hx
  · cases h
theorem evAlloc_ok (hG : tysOk P G = true) {t : TypeId} (ho : o.op = .alloc t) (h : evAlloc G H t = some (x, H', p)) : Does P B o T H x H' := by
  unfold evAlloc at h
  split at h
  · rename_i d hd; cases h; exact does_alloc (look_ok hG hd) ho
  · cases h
theorem evBuild_ok (hG : tysOk P G = true) {t : TypeId} {parts : Array (Nat × Operand)} (ho : o.op = .build t parts) (h : evBuild G T H t parts = some (x, H', p)) : Does P B o T H x H' := by
  unfold evBuild at h
  split at h
  · rename_i d hd
    split at h
    · rename_i fs hs
      split at h
      · rename_i out hf; cases h; exact does_build_struct (look_ok hG hd) hs ho hf
      · cases h
    · rename_i n e hs
      split at h
      · rename_i de he
        split at h
        · rename_i out hf; cases h; exact does_build_array (look_ok hG hd) hs (look_ok hG he) ho hf
        · cases h
      · cases h
    · cases h
  · cases h
theorem evBuildSlice_ok (hG : tysOk P G = true) {t : TypeId} {n : Nat} {parts : Array (Nat × Operand)} (ho : o.op = .buildSlice t n parts) (h : evBuildSlice G T H t n parts = some (x, H', p)) : Does P B o T H x H' := by
  unfold evBuildSlice at h
  split at h
  · rename_i d hd
    split at h
    · rename_i e hs
      split at h
      · rename_i de he
        split at h
        · rename_i hn
          split at h
          · rename_i out hf; cases h; exact does_buildSlice (look_ok hG hd) hs (look_ok hG he) ho hn hf
          · cases h
        · cases h
      · cases h
    · cases h
  · cases h
theorem evSlice_ok (hG : tysOk P G = true) {t : TypeId} {a : Operand} {lo hi mx : Option Operand} (ho : o.op = .slice t a lo hi mx) (h : evSlice G T H t a lo hi mx = some (x, H', p)) (hp : p) : Does P B o T H x H' := by
  unfold evSlice at h
  split at h
  · rename_i d hd
    split at h
    · rename_i e hs
      split at h
      · rename_i de he
        split at h
        · rename_i n xs s hx
          split at h
          · rename_i l p1 h1 q1 e1 e2
            cases h
            obtain ⟨p1, q1, p2, p3⟩ := hp
            exact does_slice_seq (look_ok hG hd) hs (look_ok hG he) ho hx (bnd_ok e1 p1) (bnd_ok e2 q1) rfl p2 p3
          · rename_i l p1 h1 q1 z e1 e2
            split at h
            · rename_i y m r1 e3
              cases h
              obtain ⟨p1, q1, r1, p0, p2, p3⟩ := hp
              subst p0
              exact does_slice_clip (look_ok hG hd) hs (look_ok hG he) ho hx (bnd_ok e1 p1) (bnd_ok e2 q1) (bnd_ok e3 r1) p2 p3
            · cases h
          · cases h
        · rename_i id off n cap hx
          split at h
          · rename_i l p1 h1 q1 e1 e2
            cases h
            obtain ⟨p1, q1, p2, p3, p4⟩ := hp
            exact does_slice_arr (look_ok hG hd) hs (look_ok hG he) ho hx (bnd_ok e1 p1) (bnd_ok e2 q1) p2 p3 p4
          · cases h
        · cases h
      · cases h
    · rename_i hs
      split at h
      · rename_i s hx
        split at h
        · rename_i l p1 h1 q1 e1 e2
          cases h
          obtain ⟨p1, q1, p2, p3⟩ := hp
          exact does_slice_str (look_ok hG hd) hs ho hx (bnd_ok e1 p1) (bnd_ok e2 q1) p2 p3
        · cases h
      · cases h
    · rename_i n e hs
      split at h
      · rename_i de he
        split at h
        · rename_i id off hx
          cases h
          exact does_slice_ptr (look_ok hG hd) hs (look_ok hG he) ho hx
        · cases h
      · cases h
    · cases h
  · cases h
theorem evConvert_ok (hG : tysOk P G = true) {src dst : TypeId} {a : Operand} (ho : o.op = .convert src dst a) (h : evConvert G T H src dst a = some (x, H', p)) : Does P B o T H x H' := by
  unfold evConvert at h
  split at h
  · rename_i ds dd hs hd
    split at h
    · rename_i hk hx; cases h; exact does_convert_int (look_ok hG hs) (look_ok hG hd) hk ho hx
    · rename_i hk hx; cases h; exact does_convert_str (look_ok hG hs) (look_ok hG hd) hk ho hx
    · rename_i e s hk hx
      split at h
      · rename_i de he
        split at h
        · rename_i h1 h2; cases h; exact does_convert_toBytes (look_ok hG hs) h1 (look_ok hG hd) hk (look_ok hG he) h2 ho hx
        · cases h
      · cases h
    · cases h
  · cases h
theorem evMake_ok (hG : tysOk P G = true) {t : TypeId} {a b : Operand} (ho : o.op = .makeSlice t a b) (h : evMake G T H t a b = some (x, H', p)) (hp : p) : Does P B o T H x H' := by
  unfold evMake at h
  split at h
  · rename_i d hd
    split at h
    · rename_i e hs
      split at h
      · rename_i de he
        split at h
        · rename_i hx hy
          cases h
          obtain ⟨rfl, p1, p2, p3⟩ := hp
          exact does_makeSlice (look_ok hG hd) hs (look_ok hG he) ho hx hy p1 p2 p3
        · cases h
      · cases h
    · cases h
  · cases h
theorem evLen_ok (hG : tysOk P G = true) {args : Array Operand} {ats : Array TypeId} (ho : o.op = .call { callee := .builtin .len, args := args, argTypes := ats }) (h : evLen G T H ats.toList args.toList = some (x, H', p)) : Does P B o T H x H' := by
  unfold evLen at h
  split at h
  · rename_i t a ht ha
    obtain rfl : ats = #[t] := by rw [← Array.toArray_toList (xs := ats), ht]
    obtain rfl : args = #[a] := by rw [← Array.toArray_toList (xs := args), ha]
    split at h
    · rename_i d hd
      split at h
      · rename_i hs hx; cases h; exact does_len_seq (look_ok hG hd) hs ho hx
      · rename_i hs hx; cases h; exact does_len_arr (look_ok hG hd) hs ho hx
      · rename_i hs hx; cases h; exact does_len_str (look_ok hG hd) hs ho hx
      · cases h
    · cases h
  · cases h
theorem evMinMax_ok {mx : Bool} {args : Array Operand} {ats : Array TypeId} (ho : o.op = .call { callee := .builtin (match mx with | true => .max | false => .min), args := args, argTypes := ats }) (h : evMinMax T H mx ats o.type args.toList = some (x, H', p)) : Does P B o T H x H' := by
  unfold evMinMax at h
  split at h
  · rename_i a b ha
    obtain rfl : args = #[a, b] := by rw [← Array.toArray_toList (xs := args), ha]
    split at h
    · rename_i u v hx hy
      split at h
      · rename_i r hr
        cases h
        cases mx with
        | true => exact does_max ho hx hy hr
        | false => exact does_min ho hx hy hr
      · cases h
    · cases h
  · cases h

def evCall (G : List (Nat × TD)) (T : Nat → PV) (H : List Ob) (ty : TypeId) (c : Call) : Ev := match c.callee with
  | .builtin .len => evLen G T H c.argTypes.toList c.args.toList
  | .builtin .max => evMinMax T H true c.argTypes ty c.args.toList
  | .builtin .min => evMinMax T H false c.argTypes ty c.args.toList
  | _ => none
/-- What an operation leaves, the named blocks behind it, and what is asked for that. -/
def evOp (G : List (Nat × TD)) (T : Nat → PV) (H : List Ob) (ty : TypeId) : Op → Ev
  | .move x => some (opv T x, H, True)
  | .assign x => some (opv T x, H, True)
  | .pick c a b => evPick H (opv T c) (opv T a) (opv T b)
  | .binOp op t x y _ => evBin G T H op t x y
  | .unOp op _ x => evUn T H op x
  | .extract x i => evExtract T H x i
  | .nilCheck x => evNil T H x
  | .load t x => evLoad G T H t x
  | .store t x y => evStore G T H t x y
  | .fieldAddr s x k => evFieldAddr G T H s x k
  | .field s x k => evField G T H s x k
  | .indexAddr t x y => evIndexAddr G T H t x y
  | .index t x y => evIndex G T H t x y
  | .box t x => evBox T H t x
  | .alloc t => evAlloc G H t
  | .build t ps => evBuild G T H t ps
  | .buildSlice t n ps => evBuildSlice G T H t n ps
  | .makeFunc f a b => some (.fn f (a.toList.map (opv T)) (b.toList.map (opv T)), H, True)
  | .slice t x l h m => evSlice G T H t x l h m
  | .convert s d x => evConvert G T H s d x
  | .makeSlice t x y => evMake G T H t x y
  | .call c => evCall G T H ty c
  | _ => none
theorem evOp_ok (hG : tysOk P G = true) {op : Op} (ho : o.op = op) (h : evOp G T H o.type op = some (x, H', p)) (hp : p) : Does P B o T H x H' := by
  cases op <;> simp only [evOp] at h
  case move a => cases h; exact does_move ho
  case assign a => cases h; exact does_assign ho
  case pick c a b => exact evPick_ok ho h
  case binOp op t a b yt => exact evBin_ok hG ho h hp
  case unOp op t a => exact evUn_ok ho h
  case extract a i => exact evExtract_ok ho h
  case nilCheck a => exact evNil_ok ho h
  case load t a => exact evLoad_ok hG ho h
  case store t a b => exact evStore_ok hG ho h
  case fieldAddr s a k => exact evFieldAddr_ok hG ho h
  case field s a k => exact evField_ok hG ho h
  case indexAddr t a b => exact evIndexAddr_ok hG ho h hp
  case index t a b => exact evIndex_ok hG ho h hp
  case box t a => exact evBox_ok ho h
  case alloc t => exact evAlloc_ok hG ho h
  case build t ps => exact evBuild_ok hG ho h
  case buildSlice t n ps => exact evBuildSlice_ok hG ho h
  case makeFunc f a b => cases h; exact does_makeFunc ho
  case slice t a l hh m => exact evSlice_ok hG ho h hp
  case convert s d a => exact evConvert_ok hG ho h
  case makeSlice t a b => exact evMake_ok hG ho h hp
  case call c =>
    obtain ⟨callee, args, ats⟩ := c
    unfold evCall at h
    split at h
    · rename_i hc; simp only at hc; subst hc; exact evLen_ok hG ho h
    · rename_i hc; simp only at hc; subst hc; exact evMinMax_ok (mx := true) ho h
    · rename_i hc; simp only at hc; subst hc; exact evMinMax_ok (mx := false) ho h
    · cases h
  all_goals cases h

/-! Values spelled out. -/
end
def nf1 : PV → Option PV
  | .val v => some (.val v)
  | .any => some .any
  | .agg cs => some (.agg cs)
  | .tup cs => some (.tup cs)
  | .ptr i off => some (.ptr i off)
  | .seq n xs s => some (.seq n xs s)
  | .row xs => some (.row xs)
  | .arr i off n cap => some (.arr i off n cap)
  | .fn f a b => some (.fn f a b)
  | .mapv i => some (.mapv i)
theorem nf1_eq {x y : PV} (h : nf1 x = some y) : y = x := by cases x <;> (injection h with h; exact h.symm)
def nfl : List PV → Option (List PV)
  | [] => some []
  | x :: xs => match nf1 x with
    | some y => match nfl xs with
      | some ys => some (y :: ys)
      | none => none
    | none => none
theorem nfl_eq : ∀ {xs ys : List PV}, nfl xs = some ys → ys = xs
  | [], ys, h => by injection h with h; exact h.symm
  | x :: xs, ys, h => by
    simp only [nfl] at h
    split at h
    · rename_i y hy
      split at h
      · rename_i zs hz
        injection h with h
        rw [← h, nf1_eq hy, nfl_eq hz]
      · cases h
    · cases h
def nf : PV → Option PV
  | .val v => some (.val v)
  | .any => some .any
  | .agg cs => match nfl cs with
    | some ds => some (.agg ds)
    | none => none
  | .tup cs => match nfl cs with
    | some ds => some (.tup ds)
    | none => none
  | .ptr i off => some (.ptr i off)
  | .seq n xs s => some (.seq n xs s)
  | .row xs => some (.row xs)
  | .arr i off n cap => some (.arr i off n cap)
  | .fn f a b => some (.fn f a b)
  | .mapv i => some (.mapv i)
theorem nf_eq {x y : PV} (h : nf x = some y) : y = x := by
  cases x <;> simp only [nf] at h <;> first
    | (injection h with h; exact h.symm)
    | (split at h
       · rename_i ds hd
         injection h with h
         rw [← h, nfl_eq hd]
       · cases h)
def nfo : Ob → Option Ob
  | .cells xs e => match nfl xs with
    | some ys => some (.cells ys e)
    | none => none
  | .free m => some (.free m)
  | .dead => some .dead
theorem nfo_eq {x y : Ob} (h : nfo x = some y) : y = x := by
  cases x <;> simp only [nfo] at h
  · split at h
    · rename_i ys hy
      injection h with h
      rw [← h, nfl_eq hy]
    · cases h
  · injection h with h; exact h.symm
  · injection h with h; exact h.symm
def nfH : List Ob → Option (List Ob)
  | [] => some []
  | x :: xs => match nfo x with
    | some y => match nfH xs with
      | some ys => some (y :: ys)
      | none => none
    | none => none
theorem nfH_eq : ∀ {xs ys : List Ob}, nfH xs = some ys → ys = xs
  | [], ys, h => by injection h with h; exact h.symm
  | x :: xs, ys, h => by
    simp only [nfH] at h
    split at h
    · rename_i y hy
      split at h
      · rename_i zs hz
        injection h with h
        rw [← h, nfo_eq hy, nfH_eq hz]
      · cases h
    · cases h
def evN (G : List (Nat × TD)) (T : Nat → PV) (H : List Ob) (ty : TypeId) (op : Op) : Ev := match evOp G T H ty op with
  | some (x, H', p) => match nf x with
    | some y => match nfH H' with
      | some H2 => some (y, H2, p)
      | none => none
    | none => none
  | none => none
/-- The same for a state whose named blocks are not spelled out: they stay. -/
def evS (G : List (Nat × TD)) (T : Nat → PV) (H : List Ob) (ty : TypeId) (op : Op) : Ev := match evOp G T H ty op with
  | some (x, H', p) => match nf x with
    | some y => some (y, H', p)
    | none => none
  | none => none
section
variable {P : Program} {B : Nat → Nat → Prop} {o : Oper} {G : List (Nat × TD)} {T : Nat → PV} {H : List Ob} {x : PV} {H' : List Ob} {p : Prop}
theorem evN_ok {ty : TypeId} {op : Op} (h : evN G T H ty op = some (x, H', p)) : evOp G T H ty op = some (x, H', p) := by
  unfold evN at h
  split at h
  · rename_i y H1 q he
    split at h
    · rename_i z hz
      split at h
      · rename_i H2 hH
        cases h
        rw [he, nf_eq hz, nfH_eq hH]
      · cases h
    · cases h
  · cases h
theorem evS_ok {ty : TypeId} {op : Op} (h : evS G T H ty op = some (x, H', p)) : evOp G T H ty op = some (x, H', p) := by
  unfold evS at h
  split at h
  · rename_i y H1 q he
    split at h
    · rename_i z hz
      cases h
      rw [he, nf_eq hz]
    · cases h
  · cases h
variable {n : Nat} {all : Array Oper} {l : List Oper} {K : (Nat → PV) → List Ob → Prop}
/-- One operation. -/
theorem WO_ev (hG : tysOk P G = true) (hw : wantedA all T o = some true) {d : Option Tmp} (hd : nfD n o.dst = some d) (h : evN G T H o.type o.op = some (x, H', p)) (hp : p) (k : WO P B n all l (updD d x T) H' K) : WO P B n all (o :: l) T H K :=
  WO_does hd hw (evOp_ok hG rfl (evN_ok h) hp) k
theorem WO_evs (hG : tysOk P G = true) (hw : wantedA all T o = some true) {d : Option Tmp} (hd : nfD n o.dst = some d) (h : evS G T H o.type o.op = some (x, H', p)) (hp : p) (k : WO P B n all l (updD d x T) H' K) : WO P B n all (o :: l) T H K :=
  WO_does hd hw (evOp_ok hG rfl (evS_ok h) hp) k
theorem WO_move (hw : wantedA all T o = some true) {d : Option Tmp} (hd : nfD n o.dst = some d) {y : Operand} (ho : o.op = .move y ∨ o.op = .assign y) (hx : opv T y = x) (k : WO P B n all l (updD d x T) H K) : WO P B n all (o :: l) T H K :=
  WO_does hd hw (hx ▸ (match ho with | .inl h => does_move h | .inr h => does_assign h)) k
end
theorem leaf_val {x : PV} {u v : Value} (h : x = .val u) (e : u = v) : Imp x (.val v) := fun _ _ k => by rw [h, e] at k; exact k
theorem leaf_bool {x : PV} {u v : Bool} (h : x = .val (.bool u)) (e : u = v) : Imp x (.val (.bool v)) := fun _ _ k => by rw [h, e] at k; exact k
theorem leaf_int {x : PV} {i : IntKind} {u v : Int} (h : x = .val (.int i u)) (e : u = v) : Imp x (.val (.int i v)) := fun _ _ k => by rw [h, e] at k; exact k
theorem leaf_eq {x y z : PV} (h : x = y) (e : y = z) : Imp x z := fun _ _ k => by rw [h, e] at k; exact k
theorem leaf_imp {x y z : PV} (h : x = y) (e : Imp y z) : Imp x z := fun _ _ k => by rw [h] at k; exact e _ _ k
end Go.Proofs.Ytkchnmilmepnfaa
