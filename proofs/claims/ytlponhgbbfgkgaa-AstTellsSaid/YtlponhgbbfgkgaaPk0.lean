import Derived.Below
import Derived.Calls
import Derived.Laws.AppendOwn
import Derived.Laws.CopyRow
import Derived.Laws.MakeOwn
import Derived.LoopIn
import Derived.LoopNIn
import Derived.Orders
import Derived.OwnWalkIn
import Derived.RangeFuncBox
import Derived.RangeFuncLeaves
import Derived.RangeFuncNested
import Derived.Shelf.Abstract
import Derived.TacticsInMore
import Derived.Test.YtlponhgbbfgkgaaProg
import Derived.WalkKit
set_option linter.unusedVariables false
set_option linter.unusedSimpArgs false
namespace Go.Proofs.Ytlponhgbbfgkgaa
open Go.RowKit Go.Shelf
attribute [local go_sem] Oper.semAt_some
abbrev WX := { x : ByteArray × Int × Int // x.1.size ≤ 9223372036854775807 ∧ 0 ≤ x.2.2 ∧ x.2.2 ≤ 7 }
abbrev wv (x : WX) : Value := .agg #[.string x.1.1, .int .i64 x.1.2.1, .int .i64 x.1.2.2]
def backL {α : Type} (f : Nat → α) (len k : Nat) : List α := (List.range k).map fun j => f (len - 1 - j)
theorem backL_succ {α : Type} (f : Nat → α) (len k : Nat) : backL f len (k + 1) = backL f len k ++ [f (len - 1 - k)] := by simp [backL, List.range_succ]
theorem backL_length {α : Type} (f : Nat → α) (len k : Nat) : (backL f len k).length = k := by simp [backL]
set_option maxRecDepth 100000 in
set_option maxHeartbeats 2000000 in
theorem back1_in (l Bs n₀ b off len cap : Nat) (z : Nat → WX) (hreach : len * 32 ≤ 140737488351232) (hb : b < n₀) (hBn : Bs < n₀) (J Jx : List (Nat × WX) → World → Prop)
  (hY : ∀ pre x W, J pre W → pre.length < len → YieldAt Fence.wide 9 Try.prog l #[.int .i64 (x.1 : Int), wv x.2] W fun e W' =>
   (e = .returned (.bool true) ∧ J (pre ++ [x]) W' ∧ Below n₀ W W') ∨ (e = .returned (.bool false) ∧ Jx (pre ++ [x]) W'))
  (W : World) (hBs : W.cell? ⟨Bs, 0, none⟩ = some (.slice (some ⟨b, off, none⟩) len cap))
  (hc0 : ∀ j, j < len → W.cell? ⟨b, off + j * 3, none⟩ = some (.string (z j).1.1)) (hc1 : ∀ j, j < len → W.cell? ⟨b, off + j * 3 + 1, none⟩ = some (.int .i64 (z j).1.2.1)) (hc2 : ∀ j, j < len → W.cell? ⟨b, off + j * 3 + 2, none⟩ = some (.int .i64 (z j).1.2.2)) (h0 : J [] W) :
  CallsIn Fence.wide 10 Try.prog 101 #[.func (.yield l) #[] #[], .pointer (some ⟨Bs, 0, none⟩)] W fun e W' => (∃ v, e = .returned v) ∧
   ((∃ ys, ys = backL (fun j => (j, z j)) len len ∧ J ys W') ∨ (∃ pre, (∃ k, k ≤ len ∧ pre = backL (fun j => (j, z j)) len k) ∧ Jx pre W')) := by
 refine callsIn_of_wp Try.func101 rfl trivial ?_ rfl
 simp only [Try.ntmps101, List.size_toArray, List.length_cons, List.length_nil, Nat.reduceAdd, Nat.reduceSub, Array.replicate_succ, Array.replicate_zero, List.push_toArray, List.append_toArray, List.nil_append, List.cons_append]
 gi_wp2
 gi_loopw [3] (fun i wr => ∃ k : Nat, k ≤ len ∧ i = .int .i64 ((len : Int) - 1 - (k : Int)) ∧ J (backL (fun j => (j, z j)) len k) wr ∧ Below n₀ W wr)
  (fun i _ => (intOf i + 1).toNat)
 case atStart => exact ⟨0, Nat.zero_le _, by first | (simp; done) | (simp; omega), h0, Below.refl _ _⟩
 case round =>
  obtain ⟨k, hk, rfl, hJs, hnx⟩ := hrel
  by_cases hlt : k < len
  ·obtain ⟨j, hj⟩ : ∃ j : Nat, (len : Int) - 1 - (k : Int) = (j : Int) := ⟨len - 1 - k, by omega⟩
   rw [hj]
   have hjl : j < len := by omega
   have ej : len - 1 - k = j := by omega
   obtain ⟨fn, tmps, assign, body, hy, hR⟩ := hY _ (j, z j) wr hJs (by rw [backL_length]; exact hlt)
   dsimp only at hy
   have hBs' : wr.cell? ⟨Bs, 0, none⟩ = some (.slice (some ⟨b, off, none⟩) len cap)  := (hnx.cell (p := ⟨Bs, 0, none⟩) hBn).trans hBs
   have g0 := (hnx.cell (p := ⟨b, off + j * 3, none⟩) hb).trans (hc0 j hjl)
   have g1 := (hnx.cell (p := ⟨b, off + j * 3 + 1, none⟩) hb).trans (hc1 j hjl)
   have g2 := (hnx.cell (p := ⟨b, off + j * 3 + 2, none⟩) hb).trans (hc2 j hjl)
   gi_wp2
   refine hR.mono ?_
   rintro e W3 (⟨rfl, hJ3, hk3⟩ | ⟨rfl, hJx3⟩)
   ·gi_wp2
    go_roundw
    case rel => exact ⟨k + 1, by omega, by first | (simp; done) | (simp; omega), by rw [backL_succ, ej]; exact hJ3, hnx.trans hk3⟩
    case measure => first | (simp [intOf]; done) | (simp [intOf]; omega)
   ·gi_wp2
    refine bodyPost_ret (results_none rfl _ _ _) rfl ?_
    exact ⟨⟨_, rfl⟩, .inr ⟨_, ⟨k + 1, by omega, by rw [backL_succ, ej]⟩, hJx3⟩⟩
  ·obtain rfl : k = len := by omega
   gi_wp2
   go_end0
   exact ⟨⟨_, rfl⟩, .inl ⟨_, rfl, hJs⟩⟩
set_option maxRecDepth 100000 in
set_option maxHeartbeats 2000000 in
theorem back1_nil_in (l Bs n₀ : Nat) (hBn : Bs < n₀) (J : List (Nat × WX) → World → Prop) (W : World) (a : Option Addr) (cap : Nat) (hBs : W.cell? ⟨Bs, 0, none⟩ = some (.slice a 0 cap)) (h0 : J [] W) :
  CallsIn Fence.wide 10 Try.prog 101 #[.func (.yield l) #[] #[], .pointer (some ⟨Bs, 0, none⟩)] W fun e W' => (∃ v, e = .returned v) ∧ J [] W' := by
 refine callsIn_of_wp Try.func101 rfl trivial ?_ rfl
 simp only [Try.ntmps101, List.size_toArray, List.length_cons, List.length_nil, Nat.reduceAdd, Nat.reduceSub, Array.replicate_succ, Array.replicate_zero, List.push_toArray, List.append_toArray, List.nil_append, List.cons_append]
 gi_wp2
 gi_loopw [3] (fun i wr => i = .int .i64 (-1) ∧ J [] wr) (fun _ _ => 0)
 case atStart => exact ⟨rfl, h0⟩
 case round =>
  obtain ⟨rfl, hJs⟩ := hrel
  gi_wp2
  go_end0
  exact ⟨⟨_, rfl⟩, hJs⟩
def WordsAt (n₀ : Nat) (W : World) (sv : Value) (len : Nat) (z : Nat → WX) : Prop :=
 (∃ a cap, sv = .slice a 0 cap ∧ len = 0) ∨ ∃ b off cap, sv = .slice (some ⟨b, off, none⟩) len cap ∧ b < n₀ ∧ (∀ j, j < len → W.cell? ⟨b, off + j * 3, none⟩ = some (.string (z j).1.1)) ∧
  (∀ j, j < len → W.cell? ⟨b, off + j * 3 + 1, none⟩ = some (.int .i64 (z j).1.2.1)) ∧ (∀ j, j < len → W.cell? ⟨b, off + j * 3 + 2, none⟩ = some (.int .i64 (z j).1.2.2))
theorem WordsAt.below {n₀ : Nat} {A B : World} (h : Below n₀ A B) {sv : Value} {len : Nat} {z : Nat → WX} : WordsAt n₀ A sv len z → WordsAt n₀ B sv len z
 | .inl e => .inl e
 | .inr ⟨b, off, cap, e, hb, h0, h1, h2⟩ => .inr ⟨b, off, cap, e, hb, fun j hj => (h.cell (p := ⟨b, off + j * 3, none⟩) hb).trans (h0 j hj), fun j hj => (h.cell (p := ⟨b, off + j * 3 + 1, none⟩) hb).trans (h1 j hj), fun j hj => (h.cell (p := ⟨b, off + j * 3 + 2, none⟩) hb).trans (h2 j hj)⟩
set_option maxHeartbeats 2000000 in
theorem back_in (a : Option Addr) (len cap : Nat) (w : World) :
  CallsIn Fence.wide 10 Try.prog 93 #[.slice a len cap] w fun e w' => e = .returned (.func (.func 101) #[] #[.pointer (some ⟨w.heap.size, 0, none⟩)]) ∧ w' = w.alloc (.cells #[.slice a len cap] 30) := by
 refine callsIn_of_wp Try.func93 rfl trivial ?_ rfl
 simp only [Try.ntmps93, List.size_toArray, List.length_cons, List.length_nil, Nat.reduceAdd, Nat.reduceSub, Array.replicate_succ, Array.replicate_zero, List.push_toArray, List.append_toArray, List.nil_append, List.cons_append]
 gi_wp2
 go_ret
 exact ⟨rfl, rfl⟩
theorem back_stops (Bs n₀ : Nat) (sv : Value) (len : Nat) (z : Nat → WX) (hreach : len * 32 ≤ 140737488351232) (w : World) (hBs : Bs < w.heap.size) (hBn : Bs < n₀) (hn₀ : n₀ ≤ w.heap.size)
  (hc : w.cell? ⟨Bs, 0, none⟩ = some sv) (hI : WordsAt n₀ w sv len z) :
  SeqStopsK Fence.wide 10 Try.prog 101 #[.pointer (some ⟨Bs, 0, none⟩)] (fun x : Nat × WX => #[Value.int .i64 (x.1 : Int), wv x.2]) (Below n₀) (fun ys => ys = backL (fun j => (j, z j)) len len)
   (fun pre => ∃ k, k ≤ len ∧ pre = backL (fun j => (j, z j)) len k) len w := fun l J Jx W hW _ _ hY h0 => by
 have hc' := (hW.cell (p := ⟨Bs, 0, none⟩) hBs).trans hc
 rcases hI.below (hW.mono hn₀) with ⟨a, cap, rfl, rfl⟩ | ⟨b, off, cap, rfl, hb, h1, h2, h3⟩
 ·exact (back1_nil_in l Bs n₀ hBn J W a cap hc' h0).mono fun e W' ⟨he, hj⟩ => ⟨he, .inl ⟨_, rfl, hj⟩⟩
 ·exact back1_in l Bs n₀ b off len cap z hreach hb hBn J Jx hY W hc' h1 h2 h3 h0
end Go.Proofs.Ytlponhgbbfgkgaa
namespace Go.Proofs.Ytlponhgbbfgkgaa
open Go.RowKit Go.Shelf
attribute [local go_sem] Oper.semAt_some
def Box3 (W : World) (B : Nat) (t : TypeId) (a b c : Value) : Prop := W.heap[B]? = some (.cells #[a, b, c] t (0, 0))
theorem Box3.lt {W : World} {B : Nat} {t : TypeId} {a b c : Value} (h : Box3 W B t a b c) : B < W.heap.size := (Array.getElem?_eq_some_iff.1 h).1
theorem Box3.c0 {W : World} {B : Nat} {t : TypeId} {a b c : Value} (h : Box3 W B t a b c) : W.cell? ⟨B, 0, none⟩ = some a := by simp [World.cell?, show W.heap[B]? = _ from h]
theorem Box3.c1 {W : World} {B : Nat} {t : TypeId} {a b c : Value} (h : Box3 W B t a b c) : W.cell? ⟨B, 1, none⟩ = some b := by simp [World.cell?, show W.heap[B]? = _ from h]
theorem Box3.c2 {W : World} {B : Nat} {t : TypeId} {a b c : Value} (h : Box3 W B t a b c) : W.cell? ⟨B, 2, none⟩ = some c := by simp [World.cell?, show W.heap[B]? = _ from h]
theorem Box3.f0 {W : World} {B : Nat} {t : TypeId} {a b c : Value} (h : Box3 W B t a b c) (k : Nat) : W.frozen? ⟨B, k, none⟩ = false := by simp [World.frozen?, show W.heap[B]? = _ from h]
theorem Box3.new (W : World) (t : TypeId) (a b c : Value) : Box3 (W.alloc (.cells #[a, b, c] t)) W.heap.size t a b c := World.alloc_heap_new W _
theorem Box3.kept {W W' : World} {row : Option Nat} {B : Nat} {t : TypeId} {a b c : Value} (h : Box3 W B t a b c) (hg : W.grownBy W' row) (hne : some B ≠ row) : Box3 W' B t a b c := (hg.block B h.lt hne).trans h
theorem Box3.alloc {W : World} {B : Nat} {t : TypeId} {a b c : Value} (h : Box3 W B t a b c) (o : Obj) : Box3 (W.alloc o) B t a b c := h.kept (World.grownBy_alloc W o none) (by simp)
theorem Box3.below {W W' : World} {B : Nat} {t : TypeId} {a b c : Value} (h : Box3 W B t a b c) (k : Below W.heap.size W W') : Box3 W' B t a b c := (k.block B h.lt).trans h
theorem boxed_below {W W' : World} {B : Nat} {t : TypeId} {v : Value} (h : Boxed W B t v) (k : Below W.heap.size W W') : Boxed W' B t v := (k.block B h.lt).trans h
theorem box3_own {β : Type} (B : Nat) (t : TypeId) (a b c : β → Value) : Own (fun s W => Box3 W B t (a s) (b s) (c s)) := fun s X Y row h hg hr => h.kept hg fun e => by
 obtain ⟨o, ho, hc⟩ := hr B e.symm
 rw [show X.heap[B]? = _ from h] at ho; cases ho; cases hc
theorem keeps_below {W W' : World} (h : Below W.heap.size W W') : KeepsOthers W W' :=
 ⟨h.size, fun k o hk _ => (h.block k (Array.getElem?_eq_some_iff.1 hk).1).trans hk⟩
theorem ownP {β : Type} (I : β → Prop) (B : Nat) : OwnFrom B (fun s (_ : World) => I s) := fun _ _ _ _ h _ _ => h
theorem box3_set {W : World} {B : Nat} {t : TypeId} {a b c : Value} (h : Box3 W B t a b c) (a' b' c' : Value) : Box3 (((W.setCell ⟨B, 0, none⟩ a').setCell ⟨B, 1, none⟩ b').setCell ⟨B, 2, none⟩ c') B t a' b' c' := by
 obtain ⟨hlt, hk⟩ := Array.getElem?_eq_some_iff.1 h
 unfold Box3 World.setCell
 simp [hlt, Array.getElem_modify, hk]
theorem box3_other {W : World} {B B' k : Nat} {t : TypeId} {a b c v : Value} (h : Box3 W B t a b c) (hne : B ≠ B') : Box3 (W.setCell ⟨B', k, none⟩ v) B t a b c :=
 (Below.heap_setCell _ _ _ B hne).trans h
theorem boxed_other {W : World} {B B' k : Nat} {t : TypeId} {u v : Value} (h : Boxed W B t u) (hne : B ≠ B') : Boxed (W.setCell ⟨B', k, none⟩ v) B t u :=
 (Below.heap_setCell _ _ _ B hne).trans h
theorem box_puts {W : World} {A : Nat} {t0 t1 t2 : TypeId} {a b c u v : Value} (h4 : Box3 W A t0 a b c) (h5 : Boxed W (A + 1) t1 u) (h6 : Boxed W (A + 1 + 1) t2 v) (a' b' c' u' v' : Value) {W' : World}
  (hW : ((((W.setCell ⟨A, 0, none⟩ a').setCell ⟨A, 1, none⟩ b').setCell ⟨A, 2, none⟩ c').setCell ⟨A + 1, 0, none⟩ u').setCell ⟨A + 1 + 1, 0, none⟩ v' = W') :
  (Box3 W' A t0 a' b' c' ∧ Boxed W' (A + 1) t1 u' ∧ Boxed W' (A + 1 + 1) t2 v') ∧ KeepsOthers W W' ∧ (∀ n, n ≤ A → Below n W W') := by
 subst hW
 refine ⟨⟨?_, ?_, ?_⟩, ?_, fun n hn => ?_⟩
 ·exact box3_other (box3_other (box3_set h4 a' b' c') (by omega)) (by omega)
 ·exact boxed_other ((boxed_other (boxed_other (boxed_other h5 (by omega)) (by omega)) (by omega)).set u') (by omega)
 ·exact (boxed_other (boxed_other (boxed_other (boxed_other h6 (by omega)) (by omega)) (by omega)) (by omega)).set v'
 ·exact ((((KeepsOthers.setCell _ _ _).trans (KeepsOthers.setCell _ _ _)).trans (KeepsOthers.setCell _ _ _)).trans (KeepsOthers.setCell _ _ _)).trans (KeepsOthers.setCell _ _ _)
 ·exact (((((Below.refl n W).setCell (p := ⟨A, 0, none⟩) hn _).setCell (p := ⟨A, 1, none⟩) hn _).setCell (p := ⟨A, 2, none⟩) hn _).setCell (p := ⟨A + 1, 0, none⟩) (Nat.le_succ_of_le hn) _).setCell (p := ⟨A + 1 + 1, 0, none⟩) (Nat.le_succ_of_le (Nat.le_succ_of_le hn)) _
set_option maxRecDepth 100000 in
set_option maxHeartbeats 4000000 in
theorem last_in (a : Option Addr) (len cap : Nat) (nb : Addr) (z : Nat → WX) (p : WX → Bool) (hreach : len * 32 ≤ 140737488351232) (w : World) (hI : WordsAt w.heap.size w (.slice a len cap) len z)
  (hso : ∀ W, Below w.heap.size w W → ∀ x, Calls Try.prog 74 #[wv x, .pointer (some nb)] W fun e W' => e = .returned (.bool (p x)) ∧ Below W.heap.size W W') :
  CallsIn Fence.wide 11 Try.prog 73 #[.slice a len cap, .func (.func 74) #[] #[.pointer (some nb)]] w fun e W' =>
   ((e = .returned (.tuple #[.agg #[.string ⟨#[]⟩, .int .i64 0, .int .i64 0], .int .i64 0, .bool false]) ∧ ∀ j, j < len → p (z j) = false) ∨ (∃ k : Nat, k < len ∧ e = .returned (.tuple #[wv (z k), .int .i64 k, .bool true]) ∧ p (z k) = true ∧ ∀ j, k < j → j < len → p (z j) = false)) ∧ Below w.heap.size w W' := by
 refine callsIn_of_wp_marks Try.func73 rfl trivial ?_ rfl
 simp only [Try.ntmps73, List.size_toArray, List.length_cons, List.length_nil, Nat.reduceAdd, Nat.reduceSub, Array.replicate_succ, Array.replicate_zero, List.push_toArray, List.append_toArray, List.nil_append, List.cons_append]
 gi_wp2_with (refine ⟨trivial, ?_⟩; gi_at_call 93; refine (back_in _ _ _ _).mono ?_; rintro e w' ⟨rfl, rfl⟩)
 have hB0 : Below w.heap.size w (((((w.alloc (.cells #[.func (.func 74) #[] #[.pointer (some nb)]] 131)).alloc (.cells #[.string ⟨#[]⟩, .int .i64 0, .int .i64 0] 111)).alloc (.cells #[.int .i64 0] 3)).alloc (.cells #[.bool false] 4)).alloc (.cells #[.slice a len cap] 30)) :=
  (((((Below.refl _ w).alloc (Nat.le_refl _) _).alloc (by simp) _).alloc (by simp; omega) _).alloc (by simp; omega) _).alloc (by simp; omega) _
 have b3 := ((((Boxed.new w 131 (.func (.func 74) #[] #[.pointer (some nb)])).alloc (.cells #[.string ⟨#[]⟩, .int .i64 0, .int .i64 0] 111)).alloc (.cells #[.int .i64 0] 3)).alloc (.cells #[.bool false] 4)).alloc (.cells #[.slice a len cap] 30)
 have b4 := (((Box3.new (w.alloc (.cells #[.func (.func 74) #[] #[.pointer (some nb)]] 131)) 111 (.string ⟨#[]⟩) (.int .i64 0) (.int .i64 0)).alloc (.cells #[.int .i64 0] 3)).alloc (.cells #[.bool false] 4)).alloc (.cells #[.slice a len cap] 30)
 have b5 := ((Boxed.new ((w.alloc (.cells #[.func (.func 74) #[] #[.pointer (some nb)]] 131)).alloc (.cells #[.string ⟨#[]⟩, .int .i64 0, .int .i64 0] 111)) 3 (.int .i64 0)).alloc (.cells #[.bool false] 4)).alloc (.cells #[.slice a len cap] 30)
 have b6 := (Boxed.new (((w.alloc (.cells #[.func (.func 74) #[] #[.pointer (some nb)]] 131)).alloc (.cells #[.string ⟨#[]⟩, .int .i64 0, .int .i64 0] 111)).alloc (.cells #[.int .i64 0] 3)) 4 (.bool false)).alloc (.cells #[.slice a len cap] 30)
 have bN := Boxed.new ((((w.alloc (.cells #[.func (.func 74) #[] #[.pointer (some nb)]] 131)).alloc (.cells #[.string ⟨#[]⟩, .int .i64 0, .int .i64 0] 111)).alloc (.cells #[.int .i64 0] 3)).alloc (.cells #[.bool false] 4)) 30 (.slice a len cap)
 simp only [World.size_alloc] at b4 b5 b6 bN
 obtain ⟨W0, hW0⟩ : ∃ W0, ((((w.alloc (.cells #[.func (.func 74) #[] #[.pointer (some nb)]] 131)).alloc (.cells #[.string ⟨#[]⟩, .int .i64 0, .int .i64 0] 111)).alloc (.cells #[.int .i64 0] 3)).alloc (.cells #[.bool false] 4)).alloc (.cells #[.slice a len cap] 30) = W0 := ⟨_, rfl⟩
 have hsz : W0.heap.size = w.heap.size + 5 := by rw [← hW0]; simp
 rw [hW0] at hB0 b3 b4 b5 b6 bN ⊢
 clear hW0
 refine wpIn_rangeFunc_ownH rfl (by decide) (gf := 101) (lb := #[.pointer (some ⟨w.heap.size + 1 + 1 + 1 + 1, 0, none⟩)]) rfl trivial (enters_of Try.func101 (by kernel_rfl) rfl)
  (back_stops (w.heap.size + 1 + 1 + 1 + 1) W0.heap.size (.slice a len cap) len z hreach W0 (by omega) (by omega) (Nat.le_refl _) bN.cell (by
   rcases hI.below hB0 with h | ⟨b, off, cap', e, hb, h0, h1, h2⟩
   ·exact .inl h
   ·exact .inr ⟨b, off, cap', e, by omega, h0, h1, h2⟩)) belowK_t (belowK_b (Nat.le_refl _)) (Below.refl _ _) (fun _ => rfl)
  (fun pre W => ((∀ q ∈ pre, p q.2 = false) ∧ Boxed W w.heap.size 131 (.func (.func 74) #[] #[.pointer (some nb)]) ∧ Box3 W (w.heap.size + 1) 111 (.string ⟨#[]⟩) (.int .i64 0) (.int .i64 0) ∧ Boxed W (w.heap.size + 1 + 1) 3 (.int .i64 0) ∧ Boxed W (w.heap.size + 1 + 1 + 1) 4 (.bool false)) ∧ Below w.heap.size w W ∧ W0.heap.size ≤ W.heap.size)
  (fun c pre W => (c = .ret ∧ ∃ ini q, pre = ini ++ [q] ∧ (∀ q ∈ ini, p q.2 = false) ∧ p q.2 = true ∧ Box3 W (w.heap.size + 1) 111 (.string q.2.1.1) (.int .i64 q.2.1.2.1) (.int .i64 q.2.1.2.2) ∧ Boxed W (w.heap.size + 1 + 1) 3 (.int .i64 (q.1 : Int)) ∧ Boxed W (w.heap.size + 1 + 1 + 1) 4 (.bool true)) ∧ Below w.heap.size w W)
  (OwnFrom.and (OwnFrom.and (ownP _ _) (OwnFrom.and (Own.from (boxed_own _ _ _) _) (OwnFrom.and (Own.from (box3_own _ _ _ _ _) _) (OwnFrom.and (Own.from (boxed_own _ _ _) _) (Own.from (boxed_own _ _ _) _))))) (OwnFrom.and (ownFrom_below (Nat.le_refl _) (by omega)) (fun _ _ _ _ h hg _ => Nat.le_trans h hg.size)))
  (fun c => OwnFrom.and (fun s X Y row hs hg hr => by
   obtain ⟨hc, ini, q, e1, e2, e3, e4, e5, e6⟩ := hs
   exact ⟨hc, ini, q, e1, e2, e3, box3_own _ _ (fun (_ : Unit) => _) (fun _ => _) (fun _ => _) () X Y row e4 hg (fun r e => (hr r e).2), boxed_own _ _ (fun (_ : Unit) => _) () X Y row e5 hg (fun r e => (hr r e).2), boxed_own _ _ (fun (_ : Unit) => _) () X Y row e6 hg (fun r e => (hr r e).2)⟩) (ownFrom_below (Nat.le_refl _) (by omega)))
  ⟨⟨(fun q hq => nomatch hq), b3, b4, b5, b6⟩, hB0, Nat.le_refl _⟩
  (fun x a' W => ∃ Bx, w.heap.size + 1 + 1 + 1 < Bx ∧ Box3 W Bx 111 (.string x.2.1.1) (.int .i64 x.2.1.2.1) (.int .i64 x.2.1.2.2) ∧ a' = { tmps := #[.slice a len cap, .func (.func 74) #[] #[.pointer (some nb)], undef, .pointer (some ⟨w.heap.size, 0, none⟩), .pointer (some ⟨w.heap.size + 1, 0, none⟩), .pointer (some ⟨w.heap.size + 1 + 1, 0, none⟩), .pointer (some ⟨w.heap.size + 1 + 1 + 1, 0, none⟩), .int .i64 (x.1 : Int), .pointer (some ⟨Bx, 0, none⟩), undef, .slice a len cap, .func (.func 101) #[] #[.pointer (some ⟨w.heap.size + 1 + 1 + 1 + 1, 0, none⟩)], .int .i64 (x.1 : Int), wv x.2, undef, undef, undef, undef, undef, undef], defers := [] })
  (fun x a' _ X Y row hs hg hr => by obtain ⟨Bx, h1, h2, h3⟩ := hs; exact ⟨Bx, h1, box3_own Bx 111 (fun (_ : Unit) => _) (fun _ => _) (fun _ => _) () X Y row h2 hg (fun r e => (hr r e).2), h3⟩)
  ?assign ?body ?done ?stop
 case assign =>
  rintro l pre x W K ⟨⟨hp, c3, c4, c5, c6⟩, hB1, hsW⟩ hK
  gi_wp2
  exact hK _ _ ((KeepsOthers.alloc _ _).from _) ((Below.refl _ W).alloc hsW _) ⟨⟨hp, c3.alloc _, c4.alloc _, c5.alloc _, c6.alloc _⟩, hB1.alloc hB1.size _, by simp; omega⟩ ⟨W.heap.size, c6.lt, Box3.new W 111 _ _ _, rfl⟩
 case body =>
  rintro l pre x a' W hl ⟨r, hr⟩ ⟨⟨hp, c3, c4, c5, c6⟩, hB1, hsW⟩ ⟨Bx, hBx, bX, rfl⟩ hlt
  have k3 := c3.cell
  have x0 := bX.c0
  have x1 := bX.c1
  have x2 := bX.c2
  gi_wp2_with (refine ⟨trivial, ?_⟩; gi_at_call 74; refine (CallsIn.inRound l (callsIn_wide.2 (hso W hB1 x.2))).mono ?_; rintro e w' ⟨rfl, hbel⟩; have q4 := c4.below hbel; have q40 := q4.c0; have q41 := q4.c1; have q42 := q4.c2; have r40 := q4.f0 0; have r41 := q4.f0 1; have r42 := q4.f0 2; have qx := bX.below hbel; have qx0 := qx.c0; have qx1 := qx.c1; have qx2 := qx.c2; have q5 := boxed_below c5 hbel; have q50 := q5.cell; have r50 := q5.frozen; have q6 := boxed_below c6 hbel; have q60 := q6.cell; have r60 := q6.frozen)
  ·have hpx : p x.2 = true := by assumption
   obtain ⟨⟨g4, g5, g6⟩, gk, gb⟩ := box_puts (W := _) q4 q5 q6 (.string x.2.1.1) (.int .i64 x.2.1.2.1) (.int .i64 x.2.1.2.2) (.int .i64 (x.1 : Int)) (.bool true) rfl
   exact ⟨((keeps_below hbel).trans gk).from _, ⟨rfl, pre, x, rfl, hp, hpx, g4, g5, g6⟩, hB1.trans ((hbel.mono hB1.size).trans (gb _ (by omega)))⟩
  ·have hpx : p x.2 = false := by assumption
   exact ⟨(keeps_below hbel).from _, hbel.mono hsW, ⟨(fun q hq => (List.mem_append.1 hq).elim (hp q) (fun e => by simp at e; subst e; exact hpx)), boxed_below c3 hbel, q4, q5, q6⟩, hB1.trans (hbel.mono hB1.size), Nat.le_trans hsW hbel.size⟩
 case done =>
  rintro D ys W hD rfl ⟨⟨hp, c3, c4, c5, c6⟩, hB, hsW⟩ hK
  have q4 := c4.alloc (.cells #[.string ⟨#[]⟩, .int .i64 0, .int .i64 0] 111)
  have q40 := q4.c0
  have q41 := q4.c1
  have q42 := q4.c2
  have r40 := q4.f0 0
  have r41 := q4.f0 1
  have r42 := q4.f0 2
  have q5 := c5.alloc (.cells #[.string ⟨#[]⟩, .int .i64 0, .int .i64 0] 111)
  have q50 := q5.cell
  have r50 := q5.frozen
  have q6 := c6.alloc (.cells #[.string ⟨#[]⟩, .int .i64 0, .int .i64 0] 111)
  have q60 := q6.cell
  have r60 := q6.frozen
  gi_wp2
  obtain ⟨⟨g4, g5, g6⟩, gk, gb⟩ := box_puts (W := _) q4 q5 q6 (.string ⟨#[]⟩) (.int .i64 0) (.int .i64 0) (.int .i64 0) (.bool false) rfl
  have hK' := gk.same D _ ((Below.heap_alloc W _ D (Array.getElem?_eq_some_iff.1 hK).1).trans hK) rfl
  refine ⟨by simp, .inl ⟨_, _, rfl, run_takeDeferred hK', ?_⟩⟩
  have ck : ∀ {q : Addr} {v : Value}, _ → _ := fun {q} {v} h => cell_kept (a := q) (v := v) h (grownBy_putObj' _ D (.deferred none)) (fun r e => by cases e; exact ⟨_, hK', rfl⟩)
  have e0 := ck g4.c0
  have e1 := ck g4.c1
  have e2 := ck g4.c2
  have e5 := ck g5.cell
  have e6 := ck g6.cell
  refine ⟨.tuple #[.agg #[.string ⟨#[]⟩, .int .i64 0, .int .i64 0], .int .i64 0, .bool false], ?_, .inl ⟨rfl, fun j hj => hp (j, z j) (by simp only [backL, List.mem_map, List.mem_range]; exact ⟨len - 1 - j, by omega, by rw [show len - 1 - (len - 1 - j) = j by omega]⟩)⟩, ?_⟩
  ·simp [results, Try.f73, go_sem, e0, e1, e2, e5, e6]
  ·exact ((hB.alloc hB.size _).trans (gb _ (by omega))).trans (belowK_b (w := w) (Nat.le_refl _) _ D _ _ (by omega) hK' rfl rfl)
 case stop =>
  rintro D c pre W hD ⟨k, hk, rfl⟩ ⟨⟨rfl, ini, q, e1, e2, e3, e4, e5, e6⟩, hB⟩ hK
  gi_wp2
  refine ⟨by simp, .inl ⟨_, _, rfl, run_takeDeferred hK, ?_⟩⟩
  have ck : ∀ {q : Addr} {v : Value}, _ → _ := fun {q} {v} h => cell_kept (a := q) (v := v) h (grownBy_putObj' _ D (.deferred none)) (fun r e => by cases e; exact ⟨_, hK, rfl⟩)
  have f0 := ck e4.c0
  have f1 := ck e4.c1
  have f2 := ck e4.c2
  have f5 := ck e5.cell
  have f6 := ck e6.cell
  obtain ⟨k', rfl⟩ : ∃ k', k = k' + 1 := by
   cases k with
   | zero => simp [backL] at e1
   | succ k' => exact ⟨k', rfl⟩
  rw [backL_succ] at e1
  obtain ⟨rfl, e7⟩ := List.append_inj' e1 rfl
  obtain rfl : (len - 1 - k', z (len - 1 - k')) = q := by simpa using e7
  refine ⟨.tuple #[wv (z (len - 1 - k')), .int .i64 ((len - 1 - k' : Nat) : Int), .bool true], ?_, .inr ⟨len - 1 - k', by omega, rfl, e3, fun j h1 h2 => e2 (j, z j) (by simp only [backL, List.mem_map, List.mem_range]; exact ⟨len - 1 - j, by omega, by rw [show len - 1 - (len - 1 - j) = j by omega]⟩)⟩, ?_⟩
  ·simp [results, Try.f73, go_sem, f0, f1, f2, f5, f6]
  ·exact hB.trans (belowK_b (w := w) (Nat.le_refl _) W D _ _ (by omega) hK rfl rfl)
end Go.Proofs.Ytlponhgbbfgkgaa
namespace Go.Proofs.Ytlponhgbbfgkgaa
set_option maxRecDepth 100000
inductive VNode where
 | mk (kind n : Int) (a b : List VNode)
def VNode.kind : VNode → Int | .mk k _ _ _ => k
def VNode.n : VNode → Int | .mk _ n _ _ => n
def VNode.a : VNode → List VNode | .mk _ _ a _ => a
def VNode.b : VNode → List VNode | .mk _ _ _ b => b
instance : Inhabited VNode := ⟨.mk 0 0 [] []⟩
structure Rdr where
 rd : List UInt8 → Int → Int × List UInt8 × VNode
 tk : List UInt8 → Int × Bool
structure PSt where
 rest : List (List UInt8)
 opn : Int
 loops : Int
 bad : Int
def PSt.fail (s : PSt) (e : Int) : PSt := if s.bad = 0 then { s with bad := e } else s
abbrev PRes := PSt × List VNode × List UInt8
def closers : List (List UInt8) := [[], [69, 76, 83, 69], [84, 72, 69, 78], [87, 72, 73, 76, 69], [82, 69, 80, 69, 65, 84], [85, 78, 84, 73, 76], [65, 71, 65, 73, 78], [76, 79, 79, 80], [43, 76, 79, 79, 80]]
def endsP (s : PSt) (e : List UInt8) : PSt := (if e ∈ closers then s.fail (-22) else s).fail (-32)
def opensP (s : PSt) : PSt := let s1 := if 16 ≤ s.opn then s.fail (-22) else s; { s1 with opn := s1.opn + 1 }
def shutP (s : PSt) : PSt := { s with opn := s.opn - 1 }
def bodyP (row : PSt → PRes) (s : PSt) (ends : List (List UInt8)) : PRes :=
 let r := row s
 if r.1.bad = 0 ∧ r.2.2 ∉ ends then (endsP r.1 r.2.2, r.2.1, r.2.2) else r
def ifP (row : PSt → PRes) (s : PSt) : PSt × VNode :=
 let r := bodyP row (opensP s) [[69, 76, 83, 69], [84, 72, 69, 78]]
 if r.2.2 = [69, 76, 83, 69] then (let q := bodyP row r.1 [[84, 72, 69, 78]]; (shutP q.1, .mk 3 1 r.2.1 q.2.1)) else (shutP r.1, .mk 3 0 r.2.1 [])
def beginP (row : PSt → PRes) (s : PSt) : PSt × VNode :=
 let r := bodyP row (opensP s) [[85, 78, 84, 73, 76], [65, 71, 65, 73, 78], [87, 72, 73, 76, 69]]
 if r.2.2 = [65, 71, 65, 73, 78] then (shutP r.1, .mk 5 0 r.2.1 [])
 else if r.2.2 = [87, 72, 73, 76, 69] then (let q := bodyP row r.1 [[82, 69, 80, 69, 65, 84]]; (shutP q.1, .mk 6 0 r.2.1 q.2.1))
 else (shutP r.1, .mk 4 0 r.2.1 [])
def loopN (row : PSt → PRes) (ask : Int) (s : PSt) : PSt × VNode :=
 let s0 := opensP s
 let r := bodyP row { s0 with loops := s0.loops + 1 } [[76, 79, 79, 80], [43, 76, 79, 79, 80]]
 (shutP { r.1 with loops := r.1.loops - 1 }, .mk (if r.2.2 = [43, 76, 79, 79, 80] then 8 else 7) ask r.2.1 [])
def leaveP (s : PSt) : PSt × VNode := (if s.loops = 0 then s.fail (-22) else s, .mk 9 0 [] [])
def exitP (s : PSt) : PSt × VNode := (if 0 < s.loops then s.fail (-32) else s, .mk 10 0 [] [])
def nameP (s : PSt) : PSt × List UInt8 := match s.rest with
 | [] => (s.fail (-16), [])
 | w :: ws => (if w = [] then { s with rest := ws }.fail (-16) else { s with rest := ws }, w)
def charP (s : PSt) : PSt × VNode := let r := nameP s; (r.1, .mk 1 (if r.2 = [] then 0 else ((r.2.getD 0 0).toNat : Int)) [] [])
def tickP (R : Rdr) (s : PSt) : PSt × VNode := let r := nameP s; (if (R.tk r.2).2 then r.1 else r.1.fail (-13), .mk 1 (R.tk r.2).1 [] [])
def onP (R : Rdr) (row : PSt → PRes) (sp : List UInt8) (s : PSt) : Option (PSt × VNode) :=
 if sp = [73, 70] then some (ifP row s) else if sp = [66, 69, 71, 73, 78] then some (beginP row s) else if sp = [68, 79] then some (loopN row 0 s) else if sp = [63, 68, 79] then some (loopN row 1 s)
 else if sp = [76, 69, 65, 86, 69] then some (leaveP s) else if sp = [69, 88, 73, 84] then some (exitP s) else if sp = [82, 69, 67, 85, 82, 83, 69] then some (s, .mk 11 0 [] [])
 else if sp = [91, 67, 72, 65, 82, 93] then some (charP s) else if sp = [91, 39, 93] then some (tickP R s) else none
def loopP (R : Rdr) : Nat → PSt → List VNode → PRes
 | 0, s, _ => (s.fail (-1), [], [])
 | m + 1, s, acc => if s.bad ≠ 0 then (s, [], []) else
  match s.rest with
  | [] => (s, acc, [])
  | w :: ws =>
   let r := R.rd w s.loops
   let s2 := { s with rest := ws }.fail r.1
   if r.2.1 = [] then loopP R m s2 (acc ++ [r.2.2])
   else match onP R (fun s => loopP R m s []) r.2.1 s2 with
    | none => (s2, acc, r.2.1)
    | some q => loopP R m q.1 (acc ++ [q.2])
def parseP (R : Rdr) (ws : List (List UInt8)) : List VNode × Int :=
 let r := loopP R (ws.length + 1) ⟨ws, 0, 0, 0⟩ []
 let s := if r.1.bad = 0 ∧ r.2.2 ≠ [] then endsP r.1 r.2.2 else r.1
 if s.bad ≠ 0 then ([], s.bad) else (r.2.1, 0)
structure DSt where
 rest : List (List UInt8)
 bad : Int
def DSt.fail (s : DSt) (e : Int) : DSt := if s.bad = 0 then { s with bad := e } else s
abbrev DRes := DSt × List VNode × List UInt8
def behindD (s : DSt) : DSt × List UInt8 := match s.rest with
 | [] => (s.fail (-16), [])
 | w :: ws => if w = [] then (s.fail (-16), []) else ({ s with rest := ws }, w)
def bracketD (row : List (List UInt8) → Int → Int → DSt → DRes) (name : List UInt8) (opn loops : Int) (s : DSt) : DSt × VNode :=
 if name = [73, 70] then (let r := row [[69, 76, 83, 69], [84, 72, 69, 78]] opn loops s
  if r.2.2 ≠ [69, 76, 83, 69] then (r.1, .mk 3 0 r.2.1 []) else (let q := row [[84, 72, 69, 78]] opn loops r.1; (q.1, .mk 3 1 r.2.1 q.2.1)))
 else if name = [66, 69, 71, 73, 78] then (let r := row [[85, 78, 84, 73, 76], [65, 71, 65, 73, 78], [87, 72, 73, 76, 69]] opn loops s
  if r.2.2 = [85, 78, 84, 73, 76] then (r.1, .mk 4 0 r.2.1 []) else if r.2.2 = [65, 71, 65, 73, 78] then (r.1, .mk 5 0 r.2.1 [])
  else (let q := row [[82, 69, 80, 69, 65, 84]] opn loops r.1; (q.1, .mk 6 0 r.2.1 q.2.1)))
 else (let r := row [[76, 79, 79, 80], [43, 76, 79, 79, 80]] opn (loops + 1) s
  (r.1, .mk (if r.2.2 = [43, 76, 79, 79, 80] then 8 else 7) (if name = [63, 68, 79] then 1 else 0) r.2.1 []))
def partD (R : Rdr) (row : List (List UInt8) → Int → Int → DSt → DRes) (name : List UInt8) (opn loops : Int) (s : DSt) : DSt × VNode :=
 if name = [76, 69, 65, 86, 69] then (if loops = 0 then s.fail (-22) else s, .mk 9 0 [] [])
 else if name = [69, 88, 73, 84] then (if 0 < loops then s.fail (-32) else s, .mk 10 0 [] [])
 else if name = [82, 69, 67, 85, 82, 83, 69] then (s, .mk 11 0 [] [])
 else if name = [91, 67, 72, 65, 82, 93] then (let r := behindD s; (r.1, if r.2 = [] then .mk 0 0 [] [] else .mk 1 ((r.2.getD 0 0).toNat : Int) [] []))
 else if name = [91, 39, 93] then (let r := behindD s; (if (R.tk r.2).2 then r.1 else r.1.fail (-13), .mk 1 (R.tk r.2).1 [] []))
 else if name = [73, 70] ∨ name = [66, 69, 71, 73, 78] ∨ name = [68, 79] ∨ name = [63, 68, 79] then (if 16 ≤ opn then (s.fail (-22), .mk 0 0 [] []) else bracketD row name (opn + 1) loops s)
 else ((if name ∈ closers then s.fail (-22) else s).fail (-32), .mk 0 0 [] [])
def rowD (R : Rdr) : Nat → List (List UInt8) → Int → Int → DSt → List VNode → DRes
 | 0, _, _, _, s, _ => (s.fail (-1), [], [])
 | m + 1, ends, opn, loops, s, acc => if s.bad ≠ 0 then (s, [], []) else
  match s.rest with
  | [] => (if [] ∈ ends then s else s.fail (-22), acc, [])
  | w :: ws =>
   let r := R.rd w loops
   let s2 := { s with rest := ws }.fail r.1
   if s2.bad ≠ 0 then (s2, [], [])
   else if r.2.1 = [] then rowD R m ends opn loops s2 (acc ++ [r.2.2])
   else if r.2.1 ∈ ends then (s2, acc, r.2.1)
   else (let q := partD R (fun e o l s => rowD R m e o l s []) r.2.1 opn loops s2; rowD R m ends opn loops q.1 (acc ++ [q.2]))
def parseD (R : Rdr) (ws : List (List UInt8)) : List VNode × Int :=
 let r := rowD R (ws.length + 1) [[]] 0 0 ⟨ws, 0⟩ []
 if r.1.bad ≠ 0 then ([], r.1.bad) else (r.2.1, 0)
def endCode (e : List UInt8) : Int := if e ∈ closers then -22 else -32
theorem ends_bad {s : PSt} {e : List UInt8} (h : s.bad = 0) : (endsP s e).bad = endCode e := by
 unfold endsP endCode PSt.fail
 by_cases q : e ∈ closers
 ·simp [q, h]
 ·simp [q, h]
theorem fail_o (s : PSt) (e : Int) : (s.fail e).opn = s.opn ∧ (s.fail e).loops = s.loops ∧ (s.fail e).rest = s.rest := by unfold PSt.fail; split <;> exact ⟨rfl, rfl, rfl⟩
theorem ends_o (s : PSt) (e : List UInt8) : (endsP s e).opn = s.opn ∧ (endsP s e).loops = s.loops ∧ (endsP s e).rest = s.rest := by
 unfold endsP
 split
 ·exact ⟨((fail_o _ _).1).trans (fail_o _ _).1, ((fail_o _ _).2.1).trans (fail_o _ _).2.1, ((fail_o _ _).2.2).trans (fail_o _ _).2.2⟩
 ·exact fail_o _ _
structure Twin (ends : List (List UInt8)) (opn loops : Int) (P : PRes) (D : DRes) : Prop where
 o : P.1.opn = opn
 l : P.1.loops = loops
 bad : P.1.bad ≠ 0 → D.1.bad = P.1.bad
 yes : P.1.bad = 0 → P.2.2 ∈ ends → D = (⟨P.1.rest, 0⟩, P.2.1, P.2.2)
 no : P.1.bad = 0 → P.2.2 ∉ ends → D.1.bad = endCode P.2.2
theorem fail0 {s : PSt} {e : Int} (h : s.bad = 0) : s.fail e = { s with bad := e } := by unfold PSt.fail; rw [if_pos h]
theorem fail1 {s : PSt} {e : Int} (h : s.bad ≠ 0) : s.fail e = s := by unfold PSt.fail; rw [if_neg h]
theorem dfail0 {s : DSt} {e : Int} (h : s.bad = 0) : s.fail e = { s with bad := e } := by unfold DSt.fail; rw [if_pos h]
theorem dfail1 {s : DSt} {e : Int} (h : s.bad ≠ 0) : s.fail e = s := by unfold DSt.fail; rw [if_neg h]
theorem loopP_bad (R : Rdr) (m : Nat) {s : PSt} (acc : List VNode) (h : s.bad ≠ 0) : loopP R m s acc = (s, [], []) := by
 cases m with
 | zero => rw [loopP, fail1 h]
 | succ m => rw [loopP, if_pos h]
theorem rowD_bad (R : Rdr) (m : Nat) (ends : List (List UInt8)) (o l : Int) {s : DSt} (acc : List VNode) (h : s.bad ≠ 0) : rowD R m ends o l s acc = (s, [], []) := by
 cases m with
 | zero => rw [rowD, dfail1 h]
 | succ m => rw [rowD, if_pos h]
structure TwinN (s : PSt) (P : PSt × VNode) (D : DSt × VNode) : Prop where
 o : P.1.opn = s.opn
 l : P.1.loops = s.loops
 bad : P.1.bad ≠ 0 → D.1.bad = P.1.bad
 yes : P.1.bad = 0 → D = (⟨P.1.rest, 0⟩, P.2)
theorem endCode_ne (e : List UInt8) : endCode e ≠ 0 := by unfold endCode; split <;> decide
theorem body_twin {row : PSt → PRes} {s : PSt} {ends : List (List UInt8)} {o l : Int} {D : DRes} (h : Twin ends o l (row s) D) :
  (bodyP row s ends).1.opn = o ∧ (bodyP row s ends).1.loops = l ∧ ((bodyP row s ends).1.bad ≠ 0 → D.1.bad = (bodyP row s ends).1.bad) ∧
  ((bodyP row s ends).1.bad = 0 → (bodyP row s ends).2.2 ∈ ends ∧ D = (⟨(bodyP row s ends).1.rest, 0⟩, (bodyP row s ends).2.1, (bodyP row s ends).2.2)) := by
 unfold bodyP
 by_cases q : (row s).1.bad = 0 ∧ (row s).2.2 ∉ ends
 ·simp only [if_pos q]
  have hb := ends_bad (e := (row s).2.2) q.1
  refine ⟨?_, ?_, fun _ => by rw [hb]; exact h.no q.1 q.2, fun k => absurd (hb ▸ k) (endCode_ne _)⟩
  ·exact (ends_o _ _).1.trans h.o
  ·exact (ends_o _ _).2.1.trans h.l
 ·simp only [if_neg q]
  refine ⟨h.o, h.l, h.bad, fun k => ?_⟩
  have : (row s).2.2 ∈ ends := Decidable.byContradiction fun n => q ⟨k, n⟩
  exact ⟨this, h.yes k this⟩
structure RowT (row : PSt → PRes) (rowd : List (List UInt8) → Int → Int → DSt → DRes) : Prop where
 tw : ∀ (s : PSt) (ends : List (List UInt8)), (∀ e ∈ ends, e ∈ closers) → Twin ends s.opn s.loops (row s) (rowd ends s.opn s.loops ⟨s.rest, s.bad⟩)
 pb : ∀ s : PSt, s.bad ≠ 0 → row s = (s, [], [])
 db : ∀ ends o l (s : DSt), s.bad ≠ 0 → rowd ends o l s = (s, [], [])
theorem body_bad {row : PSt → PRes} {s : PSt} {ends : List (List UInt8)} (h : s.bad ≠ 0) (pb : row s = (s, [], [])) : bodyP row s ends = (s, [], []) := by
 unfold bodyP; rw [pb]; simp [h]
theorem opens_no {s : PSt} (h : s.bad = 0) (q : 16 ≤ s.opn) : opensP s = { s with bad := -22, opn := s.opn + 1 } := by
 unfold opensP; rw [if_pos q, fail0 h]
theorem opens_ok {s : PSt} (q : ¬ 16 ≤ s.opn) : opensP s = { s with opn := s.opn + 1 } := by unfold opensP; rw [if_neg q]
theorem second {row : PSt → PRes} {rowd : List (List UInt8) → Int → Int → DSt → DRes} (hr : RowT row rowd) {s : PSt} {d : DSt} {o l : Int} (ho : s.opn = o) (hl : s.loops = l) (hd : s.bad = 0 → d = ⟨s.rest, 0⟩) (hb : s.bad ≠ 0 → d.bad = s.bad)
  (ends : List (List UInt8)) (he : ∀ e ∈ ends, e ∈ closers) :
  (bodyP row s ends).1.opn = o ∧ (bodyP row s ends).1.loops = l ∧ ((bodyP row s ends).1.bad ≠ 0 → (rowd ends o l d).1.bad = (bodyP row s ends).1.bad) ∧
  ((bodyP row s ends).1.bad = 0 → (bodyP row s ends).2.2 ∈ ends ∧ rowd ends o l d = (⟨(bodyP row s ends).1.rest, 0⟩, (bodyP row s ends).2.1, (bodyP row s ends).2.2)) := by
 by_cases q : s.bad = 0
 ·have h := body_twin (hr.tw s ends he)
  rw [ho, hl, q, ← hd q] at h
  exact h
 ·rw [body_bad q (hr.pb s q), hr.db ends o l d (by rw [hb q]; exact q)]
  exact ⟨ho, hl, fun _ => hb q, fun k => absurd k q⟩
theorem if_twin {row : PSt → PRes} {rowd : List (List UInt8) → Int → Int → DSt → DRes} (hr : RowT row rowd) {s : PSt} (hs : s.bad = 0) :
  TwinN s (ifP row s) (if 16 ≤ s.opn then (DSt.fail ⟨s.rest, 0⟩ (-22), .mk 0 0 [] []) else bracketD rowd [73, 70] (s.opn + 1) s.loops ⟨s.rest, 0⟩) := by
 by_cases q : 16 ≤ s.opn
 ·rw [if_pos q]
  unfold ifP
  rw [opens_no hs q, body_bad (by show (-22 : Int) ≠ 0; decide) (hr.pb _ (by show (-22 : Int) ≠ 0; decide))]
  refine ⟨?_, rfl, fun _ => rfl, fun k => ?_⟩
  ·show s.opn + 1 - 1 = s.opn; omega
  ·exact absurd k (by show ¬ (-22 : Int) = 0; decide)
 ·rw [if_neg q]
  unfold ifP bracketD
  rw [opens_ok q, if_pos (rfl : ([73, 70] : List UInt8) = [73, 70])]
  have h1 := second hr (s := { s with opn := s.opn + 1 }) (d := ⟨s.rest, 0⟩) (o := s.opn + 1) (l := s.loops) rfl rfl (fun _ => rfl) (fun k => absurd hs k) [[69, 76, 83, 69], [84, 72, 69, 78]] (by decide)
  revert h1
  generalize bodyP row { s with opn := s.opn + 1 } [[69, 76, 83, 69], [84, 72, 69, 78]] = r
  generalize hD : rowd [[69, 76, 83, 69], [84, 72, 69, 78]] (s.opn + 1) s.loops ⟨s.rest, 0⟩ = D
  rintro ⟨h1, h2, h3, h4⟩
  have h5 := second hr (s := r.1) (d := D.1) h1 h2 (fun k => by rw [(h4 k).2]) h3 [[84, 72, 69, 78]] (by decide)
  dsimp only
  by_cases e : r.2.2 = [69, 76, 83, 69]
  ·rw [if_pos e]
   have eD : D.2.2 = [69, 76, 83, 69] ∨ r.1.bad ≠ 0 := by
    by_cases k : r.1.bad = 0
    ·exact .inl (by rw [(h4 k).2]; exact e)
    ·exact .inr k
   obtain ⟨k1, k2, k3, k4⟩ := h5
   refine ⟨?_, k2, fun k => ?_, fun k => ?_⟩
   ·show (bodyP row r.1 _).1.opn - 1 = _; rw [k1]; omega
   ·by_cases z : r.1.bad = 0
    ·rw [if_neg (by rw [(h4 z).2]; simpa using e)]; exact k3 k
    ·have e0 : bodyP row r.1 [[84, 72, 69, 78]] = (r.1, [], []) := body_bad z (hr.pb _ z)
     have : (shutP (bodyP row r.1 [[84, 72, 69, 78]]).1).bad = r.1.bad := by rw [e0]; rfl
     show _ = (shutP (bodyP row r.1 [[84, 72, 69, 78]]).1).bad
     rw [this]
     split
     ·exact h3 z
     ·rw [hr.db _ _ _ D.1 (by rw [h3 z]; exact z)]; exact h3 z
   ·have k' : (bodyP row r.1 [[84, 72, 69, 78]]).1.bad = 0 := k
    have z : r.1.bad = 0 := Decidable.byContradiction fun z => by rw [body_bad z (hr.pb _ z)] at k'; exact z k'
    rw [if_neg (by rw [(h4 z).2]; simpa using e)]
    show ((rowd _ _ _ D.1).1, VNode.mk 3 1 D.2.1 (rowd _ _ _ D.1).2.1) = _
    rw [(k4 k').2, (h4 z).2]; rfl
  ·rw [if_neg e]
   refine ⟨?_, h2, fun k => ?_, fun k => ?_⟩
   ·show r.1.opn - 1 = _; rw [h1]; omega
   ·have k' : r.1.bad ≠ 0 := k
    show _ = r.1.bad
    split
    ·exact h3 k'
    ·rw [hr.db _ _ _ D.1 (by rw [h3 k']; exact k')]; exact h3 k'
   ·have k' : r.1.bad = 0 := k
    rw [(h4 k').2, if_pos (by simpa using e)]; rfl
theorem begin_twin {row : PSt → PRes} {rowd : List (List UInt8) → Int → Int → DSt → DRes} (hr : RowT row rowd) {s : PSt} (hs : s.bad = 0) :
  TwinN s (beginP row s) (if 16 ≤ s.opn then (DSt.fail ⟨s.rest, 0⟩ (-22), .mk 0 0 [] []) else bracketD rowd [66, 69, 71, 73, 78] (s.opn + 1) s.loops ⟨s.rest, 0⟩) := by
 by_cases q : 16 ≤ s.opn
 ·rw [if_pos q]
  unfold beginP
  rw [opens_no hs q, body_bad (by show (-22 : Int) ≠ 0; decide) (hr.pb _ (by show (-22 : Int) ≠ 0; decide))]
  refine ⟨?_, rfl, fun _ => rfl, fun k => ?_⟩
  ·show s.opn + 1 - 1 = s.opn; omega
  ·exact absurd k (by show ¬ (-22 : Int) = 0; decide)
 ·rw [if_neg q]
  unfold beginP bracketD
  rw [opens_ok q, if_neg (show ¬ ([66, 69, 71, 73, 78] : List UInt8) = [73, 70] by decide), if_pos (rfl : ([66, 69, 71, 73, 78] : List UInt8) = [66, 69, 71, 73, 78])]
  have h1 := second hr (s := { s with opn := s.opn + 1 }) (d := ⟨s.rest, 0⟩) (o := s.opn + 1) (l := s.loops) rfl rfl (fun _ => rfl) (fun k => absurd hs k) [[85, 78, 84, 73, 76], [65, 71, 65, 73, 78], [87, 72, 73, 76, 69]] (by decide)
  revert h1
  generalize bodyP row { s with opn := s.opn + 1 } [[85, 78, 84, 73, 76], [65, 71, 65, 73, 78], [87, 72, 73, 76, 69]] = r
  generalize hD : rowd [[85, 78, 84, 73, 76], [65, 71, 65, 73, 78], [87, 72, 73, 76, 69]] (s.opn + 1) s.loops ⟨s.rest, 0⟩ = D
  rintro ⟨h1, h2, h3, h4⟩
  have h5 := second hr (s := r.1) (d := D.1) h1 h2 (fun k => by rw [(h4 k).2]) h3 [[82, 69, 80, 69, 65, 84]] (by decide)
  dsimp only
  have bad1 : ∀ (x : DSt × VNode), (x = (D.1, .mk 4 0 D.2.1 []) ∨ x = (D.1, .mk 5 0 D.2.1 []) ∨ x = ((rowd [[82, 69, 80, 69, 65, 84]] (s.opn + 1) s.loops D.1).1, .mk 6 0 D.2.1 (rowd [[82, 69, 80, 69, 65, 84]] (s.opn + 1) s.loops D.1).2.1)) → r.1.bad ≠ 0 → x.1.bad = r.1.bad := by
   rintro x (rfl | rfl | rfl) z
   ·exact h3 z
   ·exact h3 z
   ·show (rowd _ _ _ D.1).1.bad = _
    rw [hr.db _ _ _ D.1 (by rw [h3 z]; exact z)]; exact h3 z
  have three : ∀ (c1 c2 : Prop) [Decidable c1] [Decidable c2] (x y z : DSt × VNode), (if c1 then x else if c2 then y else z) = x ∨ (if c1 then x else if c2 then y else z) = y ∨ (if c1 then x else if c2 then y else z) = z := by
   intro c1 c2 _ _ x y z; by_cases k1 : c1 <;> by_cases k2 : c2 <;> simp [k1, k2]
  by_cases e : r.2.2 = [65, 71, 65, 73, 78]
  ·rw [if_pos e]
   refine ⟨?_, h2, fun k => bad1 _ (three _ _ _ _ _) k, fun k => ?_⟩
   ·show r.1.opn - 1 = _; rw [h1]; omega
   ·have k' : r.1.bad = 0 := k
    rw [(h4 k').2, if_neg (by rw [e]; decide), if_pos e]; rfl
  ·rw [if_neg e]
   by_cases e2 : r.2.2 = [87, 72, 73, 76, 69]
   ·rw [if_pos e2]
    obtain ⟨k1, k2, k3, k4⟩ := h5
    refine ⟨?_, k2, fun k => ?_, fun k => ?_⟩
    ·show (bodyP row r.1 _).1.opn - 1 = _; rw [k1]; omega
    ·by_cases z : r.1.bad = 0
     ·rw [if_neg (by rw [(h4 z).2, e2]; decide), if_neg (by rw [(h4 z).2]; exact e)]; exact k3 k
     ·have e0 : bodyP row r.1 [[82, 69, 80, 69, 65, 84]] = (r.1, [], []) := body_bad z (hr.pb _ z)
      have : (shutP (bodyP row r.1 [[82, 69, 80, 69, 65, 84]]).1).bad = r.1.bad := by rw [e0]; rfl
      show _ = (shutP (bodyP row r.1 [[82, 69, 80, 69, 65, 84]]).1).bad
      rw [this]
      exact bad1 _ (three _ _ _ _ _) z
    ·have k' : (bodyP row r.1 [[82, 69, 80, 69, 65, 84]]).1.bad = 0 := k
     have z : r.1.bad = 0 := Decidable.byContradiction fun z => by rw [body_bad z (hr.pb _ z)] at k'; exact z k'
     rw [if_neg (by rw [(h4 z).2, e2]; decide), if_neg (by rw [(h4 z).2]; exact e)]
     show ((rowd _ _ _ D.1).1, VNode.mk 6 0 D.2.1 (rowd _ _ _ D.1).2.1) = _
     rw [(k4 k').2, (h4 z).2]; rfl
   ·rw [if_neg e2]
    refine ⟨?_, h2, fun k => bad1 _ (three _ _ _ _ _) k, fun k => ?_⟩
    ·show r.1.opn - 1 = _; rw [h1]; omega
    ·have k' : r.1.bad = 0 := k
     have hm := (h4 k').1
     simp only [List.mem_cons, List.not_mem_nil, or_false, e, e2] at hm
     rw [(h4 k').2, if_pos hm]; rfl
theorem loop_twinN {row : PSt → PRes} {rowd : List (List UInt8) → Int → Int → DSt → DRes} (hr : RowT row rowd) {s : PSt} (hs : s.bad = 0) (name : List UInt8) (hn : name = [68, 79] ∨ name = [63, 68, 79]) :
  TwinN s (loopN row (if name = [63, 68, 79] then 1 else 0) s) (if 16 ≤ s.opn then (DSt.fail ⟨s.rest, 0⟩ (-22), .mk 0 0 [] []) else bracketD rowd name (s.opn + 1) s.loops ⟨s.rest, 0⟩) := by
 by_cases q : 16 ≤ s.opn
 ·rw [if_pos q]
  unfold loopN
  rw [opens_no hs q]
  dsimp only
  rw [body_bad (by show (-22 : Int) ≠ 0; decide) (hr.pb _ (by show (-22 : Int) ≠ 0; decide))]
  refine ⟨?_, ?_, fun _ => rfl, fun k => ?_⟩
  ·show s.opn + 1 - 1 = s.opn; omega
  ·show s.loops + 1 - 1 = s.loops; omega
  ·exact absurd k (by show ¬ (-22 : Int) = 0; decide)
 ·rw [if_neg q]
  have n1 : ¬ name = [73, 70] := by rcases hn with rfl | rfl <;> decide
  have n2 : ¬ name = [66, 69, 71, 73, 78] := by rcases hn with rfl | rfl <;> decide
  unfold loopN bracketD
  rw [opens_ok q, if_neg n1, if_neg n2]
  dsimp only
  have h1 := second hr (s := { s with opn := s.opn + 1, loops := s.loops + 1 }) (d := ⟨s.rest, 0⟩) (o := s.opn + 1) (l := s.loops + 1) rfl rfl (fun _ => rfl) (fun k => absurd hs k) [[76, 79, 79, 80], [43, 76, 79, 79, 80]] (by decide)
  revert h1
  generalize bodyP row _ [[76, 79, 79, 80], [43, 76, 79, 79, 80]] = r
  generalize hD : rowd [[76, 79, 79, 80], [43, 76, 79, 79, 80]] (s.opn + 1) (s.loops + 1) ⟨s.rest, 0⟩ = D
  rintro ⟨h1, h2, h3, h4⟩
  refine ⟨?_, ?_, h3, fun k => ?_⟩
  ·show r.1.opn - 1 = _; rw [h1]; omega
  ·show r.1.loops - 1 = _; rw [h2]; omega
  ·have k' : r.1.bad = 0 := k
   rw [(h4 k').2]; rfl
theorem part_twin (R : Rdr) {row : PSt → PRes} {rowd : List (List UInt8) → Int → Int → DSt → DRes} (hr : RowT row rowd) {s : PSt} (hs : s.bad = 0) (sp : List UInt8) {q : PSt × VNode} (hq : onP R row sp s = some q) :
  TwinN s q (partD R rowd sp s.opn s.loops ⟨s.rest, 0⟩) := by
 unfold onP at hq
 have self : ∀ x : VNode, TwinN s (s, x) (⟨s.rest, 0⟩, x) := fun x => ⟨rfl, rfl, fun k => absurd hs k, fun _ => rfl⟩
 have bad : ∀ (e : Int) (x y : VNode), e ≠ 0 → TwinN s (s.fail e, x) (DSt.fail ⟨s.rest, 0⟩ e, y) := fun e x y he => by
  rw [fail0 hs, dfail0 rfl]; exact ⟨rfl, rfl, fun _ => rfl, fun k => absurd k he⟩
 by_cases c1 : sp = [73, 70]
 ·subst c1; rw [if_pos rfl] at hq; cases hq; unfold partD
  rw [if_neg (by decide), if_neg (by decide), if_neg (by decide), if_neg (by decide), if_neg (by decide), if_pos (.inl rfl)]; exact if_twin hr hs
 rw [if_neg c1] at hq
 by_cases c2 : sp = [66, 69, 71, 73, 78]
 ·subst c2; rw [if_pos rfl] at hq; cases hq; unfold partD
  rw [if_neg (by decide), if_neg (by decide), if_neg (by decide), if_neg (by decide), if_neg (by decide), if_pos (.inr (.inl rfl))]; exact begin_twin hr hs
 rw [if_neg c2] at hq
 by_cases c3 : sp = [68, 79]
 ·subst c3; rw [if_pos rfl] at hq; cases hq; unfold partD
  rw [if_neg (by decide), if_neg (by decide), if_neg (by decide), if_neg (by decide), if_neg (by decide), if_pos (.inr (.inr (.inl rfl)))]; exact loop_twinN hr hs [68, 79] (.inl rfl)
 rw [if_neg c3] at hq
 by_cases c4 : sp = [63, 68, 79]
 ·subst c4; rw [if_pos rfl] at hq; cases hq; unfold partD
  rw [if_neg (by decide), if_neg (by decide), if_neg (by decide), if_neg (by decide), if_neg (by decide), if_pos (.inr (.inr (.inr rfl)))]; exact loop_twinN hr hs [63, 68, 79] (.inr rfl)
 rw [if_neg c4] at hq
 by_cases c5 : sp = [76, 69, 65, 86, 69]
 ·subst c5; rw [if_pos rfl] at hq; cases hq; unfold partD leaveP
  rw [if_pos rfl]
  by_cases k : s.loops = 0
  ·rw [if_pos k, if_pos k]; exact bad _ _ _ (by decide)
  ·rw [if_neg k, if_neg k]; exact self _
 rw [if_neg c5] at hq
 by_cases c6 : sp = [69, 88, 73, 84]
 ·subst c6; rw [if_pos rfl] at hq; cases hq; unfold partD
  rw [if_neg (by decide), if_pos rfl]
  unfold exitP
  by_cases k : 0 < s.loops
  ·rw [if_pos k, if_pos k]; exact bad _ _ _ (by decide)
  ·rw [if_neg k, if_neg k]; exact self _
 rw [if_neg c6] at hq
 by_cases c7 : sp = [82, 69, 67, 85, 82, 83, 69]
 ·subst c7; rw [if_pos rfl] at hq; cases hq; unfold partD
  rw [if_neg (by decide), if_neg (by decide), if_pos rfl]; exact self _
 rw [if_neg c7] at hq
 have name : (∃ w ws, s.rest = w :: ws ∧ w ≠ [] ∧ nameP s = ({ s with rest := ws }, w) ∧ behindD ⟨s.rest, 0⟩ = (⟨ws, 0⟩, w)) ∨
   ((nameP s).1.bad = -16 ∧ (nameP s).1.opn = s.opn ∧ (nameP s).1.loops = s.loops ∧ (nameP s).2 = [] ∧ behindD ⟨s.rest, 0⟩ = (⟨s.rest, -16⟩, [])) := by
  unfold nameP behindD
  cases hrest : s.rest with
  | nil => exact .inr ⟨by rw [fail0 hs], by rw [fail0 hs], by rw [fail0 hs], rfl, by rw [dfail0 rfl]⟩
  | cons w ws =>
   by_cases hw : w = []
   ·subst hw
    exact .inr ⟨by dsimp only; rw [if_pos rfl, fail0 (by exact hs)], by dsimp only; rw [if_pos rfl, fail0 (by exact hs)], by dsimp only; rw [if_pos rfl, fail0 (by exact hs)], rfl, by dsimp only; rw [if_pos rfl, dfail0 rfl]⟩
   ·exact .inl ⟨w, ws, rfl, hw, by dsimp only; rw [if_neg hw], by dsimp only; rw [if_neg hw]⟩
 by_cases c8 : sp = [91, 67, 72, 65, 82, 93]
 ·subst c8; rw [if_pos rfl] at hq; cases hq; unfold partD charP
  rw [if_neg (by decide), if_neg (by decide), if_neg (by decide), if_pos rfl]
  rcases name with ⟨w, ws, h1, h2, h3, h4⟩ | ⟨h1, h2, h3, h4, h5⟩
  ·rw [h3, h4]; dsimp only; rw [if_neg h2, if_neg h2]
   exact ⟨rfl, rfl, fun k => absurd hs k, fun _ => rfl⟩
  ·rw [h5]; dsimp only
   exact ⟨h2, h3, fun _ => by rw [h1], fun k => absurd (h1.symm.trans k) (by decide)⟩
 rw [if_neg c8] at hq
 by_cases c9 : sp = [91, 39, 93]
 ·subst c9; rw [if_pos rfl] at hq; cases hq; unfold partD tickP
  rw [if_neg (by decide), if_neg (by decide), if_neg (by decide), if_neg (by decide), if_pos rfl]
  rcases name with ⟨w, ws, h1, h2, h3, h4⟩ | ⟨h1, h2, h3, h4, h5⟩
  ·rw [h3, h4]; dsimp only
   by_cases t : (R.tk w).2
   ·rw [if_pos t, if_pos t]; exact ⟨rfl, rfl, fun k => absurd hs k, fun _ => rfl⟩
   ·rw [if_neg t, if_neg t, fail0 (by exact hs), dfail0 rfl]; exact ⟨rfl, rfl, fun _ => rfl, fun k => absurd k (by show ¬ (-13 : Int) = 0; decide)⟩
  ·rw [h5]; dsimp only; rw [h4]
   have e1 : ∀ c : Prop, [Decidable c] → (if c then (nameP s).1 else (nameP s).1.fail (-13)) = (nameP s).1 := fun c _ => by
    rw [fail1 (by rw [h1]; decide)]; split <;> rfl
   have e2 : ∀ c : Prop, [Decidable c] → (if c then (⟨s.rest, -16⟩ : DSt) else (⟨s.rest, -16⟩ : DSt).fail (-13)) = ⟨s.rest, -16⟩ := fun c _ => by
    rw [dfail1 (show (-16 : Int) ≠ 0 by decide)]; split <;> rfl
   rw [e1, e2]
   exact ⟨h2, h3, fun _ => by rw [h1], fun k => absurd (h1.symm.trans k) (by decide)⟩
 rw [if_neg c9] at hq; cases hq
theorem on_none {R : Rdr} {row : PSt → PRes} {sp : List UInt8} {s : PSt} (h : onP R row sp s = none) : ∀ (rowd : List (List UInt8) → Int → Int → DSt → DRes) (o l : Int) (d : DSt), d.bad = 0 → (partD R rowd sp o l d).1.bad = endCode sp := by
 intro rowd o l d hd
 unfold onP at h
 unfold partD
 repeat' split at h
 all_goals (try cases h)
 rename_i c1 c2 c3 c4 c5 c6 c7 c8 c9
 rw [if_neg c5, if_neg c6, if_neg c7, if_neg c8, if_neg c9, if_neg (by simp [c1, c2, c3, c4])]
 unfold endCode
 dsimp only
 by_cases q : sp ∈ closers
 ·rw [if_pos q, if_pos q, dfail0 hd, dfail1 (by show (-22 : Int) ≠ 0; decide)]
 ·rw [if_neg q, if_neg q, dfail0 hd]
theorem some_not {R : Rdr} {row : PSt → PRes} {sp : List UInt8} {s : PSt} {q : PSt × VNode} (h : onP R row sp s = some q) : sp ∉ closers := by
 intro k
 unfold onP at h
 repeat' split at h
 all_goals (first | (subst_vars; exact absurd k (by decide)) | cases h)
theorem loop_twin (R : Rdr) (hR : ∀ w l, (R.rd w l).1 ≠ 0 → (R.rd w l).2.1 = []) : ∀ (m : Nat), (∀ (s : PSt) (acc : List VNode) (ends : List (List UInt8)), (∀ e ∈ ends, e ∈ closers) → Twin ends s.opn s.loops (loopP R m s acc) (rowD R m ends s.opn s.loops ⟨s.rest, s.bad⟩ acc)) := by
 intro m
 induction m with
 | zero =>
  intro s acc ends he
  rw [loopP, rowD]
  by_cases hs : s.bad = 0
  ·rw [fail0 hs, dfail0 hs]
   exact ⟨rfl, rfl, fun _ => rfl, fun k => absurd k (by show ¬ (-1 : Int) = 0; decide), fun k => absurd k (by show ¬ (-1 : Int) = 0; decide)⟩
  ·rw [fail1 hs, dfail1 hs]
   exact ⟨rfl, rfl, fun _ => rfl, fun k => absurd k hs, fun k => absurd k hs⟩
 | succ m ih =>
  have hrow : RowT (fun s => loopP R m s []) (fun e o l s => rowD R m e o l s []) := ⟨fun s ends he => ih s [] ends he, fun s h => loopP_bad R m [] h, fun ends o l s h => rowD_bad R m ends o l [] h⟩
  intro s acc ends he
  by_cases hs : s.bad ≠ 0
  ·rw [loopP_bad R _ acc hs, rowD_bad R _ ends _ _ acc hs]
   exact ⟨rfl, rfl, fun _ => rfl, fun k => absurd k hs, fun k => absurd k hs⟩
  replace hs : s.bad = 0 := Decidable.not_not.1 hs
  rw [loopP, rowD, if_neg (by simpa using hs), if_neg (by simpa using hs)]
  cases hrest : s.rest with
  | nil =>
   dsimp only
   by_cases k : [] ∈ ends
   ·rw [if_pos k]
    exact ⟨rfl, rfl, fun z => absurd hs z, fun _ _ => by rw [hs, hrest], fun _ z => absurd k z⟩
   ·rw [if_neg k, dfail0 hs]
    exact ⟨rfl, rfl, fun z => absurd hs z, fun _ z => absurd z k, fun _ _ => rfl⟩
  | cons w ws =>
   dsimp only
   rw [fail0 (show ({ s with rest := ws } : PSt).bad = 0 from hs), dfail0 (show (⟨ws, s.bad⟩ : DSt).bad = 0 from hs)]
   dsimp only
   generalize hr : R.rd w s.loops = r
   have hb := hR w s.loops
   rw [hr] at hb
   by_cases b : r.1 = 0
   ·rw [if_neg (show ¬ r.1 ≠ 0 from fun k => k b)]
    by_cases c : r.2.1 = []
    ·rw [if_pos c, if_pos c]
     exact ih { s with rest := ws, bad := r.1 } _ ends he
    ·rw [if_neg c, if_neg c]
     cases ho : onP R (fun s => loopP R m s []) r.2.1 ⟨ws, s.opn, s.loops, r.1⟩ with
     | none =>
      dsimp only
      by_cases k : r.2.1 ∈ ends
      ·rw [if_pos k]
       exact ⟨rfl, rfl, fun z => absurd b z, fun _ _ => by rw [b], fun _ z => absurd k z⟩
      ·rw [if_neg k]
       have pb := on_none ho (fun e o l s => rowD R m e o l s []) s.opn s.loops ⟨ws, r.1⟩ b
       rw [rowD_bad R m ends _ _ _ (by rw [pb]; exact endCode_ne _)]
       exact ⟨rfl, rfl, fun z => absurd b z, fun _ z => absurd z k, fun _ _ => pb⟩
     | some q =>
      dsimp only
      have nk : r.2.1 ∉ ends := fun k => some_not ho (he _ k)
      rw [if_neg nk]
      have t := part_twin R hrow (s := ⟨ws, s.opn, s.loops, r.1⟩) b r.2.1 ho
      dsimp only at t
      rw [b] at t ⊢
      generalize partD R _ r.2.1 s.opn s.loops ⟨ws, 0⟩ = D at t
      by_cases z : q.1.bad = 0
      ·rw [t.yes z]
       have := ih q.1 (acc ++ [q.2]) ends he
       rw [t.o, t.l, z] at this
       exact this
      ·rw [loopP_bad R m _ z, rowD_bad R m ends _ _ _ (by rw [t.bad z]; exact z)]
       exact ⟨t.o, t.l, fun _ => t.bad z, fun k => absurd k z, fun k => absurd k z⟩
   ·have c := hb b
    rw [if_pos (show r.1 ≠ 0 from b), if_pos c, loopP_bad R m _ (by exact b)]
    exact ⟨rfl, rfl, fun _ => rfl, fun k => absurd k b, fun k => absurd k b⟩
theorem parse_twin (R : Rdr) (hR : ∀ w l, (R.rd w l).1 ≠ 0 → (R.rd w l).2.1 = []) (ws : List (List UInt8)) : parseP R ws = parseD R ws := by
 have t := loop_twin R hR (ws.length + 1) ⟨ws, 0, 0, 0⟩ [] [[]] (by decide)
 unfold parseP parseD
 dsimp only at t ⊢
 generalize loopP R (ws.length + 1) ⟨ws, 0, 0, 0⟩ [] = P at t ⊢
 generalize rowD R (ws.length + 1) [[]] 0 0 ⟨ws, 0⟩ [] = D at t ⊢
 by_cases b : P.1.bad = 0
 ·by_cases e : P.2.2 = []
  ·rw [if_neg (show ¬ (P.1.bad = 0 ∧ P.2.2 ≠ []) from fun k => k.2 e), t.yes b (by rw [e]; decide), if_neg (show ¬ P.1.bad ≠ 0 from fun k => k b)]; rfl
  ·have hb := ends_bad (e := P.2.2) b
   have hd := t.no b (by simpa using e)
   rw [if_pos (show P.1.bad = 0 ∧ P.2.2 ≠ [] from ⟨b, e⟩), if_pos (show (endsP P.1 P.2.2).bad ≠ 0 by rw [hb]; exact endCode_ne _), hb, if_pos (show D.1.bad ≠ 0 by rw [hd]; exact endCode_ne _), hd]
 ·rw [if_neg (show ¬ (P.1.bad = 0 ∧ P.2.2 ≠ []) from fun k => b k.1), if_pos (show P.1.bad ≠ 0 from b), if_pos (show D.1.bad ≠ 0 by rw [t.bad b]; exact b), t.bad b]
end Go.Proofs.Ytlponhgbbfgkgaa
namespace Go.Proofs.Ytlponhgbbfgkgaa
set_option maxRecDepth 100000
def flagN (k n : Int) (b : List VNode) : Bool :=
 if k = 3 then decide (n = 1) || (decide (n = 0) && b.isEmpty) else if k = 4 ∨ k = 5 then decide (n = 0) && b.isEmpty else if k = 6 then decide (n = 0)
 else if k = 7 ∨ k = 8 then (decide (n = 0) || decide (n = 1)) && b.isEmpty else false
mutual
def mayN : VNode → Int → Int → Bool
 | .mk k n a b, o, l =>
  if k = 1 ∨ k = 2 then a.isEmpty && b.isEmpty
  else if k = 9 then (a.isEmpty && b.isEmpty) && (decide (n = 0) && decide (0 < l))
  else if k = 10 then (a.isEmpty && b.isEmpty) && (decide (n = 0) && decide (l = 0))
  else if k = 11 then (a.isEmpty && b.isEmpty) && decide (n = 0)
  else if 16 ≤ o then false
  else flagN k n b && (mayL a (o + 1) (if k = 7 ∨ k = 8 then l + 1 else l) && mayL b (o + 1) (if k = 7 ∨ k = 8 then l + 1 else l))
def mayL : List VNode → Int → Int → Bool
 | [], _, _ => true
 | x :: xs, o, l => mayN x o l && mayL xs o l
end
theorem mayL_app (o l : Int) : ∀ (xs ys : List VNode), mayL (xs ++ ys) o l = (mayL xs o l && mayL ys o l)
 | [], ys => by rw [List.nil_append, mayL, Bool.true_and]
 | x :: xs, ys => by rw [List.cons_append, mayL, mayL, mayL_app o l xs ys, Bool.and_assoc]
theorem mayL_one (o l : Int) (x : VNode) : mayL [x] o l = mayN x o l := by rw [mayL, mayL, Bool.and_true]
structure RdOk (R : Rdr) : Prop where
 bad : ∀ w l, (R.rd w l).1 ≠ 0 → (R.rd w l).2.1 = []
 part : ∀ w l, (R.rd w l).1 = 0 → (R.rd w l).2.1 = [] → ∃ k n, (R.rd w l).2.2 = .mk k n [] [] ∧ (k = 1 ∨ k = 2)
theorem loop_keeps {R : Rdr} (hR : RdOk R) (m : Nat) (s : PSt) (acc : List VNode) : (loopP R m s acc).1.opn = s.opn ∧ (loopP R m s acc).1.loops = s.loops := by
 have t := loop_twin R hR.bad m s acc [[]] (by decide)
 exact ⟨t.o, t.l⟩
theorem fail_bad {s : PSt} {e : Int} (he : e ≠ 0) : (s.fail e).bad ≠ 0 := by
 unfold PSt.fail; split
 ·exact he
 ·assumption
theorem body_nz {row : PSt → PRes} {s : PSt} {ends : List (List UInt8)} (pb : ∀ s : PSt, s.bad ≠ 0 → row s = (s, [], [])) (h : (bodyP row s ends).1.bad = 0) : s.bad = 0 :=
 Decidable.byContradiction fun k => by rw [body_bad k (pb s k)] at h; exact k h
def PSt.more (s : PSt) (y : List (List UInt8)) : PSt := { s with rest := s.rest ++ y }
def soft (e : Int) : Prop := e = 0 ∨ e = -22 ∨ e = -16
instance (e : Int) : Decidable (soft e) := by unfold soft; infer_instance
structure ExtR (y : List (List UInt8)) (P Q : PRes) : Prop where
 hard : ¬ soft P.1.bad → Q.1.bad = P.1.bad
 same : P.1.bad = 0 → P.2.2 ≠ [] → Q = (P.1.more y, P.2.1, P.2.2)
def RowE (m : Nat) (y : List (List UInt8)) (row rowm : PSt → PRes) : Prop := ∀ s : PSt, s.rest.length < m → ExtR y (row s) (rowm (s.more y)) ∧ (row s).1.rest.length ≤ s.rest.length
theorem more_fail (s : PSt) (e : Int) (y : List (List UInt8)) : (s.fail e).more y = (s.more y).fail e := by unfold PSt.fail PSt.more; split <;> rfl
theorem more_opens (s : PSt) (y : List (List UInt8)) : opensP (s.more y) = (opensP s).more y := by
 unfold opensP
 by_cases q : 16 ≤ s.opn
 ·rw [if_pos (show 16 ≤ (s.more y).opn from q), if_pos q, ← more_fail]; rfl
 ·rw [if_neg (show ¬ 16 ≤ (s.more y).opn from q), if_neg q]; rfl
theorem more_ends (s : PSt) (e : List UInt8) (y : List (List UInt8)) : endsP (s.more y) e = (endsP s e).more y := by
 unfold endsP; split <;> simp only [more_fail]
theorem ends_rest (s : PSt) (e : List UInt8) : (endsP s e).rest = s.rest := (ends_o s e).2.2
theorem opens_rest (s : PSt) : (opensP s).rest = s.rest := by
 unfold opensP
 show (if 16 ≤ s.opn then _ else _ : PSt).rest = _
 split
 ·exact (fail_o _ _).2.2
 ·rfl
theorem body_ext {m : Nat} {y : List (List UInt8)} {row rowm : PSt → PRes} (h : RowE m y row rowm) {s : PSt} (hl : s.rest.length < m) {ends : List (List UInt8)} (he : [] ∉ ends) :
  (¬ soft (bodyP row s ends).1.bad → (bodyP rowm (s.more y) ends).1.bad = (bodyP row s ends).1.bad) ∧
  ((bodyP row s ends).1.bad = 0 → bodyP rowm (s.more y) ends = ((bodyP row s ends).1.more y, (bodyP row s ends).2.1, (bodyP row s ends).2.2)) ∧ (bodyP row s ends).1.rest.length ≤ s.rest.length := by
 obtain ⟨hx, hr⟩ := h s hl
 generalize hP : row s = P at hx hr
 generalize hQ : rowm (s.more y) = Q at hx
 have eP : bodyP row s ends = if P.1.bad = 0 ∧ P.2.2 ∉ ends then (endsP P.1 P.2.2, P.2.1, P.2.2) else P := by unfold bodyP; rw [hP]
 have eQ : bodyP rowm (s.more y) ends = if Q.1.bad = 0 ∧ Q.2.2 ∉ ends then (endsP Q.1 Q.2.2, Q.2.1, Q.2.2) else Q := by unfold bodyP; rw [hQ]
 rw [eP, eQ]
 by_cases q : P.1.bad = 0 ∧ P.2.2 ∉ ends
 ·rw [if_pos q]
  have hb := ends_bad (e := P.2.2) q.1
  refine ⟨fun k => ?_, fun k => absurd (hb ▸ k) (endCode_ne _), by show (endsP _ _).rest.length ≤ _; rw [ends_rest]; exact hr⟩
  have k' : ¬ soft (endCode P.2.2) := hb ▸ k
  have nn : P.2.2 ≠ [] := fun z => k' (by rw [z]; exact .inr (.inl rfl))
  rw [hx.same q.1 nn, if_pos ⟨q.1, q.2⟩]
  show (endsP (P.1.more y) P.2.2).bad = (endsP P.1 P.2.2).bad
  rw [more_ends]; rfl
 ·rw [if_neg q]
  refine ⟨fun k => ?_, fun k => ?_, hr⟩
  ·have hQb := hx.hard k
   have nz : P.1.bad ≠ 0 := fun z => k (.inl z)
   rw [if_neg (fun z => nz (hQb ▸ z.1))]; exact hQb
  ·have hm : P.2.2 ∈ ends := Decidable.byContradiction fun z => q ⟨k, z⟩
   rw [hx.same k (fun z => he (z ▸ hm)), if_neg (fun z => z.2 hm)]
structure ExtN (y : List (List UInt8)) (P Q : PSt × VNode) : Prop where
 hard : ¬ soft P.1.bad → Q.1.bad = P.1.bad
 same : P.1.bad = 0 → Q = (P.1.more y, P.2)
theorem name_ext (s : PSt) (y : List (List UInt8)) (hs : s.bad = 0) : ((nameP s).1.bad = 0 → nameP (s.more y) = ((nameP s).1.more y, (nameP s).2)) ∧ soft (nameP s).1.bad ∧ (nameP s).1.rest.length ≤ s.rest.length := by
 cases hrest : s.rest with
 | nil =>
  have : nameP s = (s.fail (-16), []) := by unfold nameP; rw [hrest]
  rw [this]
  refine ⟨fun k => absurd k (fail_bad (by decide)), ?_, ?_⟩
  ·rw [fail0 hs]; exact .inr (.inr rfl)
  ·show (s.fail (-16)).rest.length ≤ _; rw [(fail_o s _).2.2, hrest]; exact Nat.le_refl _
 | cons w ws =>
  have e1 : nameP s = (if w = [] then { s with rest := ws }.fail (-16) else { s with rest := ws }, w) := by unfold nameP; rw [hrest]
  have e2 : nameP (s.more y) = (if w = [] then { s with rest := ws ++ y }.fail (-16) else { s with rest := ws ++ y }, w) := by unfold nameP PSt.more; rw [hrest]; rfl
  rw [e1, e2]
  by_cases q : w = []
  ·rw [if_pos q, if_pos q]
   refine ⟨fun k => absurd k (fail_bad (by decide)), ?_, ?_⟩
   ·rw [fail0 (by exact hs)]; exact .inr (.inr rfl)
   ·show (PSt.fail _ (-16)).rest.length ≤ _; rw [(fail_o _ _).2.2]; simp
  ·rw [if_neg q, if_neg q]
   exact ⟨fun _ => rfl, .inl hs, by simp⟩
theorem on_ext {R : Rdr} {m : Nat} {y : List (List UInt8)} {row rowm : PSt → PRes} (h : RowE m y row rowm) (pb : ∀ s : PSt, s.bad ≠ 0 → row s = (s, [], [])) (pbm : ∀ s : PSt, s.bad ≠ 0 → rowm s = (s, [], [])) {s : PSt} (hs : s.bad = 0) (hl : s.rest.length < m) (sp : List UInt8) :
  (onP R row sp s = none → onP R rowm sp (s.more y) = none) ∧ (∀ q, onP R row sp s = some q → (∃ q', onP R rowm sp (s.more y) = some q' ∧ ExtN y q q') ∧ q.1.rest.length ≤ s.rest.length) := by
 have self : ∀ x : VNode, ExtN y (s, x) (s.more y, x) := fun x => ⟨fun k => absurd (.inl hs) k, fun _ => rfl⟩
 have fl : ∀ (e : Int) (x : VNode), e ≠ 0 → ExtN y (s.fail e, x) ((s.more y).fail e, x) := fun e x he => by
  rw [← more_fail]; exact ⟨fun _ => rfl, fun k => absurd k (fail_bad he)⟩
 have two : ∀ (s1 s2 : PSt) (ends : List (List UInt8)), [] ∉ ends → s1.rest.length < m → (¬ soft s1.bad → s2.bad = s1.bad) → (s1.bad = 0 → s2 = s1.more y) →
   (¬ soft (bodyP row s1 ends).1.bad → (bodyP rowm s2 ends).1.bad = (bodyP row s1 ends).1.bad) ∧ ((bodyP row s1 ends).1.bad = 0 → bodyP rowm s2 ends = ((bodyP row s1 ends).1.more y, (bodyP row s1 ends).2.1, (bodyP row s1 ends).2.2)) ∧ (bodyP row s1 ends).1.rest.length ≤ s1.rest.length := by
  intro s1 s2 ends he hl1 hh hz
  by_cases b : s1.bad = 0
  ·rw [hz b]; exact body_ext h hl1 he
  ·rw [body_bad b (pb s1 b)]
   refine ⟨fun k => ?_, fun k => absurd k b, Nat.le_refl _⟩
   have k' := hh k
   rw [body_bad (by rw [k']; exact b) (pbm s2 (by rw [k']; exact b))]; exact k'
 have o0 : (¬ soft (opensP s).bad → (opensP (s.more y)).bad = (opensP s).bad) ∧ ((opensP s).bad = 0 → opensP (s.more y) = (opensP s).more y) := by
  rw [more_opens]; exact ⟨fun _ => rfl, fun _ => rfl⟩
 have lo : (opensP s).rest.length < m := by rw [opens_rest]; exact hl
 have lp : ∀ ask : Int, ExtN y (loopN row ask s) (loopN rowm ask (s.more y)) ∧ (loopN row ask s).1.rest.length ≤ s.rest.length := by
  intro ask
  unfold loopN
  dsimp only
  have b1 := two { opensP s with loops := (opensP s).loops + 1 } { opensP (s.more y) with loops := (opensP (s.more y)).loops + 1 } [[76, 79, 79, 80], [43, 76, 79, 79, 80]] (by decide) lo o0.1 (fun k => by rw [o0.2 k]; rfl)
  generalize bodyP row { opensP s with loops := (opensP s).loops + 1 } [[76, 79, 79, 80], [43, 76, 79, 79, 80]] = r at b1 ⊢
  generalize bodyP rowm { opensP (s.more y) with loops := (opensP (s.more y)).loops + 1 } [[76, 79, 79, 80], [43, 76, 79, 79, 80]] = r' at b1 ⊢
  obtain ⟨b1, b2, b3⟩ := b1
  refine ⟨⟨fun k => b1 k, fun k => ?_⟩, ?_⟩
  ·rw [b2 k]; rfl
  ·show r.1.rest.length ≤ _; exact Nat.le_trans b3 (by show (opensP s).rest.length ≤ _; rw [opens_rest]; exact Nat.le_refl _)
 unfold onP
 by_cases c1 : sp = [73, 70]
 ·rw [if_pos c1, if_pos c1]
  refine ⟨(fun k => nomatch k), fun q k => ?_⟩
  cases k
  unfold ifP
  dsimp only
  have b1 := two (opensP s) (opensP (s.more y)) [[69, 76, 83, 69], [84, 72, 69, 78]] (by decide) lo o0.1 o0.2
  generalize bodyP row (opensP s) [[69, 76, 83, 69], [84, 72, 69, 78]] = r at b1 ⊢
  generalize bodyP rowm (opensP (s.more y)) [[69, 76, 83, 69], [84, 72, 69, 78]] = r' at b1 ⊢
  obtain ⟨b1, b2, b3⟩ := b1
  rw [opens_rest] at b3
  have c1 := two r.1 r'.1 [[84, 72, 69, 78]] (by decide) (by omega) b1 (fun k => by rw [b2 k])
  by_cases e : r.2.2 = [69, 76, 83, 69]
  ·rw [if_pos e]
   obtain ⟨c1, c2, c3⟩ := c1
   refine ⟨⟨_, rfl, ⟨fun k => ?_, fun k => ?_⟩⟩, by show (bodyP row r.1 _).1.rest.length ≤ _; omega⟩
   ·have k' : ¬ soft (bodyP row r.1 [[84, 72, 69, 78]]).1.bad := k
    by_cases e' : r'.2.2 = [69, 76, 83, 69]
    ·rw [if_pos e']; exact c1 k'
    ·rw [if_neg e']
     have z : r.1.bad ≠ 0 := fun z => e' (by rw [b2 z]; exact e)
     have e0 := body_bad z (pb r.1 z) (ends := [[84, 72, 69, 78]])
     rw [e0] at k' ⊢
     exact b1 k'
   ·have k' : (bodyP row r.1 [[84, 72, 69, 78]]).1.bad = 0 := k
    have z := body_nz pb k'
    have e' : r'.2.2 = [69, 76, 83, 69] := by rw [b2 z]; exact e
    rw [if_pos e', c2 k', b2 z]; rfl
  ·rw [if_neg e]
   refine ⟨⟨_, rfl, ⟨fun k => ?_, fun k => ?_⟩⟩, by show r.1.rest.length ≤ _; omega⟩
   ·have k' : ¬ soft r.1.bad := k
    have z : r.1.bad ≠ 0 := fun z => k' (.inl z)
    have z' : r'.1.bad ≠ 0 := by rw [b1 k']; exact z
    by_cases e' : r'.2.2 = [69, 76, 83, 69]
    ·rw [if_pos e']; show (bodyP rowm r'.1 _).1.bad = _; rw [body_bad z' (pbm _ z')]; exact b1 k'
    ·rw [if_neg e']; exact b1 k'
   ·have k' : r.1.bad = 0 := k
    rw [if_neg (by rw [b2 k']; exact e), b2 k']; rfl
 rw [if_neg c1, if_neg c1]
 by_cases c2 : sp = [66, 69, 71, 73, 78]
 ·rw [if_pos c2, if_pos c2]
  refine ⟨(fun k => nomatch k), fun q k => ?_⟩
  cases k
  unfold beginP
  dsimp only
  have b1 := two (opensP s) (opensP (s.more y)) [[85, 78, 84, 73, 76], [65, 71, 65, 73, 78], [87, 72, 73, 76, 69]] (by decide) lo o0.1 o0.2
  generalize bodyP row (opensP s) [[85, 78, 84, 73, 76], [65, 71, 65, 73, 78], [87, 72, 73, 76, 69]] = r at b1 ⊢
  generalize bodyP rowm (opensP (s.more y)) [[85, 78, 84, 73, 76], [65, 71, 65, 73, 78], [87, 72, 73, 76, 69]] = r' at b1 ⊢
  obtain ⟨b1, b2, b3⟩ := b1
  rw [opens_rest] at b3
  have c1 := two r.1 r'.1 [[82, 69, 80, 69, 65, 84]] (by decide) (by omega) b1 (fun k => by rw [b2 k])
  obtain ⟨c1, c2, c3⟩ := c1
  refine ⟨⟨_, rfl, ⟨fun k => ?_, fun k => ?_⟩⟩, ?_⟩
  ·by_cases z : r.1.bad = 0
   ·rw [b2 z] at c1 ⊢
    dsimp only at c1 ⊢
    by_cases e : r.2.2 = [65, 71, 65, 73, 78]
    ·rw [if_pos e] at k ⊢; rw [if_pos e]; rfl
    ·rw [if_neg e] at k ⊢; rw [if_neg e]
     by_cases e2 : r.2.2 = [87, 72, 73, 76, 69]
     ·rw [if_pos e2] at k ⊢; rw [if_pos e2]; exact c1 k
     ·rw [if_neg e2] at k ⊢; rw [if_neg e2]; rfl
   ·have e0 := body_bad z (pb r.1 z) (ends := [[82, 69, 80, 69, 65, 84]])
    rw [e0] at k ⊢
    have pick : ∀ (c1 c2 : Prop) [Decidable c1] [Decidable c2] (t : Int) (x1 x2 x3 : PSt × VNode), x1.1.bad = t → x2.1.bad = t → x3.1.bad = t → (if c1 then x1 else if c2 then x2 else x3).1.bad = t := by
     intro c1 c2 _ _ t x1 x2 x3 h1 h2 h3; by_cases k1 : c1 <;> by_cases k2 : c2 <;> simp [k1, k2, h1, h2, h3]
    have lt : (if r.2.2 = [65, 71, 65, 73, 78] then (shutP r.1, VNode.mk 5 0 r.2.1 []) else if r.2.2 = [87, 72, 73, 76, 69] then (shutP r.1, VNode.mk 6 0 r.2.1 []) else (shutP r.1, VNode.mk 4 0 r.2.1 [])).1.bad = r.1.bad := pick _ _ _ _ _ _ rfl rfl rfl
    dsimp only at k ⊢
    rw [lt] at k ⊢
    have rb := b1 k
    have z' : r'.1.bad ≠ 0 := by rw [rb]; exact z
    rw [body_bad z' (pbm _ z')]
    exact pick _ _ _ _ _ _ rb rb rb
  ·have z : r.1.bad = 0 := by
    by_cases e : r.2.2 = [65, 71, 65, 73, 78]
    ·rw [if_pos e] at k; exact k
    ·rw [if_neg e] at k
     by_cases e2 : r.2.2 = [87, 72, 73, 76, 69]
     ·rw [if_pos e2] at k; exact body_nz pb k
     ·rw [if_neg e2] at k; exact k
   rw [b2 z] at c2 ⊢
   dsimp only at c2 ⊢
   by_cases e : r.2.2 = [65, 71, 65, 73, 78]
   ·rw [if_pos e, if_pos e]; rfl
   ·rw [if_neg e] at k ⊢; rw [if_neg e]
    by_cases e2 : r.2.2 = [87, 72, 73, 76, 69]
    ·rw [if_pos e2] at k ⊢; rw [if_pos e2, c2 k]; rfl
    ·rw [if_neg e2, if_neg e2]; rfl
  ·by_cases e : r.2.2 = [65, 71, 65, 73, 78]
   ·rw [if_pos e]; exact b3
   ·rw [if_neg e]
    by_cases e2 : r.2.2 = [87, 72, 73, 76, 69]
    ·rw [if_pos e2]; show (bodyP row r.1 _).1.rest.length ≤ _; omega
    ·rw [if_neg e2]; exact b3
 rw [if_neg c2, if_neg c2]
 by_cases c3 : sp = [68, 79]
 ·rw [if_pos c3, if_pos c3]
  exact ⟨(fun k => nomatch k), fun q k => by cases k; exact ⟨⟨_, rfl, (lp 0).1⟩, (lp 0).2⟩⟩
 rw [if_neg c3, if_neg c3]
 by_cases c4 : sp = [63, 68, 79]
 ·rw [if_pos c4, if_pos c4]
  exact ⟨(fun k => nomatch k), fun q k => by cases k; exact ⟨⟨_, rfl, (lp 1).1⟩, (lp 1).2⟩⟩
 rw [if_neg c4, if_neg c4]
 by_cases c5 : sp = [76, 69, 65, 86, 69]
 ·rw [if_pos c5, if_pos c5]
  refine ⟨(fun k => nomatch k), fun q k => ?_⟩
  ·cases k
   refine ⟨⟨_, rfl, ?_⟩, ?_⟩
   ·unfold leaveP
    show ExtN y (if s.loops = 0 then _ else _, _) (if s.loops = 0 then _ else _, _)
    split
    ·exact fl _ _ (by decide)
    ·exact self _
   ·unfold leaveP; dsimp only; split
    ·rw [(fail_o s _).2.2]; exact Nat.le_refl _
    ·exact Nat.le_refl _
 rw [if_neg c5, if_neg c5]
 by_cases c6 : sp = [69, 88, 73, 84]
 ·rw [if_pos c6, if_pos c6]
  refine ⟨(fun k => nomatch k), fun q k => ?_⟩
  ·cases k
   refine ⟨⟨_, rfl, ?_⟩, ?_⟩
   ·unfold exitP
    show ExtN y (if 0 < s.loops then _ else _, _) (if 0 < s.loops then _ else _, _)
    split
    ·exact fl _ _ (by decide)
    ·exact self _
   ·unfold exitP; dsimp only; split
    ·rw [(fail_o s _).2.2]; exact Nat.le_refl _
    ·exact Nat.le_refl _
 rw [if_neg c6, if_neg c6]
 by_cases c7 : sp = [82, 69, 67, 85, 82, 83, 69]
 ·rw [if_pos c7, if_pos c7]
  exact ⟨(fun k => nomatch k), fun q k => by cases k; exact ⟨⟨_, rfl, self _⟩, Nat.le_refl _⟩⟩
 rw [if_neg c7, if_neg c7]
 obtain ⟨n1, n2, n3⟩ := name_ext s y hs
 by_cases c8 : sp = [91, 67, 72, 65, 82, 93]
 ·rw [if_pos c8, if_pos c8]
  refine ⟨(fun k => nomatch k), fun q k => ?_⟩
  ·cases k
   refine ⟨⟨_, rfl, ⟨fun z => absurd n2 z, fun z => ?_⟩⟩, n3⟩
   unfold charP; rw [n1 z]
 rw [if_neg c8, if_neg c8]
 by_cases c9 : sp = [91, 39, 93]
 ·rw [if_pos c9, if_pos c9]
  refine ⟨(fun k => nomatch k), fun q k => ?_⟩
  ·cases k
   refine ⟨⟨_, rfl, ⟨fun z => ?_, fun z => ?_⟩⟩, ?_⟩
   ·unfold tickP at z ⊢
    dsimp only at z ⊢
    by_cases b : (nameP s).1.bad = 0
    ·rw [n1 b]
     dsimp only
     by_cases t : (R.tk (nameP s).2).2 = true
     ·rw [if_pos t, if_pos t]; rfl
     ·rw [if_neg t, if_neg t, ← more_fail]; rfl
    ·refine absurd n2 (fun n2 => z ?_)
     split
     ·exact n2
     ·rw [fail1 b]; exact n2
   ·unfold tickP at z ⊢
    dsimp only at z ⊢
    by_cases t : (R.tk (nameP s).2).2 = true
    ·rw [if_pos t] at z
     rw [n1 z]; dsimp only; rw [if_pos t, if_pos t]
    ·rw [if_neg t] at z; exact absurd z (fail_bad (by decide))
   ·unfold tickP; dsimp only; split
    ·exact n3
    ·rw [(fail_o _ _).2.2]; exact n3
 rw [if_neg c9, if_neg c9]
 exact ⟨fun _ => rfl, fun q k => by cases k⟩
theorem loop_ext {R : Rdr} (hR : RdOk R) (y : List (List UInt8)) : ∀ (m : Nat) (s : PSt) (acc : List VNode) (M : Nat), s.rest.length < m → s.rest.length + y.length < M →
  ExtR y (loopP R m s acc) (loopP R M (s.more y) acc) ∧ (loopP R m s acc).1.rest.length ≤ s.rest.length ∧
  ((loopP R m s acc).1.bad = 0 → (loopP R m s acc).2.2 = [] → (loopP R m s acc).1.rest = [] ∧ ∃ K, y.length < K ∧ loopP R M (s.more y) acc = loopP R K ((loopP R m s acc).1.more y) (loopP R m s acc).2.1) := by
 intro m
 induction m with
 | zero => intro s acc M h; omega
 | succ m ih =>
  intro s acc M h hM
  obtain ⟨M, rfl⟩ : ∃ k, M = k + 1 := ⟨M - 1, by omega⟩
  by_cases hs : s.bad ≠ 0
  ·rw [loopP_bad R _ acc hs, loopP_bad R _ acc (show (s.more y).bad ≠ 0 from hs)]
   exact ⟨⟨fun _ => rfl, fun k => absurd k hs⟩, Nat.le_refl _, fun k => absurd k hs⟩
  replace hs : s.bad = 0 := Decidable.not_not.1 hs
  rw [loopP, if_neg (by simpa using hs)]
  cases hrest : s.rest with
  | nil =>
   dsimp only
   refine ⟨⟨fun k => absurd (.inl hs) k, fun _ k => absurd rfl k⟩, by rw [hrest]; exact Nat.le_refl _, fun _ _ => ⟨hrest, M + 1, by omega, rfl⟩⟩
  | cons w ws =>
   rw [hrest] at h hM
   simp only [List.length_cons] at h hM
   dsimp only
   have em : (s.more y).rest = w :: (ws ++ y) := by unfold PSt.more; rw [hrest]; rfl
   have step : loopP R (M + 1) (s.more y) acc = (if (R.rd w s.loops).2.1 = [] then loopP R M (({ s with rest := ws }.fail (R.rd w s.loops).1).more y) (acc ++ [(R.rd w s.loops).2.2])
     else match onP R (fun s => loopP R M s []) (R.rd w s.loops).2.1 (({ s with rest := ws }.fail (R.rd w s.loops).1).more y) with
      | none => (({ s with rest := ws }.fail (R.rd w s.loops).1).more y, acc, (R.rd w s.loops).2.1)
      | some q => loopP R M q.1 (acc ++ [q.2])) := by
    rw [loopP, if_neg (by show ¬ s.bad ≠ 0; simpa using hs), em]
    dsimp only
    rw [more_fail]; rfl
   rw [step]
   have hb := hR.bad w s.loops
   rw [fail0 (show ({ s with rest := ws } : PSt).bad = 0 from hs)]
   generalize R.rd w s.loops = r at hb ⊢
   by_cases c : r.2.1 = []
   ·rw [if_pos c, if_pos c]
    obtain ⟨i1, i2, i3⟩ := ih { s with rest := ws, bad := r.1 } (acc ++ [r.2.2]) M (by show ws.length < m; omega) (by show ws.length + y.length < M; omega)
    exact ⟨i1, Nat.le_trans i2 (by show ws.length ≤ _; rw [List.length_cons]; omega), i3⟩
   ·rw [if_neg c, if_neg c]
    have b : r.1 = 0 := Decidable.byContradiction fun k => c (hb k)
    have hx := on_ext (R := R) (m := ws.length + 1) (y := y) (row := fun s => loopP R m s []) (rowm := fun s => loopP R M s []) (fun s1 h1 => ⟨(ih s1 [] M (by omega) (by omega)).1, (ih s1 [] M (by omega) (by omega)).2.1⟩) (fun s h => loopP_bad R m [] h) (fun s h => loopP_bad R M [] h) (s := ⟨ws, s.opn, s.loops, r.1⟩) b (by show ws.length < ws.length + 1; omega) r.2.1
    cases ho : onP R (fun s => loopP R m s []) r.2.1 ⟨ws, s.opn, s.loops, r.1⟩ with
    | none =>
     rw [hx.1 ho]
     exact ⟨⟨fun k => absurd (.inl b) k, fun _ _ => rfl⟩, by show ws.length ≤ _; rw [List.length_cons]; omega, fun _ k => absurd k c⟩
    | some q =>
     obtain ⟨⟨q', e1, e2⟩, e3⟩ := hx.2 q ho
     rw [e1]
     dsimp only at e3 ⊢
     by_cases z : q.1.bad = 0
     ·rw [e2.same z]
      obtain ⟨i1, i2, i3⟩ := ih q.1 (acc ++ [q.2]) M (by omega) (by omega)
      exact ⟨i1, Nat.le_trans i2 (by rw [List.length_cons]; omega), i3⟩
     ·rw [loopP_bad R m _ z]
      refine ⟨⟨fun k => ?_, fun k => absurd k z⟩, by show q.1.rest.length ≤ _; rw [List.length_cons]; omega, fun k => absurd k z⟩
      rw [loopP_bad R M _ (by rw [e2.hard k]; exact z)]; exact e2.hard k
theorem body_fuel {row row' : PSt → PRes} {n : Nat} (h : ∀ s1 : PSt, s1.rest.length ≤ n → row s1 = row' s1 ∧ (row s1).1.rest.length ≤ s1.rest.length) {s : PSt} (hs : s.rest.length ≤ n) (ends : List (List UInt8)) : bodyP row s ends = bodyP row' s ends ∧ (bodyP row s ends).1.rest.length ≤ n := by
 have k := h s hs
 unfold bodyP
 rw [← k.1]
 refine ⟨rfl, ?_⟩
 dsimp only
 split
 ·show (endsP _ _).rest.length ≤ _; rw [ends_rest]; omega
 ·omega
theorem on_fuel {R : Rdr} {row row' : PSt → PRes} {s : PSt} (h : ∀ s1 : PSt, s1.rest.length ≤ s.rest.length → row s1 = row' s1 ∧ (row s1).1.rest.length ≤ s1.rest.length) (sp : List UInt8) : onP R row sp s = onP R row' sp s := by
 have lo : (opensP s).rest.length ≤ s.rest.length := by rw [opens_rest]; exact Nat.le_refl _
 have e1 : ifP row s = ifP row' s := by
  unfold ifP; dsimp only
  have k := body_fuel h lo [[69, 76, 83, 69], [84, 72, 69, 78]]
  rw [← k.1, (body_fuel h k.2 [[84, 72, 69, 78]]).1]
 have e2 : beginP row s = beginP row' s := by
  unfold beginP; dsimp only
  have k := body_fuel h lo [[85, 78, 84, 73, 76], [65, 71, 65, 73, 78], [87, 72, 73, 76, 69]]
  rw [← k.1, (body_fuel h k.2 [[82, 69, 80, 69, 65, 84]]).1]
 have e3 : ∀ a, loopN row a s = loopN row' a s := fun a => by
  unfold loopN; dsimp only
  rw [(body_fuel h (s := { opensP s with loops := (opensP s).loops + 1 }) lo [[76, 79, 79, 80], [43, 76, 79, 79, 80]]).1]
 unfold onP
 rw [e1, e2, e3, e3]
theorem loop_fuel {R : Rdr} (hR : RdOk R) : ∀ (m M : Nat) (s : PSt) (acc : List VNode), s.rest.length < m → s.rest.length < M → loopP R m s acc = loopP R M s acc := by
 intro m
 induction m with
 | zero => intro M s acc h; omega
 | succ m ih =>
  intro M s acc h hM
  obtain ⟨M, rfl⟩ : ∃ k, M = k + 1 := ⟨M - 1, by omega⟩
  rw [loopP, loopP]
  cases hrest : s.rest with
  | nil => rfl
  | cons w ws =>
   rw [hrest, List.length_cons] at h hM
   dsimp only
   have hf : ({ s with rest := ws }.fail (R.rd w s.loops).1 : PSt).rest = ws := (fail_o _ _).2.2
   have shr : ∀ s1 : PSt, s1.rest.length < m → (loopP R m s1 []).1.rest.length ≤ s1.rest.length := fun s1 h1 => (loop_ext hR [] m s1 [] (s1.rest.length + 1) h1 (by show s1.rest.length + 0 < _; omega)).2.1
   have e0 : onP R (fun s => loopP R m s []) (R.rd w s.loops).2.1 (({ s with rest := ws } : PSt).fail (R.rd w s.loops).1) = onP R (fun s => loopP R M s []) (R.rd w s.loops).2.1 (({ s with rest := ws } : PSt).fail (R.rd w s.loops).1) := on_fuel (fun s1 h1 => ⟨ih M s1 [] (by rw [hf] at h1; omega) (by rw [hf] at h1; omega), shr s1 (by rw [hf] at h1; omega)⟩) (R.rd w s.loops).2.1
   rw [e0]
   have e1 := ih M ({ s with rest := ws }.fail (R.rd w s.loops).1) (acc ++ [(R.rd w s.loops).2.2]) (by rw [hf]; omega) (by rw [hf]; omega)
   rw [e1]
   cases hq : onP R (fun s => loopP R M s []) (R.rd w s.loops).2.1 ({ s with rest := ws }.fail (R.rd w s.loops).1) with
   | none => rfl
   | some q =>
    by_cases hs : s.bad ≠ 0
    ·rw [if_pos hs, if_pos hs]
    replace hs : s.bad = 0 := Decidable.not_not.1 hs
    by_cases b : (R.rd w s.loops).1 = 0
    ·have hl : q.1.rest.length ≤ ws.length := by
      have hx := on_ext (R := R) (m := ws.length + 1) (y := []) (row := fun s => loopP R M s []) (rowm := fun s => loopP R (M + 1) s []) (fun s1 h1 => ⟨(loop_ext hR [] M s1 [] (M + 1) (by omega) (by show s1.rest.length + 0 < _; omega)).1, (loop_ext hR [] M s1 [] (M + 1) (by omega) (by show s1.rest.length + 0 < _; omega)).2.1⟩) (fun s h => loopP_bad R M [] h) (fun s h => loopP_bad R _ [] h) (s := { s with rest := ws }.fail (R.rd w s.loops).1) (by rw [fail0 (by exact hs)]; exact b) (by rw [hf]; omega) (R.rd w s.loops).2.1
      have := (hx.2 q hq).2
      rw [hf] at this; exact this
     dsimp only
     rw [ih M q.1 _ (by omega) (by omega)]
    ·rw [hR.bad _ _ b]; rfl
theorem body_suf {row : PSt → PRes} (h : ∀ s : PSt, (row s).1.rest <:+ s.rest) (s : PSt) (ends : List (List UInt8)) : (bodyP row s ends).1.rest <:+ s.rest := by
 unfold bodyP
 dsimp only
 split
 ·show (endsP _ _).rest <:+ _; rw [ends_rest]; exact h s
 ·exact h s
theorem opens_suf {row : PSt → PRes} (h : ∀ s : PSt, (row s).1.rest <:+ s.rest) (s : PSt) (ends : List (List UInt8)) : (bodyP row (opensP s) ends).1.rest <:+ s.rest := by
 have := body_suf h (opensP s) ends
 rw [opens_rest] at this; exact this
theorem if_suf {row : PSt → PRes} (h : ∀ s : PSt, (row s).1.rest <:+ s.rest) (s : PSt) : (ifP row s).1.rest <:+ s.rest := by
 unfold ifP
 dsimp only
 by_cases e : (bodyP row (opensP s) [[69, 76, 83, 69], [84, 72, 69, 78]]).2.2 = [69, 76, 83, 69]
 ·rw [if_pos e]; exact (body_suf h _ _).trans (opens_suf h s _)
 ·rw [if_neg e]; exact opens_suf h s _
theorem begin_suf {row : PSt → PRes} (h : ∀ s : PSt, (row s).1.rest <:+ s.rest) (s : PSt) : (beginP row s).1.rest <:+ s.rest := by
 unfold beginP
 dsimp only
 by_cases e : (bodyP row (opensP s) [[85, 78, 84, 73, 76], [65, 71, 65, 73, 78], [87, 72, 73, 76, 69]]).2.2 = [65, 71, 65, 73, 78]
 ·rw [if_pos e]; exact opens_suf h s _
 ·rw [if_neg e]
  by_cases e2 : (bodyP row (opensP s) [[85, 78, 84, 73, 76], [65, 71, 65, 73, 78], [87, 72, 73, 76, 69]]).2.2 = [87, 72, 73, 76, 69]
  ·rw [if_pos e2]; exact (body_suf h _ _).trans (opens_suf h s _)
  ·rw [if_neg e2]; exact opens_suf h s _
theorem loopN_suf {row : PSt → PRes} (h : ∀ s : PSt, (row s).1.rest <:+ s.rest) (ask : Int) (s : PSt) : (loopN row ask s).1.rest <:+ s.rest := by
 unfold loopN
 dsimp only
 have := body_suf h { opensP s with loops := (opensP s).loops + 1 } [[76, 79, 79, 80], [43, 76, 79, 79, 80]]
 have e : ({ opensP s with loops := (opensP s).loops + 1 } : PSt).rest = s.rest := opens_rest s
 rw [e] at this; exact this
theorem fail_suf (s : PSt) (e : Int) : (s.fail e).rest <:+ s.rest := by rw [(fail_o s e).2.2]; exact List.suffix_refl _
theorem name_suf (s : PSt) : (nameP s).1.rest <:+ s.rest := by
 unfold nameP
 cases hr : s.rest with
 | nil => have f := fail_suf s (-16); rw [hr] at f; exact f
 | cons w ws =>
  dsimp only
  split
  ·exact (fail_suf { s with rest := ws } _).trans (List.suffix_cons w ws)
  ·exact List.suffix_cons w ws
theorem on_suf {R : Rdr} {row : PSt → PRes} (h : ∀ s : PSt, (row s).1.rest <:+ s.rest) {sp : List UInt8} {s : PSt} {q : PSt × VNode} (hq : onP R row sp s = some q) : q.1.rest <:+ s.rest := by
 unfold onP at hq
 repeat' split at hq
 all_goals cases hq
 ·exact if_suf h s
 ·exact begin_suf h s
 ·exact loopN_suf h 0 s
 ·exact loopN_suf h 1 s
 ·unfold leaveP; dsimp only; split
  ·exact fail_suf _ _
  ·exact List.suffix_refl _
 ·unfold exitP; dsimp only; split
  ·exact fail_suf _ _
  ·exact List.suffix_refl _
 ·exact List.suffix_refl _
 ·exact name_suf s
 ·unfold tickP; dsimp only; split
  ·exact name_suf s
  ·exact (fail_suf _ _).trans (name_suf s)
theorem loop_suf (R : Rdr) : ∀ (m : Nat) (s : PSt) (acc : List VNode), (loopP R m s acc).1.rest <:+ s.rest := by
 intro m
 induction m with
 | zero => intro s acc; rw [loopP]; exact fail_suf s _
 | succ m ih =>
  intro s acc
  by_cases hs : s.bad ≠ 0
  ·rw [loopP_bad R _ acc hs]; exact List.suffix_refl _
  rw [loopP, if_neg hs]
  cases hrest : s.rest with
  | nil => dsimp only; rw [hrest]; exact List.suffix_refl _
  | cons w ws =>
   dsimp only
   have f := fail_suf { s with rest := ws } (R.rd w s.loops).1
   generalize ({ s with rest := ws } : PSt).fail (R.rd w s.loops).1 = s2 at f
   have f2 : s2.rest <:+ w :: ws := f.trans (List.suffix_cons w ws)
   by_cases c : (R.rd w s.loops).2.1 = []
   ·rw [if_pos c]; exact (ih s2 _).trans f2
   ·rw [if_neg c]
    cases ho : onP R (fun s => loopP R m s []) (R.rd w s.loops).2.1 s2 with
    | none => exact f2
    | some q => exact (ih q.1 _).trans ((on_suf (fun s => ih s []) ho).trans f2)
theorem dfail_suf (s : DSt) (e : Int) : (s.fail e).rest <:+ s.rest := by unfold DSt.fail; split <;> exact List.suffix_refl _
theorem behind_suf (s : DSt) : (behindD s).1.rest <:+ s.rest := by
 unfold behindD
 cases hr : s.rest with
 | nil => have f := dfail_suf s (-16); rw [hr] at f; exact f
 | cons w ws =>
  dsimp only
  split
  ·have f := dfail_suf s (-16); rw [hr] at f; exact f
  ·exact List.suffix_cons w ws
theorem bracket_suf {row : List (List UInt8) → Int → Int → DSt → DRes} (h : ∀ e o l (s : DSt), (row e o l s).1.rest <:+ s.rest) (name : List UInt8) (o l : Int) (s : DSt) : (bracketD row name o l s).1.rest <:+ s.rest := by
 unfold bracketD
 by_cases c1 : name = [73, 70]
 ·rw [if_pos c1]
  dsimp only
  by_cases e : (row [[69, 76, 83, 69], [84, 72, 69, 78]] o l s).2.2 ≠ [69, 76, 83, 69]
  ·rw [if_pos e]; exact h _ _ _ _
  ·rw [if_neg e]; exact (h _ _ _ _).trans (h _ _ _ _)
 rw [if_neg c1]
 by_cases c2 : name = [66, 69, 71, 73, 78]
 ·rw [if_pos c2]
  dsimp only
  by_cases e : (row [[85, 78, 84, 73, 76], [65, 71, 65, 73, 78], [87, 72, 73, 76, 69]] o l s).2.2 = [85, 78, 84, 73, 76]
  ·rw [if_pos e]; exact h _ _ _ _
  rw [if_neg e]
  by_cases e2 : (row [[85, 78, 84, 73, 76], [65, 71, 65, 73, 78], [87, 72, 73, 76, 69]] o l s).2.2 = [65, 71, 65, 73, 78]
  ·rw [if_pos e2]; exact h _ _ _ _
  ·rw [if_neg e2]; exact (h _ _ _ _).trans (h _ _ _ _)
 rw [if_neg c2]; exact h _ _ _ _
theorem part_suf (R : Rdr) {row : List (List UInt8) → Int → Int → DSt → DRes} (h : ∀ e o l (s : DSt), (row e o l s).1.rest <:+ s.rest) (name : List UInt8) (o l : Int) (s : DSt) : (partD R row name o l s).1.rest <:+ s.rest := by
 unfold partD
 by_cases c1 : name = [76, 69, 65, 86, 69]
 ·rw [if_pos c1]; dsimp only; split
  ·exact dfail_suf _ _
  ·exact List.suffix_refl _
 rw [if_neg c1]
 by_cases c2 : name = [69, 88, 73, 84]
 ·rw [if_pos c2]; dsimp only; split
  ·exact dfail_suf _ _
  ·exact List.suffix_refl _
 rw [if_neg c2]
 by_cases c3 : name = [82, 69, 67, 85, 82, 83, 69]
 ·rw [if_pos c3]; exact List.suffix_refl _
 rw [if_neg c3]
 by_cases c4 : name = [91, 67, 72, 65, 82, 93]
 ·rw [if_pos c4]; exact behind_suf s
 rw [if_neg c4]
 by_cases c5 : name = [91, 39, 93]
 ·rw [if_pos c5]; dsimp only; split
  ·exact behind_suf s
  ·exact (dfail_suf _ _).trans (behind_suf s)
 rw [if_neg c5]
 by_cases c6 : name = [73, 70] ∨ name = [66, 69, 71, 73, 78] ∨ name = [68, 79] ∨ name = [63, 68, 79]
 ·rw [if_pos c6]
  by_cases k : 16 ≤ o
  ·rw [if_pos k]; exact dfail_suf _ _
  ·rw [if_neg k]; exact bracket_suf h _ _ _ _
 rw [if_neg c6]
 dsimp only
 split
 ·exact (dfail_suf _ _).trans (dfail_suf _ _)
 ·exact dfail_suf _ _
theorem row_suf (R : Rdr) : ∀ (m : Nat) (e : List (List UInt8)) (o l : Int) (s : DSt) (acc : List VNode), (rowD R m e o l s acc).1.rest <:+ s.rest := by
 intro m
 induction m with
 | zero => intro e o l s acc; rw [rowD]; exact dfail_suf s _
 | succ m ih =>
  intro e o l s acc
  by_cases hs : s.bad ≠ 0
  ·rw [rowD_bad R _ e o l acc hs]; exact List.suffix_refl _
  rw [rowD, if_neg hs]
  cases hrest : s.rest with
  | nil =>
   dsimp only; rw [← hrest]
   split
   ·exact List.suffix_refl _
   ·exact dfail_suf _ _
  | cons w ws =>
   dsimp only
   have f := dfail_suf { s with rest := ws } (R.rd w l).1
   generalize ({ s with rest := ws } : DSt).fail (R.rd w l).1 = s2 at f
   have f2 : s2.rest <:+ w :: ws := f.trans (List.suffix_cons w ws)
   by_cases b : s2.bad ≠ 0
   ·rw [if_pos b]; exact f2
   rw [if_neg b]
   by_cases c : (R.rd w l).2.1 = []
   ·rw [if_pos c]; exact (ih e o l s2 _).trans f2
   rw [if_neg c]
   by_cases k : (R.rd w l).2.1 ∈ e
   ·rw [if_pos k]; exact f2
   ·rw [if_neg k]; exact (ih e o l _ _).trans ((part_suf R (fun e o l s => ih e o l s []) _ o l s2).trans f2)
end Go.Proofs.Ytlponhgbbfgkgaa
namespace Go.Proofs.Ytlponhgbbfgkgaa
open Go.RowKit
inductive SK where
 | any
 | clip
 | own (t k : Nat)
inductive MKey where
 | s (k : List UInt8)
 | n (i : Int)
deriving DecidableEq
inductive PV where
 | val (v : Value)
 | any
 | agg (cs : List PV)
 | tup (cs : List PV)
 | ptr (i off : Nat)
 | seq (n : Nat) (xs : List PV) (s : SK)
 | row (xs : List PV)
 | arr (i off n cap : Nat)
 | fn (f : Fn) (first cap : List PV)
 | mapv (i : Nat)
 | arw (i off n : Nat)
 | smap (ks : List MKey) (xs : List PV)
 | ifc (t : TypeId) (x : PV)
structure Cx where
 w : World
 N : Nat
 σ : Nat → Option Nat
 Wr : Nat → Nat → Prop
def Lies (c : Cx) (b : Addr) (vs : List Value) : Prop :=
 b.spot = none ∧ ∀ (j : Nat) (u : Value), vs[j]? = some u → c.w.cell? ⟨b.block, b.off + j, none⟩ = some u ∧ ¬ c.Wr b.block (b.off + j)
def KindOk (c : Cx) (s : SK) (a : Option Addr) (n cap len : Nat) : Prop :=
 match s with
 | .any => True
 | .clip => cap = n
 | .own t k => t < c.N ∧ len = n * k ∧ (cap = n ∨ ∃ b cs e, c.σ t = some b ∧ a = some ⟨b, 0, none⟩ ∧ c.w.heap[b]? = some (Obj.cells cs e (0, 0)) ∧ cap * k ≤ cs.size)
def keyV : MKey → Value
 | .s k => .string ⟨k.toArray⟩
 | .n i => .int .i64 i
mutual
def Rep (c : Cx) : PV → Value → Prop
 | .val u, v => v = u
 | .any, _ => True
 | .agg cs, v => ∃ vs : List Value, v = .agg vs.toArray ∧ RepL c cs vs
 | .tup cs, v => ∃ vs : List Value, v = .tuple vs.toArray ∧ RepL c cs vs
 | .ptr i off, v => i < c.N ∧ ∃ b, c.σ i = some b ∧ v = .pointer (some ⟨b, off, none⟩)
 | .seq n xs s, v => ∃ (a : Option Addr) (cap : Nat) (vs : List Value), v = .slice a n cap ∧ n ≤ cap ∧ (a = none → n = 0 ∧ cap = 0 ∧ vs = []) ∧ RepL c xs vs ∧
   (∀ b, a = some b → Lies c b vs ∨ (cap = 0 ∧ vs = [])) ∧ KindOk c s a n cap xs.length
 | .row xs, v => ∃ (b : Addr) (vs : List Value), v = .pointer (some b) ∧ RepL c xs vs ∧ Lies c b vs
 | .arr i off n cap, v => i < c.N ∧ ∃ b, c.σ i = some b ∧ v = .slice (some ⟨b, off, none⟩) n cap
 | .fn f first cap, v => ∃ fs cs : List Value, v = .func f fs.toArray cs.toArray ∧ RepL c first fs ∧ RepL c cap cs
 | .mapv i, v => i < c.N ∧ ∃ b, c.σ i = some b ∧ v = .map (some b)
 | .arw i off n, v => i < c.N ∧ ∃ b cap, c.σ i = some b ∧ n ≤ cap ∧ v = .slice (some ⟨b, off, none⟩) n cap
 | .smap ks xs, v => ∃ (b : Nat) (es : Array MapEntry) (clk : Nat), v = .map (some b) ∧ c.w.heap[b]? = some (Obj.map es clk) ∧ ¬ c.Wr b 0 ∧ es.toList.map (·.key) = ks.map keyV ∧ RepL c xs (es.toList.map (·.val))
 | .ifc t x, v => ∃ u, v = .iface t u ∧ Rep c x u
def RepL (c : Cx) : List PV → List Value → Prop
 | [], vs => vs = []
 | x :: xs, vs => ∃ (u : Value) (us : List Value), vs = u :: us ∧ Rep c x u ∧ RepL c xs us
end
structure Cx.Le (c c' : Cx) : Prop where
 N : c.N ≤ c'.N
 σ : ∀ i, i < c.N → c'.σ i = c.σ i
 cell : ∀ b off u, ¬ c.Wr b off → c.w.cell? ⟨b, off, none⟩ = some u → c'.w.cell? ⟨b, off, none⟩ = some u ∧ ¬ c'.Wr b off
 mapo : ∀ (b : Nat) (es : Array MapEntry) (clk : Nat), ¬ c.Wr b 0 → c.w.heap[b]? = some (Obj.map es clk) → c'.w.heap[b]? = some (Obj.map es clk) ∧ ¬ c'.Wr b 0
 shape : ∀ (b : Nat) (cs : Array Value) (e : TypeId) (fr : Nat × Nat), c.w.heap[b]? = some (Obj.cells cs e fr) → ∃ cs' : Array Value, c'.w.heap[b]? = some (Obj.cells cs' e fr) ∧ cs'.size = cs.size
theorem Cx.Le.refl (c : Cx) : c.Le c := ⟨Nat.le_refl _, fun _ _ => rfl, fun _ _ _ h1 h2 => ⟨h2, h1⟩, fun _ _ _ h1 h2 => ⟨h2, h1⟩, fun _ cs _ _ h => ⟨cs, h, rfl⟩⟩
theorem Cx.Le.trans {a b c : Cx} (h : a.Le b) (k : b.Le c) : a.Le c := by
 refine ⟨Nat.le_trans h.N k.N, fun i hi => (k.σ i (Nat.lt_of_lt_of_le hi h.N)).trans (h.σ i hi), fun x off u h1 h2 => ?_, fun x es clk h1 h2 => ?_, fun x cs e fr h1 => ?_⟩
 ·obtain ⟨h3, h4⟩ := h.cell x off u h1 h2
  exact k.cell x off u h4 h3
 ·obtain ⟨h3, h4⟩ := h.mapo x es clk h1 h2
  exact k.mapo x es clk h4 h3
 ·obtain ⟨c1, h2, h3⟩ := h.shape x cs e fr h1
  obtain ⟨c2, h4, h5⟩ := k.shape x c1 e fr h2
  exact ⟨c2, h4, h5.trans h3⟩
theorem Lies.mono {c c' : Cx} (h : c.Le c') {b : Addr} {vs : List Value} (k : Lies c b vs) : Lies c' b vs :=
 ⟨k.1, fun j u hj => h.cell _ _ u (k.2 j u hj).2 (k.2 j u hj).1⟩
theorem KindOk.mono {c c' : Cx} (h : c.Le c') {s : SK} {a : Option Addr} {n cap len : Nat} (k : KindOk c s a n cap len) : KindOk c' s a n cap len := by
 cases s with
 | any => trivial
 | clip => exact k
 | own t m =>
  obtain ⟨h1, h2, h3⟩ := k
  refine ⟨Nat.lt_of_lt_of_le h1 h.N, h2, ?_⟩
  rcases h3 with h3 | ⟨b, cs, e, h3, h4, h5, h6⟩
  ·exact .inl h3
  ·obtain ⟨cs', h7, h8⟩ := h.shape _ cs e _ h5
   exact .inr ⟨b, cs', e, by rw [h.σ t h1]; exact h3, h4, h7, by omega⟩
mutual
theorem Rep.mono {c c' : Cx} (h : c.Le c') : ∀ {x : PV} {v : Value}, Rep c x v → Rep c' x v
 | .val u, v, k => by unfold Rep at k ⊢; exact k
 | .any, _, _ => by unfold Rep; trivial
 | .agg cs, v, k => by unfold Rep at k ⊢; obtain ⟨vs, h1, h2⟩ := k; exact ⟨vs, h1, RepL.mono h h2⟩
 | .tup cs, v, k => by unfold Rep at k ⊢; obtain ⟨vs, h1, h2⟩ := k; exact ⟨vs, h1, RepL.mono h h2⟩
 | .ptr i off, v, k => by unfold Rep at k ⊢; exact ⟨Nat.lt_of_lt_of_le k.1 h.N, by rw [h.σ i k.1]; exact k.2⟩
 | .seq n xs s, v, k => by
  unfold Rep at k ⊢
  obtain ⟨a, cap, vs, h1, h2, h3, h4, h5, h6⟩ := k
  exact ⟨a, cap, vs, h1, h2, h3, RepL.mono h h4, fun b hb => (h5 b hb).imp (·.mono h) id, h6.mono h⟩
 | .row xs, v, k => by unfold Rep at k ⊢; obtain ⟨b, vs, h1, h2, h3⟩ := k; exact ⟨b, vs, h1, RepL.mono h h2, h3.mono h⟩
 | .arr i off n cap, v, k => by unfold Rep at k ⊢; exact ⟨Nat.lt_of_lt_of_le k.1 h.N, by rw [h.σ i k.1]; exact k.2⟩
 | .fn f first cap, v, k => by unfold Rep at k ⊢; obtain ⟨fs, cs, h1, h2, h3⟩ := k; exact ⟨fs, cs, h1, RepL.mono h h2, RepL.mono h h3⟩
 | .mapv i, v, k => by unfold Rep at k ⊢; exact ⟨Nat.lt_of_lt_of_le k.1 h.N, by rw [h.σ i k.1]; exact k.2⟩
 | .arw i off n, v, k => by unfold Rep at k ⊢; exact ⟨Nat.lt_of_lt_of_le k.1 h.N, by rw [h.σ i k.1]; exact k.2⟩
 | .smap ks xs, v, k => by
  unfold Rep at k ⊢
  obtain ⟨b, es, clk, h1, h2, h3, h4, h5⟩ := k
  obtain ⟨h6, h7⟩ := h.mapo b es clk h3 h2
  exact ⟨b, es, clk, h1, h6, h7, h4, RepL.mono h h5⟩
 | .ifc t x, v, k => by unfold Rep at k ⊢; obtain ⟨u, h1, h2⟩ := k; exact ⟨u, h1, Rep.mono h h2⟩
theorem RepL.mono {c c' : Cx} (h : c.Le c') : ∀ {xs : List PV} {vs : List Value}, RepL c xs vs → RepL c' xs vs
 | [], vs, k => by unfold RepL at k ⊢; exact k
 | x :: xs, vs, k => by unfold RepL at k ⊢; obtain ⟨u, us, h1, h2, h3⟩ := k; exact ⟨u, us, h1, Rep.mono h h2, RepL.mono h h3⟩
end
theorem repL_nil {c : Cx} {vs : List Value} : RepL c [] vs ↔ vs = [] := by unfold RepL; rfl
theorem repL_cons {c : Cx} {x : PV} {xs : List PV} {u : Value} {us : List Value} : RepL c (x :: xs) (u :: us) ↔ Rep c x u ∧ RepL c xs us := by
 constructor
 ·intro h
  unfold RepL at h
  obtain ⟨u', us', h1, h2, h3⟩ := h
  injection h1 with h4 h5
  subst h4 h5
  exact ⟨h2, h3⟩
 ·intro h; unfold RepL; exact ⟨u, us, rfl, h.1, h.2⟩
theorem RepL.length {c : Cx} : ∀ {xs : List PV} {vs : List Value}, RepL c xs vs → vs.length = xs.length
 | [], vs, h => by rw [repL_nil] at h; simp [h]
 | x :: xs, [], h => by unfold RepL at h; obtain ⟨u, us, h1, _⟩ := h; cases h1
 | x :: xs, v :: vs, h => by rw [repL_cons] at h; simp [RepL.length h.2]
theorem RepL.get {c : Cx} : ∀ {xs : List PV} {vs : List Value} (_ : RepL c xs vs) {j : Nat} {x : PV} (_ : xs[j]? = some x), ∃ u, vs[j]? = some u ∧ Rep c x u
 | [], _, _, j, x, hj => by simp at hj
 | y :: xs, [], h, _, _, _ => by unfold RepL at h; obtain ⟨u, us, h1, _⟩ := h; cases h1
 | y :: xs, v :: vs, h, 0, x, hj => by rw [repL_cons] at h; simp at hj; subst hj; exact ⟨v, rfl, h.1⟩
 | y :: xs, v :: vs, h, j + 1, x, hj => by rw [repL_cons] at h; simpa using RepL.get h.2 (by simpa using hj)
theorem RepL.append {c : Cx} : ∀ {xs ys : List PV} {vs us : List Value}, RepL c xs vs → RepL c ys us → RepL c (xs ++ ys) (vs ++ us)
 | [], ys, vs, us, h, k => by rw [repL_nil] at h; subst h; exact k
 | x :: xs, ys, [], us, h, k => by unfold RepL at h; obtain ⟨u, _, h1, _⟩ := h; cases h1
 | x :: xs, ys, v :: vs, us, h, k => by rw [repL_cons] at h; exact repL_cons.2 ⟨h.1, RepL.append h.2 k⟩
theorem RepL.drop {c : Cx} : ∀ {xs : List PV} {vs : List Value} (n : Nat), RepL c xs vs → RepL c (xs.drop n) (vs.drop n)
 | xs, vs, 0, h => by simpa using h
 | [], vs, n + 1, h => by rw [repL_nil] at h; subst h; simpa using repL_nil.2 rfl
 | x :: xs, [], n + 1, h => by unfold RepL at h; obtain ⟨u, _, h1, _⟩ := h; cases h1
 | x :: xs, v :: vs, n + 1, h => by rw [repL_cons] at h; simpa using RepL.drop n h.2
theorem RepL.take {c : Cx} : ∀ {xs : List PV} {vs : List Value} (n : Nat), RepL c xs vs → RepL c (xs.take n) (vs.take n)
 | xs, vs, 0, h => by simpa using repL_nil.2 rfl
 | [], vs, n + 1, h => by rw [repL_nil] at h; subst h; simpa using repL_nil.2 rfl
 | x :: xs, [], n + 1, h => by unfold RepL at h; obtain ⟨u, _, h1, _⟩ := h; cases h1
 | x :: xs, v :: vs, n + 1, h => by rw [repL_cons] at h; simpa using repL_cons.2 ⟨h.1, RepL.take n h.2⟩
theorem RepL.set {c : Cx} : ∀ {xs : List PV} {vs : List Value} (n : Nat) {x : PV} {u : Value}, RepL c xs vs → Rep c x u → RepL c (xs.set n x) (vs.set n u)
 | [], vs, n, x, u, h, k => by rw [repL_nil] at h; subst h; simpa using repL_nil.2 rfl
 | y :: xs, [], n, x, u, h, k => by unfold RepL at h; obtain ⟨u, _, h1, _⟩ := h; cases h1
 | y :: xs, v :: vs, 0, x, u, h, k => by rw [repL_cons] at h; simpa using repL_cons.2 ⟨k, h.2⟩
 | y :: xs, v :: vs, n + 1, x, u, h, k => by rw [repL_cons] at h; simpa using repL_cons.2 ⟨h.1, RepL.set n h.2 k⟩
theorem Lies.drop {c : Cx} {b : Addr} {vs : List Value} (h : Lies c b vs) (n : Nat) : Lies c ⟨b.block, b.off + n, none⟩ (vs.drop n) :=
 ⟨rfl, fun j u hj => by rw [List.getElem?_drop] at hj; have := h.2 (n + j) u hj; simpa [Nat.add_assoc] using this⟩
theorem Lies.take {c : Cx} {b : Addr} {vs : List Value} (h : Lies c b vs) (n : Nat) : Lies c b (vs.take n) :=
 ⟨h.1, fun j u hj => by rw [List.getElem?_take] at hj; split at hj; exact h.2 j u hj; cases hj⟩
inductive Ob where
 | smap (ks : List MKey) (xs : List PV)
 | iter (s : List UInt8) (pos : Nat)
 | cells (xs : List PV) (e : TypeId)
 | free (m : Nat)
 | dead
 | glob (g : Nat) (u : Value)
def Ob.live : Ob → Bool
 | .dead => false
 | .glob _ _ => false
 | _ => true
def Ob.wr : Ob → Nat → Prop
 | .cells _ _, _ => True
 | .free m, off => m ≤ off
 | .smap _ _, _ => True
 | .iter _ _, _ => True
 | .dead, _ => False
 | .glob _ _, _ => False
def OwnWr (σ : Nat → Option Nat) (H : List Ob) (b off : Nat) : Prop := ∃ i ob, H[i]? = some ob ∧ σ i = some b ∧ ob.wr off
def cx (B : Nat → Nat → Prop) (H : List Ob) (σ : Nat → Option Nat) (w : World) : Cx := ⟨w, H.length, σ, fun b off => B b off ∨ OwnWr σ H b off⟩
def RepP (c : Cx) (xs : List PV) (vs : List Value) : Prop := ∃ p q, vs = p ++ q ∧ RepL c xs p
theorem RepP.of {c : Cx} {xs : List PV} {vs : List Value} (h : RepL c xs vs) : RepP c xs vs := ⟨vs, [], by simp, h⟩
theorem RepP.mono {c c' : Cx} (h : c.Le c') {xs : List PV} {vs : List Value} (k : RepP c xs vs) : RepP c' xs vs := by
 obtain ⟨p, q, h1, h2⟩ := k; exact ⟨p, q, h1, RepL.mono h h2⟩
theorem RepP.le {c : Cx} {xs : List PV} {vs : List Value} (k : RepP c xs vs) : xs.length ≤ vs.length := by
 obtain ⟨p, q, rfl, h2⟩ := k; rw [List.length_append, RepL.length h2]; omega
theorem RepP.take {c : Cx} {xs : List PV} {vs : List Value} (k : RepP c xs vs) {n : Nat} (hn : n ≤ xs.length) : RepL c (xs.take n) (vs.take n) := by
 obtain ⟨p, q, rfl, h2⟩ := k
 rw [List.take_append_of_le_length (by rw [RepL.length h2]; exact hn)]
 exact RepL.take n h2
theorem RepP.drop {c : Cx} {xs : List PV} {vs : List Value} (k : RepP c xs vs) (n : Nat) : RepP c (xs.drop n) (vs.drop n) := by
 obtain ⟨p, q, rfl, h2⟩ := k
 rw [List.drop_append]
 exact ⟨_, _, rfl, RepL.drop n h2⟩
def frOk (fr : Nat × Nat) (n : Nat) : Prop := fr = (0, 0) ∨ n ≤ fr.1
def Holds (c : Cx) (i : Nat) : Ob → Prop
 | .cells xs e => ∃ (b : Nat) (vs : List Value) (fr : Nat × Nat), c.σ i = some b ∧ c.w.heap[b]? = some (Obj.cells vs.toArray e fr) ∧ frOk fr vs.length ∧ RepP c xs vs
 | .smap ks xs => ∃ (b : Nat) (es : Array MapEntry) (clk : Nat), c.σ i = some b ∧ c.w.heap[b]? = some (Obj.map es clk) ∧ es.toList.map (·.key) = ks.map keyV ∧ RepL c xs (es.toList.map (·.val))
 | .iter s pos => ∃ (b : Nat), c.σ i = some b ∧ c.w.heap[b]? = some (Obj.stringIter ⟨s.toArray⟩ pos)
 | .free m => ∀ b, c.σ i = some b → ∃ cs e, c.w.heap[b]? = some (Obj.cells cs e (0, 0)) ∧ m ≤ cs.size
 | .dead => True
 | .glob g u => c.w.cell? ⟨g, 0, none⟩ = some u ∧ ¬ c.Wr g 0
structure Sim (B : Nat → Nat → Prop) (H : List Ob) (σ : Nat → Option Nat) (w : World) : Prop where
 inj : ∀ i j b oi oj, H[i]? = some oi → H[j]? = some oj → oi.live = true → oj.live = true → σ i = some b → σ j = some b → i = j
 sep : ∀ i b oi, H[i]? = some oi → oi.live = true → σ i = some b → ∀ off, ¬ B b off
 base : ∀ b off, B b off → b < w.heap.size
 holds : ∀ i oi, H[i]? = some oi → Holds (cx B H σ w) i oi
structure Step (B : Nat → Nat → Prop) (H : List Ob) (σ : Nat → Option Nat) (w : World) (H' : List Ob) (σ' : Nat → Option Nat) (w' : World) : Prop where
 le : (cx B H σ w).Le (cx B H' σ' w')
 os : w'.os = w.os
 tape : w'.tape = w.tape
 output : w'.output = w.output
 size : w.heap.size ≤ w'.heap.size
 new : ∀ i oi b, H'[i]? = some oi → oi.live = true → σ' i = some b → w.heap.size ≤ b ∨ ∃ j oj, H[j]? = some oj ∧ oj.live = true ∧ σ j = some b
 block : ∀ b, b < w.heap.size → (∀ i oi, H[i]? = some oi → oi.live = true → σ i ≠ some b) → w'.heap[b]? = w.heap[b]?
theorem Step.refl (B : Nat → Nat → Prop) (H : List Ob) (σ : Nat → Option Nat) (w : World) : Step B H σ w H σ w :=
 ⟨Cx.Le.refl _, rfl, rfl, rfl, Nat.le_refl _, fun i oi b h1 h2 h3 => .inr ⟨i, oi, h1, h2, h3⟩, fun _ _ _ => rfl⟩
theorem Step.trans {B : Nat → Nat → Prop} {H H1 H2 : List Ob} {σ σ1 σ2 : Nat → Option Nat} {w w1 w2 : World} (h : Step B H σ w H1 σ1 w1) (k : Step B H1 σ1 w1 H2 σ2 w2) : Step B H σ w H2 σ2 w2 := by
 refine ⟨h.le.trans k.le, k.os.trans h.os, k.tape.trans h.tape, k.output.trans h.output, Nat.le_trans h.size k.size, fun i oi b h1 h2 h0 => ?_, fun b hb hn => ?_⟩
 ·rcases k.new i oi b h1 h2 h0 with h3 | ⟨j, oj, h3, h4, h5⟩
  ·exact .inl (Nat.le_trans h.size h3)
  ·rcases h.new j oj b h3 h4 h5 with h6 | h6
   ·exact .inl h6
   ·exact .inr h6
 ·rw [k.block b (Nat.lt_of_lt_of_le hb h.size) (fun i oi h1 h2 e => ?_)]
  ·exact h.block b hb hn
  ·rcases h.new i oi b h1 h2 e with h3 | ⟨j, oj, h3, h4, h5⟩
   ·omega
   ·exact hn j oj h3 h4 h5
end Go.Proofs.Ytlponhgbbfgkgaa
namespace Go.Proofs.Ytlponhgbbfgkgaa
open Go.RowKit
def upd (i : Nat) (x : PV) (T : Nat → PV) : Nat → PV := fun j => match Nat.beq j i with | true => x | false => T j
def updD (d : Option Tmp) (x : PV) (T : Nat → PV) : Nat → PV := match d with | some i => upd i x T | none => T
theorem upd_same (i : Nat) (x : PV) (T : Nat → PV) : upd i x T i = x := by simp [upd]
theorem upd_other (i j : Nat) (x : PV) (T : Nat → PV) (h : j ≠ i) : upd i x T j = T j := by
 unfold upd
 have : Nat.beq j i = false := by rw [← Bool.not_eq_true, Nat.beq_eq]; exact h
 rw [this]
def RepT (c : Cx) (T : Nat → PV) (a : Act) : Prop := ∀ i, Rep c (T i) (a.tmps.getD i undef)
structure Good (B : Nat → Nat → Prop) (n : Nat) (T : Nat → PV) (H : List Ob) (σ : Nat → Option Nat) (w : World) (a : Act) : Prop where
 sim : Sim B H σ w
 rep : RepT (cx B H σ w) T a
 size : a.tmps.size = n
 defers : a.defers = []
def Post (B : Nat → Nat → Prop) (n : Nat) (H : List Ob) (σ : Nat → Option Nat) (w : World) (Q : Exit → (Nat → PV) → List Ob → Prop) : Exit → Act → World → Prop :=
 fun e a' w' => ∃ T' H' σ', Q e T' H' ∧ Good B n T' H' σ' w' a' ∧ Step B H σ w H' σ' w'
def W (P : Program) (B : Nat → Nat → Prop) (n : Nat) (c : Code) (T : Nat → PV) (H : List Ob) (Q : Exit → (Nat → PV) → List Ob → Prop) : Prop :=
 ∀ σ w a, Good B n T H σ w a → c.wp P (Post B n H σ w Q) a w
def thenQ (K : (Nat → PV) → List Ob → Prop) (Q : Exit → (Nat → PV) → List Ob → Prop) : Exit → (Nat → PV) → List Ob → Prop
 | .normal, T, H => K T H
 | e, T, H => Q e T H
def blockQ (id : Nat) (Q : Exit → (Nat → PV) → List Ob → Prop) : Exit → (Nat → PV) → List Ob → Prop
 | .exit i, T, H => match Nat.beq i id with | true => Q .normal T H | false => Q (.exit i) T H
 | e, T, H => Q e T H
section
variable {P : Program} {B : Nat → Nat → Prop} {n : Nat} {T : Nat → PV} {H : List Ob} {Q : Exit → (Nat → PV) → List Ob → Prop}
theorem post_mono {σ : Nat → Option Nat} {w w1 : World} {H1 : List Ob} {σ1 : Nat → Option Nat} {Q' : Exit → (Nat → PV) → List Ob → Prop} (h : Step B H σ w H1 σ1 w1) (hq : ∀ e T H, Q e T H → Q' e T H) {e : Exit} {a' : Act} {w' : World}
  (k : Post B n H1 σ1 w1 Q e a' w') : Post B n H σ w Q' e a' w' := by
 obtain ⟨T', H', σ', h1, h2, h3⟩ := k
 exact ⟨T', H', σ', hq _ _ _ h1, h2, h.trans h3⟩
theorem Wj (h : Q .normal T H) : W P B n .skip T H Q := fun σ w a g => wp_skip ⟨T, H, σ, h, g, Step.refl _ _ _ _⟩
theorem Wq (h : Q .ret T H) : W P B n .ret T H Q := fun σ w a g => wp_ret ⟨T, H, σ, h, g, Step.refl _ _ _ _⟩
theorem W_exit {id : Nat} (h : Q (.exit id) T H) : W P B n (.exit id) T H Q := fun σ w a g => wp_exit ⟨T, H, σ, h, g, Step.refl _ _ _ _⟩
theorem Ws {x y : Code} (h : W P B n x T H (thenQ (fun T' H' => W P B n y T' H' Q) Q)) : W P B n (x.seq y) T H Q := by
 intro σ w a g
 refine wp_seq (wp_mono (h σ w a g) ?_)
 rintro e a' w' ⟨T', H', σ', h1, h2, h3⟩
 cases e with
 | normal => exact wp_mono (h1 σ' w' a' h2) fun _ _ _ k => post_mono h3 (fun _ _ _ h => h) k
 | exit id => exact ⟨T', H', σ', h1, h2, h3⟩
 | goto l => exact ⟨T', H', σ', h1, h2, h3⟩
 | ret => exact ⟨T', H', σ', h1, h2, h3⟩
 | panic c => exact ⟨T', H', σ', h1, h2, h3⟩
 | outgrown => exact ⟨T', H', σ', h1, h2, h3⟩
theorem Wl {id : Nat} {c : Code} (h : W P B n c T H (blockQ id Q)) : W P B n (.block id c) T H Q := by
 intro σ w a g
 refine wp_block (wp_mono (h σ w a g) ?_)
 rintro e a' w' ⟨T', H', σ', h1, h2, h3⟩
 cases e with
 | exit i =>
  simp only [blockQ] at h1
  simp only [Exit.inBlock]
  by_cases hi : i = id
  ·subst hi
   rw [show Nat.beq i i = true from Nat.beq_refl i] at h1
   rw [if_pos rfl]
   exact ⟨T', H', σ', h1, h2, h3⟩
  ·rw [show Nat.beq i id = false from by rw [← Bool.not_eq_true, Nat.beq_eq]; exact hi] at h1
   rw [if_neg hi]
   exact ⟨T', H', σ', h1, h2, h3⟩
 | normal => exact ⟨T', H', σ', h1, h2, h3⟩
 | goto l => exact ⟨T', H', σ', h1, h2, h3⟩
 | ret => exact ⟨T', H', σ', h1, h2, h3⟩
 | panic c => exact ⟨T', H', σ', h1, h2, h3⟩
 | outgrown => exact ⟨T', H', σ', h1, h2, h3⟩
def constPV : Value → PV
 | .slice none 0 0 => .seq 0 [] .clip
 | .agg cs => .agg (cs.toList.map fun | .slice none 0 0 => .seq 0 [] .clip | v => .val v)
 | v => .val v
def opv (T : Nat → PV) : Operand → PV
 | .tmp t => T t
 | .const v => constPV v
 | .global g => .val (.pointer (some ⟨g, 0, none⟩))
 | .func f => .fn (.func f) [] []
theorem rep_val (c : Cx) (v : Value) : Rep c (.val v) v := by unfold Rep; rfl
theorem rep_nil (c : Cx) : Rep c (.seq 0 [] .clip) (.slice none 0 0) := by
 unfold Rep
 exact ⟨none, 0, [], rfl, Nat.le_refl _, fun _ => ⟨rfl, rfl, rfl⟩, repL_nil.2 rfl, (fun b h => by cases h), rfl⟩
theorem rep_const (c : Cx) (v : Value) : Rep c (constPV v) v := by
 unfold constPV
 split
 ·exact rep_nil c
 ·rename_i cs
  unfold Rep
  refine ⟨cs.toList, rfl, ?_⟩
  generalize cs.toList = l
  induction l with
  | nil => exact repL_nil.2 rfl
  | cons x l ih =>
   refine repL_cons.2 ⟨?_, ih⟩
   dsimp only
   split
   ·exact rep_nil c
   ·exact rep_val c _
 ·exact rep_val c _
theorem rep_opv {c : Cx} {a : Act} (h : RepT c T a) (x : Operand) : Rep c (opv T x) (a.eval x) := by
 cases x with
 | tmp t => exact h t
 | const v => exact rep_const c v
 | global g => exact rep_val c _
 | func f => unfold opv Rep; exact ⟨[], [], rfl, repL_nil.2 rfl, repL_nil.2 rfl⟩
theorem Wi {c : Operand} {x y : Code} {t : Bool} (hc : opv T c = .val (.bool t)) (h1 : t = true → W P B n x T H Q) (h2 : t = false → W P B n y T H Q) : W P B n (.cond c x y) T H Q := by
 intro σ w a g
 have he := rep_opv g.rep c
 rw [hc] at he
 unfold Rep at he
 cases t with
 | true => exact wp_cond he (h1 rfl σ w a g)
 | false => exact wp_cond he (h2 rfl σ w a g)
theorem W_as {c : Code} (d : Nat) {x y : PV} (hT : T d = x) (hxy : x = y) (h1 : W P B n c (upd d y T) H Q) : W P B n c T H Q := by
 have e : upd d y T = T := by
  funext i
  by_cases hi : i = d
  ·subst hi; rw [upd_same, hT, hxy]
  ·rw [upd_other _ _ _ _ hi]
 rwa [e] at h1
theorem Wt {c : Operand} {x y : Code} {t : Bool} (hc : opv T c = .val (.bool t)) (ht : t = true) (h1 : W P B n x T H Q) : W P B n (.cond c x y) T H Q := Wi hc (fun _ => h1) (fun h => by rw [ht] at h; cases h)
theorem Wf {c : Operand} {x y : Code} {t : Bool} (hc : opv T c = .val (.bool t)) (ht : t = false) (h1 : W P B n y T H Q) : W P B n (.cond c x y) T H Q := Wi hc (fun h => by rw [ht] at h; cases h) (fun _ => h1)
end
theorem wp_loop_ix {P : Program} {Q : Exit → Act → World → Prop} {c : Code} (I : Nat → Act → World → Prop)
  (round : ∀ m a w, I m a w → c.wp P (Exit.then (fun a' w' => ∃ m', m' < m ∧ I m' a' w') Q) a w) : ∀ m a w, I m a w → (Code.loop c).wp P Q a w := by
 have key : ∀ (m : Nat) (a : Act) (w : World), I m a w → ∀ (b : Frame) (k : List Item) (cs : List Frame),
   ∃ e a' w', Q e a' w' ∧ Arrives P (lone (b.at a (.code c :: .inLoop c :: k)) cs w) b k cs e a' w' := by
  intro m
  induction m using Nat.strongRecOn with
  | _ m ih =>
   intro a w hI b k cs
   obtain ⟨e, a1, w1, hq, harr⟩ := round m a w hI b (.inLoop c :: k) cs
   cases e with
   | normal =>
    obtain ⟨m', hlt, hI'⟩ := hq
    obtain ⟨e2, a2, w2, hq2, harr2⟩ := ih m' hlt a1 w1 hI' b k cs
    exact ⟨e2, a2, w2, hq2, .of_steps (Steps.trans harr (.one step_inLoop)) harr2⟩
   | exit id => exact ⟨_, a1, w1, hq, .pass (x := .inLoop c) rfl (fun _ _ => .inl (by simp)) harr⟩
   | goto l => exact ⟨_, a1, w1, hq, .pass (x := .inLoop c) rfl (fun _ _ => .inl (by simp)) harr⟩
   | ret => exact ⟨_, a1, w1, hq, .pass (x := .inLoop c) rfl (fun _ _ => .inl (by simp)) harr⟩
   | panic ch => exact ⟨_, a1, w1, hq, .pass (x := .inLoop c) rfl (fun _ _ => .inl (by simp)) harr⟩
   | outgrown => exact ⟨_, a1, w1, hq, .pass (x := .inLoop c) rfl (fun _ _ => .inl (by simp)) harr⟩
 intro m a w hI b k cs
 obtain ⟨e, a', w', hq, harr⟩ := key m a w hI b k cs
 exact ⟨e, a', w', hq, .of_steps (.one step_loop) harr⟩
section
variable {P : Program} {B : Nat → Nat → Prop} {n : Nat} {T : Nat → PV} {H : List Ob} {Q : Exit → (Nat → PV) → List Ob → Prop}
end
def wpL (P : Program) (all : Array Oper) (Q : Exit → Act → World → Prop) : List Oper → Act → World → Prop
 | [], a, w => Q .normal a w
 | o :: rest, a, w => if Region.wanted o (yielded all a.tmps) then o.wp P a w (wpL P all Q rest) Q else wpL P all Q rest (a.put o.dst undef) w
theorem wpOps_of_wpL {P : Program} {all : Array Oper} {Q : Exit → Act → World → Prop} : ∀ (l : List Oper) (k : Nat) (a : Act) (w : World), (∀ j, l[j]? = all[k + j]?) → wpL P all Q l a w → wpOps P all Q (List.range' k l.length) a w
 | [], k, a, w, _, h => by simpa [wpOps, wpL] using h
 | o :: l, k, a, w, hl, h => by
  have h0 : all[k]? = some o := by simpa using (hl 0).symm
  have hr : List.range' k (o :: l).length = k :: List.range' (k + 1) l.length := by simp [List.range'_succ]
  have hn : ∀ j, l[j]? = all[k + 1 + j]? := fun j => by have := hl (j + 1); simpa [Nat.add_assoc, Nat.add_comm 1 j] using this
  rw [hr]
  simp only [wpOps, h0]
  simp only [wpL] at h
  split
  ·rename_i hw
   rw [if_pos hw] at h
   exact .inl (Oper.wp_mono (fun a w h => wpOps_of_wpL l (k + 1) a w hn h) h)
  ·rename_i hw
   rw [if_neg hw] at h
   exact wpOps_of_wpL l (k + 1) _ w hn h
theorem wp_region_L {P : Program} {id : Nat} {l : List Oper} {Q : Exit → Act → World → Prop} {a : Act} {w : World} (h : wpL P l.toArray Q l a w) : (Code.region id l.toArray false).wp P Q a w := by
 refine wp_region ?_
 have := wpOps_of_wpL (all := l.toArray) l 0 a w (fun j => by simp) h
 rwa [List.range_eq_range', List.size_toArray]
def dstsOk (n : Nat) (all : Array Oper) : Bool := all.toList.all fun o => match o.dst with | some d => Nat.blt d n | none => true
theorem dstsOk_spec {n : Nat} {all : Array Oper} (h : dstsOk n all = true) : ∀ (i d : Nat), (all[i]?).bind (·.dst) = some d → Nat.blt d n = true := by
 intro i d hd
 unfold dstsOk at h
 rw [List.all_eq_true] at h
 cases ho : all[i]? with
 | none => rw [ho] at hd; cases hd
 | some o =>
  rw [ho] at hd
  simp only [Option.bind_some] at hd
  have hm : o ∈ all.toList := by rw [Array.mem_toList_iff]; exact Array.mem_of_getElem? ho
  have := h o hm
  rw [hd] at this
  exact this
def dOk (n : Nat) : Option Tmp → Bool
 | some d => Nat.blt d n
 | none => true
def nfD (n : Nat) : Option Tmp → Option (Option Tmp)
 | some d => match Nat.blt d n with
  | true => some (some d)
  | false => none
 | none => some none
theorem nfD_eq {n : Nat} {x d : Option Tmp} (h : nfD n x = some d) : d = x ∧ dOk n x = true := by
 cases x with
 | none => injection h with h; exact ⟨h.symm, rfl⟩
 | some i =>
  simp only [nfD] at h
  split at h
  ·rename_i hi; injection h with h; exact ⟨h.symm, hi⟩
  ·cases h
theorem dOk_spec {n : Nat} {d : Option Tmp} (h : dOk n d = true) : ∀ i, d = some i → Nat.blt i n = true := by rintro i rfl; exact h
def WO (P : Program) (B : Nat → Nat → Prop) (n : Nat) (all : Array Oper) (l : List Oper) (T : Nat → PV) (H : List Ob) (K : (Nat → PV) → List Ob → Prop) : Prop :=
 dstsOk n all = true → ∀ σ w a, Good B n T H σ w a → wpL P all (Post B n H σ w (thenQ K fun _ _ _ => False)) l a w
theorem wpL_mono {P : Program} {all : Array Oper} {Q Q' : Exit → Act → World → Prop} (hq : ∀ e a w, Q e a w → Q' e a w) : ∀ (l : List Oper) (a : Act) (w : World), wpL P all Q l a w → wpL P all Q' l a w
 | [], a, w, h => hq _ _ _ h
 | o :: l, a, w, h => by
  simp only [wpL] at h ⊢
  split
  ·rename_i hw
   rw [if_pos hw] at h
   unfold Oper.wp at h ⊢
   generalize (execOp a.eval o).run P w = r at h ⊢
   cases r with
   | ok x w' =>
    cases x <;> simp only [Oper.upon] at h ⊢
    case value v => exact wpL_mono hq l _ _ h
    case skip => exact wpL_mono hq l _ _ h
    case defer d => exact wpL_mono hq l _ _ h
    case enter f args =>
     refine Calls.mono h fun e w' k => ?_
     cases e with
     | returned v => exact wpL_mono hq l _ _ k
     | panicked c => exact hq _ _ _ k
     | outgrown => obtain ⟨a0, w0, k⟩ := k; exact ⟨a0, w0, hq _ _ _ k⟩
    case row r args => exact Rows.mono h fun v w' k => wpL_mono hq l _ _ k
   | halt x w' => cases x <;> simp only [Oper.upon] at h ⊢; exact hq _ _ _ h
  ·rename_i hw
   rw [if_neg hw] at h
   exact wpL_mono hq l _ _ h
section
variable {P : Program} {B : Nat → Nat → Prop} {n : Nat} {T : Nat → PV} {H : List Ob} {Q : Exit → (Nat → PV) → List Ob → Prop}
theorem W_region {id : Nat} {l : List Oper} (hall : dstsOk n l.toArray = true) (h : WO P B n l.toArray l T H (fun T' H' => Q .normal T' H')) : W P B n (.region id l.toArray false) T H Q := by
 intro σ w a g
 refine wp_region_L (wpL_mono ?_ _ _ _ (h hall σ w a g))
 rintro e a' w' ⟨T', H', σ', h1, h2, h3⟩
 cases e <;> first | exact ⟨T', H', σ', h1, h2, h3⟩ | exact False.elim h1
variable {all : Array Oper} {K : (Nat → PV) → List Ob → Prop}
theorem Wn (h : K T H) : WO P B n all [] T H K := fun _ σ w a g => ⟨T, H, σ, h, g, Step.refl _ _ _ _⟩
def wantedA (all : Array Oper) (T : Nat → PV) (o : Oper) : Option Bool :=
 match o.guard with
 | none => some true
 | some (g, b) => match (all[g]?).bind (·.dst) with
  | some d => match T d with
   | .val (.bool x) => match x, b with
    | true, true => some true
    | false, false => some true
    | true, false => some false
    | false, true => some false
   | .val (.tuple _) => some false
   | _ => none
  | none => none
theorem wantedA_spec {c : Cx} {a : Act} {o : Oper} {q : Bool} (h : ∀ (g : Nat) (b : Bool) (d : Nat), o.guard = some (g, b) → (all[g]?).bind (·.dst) = some d → d < a.tmps.size ∧ Rep c (T d) (a.tmps.getD d undef)) (k : wantedA all T o = some q) :
  Region.wanted o (yielded all a.tmps) = q := by
 unfold wantedA at k
 unfold Region.wanted
 split at k
 ·rename_i hg; rw [hg]; injection k
 ·rename_i g b hg
  rw [hg]
  simp only
  split at k
  ·rename_i d hd
   obtain ⟨h0, h1⟩ := h g b d hg hd
   have h2 : a.tmps[d]? = some (a.tmps.getD d undef) := by simp [Array.getElem?_eq_getElem h0, Array.getD, h0]
   split at k
   ·rename_i x hx
    rw [hx] at h1
    unfold Rep at h1
    have hy : yielded all a.tmps g = some x := by unfold yielded; rw [hd]; simp only [Option.bind_some]; rw [h2, h1]
    rw [hy]
    cases x <;> cases b <;> simp at k <;> subst k <;> rfl
   ·rename_i x hx
    rw [hx] at h1
    unfold Rep at h1
    have hy : yielded all a.tmps g = none := by unfold yielded; rw [hd]; simp only [Option.bind_some]; rw [h2, h1]
    rw [hy]
    cases k
    rfl
   ·cases k
  ·cases k
def Does (P : Program) (B : Nat → Nat → Prop) (o : Oper) (T : Nat → PV) (H : List Ob) (x : PV) (H' : List Ob) : Prop :=
 ∀ (σ : Nat → Option Nat) (w : World) (a : Act), Sim B H σ w → (∀ y ∈ o.op.operands.toList, Rep (cx B H σ w) (opv T y) (a.eval y)) →
  ∃ (v : Value) (w' : World) (σ' : Nat → Option Nat), ((execOp a.eval o).run P w = .ok (.value v) w' ∨ (execOp a.eval o).run P w = .ok .skip w' ∧ v = undef) ∧ Rep (cx B H' σ' w') x v ∧ Sim B H' σ' w' ∧ Step B H σ w H' σ' w'
def DoesC (P : Program) (B : Nat → Nat → Prop) (o : Oper) (T : Nat → PV) (H : List Ob) (x : PV) (H' : List Ob) : Prop :=
 ∀ (σ : Nat → Option Nat) (w : World) (a : Act), Sim B H σ w → (∀ y ∈ o.op.operands.toList, Rep (cx B H σ w) (opv T y) (a.eval y)) →
  ∃ (f : FuncId) (args : Array Value), (execOp a.eval o).run P w = .ok (.enter f args) w ∧ Calls P f args w fun e w' => ∃ v σ', e = .returned v ∧ Rep (cx B H' σ' w') x v ∧ Sim B H' σ' w' ∧ Step B H σ w H' σ' w'
theorem good_put {σ : Nat → Option Nat} {w : World} {a : Act} {H' : List Ob} {σ' : Nat → Option Nat} {w' : World} {x : PV} {v : Value} {d : Option Tmp} (hd : ∀ i, d = some i → Nat.blt i n = true) (g : Good B n T H σ w a) (h1 : Rep (cx B H' σ' w') x v) (h2 : Sim B H' σ' w') (h3 : Step B H σ w H' σ' w') :
  Good B n (updD d x T) H' σ' w' (a.put d v) := by
 cases d with
 | none => exact ⟨h2, fun i => (g.rep i).mono h3.le, g.size, g.defers⟩
 | some d =>
  have hlt : d < n := by have := hd d rfl; simpa [Nat.blt_eq] using this
  refine ⟨h2, fun i => ?_, by simp [Act.put, g.size], g.defers⟩
  by_cases hi : i = d
  ·subst hi
   show Rep _ (upd i x T i) _
   rw [upd_same]
   have : (a.put (some i) v).tmps.getD i undef = v := by simp [Act.put, Array.getD, g.size, hlt]
   rw [this]; exact h1
  ·show Rep _ (upd d x T i) _
   rw [upd_other _ _ _ _ hi]
   have : (a.put (some d) v).tmps.getD i undef = a.tmps.getD i undef := by simp [Act.put, Array.getD_eq_getD_getElem?, Array.getElem?_setIfInBounds_ne (Ne.symm hi)]
   rw [this]; exact (g.rep i).mono h3.le
theorem guard_ok (hall : ∀ (i d : Nat), (all[i]?).bind (·.dst) = some d → Nat.blt d n = true) {σ : Nat → Option Nat} {w : World} {a : Act} (g : Good B n T H σ w a) {o : Oper} {q : Bool} (k : wantedA all T o = some q) : Region.wanted o (yielded all a.tmps) = q :=
 wantedA_spec (c := cx B H σ w) (fun i b d _ hd => ⟨by have := hall i d hd; rw [g.size]; simpa [Nat.blt_eq] using this, g.rep d⟩) k
theorem Wd {o : Oper} {l : List Oper} {x : PV} {H' : List Ob} {d : Option Tmp} (hd : nfD n o.dst = some d) (hw : wantedA all T o = some true) (h : Does P B o T H x H') (k : WO P B n all l (updD d x T) H' K) : WO P B n all (o :: l) T H K := by
 obtain ⟨rfl, hd0⟩ := nfD_eq hd
 intro hall σ w a g
 obtain ⟨v, w', σ', h1, h2, h3, h4⟩ := h σ w a g.sim (fun y _ => rep_opv g.rep y)
 have g' := good_put (dOk_spec hd0) g h2 h3 h4
 have k' := wpL_mono (fun _ _ _ h => post_mono h4 (fun _ _ _ h => h) h) _ _ _ (k hall σ' w' _ g')
 simp only [wpL]
 rw [if_pos (guard_ok (dstsOk_spec hall) g hw)]
 unfold Oper.wp
 rcases h1 with h1 | ⟨h1, rfl⟩
 ·rw [h1]; exact k'
 ·rw [h1]; exact k'
theorem Wc {o : Oper} {l : List Oper} {x : PV} {H' : List Ob} {d : Option Tmp} (hd : nfD n o.dst = some d) (hw : wantedA all T o = some true) (h : DoesC P B o T H x H') (k : WO P B n all l (updD d x T) H' K) : WO P B n all (o :: l) T H K := by
 obtain ⟨rfl, hd0⟩ := nfD_eq hd
 intro hall σ w a g
 obtain ⟨f, args, h1, hc⟩ := h σ w a g.sim (fun y _ => rep_opv g.rep y)
 simp only [wpL]
 rw [if_pos (guard_ok (dstsOk_spec hall) g hw)]
 unfold Oper.wp
 rw [h1]
 refine Calls.mono hc ?_
 rintro e w' ⟨v, σ', rfl, h2, h3, h4⟩
 exact wpL_mono (fun _ _ _ h => post_mono h4 (fun _ _ _ h => h) h) _ _ _ (k hall σ' w' _ (good_put (dOk_spec hd0) g h2 h3 h4))
theorem Wk {o : Oper} {l : List Oper} {d : Option Tmp} (hd : nfD n o.dst = some d) (hw : wantedA all T o = some false) (k : WO P B n all l (updD d (.val undef) T) H K) : WO P B n all (o :: l) T H K := by
 obtain ⟨rfl, hd0⟩ := nfD_eq hd
 intro hall σ w a g
 simp only [wpL]
 rw [if_neg (by rw [guard_ok (dstsOk_spec hall) g hw]; simp)]
 exact k hall σ w _ (good_put (dOk_spec hd0) g (rep_val _ _) g.sim (Step.refl _ _ _ _))
theorem Wb {l : List Oper} (d : Nat) {b : Bool} (hT : T d = .val (.bool b)) (h1 : b = true → WO P B n all l (upd d (.val (.bool true)) T) H K) (h2 : b = false → WO P B n all l (upd d (.val (.bool false)) T) H K) : WO P B n all l T H K := by
 have e : ∀ q, b = q → upd d (.val (.bool q)) T = T := by
  rintro q rfl
  funext i
  by_cases hi : i = d
  ·subst hi; rw [upd_same, hT]
  ·rw [upd_other _ _ _ _ hi]
 cases hb : b with
 | true => have := h1 hb; rwa [e true hb] at this
 | false => have := h2 hb; rwa [e false hb] at this
theorem WO_true {l : List Oper} (d : Nat) {b : Bool} (hT : T d = .val (.bool b)) (hb : b = true) (h1 : WO P B n all l (upd d (.val (.bool true)) T) H K) : WO P B n all l T H K :=
 Wb d hT (fun _ => h1) (fun h => by rw [hb] at h; cases h)
theorem WO_false {l : List Oper} (d : Nat) {b : Bool} (hT : T d = .val (.bool b)) (hb : b = false) (h1 : WO P B n all l (upd d (.val (.bool false)) T) H K) : WO P B n all l T H K :=
 Wb d hT (fun h => by rw [hb] at h; cases h) (fun _ => h1)
theorem Wa {l : List Oper} (d : Nat) {x y : PV} (hT : T d = x) (hxy : x = y) (h1 : WO P B n all l (upd d y T) H K) : WO P B n all l T H K := by
 have e : upd d y T = T := by
  funext i
  by_cases hi : i = d
  ·subst hi; rw [upd_same, hT, hxy]
  ·rw [upd_other _ _ _ _ hi]
 rwa [e] at h1
end
end Go.Proofs.Ytlponhgbbfgkgaa
namespace Go.Proofs.Ytlponhgbbfgkgaa
open Go.RowKit
def ext (σ : Nat → Option Nat) (n : Nat) (b : Option Nat) : Nat → Option Nat := fun i => if i = n then b else σ i
theorem ext_old {σ : Nat → Option Nat} {n i : Nat} {b : Option Nat} (h : i < n) : ext σ n b i = σ i := by unfold ext; rw [if_neg (by omega)]
theorem ext_new (σ : Nat → Option Nat) (n : Nat) (b : Option Nat) : ext σ n b n = b := by unfold ext; rw [if_pos rfl]
theorem get_snoc {α : Type} {H : List α} {o x : α} {i : Nat} (h : (H ++ [o])[i]? = some x) : (i < H.length ∧ H[i]? = some x) ∨ (i = H.length ∧ x = o) := by
 rcases Nat.lt_trichotomy i H.length with h1 | h1 | h1
 ·rw [List.getElem?_append_left h1] at h; exact .inl ⟨h1, h⟩
 ·subst h1; rw [List.getElem?_append_right (Nat.le_refl _)] at h; simp at h; exact .inr ⟨rfl, h.symm⟩
 ·rw [List.getElem?_append_right (by omega)] at h; rw [List.getElem?_eq_none (by simp; omega)] at h; cases h
theorem lt_of_get {α : Type} {H : List α} {i : Nat} {x : α} (h : H[i]? = some x) : i < H.length := by
 rcases Nat.lt_or_ge i H.length with h1 | h1
 ·exact h1
 ·rw [List.getElem?_eq_none h1] at h; cases h
theorem Holds.lt {c : Cx} {i b : Nat} {oi : Ob} (h : Holds c i oi) (hl : oi.live = true) (hb : c.σ i = some b) : b < c.w.heap.size := by
 cases oi with
 | cells xs e => obtain ⟨b', vs, fr, h1, h2, _⟩ := h; rw [hb] at h1; cases h1; exact (Array.getElem?_eq_some_iff.1 h2).1
 | free m => obtain ⟨cs, e, h1, _⟩ := h b hb; exact (Array.getElem?_eq_some_iff.1 h1).1
 | dead => cases hl
 | glob g u => cases hl
 | smap ks xs => obtain ⟨b', es, clk, h1, h2, _⟩ := h; rw [hb] at h1; cases h1; exact (Array.getElem?_eq_some_iff.1 h2).1
 | iter s pos => obtain ⟨b', h1, h2⟩ := h; rw [hb] at h1; cases h1; exact (Array.getElem?_eq_some_iff.1 h2).1
section
variable {B : Nat → Nat → Prop} {H : List Ob} {σ : Nat → Option Nat} {w w' : World}
structure Grows (w w' : World) : Prop where
 os : w'.os = w.os
 tape : w'.tape = w.tape
 output : w'.output = w.output
 size : w.heap.size ≤ w'.heap.size
 block : ∀ b, b < w.heap.size → w'.heap[b]? = w.heap[b]?
theorem Grows.refl (w : World) : Grows w w := ⟨rfl, rfl, rfl, Nat.le_refl _, fun _ _ => rfl⟩
theorem Grows.alloc (w : World) (o : Obj) : Grows w (w.alloc o) := ⟨rfl, rfl, rfl, by simp, fun b hb => Below.heap_alloc w o b hb⟩
theorem Grows.drew (w : World) : Grows w w.drew := ⟨rfl, rfl, rfl, Nat.le_refl _, fun _ _ => rfl⟩
theorem Grows.trans {a b c : World} (h : Grows a b) (k : Grows b c) : Grows a c :=
 ⟨k.os.trans h.os, k.tape.trans h.tape, k.output.trans h.output, Nat.le_trans h.size k.size, fun i hi => (k.block i (Nat.lt_of_lt_of_le hi h.size)).trans (h.block i hi)⟩
theorem Grows.of_below (h : Below w.heap.size w w') : Grows w w' := ⟨h.os, h.tape, h.output, h.size, h.block⟩
theorem Grows.cell (h : Grows w w') {b off : Nat} {u : Value} (hc : w.cell? ⟨b, off, none⟩ = some u) : w'.cell? ⟨b, off, none⟩ = some u := by
 have hlt := World.block_lt_of_cell? w ⟨b, off, none⟩ hc
 rw [World.cell?_of_block (w := w) (a := ⟨b, off, none⟩) (h.block b hlt)]
 exact hc
theorem grow_sim (s : Sim B H σ w) (g : Grows w w') : Sim B H σ w' ∧ Step B H σ w H σ w' := by
 have le : (cx B H σ w).Le (cx B H σ w') := ⟨Nat.le_refl _, fun _ _ => rfl, fun b off u h1 h2 => ⟨g.cell h2, h1⟩, fun b es clk h1 h2 => ⟨(g.block b (Array.getElem?_eq_some_iff.1 h2).1).trans h2, h1⟩, fun b cs e fr h1 => ⟨cs, (g.block b (Array.getElem?_eq_some_iff.1 h1).1).trans h1, rfl⟩⟩
 refine ⟨⟨s.inj, s.sep, fun b off h => Nat.lt_of_lt_of_le (s.base b off h) g.size, fun i oi h => ?_⟩, ⟨le, g.os, g.tape, g.output, g.size, fun i oi b h1 h2 h3 => .inr ⟨i, oi, h1, h2, h3⟩, fun b hb _ => g.block b hb⟩⟩
 have k := s.holds i oi h
 cases oi with
 | cells xs e => obtain ⟨b, vs, fr, h1, h2, hf, h3⟩ := k; exact ⟨b, vs, fr, h1, (g.block b (Array.getElem?_eq_some_iff.1 h2).1).trans h2, hf, h3.mono le⟩
 | free m => intro b hb; obtain ⟨cs, e, h1, h2⟩ := k b hb; exact ⟨cs, e, (g.block b (Array.getElem?_eq_some_iff.1 h1).1).trans h1, h2⟩
 | dead => trivial
 | glob g u => obtain ⟨q1, q2⟩ := k; exact le.cell g 0 u q2 q1
 | smap ks xs => obtain ⟨b, es, clk, h1, h2, h3, h4⟩ := k; exact ⟨b, es, clk, h1, (g.block b (Array.getElem?_eq_some_iff.1 h2).1).trans h2, h3, RepL.mono le h4⟩
 | iter s pos => obtain ⟨b, h1, h2⟩ := k; exact ⟨b, h1, (g.block b (Array.getElem?_eq_some_iff.1 h2).1).trans h2⟩
theorem grow_name (s : Sim B H σ w) (g : Grows w w') (o : Ob) (nb : Option Nat) (hnew : ∀ b, nb = some b → w.heap.size ≤ b) (ho : Holds (cx B (H ++ [o]) (ext σ H.length nb) w') H.length o) :
  Sim B (H ++ [o]) (ext σ H.length nb) w' ∧ Step B H σ w (H ++ [o]) (ext σ H.length nb) w' := by
 have own : ∀ b off, b < w.heap.size → OwnWr (ext σ H.length nb) (H ++ [o]) b off → OwnWr σ H b off := by
  rintro b off hb ⟨i, oi, h1, h2, h3⟩
  rcases get_snoc h1 with ⟨h4, h5⟩ | ⟨rfl, rfl⟩
  ·rw [ext_old h4] at h2; exact ⟨i, oi, h5, h2, h3⟩
  ·rw [ext_new] at h2; have := hnew b h2; omega
 have le : (cx B H σ w).Le (cx B (H ++ [o]) (ext σ H.length nb) w') := by
  refine ⟨by simp [cx], fun i hi => ext_old hi, fun b off u h1 h2 => ⟨g.cell h2, fun h => ?_⟩, fun b es clk h1 h2 => ⟨(g.block b (Array.getElem?_eq_some_iff.1 h2).1).trans h2, fun h => h.elim (fun h => h1 (.inl h)) (fun h => h1 (.inr (own b 0 (Array.getElem?_eq_some_iff.1 h2).1 h)))⟩, fun b cs e fr h1 => ⟨cs, (g.block b (Array.getElem?_eq_some_iff.1 h1).1).trans h1, rfl⟩⟩
  rcases h with h | h
  ·exact h1 (.inl h)
  ·exact h1 (.inr (own b off (World.block_lt_of_cell? w ⟨b, off, none⟩ h2) h))
 refine ⟨⟨?_, ?_, fun b off h => Nat.lt_of_lt_of_le (s.base b off h) g.size, ?_⟩, ⟨le, g.os, g.tape, g.output, g.size, ?_, fun b hb _ => g.block b hb⟩⟩
 ·intro i j b oi oj h1 h2 l1 l2 e1 e2
  rcases get_snoc h1 with ⟨h3, h4⟩ | ⟨rfl, rfl⟩ <;> rcases get_snoc h2 with ⟨h5, h6⟩ | ⟨rfl, rfl⟩
  ·rw [ext_old h3] at e1; rw [ext_old h5] at e2; exact s.inj i j b oi oj h4 h6 l1 l2 e1 e2
  ·rw [ext_old h3] at e1; rw [ext_new] at e2
   have := (s.holds i oi h4).lt l1 e1
   have := hnew b e2
   simp only [cx] at *; omega
  ·rw [ext_new] at e1; rw [ext_old h5] at e2
   have := (s.holds j oj h6).lt l2 e2
   have := hnew b e1
   simp only [cx] at *; omega
  ·rfl
 ·intro i b oi h1 l1 e1 off hB
  rcases get_snoc h1 with ⟨h3, h4⟩ | ⟨rfl, rfl⟩
  ·rw [ext_old h3] at e1; exact s.sep i b oi h4 l1 e1 off hB
  ·rw [ext_new] at e1
   have := hnew b e1
   have := s.base b off hB
   omega
 ·intro i oi h1
  rcases get_snoc h1 with ⟨h3, h4⟩ | ⟨rfl, rfl⟩
  ·have k := s.holds i oi h4
   cases oi with
   | cells xs e => obtain ⟨b, vs, fr, h5, h6, hf, h7⟩ := k; exact ⟨b, vs, fr, (ext_old h3).trans h5, (g.block b (Array.getElem?_eq_some_iff.1 h6).1).trans h6, hf, h7.mono le⟩
   | free m => intro b hb; obtain ⟨cs, e, h5, h6⟩ := k b ((ext_old h3).symm.trans hb); exact ⟨cs, e, (g.block b (Array.getElem?_eq_some_iff.1 h5).1).trans h5, h6⟩
   | dead => trivial
   | glob g u => obtain ⟨q1, q2⟩ := k; exact le.cell g 0 u q2 q1
   | iter s pos => obtain ⟨b, h5, h6⟩ := k; exact ⟨b, (ext_old h3).trans h5, (g.block b (Array.getElem?_eq_some_iff.1 h6).1).trans h6⟩
   | smap ks xs => obtain ⟨b, es, clk, h5, h6, h7, h8⟩ := k; exact ⟨b, es, clk, (ext_old h3).trans h5, (g.block b (Array.getElem?_eq_some_iff.1 h6).1).trans h6, h7, RepL.mono le h8⟩
  ·exact ho
 ·intro i oi b h1 h2 h3
  rcases get_snoc h1 with ⟨h4, h5⟩ | ⟨rfl, rfl⟩
  ·rw [ext_old h4] at h3; exact .inr ⟨i, oi, h5, h2, h3⟩
  ·rw [ext_new] at h3; exact .inl (hnew b h3)
theorem name_cells (s : Sim B H σ w) (xs : List PV) (vs : List Value) (e : TypeId) (h : RepL (cx B H σ w) xs vs) :
  Sim B (H ++ [.cells xs e]) (ext σ H.length (some w.heap.size)) (w.alloc (.cells vs.toArray e)) ∧ Step B H σ w (H ++ [.cells xs e]) (ext σ H.length (some w.heap.size)) (w.alloc (.cells vs.toArray e)) := by
 have k := fun ho => grow_name s (Grows.alloc w (.cells vs.toArray e)) (.cells xs e) (some w.heap.size) (fun b hb => by cases hb; exact Nat.le_refl _) ho
 refine k ⟨w.heap.size, vs, (0, 0), ext_new _ _ _, (by show (w.heap.push (Obj.cells vs.toArray e))[w.heap.size]? = _; simp), .inl rfl, .of (RepL.mono ?_ h)⟩
 have g := Grows.alloc w (Obj.cells vs.toArray e)
 refine ⟨by simp [cx], fun i hi => ext_old hi, fun b off u h1 h2 => ⟨g.cell h2, fun h => ?_⟩, fun b es clk h1 h2 => ⟨(g.block b (Array.getElem?_eq_some_iff.1 h2).1).trans h2, fun h => h.elim (fun h => h1 (.inl h)) (fun ⟨i, oi, h3, h4, h5⟩ => (get_snoc h3).elim (fun ⟨h6, h7⟩ => h1 (.inr ⟨i, oi, h7, by rw [ext_old h6] at h4; exact h4, h5⟩)) (fun ⟨h6, _⟩ => by subst h6; rw [ext_new] at h4; cases h4; have := (Array.getElem?_eq_some_iff.1 h2).1; simp [cx] at this))⟩, fun b cs e' fr h1 => ⟨cs, (g.block b (Array.getElem?_eq_some_iff.1 h1).1).trans h1, rfl⟩⟩
 rcases h with h | ⟨i, oi, h3, h4, h5⟩
 ·exact h1 (.inl h)
 ·rcases get_snoc h3 with ⟨h6, h7⟩ | ⟨rfl, rfl⟩
  ·rw [ext_old h6] at h4; exact h1 (.inr ⟨i, oi, h7, h4, h5⟩)
  ·rw [ext_new] at h4; cases h4
   have := World.block_lt_of_cell? w ⟨w.heap.size, off, none⟩ h2
   simp at this
theorem heap_setRow (w : World) (g : Nat) (cs : Array Value) (b : Nat) (h : b ≠ g) : (w.setRow g cs).heap[b]? = w.heap[b]? := by
 simp only [World.setRow, Array.getElem?_modify]
 rw [if_neg (by omega)]
theorem heap_setRow_same {w : World} {g : Nat} {cs cs' : Array Value} {e : TypeId} {fr : Nat × Nat} (h : w.heap[g]? = some (Obj.cells cs e fr)) : (w.setRow g cs').heap[g]? = some (Obj.cells cs' e fr) := by
 simp only [World.setRow, Array.getElem?_modify, if_true, h, Option.map_some]
theorem size_setRow (w : World) (g : Nat) (cs : Array Value) : (w.setRow g cs).heap.size = w.heap.size := by simp [World.setRow]
theorem cell_setRow_other (w : World) (g : Nat) (cs : Array Value) (b off : Nat) (h : b ≠ g) : (w.setRow g cs).cell? ⟨b, off, none⟩ = w.cell? ⟨b, off, none⟩ :=
 World.cell?_of_block (w := w) (a := ⟨b, off, none⟩) (heap_setRow w g cs b h)
theorem set_cells (s : Sim B H σ w) {i b : Nat} {xs ys : List PV} {e : TypeId} (hi : H[i]? = some (.cells xs e)) (hb : σ i = some b) {vs us : List Value} {fr : Nat × Nat} (hv : w.heap[b]? = some (Obj.cells vs.toArray e fr)) (hfr : frOk fr vs.length) (hl : us.length = vs.length)
  (hr : RepP (cx B H σ w) ys us) : Sim B (H.set i (.cells ys e)) σ (w.setRow b us.toArray) ∧ Step B H σ w (H.set i (.cells ys e)) σ (w.setRow b us.toArray) := by
 have hlen := lt_of_get hi
 have get : ∀ j o, (H.set i (.cells ys e))[j]? = some o → (j = i ∧ o = .cells ys e) ∨ (j ≠ i ∧ H[j]? = some o) := by
  intro j o h
  by_cases hj : j = i
  ·subst hj; rw [List.getElem?_set_self hlen] at h; cases h; exact .inl ⟨rfl, rfl⟩
  ·rw [List.getElem?_set_ne (Ne.symm hj)] at h; exact .inr ⟨hj, h⟩
 have own : ∀ x off, OwnWr σ (H.set i (.cells ys e)) x off → OwnWr σ H x off := by
  rintro x off ⟨j, o, h1, h2, h3⟩
  rcases get j o h1 with ⟨rfl, rfl⟩ | ⟨_, h4⟩
  ·exact ⟨j, _, hi, h2, trivial⟩
  ·exact ⟨j, o, h4, h2, h3⟩
 have wr : ∀ off, OwnWr σ H b off := fun off => ⟨i, _, hi, hb, trivial⟩
 have le : (cx B H σ w).Le (cx B (H.set i (.cells ys e)) σ (w.setRow b us.toArray)) := by
  refine ⟨by simp [cx], fun _ _ => rfl, fun x off u h1 h2 => ⟨?_, fun h => h1 (h.imp id (own x off))⟩, fun x es clk h1 h2 => ⟨?_, fun h => h1 (h.imp id (own x 0))⟩, fun x cs t fr h1 => ?_⟩
  ·have hx : x ≠ b := fun hx => h1 (.inr (hx ▸ wr off))
   exact (cell_setRow_other w b _ x off hx).trans h2
  ·have hx : x ≠ b := fun hx => h1 (.inr (hx ▸ wr 0))
   exact (heap_setRow w b _ x hx).trans h2
  ·by_cases hx : x = b
   ·subst hx
    simp only [cx] at h1
    rw [hv] at h1; cases h1
    exact ⟨_, heap_setRow_same hv, by simpa using hl⟩
   ·exact ⟨cs, (heap_setRow w b _ x hx).trans h1, rfl⟩
 refine ⟨⟨?_, ?_, fun x off h => by rw [size_setRow]; exact s.base x off h, ?_⟩, ⟨le, rfl, rfl, rfl, by rw [size_setRow]; exact Nat.le_refl _, ?_, ?_⟩⟩
 ·intro j k x oj ok h1 h2 l1 l2 e1 e2
  rcases get j oj h1 with ⟨rfl, rfl⟩ | ⟨_, h3⟩ <;> rcases get k ok h2 with ⟨rfl, rfl⟩ | ⟨_, h4⟩
  ·rfl
  ·exact s.inj _ _ x _ _ hi h4 rfl l2 e1 e2
  ·exact s.inj _ _ x _ _ h3 hi l1 rfl e1 e2
  ·exact s.inj _ _ x _ _ h3 h4 l1 l2 e1 e2
 ·intro j x oj h1 l1 e1 off
  rcases get j oj h1 with ⟨rfl, rfl⟩ | ⟨_, h3⟩
  ·exact s.sep _ x _ hi rfl e1 off
  ·exact s.sep _ x _ h3 l1 e1 off
 ·intro j oj h1
  rcases get j oj h1 with ⟨rfl, rfl⟩ | ⟨hj, h3⟩
  ·exact ⟨b, us, fr, hb, heap_setRow_same hv, by rw [hl]; exact hfr, hr.mono le⟩
  ·have k := s.holds j oj h3
   cases oj with
   | cells zs t =>
    obtain ⟨x, ws, fr', h5, h6, hf, h7⟩ := k
    have hx : x ≠ b := fun hx => hj (s.inj j i b _ _ h3 hi rfl rfl (hx ▸ h5) hb)
    exact ⟨x, ws, fr', h5, (heap_setRow w b _ x hx).trans h6, hf, h7.mono le⟩
   | free m =>
    intro x hx
    obtain ⟨cs, t, h5, h6⟩ := k x hx
    have hne : x ≠ b := fun h => hj (s.inj j i b _ _ h3 hi rfl rfl (h ▸ hx) hb)
    exact ⟨cs, t, (heap_setRow w b _ x hne).trans h5, h6⟩
   | iter s2 pos =>
    obtain ⟨x, h5, h6⟩ := k
    have hx : x ≠ b := fun hx => hj (s.inj j i b _ _ h3 hi rfl rfl (hx ▸ h5) hb)
    exact ⟨x, h5, (heap_setRow w b _ x hx).trans h6⟩
   | smap ks ms =>
    obtain ⟨x, es, clk, h5, h6, h7, h8⟩ := k
    have hx : x ≠ b := fun hx => hj (s.inj j i b _ _ h3 hi rfl rfl (hx ▸ h5) hb)
    exact ⟨x, es, clk, h5, (heap_setRow w b _ x hx).trans h6, h7, RepL.mono le h8⟩
   | dead => trivial
   | glob g u => obtain ⟨q1, q2⟩ := k; exact le.cell g 0 u q2 q1
 ·intro j oj x h1 h2 h3
  rcases get j oj h1 with ⟨rfl, rfl⟩ | ⟨_, h4⟩
  ·exact .inr ⟨_, _, hi, rfl, h3⟩
  ·exact .inr ⟨j, oj, h4, h2, h3⟩
 ·intro x hx hn
  exact heap_setRow w b _ x (fun h => hn i _ hi rfl (h ▸ hb))
end
end Go.Proofs.Ytlponhgbbfgkgaa
