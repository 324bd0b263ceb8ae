import Derived.Below
import Derived.Calls
import Derived.Deep.AppendSrc
import Derived.Laws.AppendOwn
import Derived.Laws.BytesArg
import Derived.Laws.CopyRow
import Derived.Laws.IdiomStrings
import Derived.Laws.MakeOwn
import Derived.Laws.StructEq
import Derived.LoopIn
import Derived.LoopNIn
import Derived.Orders
import Derived.OwnWalkIn
import Derived.RangeFuncBox
import Derived.RangeFuncLeaves
import Derived.RangeFuncNested
import Derived.Shelf.Abstract
import Derived.TacticsInMore
import Derived.Test.YtjcminooghmpeaaGreatDoorProg
import Derived.WalkKit
import Derived.WalkLawsBesides
set_option linter.all false
set_option maxRecDepth 100000
set_option maxHeartbeats 40000000
open Go.Proofs.Tryz
namespace Go.Proofs.YtjcminooghmpeaaGreatDoor
open Go.RowKit Go.Shelf
attribute [local go_sem] Oper.semAt_some
abbrev WX:={x:ByteArray×Int×Int // x.1.size<=9223372036854775807/\0<=x.2.2/\x.2.2<=7}
abbrev wv(x:WX):Value:=.agg #[.string x.1.1,.int .i64 x.1.2.1,.int .i64 x.1.2.2]
def pT{α:Type}(f:Nat->α)(len k:Nat):List α:=(List.range k).map fun j=>f (len-1-j)
def uk{α:Type}(f:Nat->α)(len k:Nat):pT f len (k+1)=pT f len k++[f (len-1-k)]:=by simp[pT,List.range_succ]
def EB{α:Type}(f:Nat->α)(len k:Nat):(pT f len k).length=k:=by simp[pT]
def Vg(l Bs n₀ b off len cap:Nat)(z:Nat->WX)(hreach:len*32<=140737488351232)(hb:b<n₀)(hBn:Bs<n₀)(J Jx:List (Nat×WX)->World->Prop)
  (hY:∀pre x W,J pre W->pre.length<len->YieldAt Fence.wide 9 prog l #[.int .i64 (x.1:Int),wv x.2] W fun e W' =>
   (e=.returned (.bool true)/\J (pre++[x]) W'/\Below n₀ W W')\/(e=.returned (.bool false)/\Jx (pre++[x]) W'))
  (W:World) (hBs:W.cell? ⟨Bs,0,none⟩=some (.slice (some ⟨b,off,none⟩) len cap))
  (hc0:∀j,j<len->W.cell? ⟨b,off+j*3,none⟩=some (.string (z j).1.1)) (hc1:∀j,j<len->W.cell? ⟨b,off+j*3+1,none⟩=some (.int .i64 (z j).1.2.1)) (hc2:∀j,j<len->W.cell? ⟨b,off+j*3+2,none⟩=some (.int .i64 (z j).1.2.2)) (h0:J [] W) :
  CallsIn Fence.wide 10 prog 125 #[.func (.yield l) #[] #[],.pointer (some ⟨Bs,0,none⟩)] W fun e W'=>(∃v,e=.returned v) /\
   ((∃ys,ys=pT (fun j=>(j,z j)) len len/\J ys W')\/(∃pre,(∃k,k<=len/\pre=pT (fun j=>(j,z j)) len k)/\Jx pre W')):=by
 refine callsIn_of_wp func125 rfl trivial ?_ rfl
 simp only[ntmps125,List.size_toArray,List.length_cons,List.length_nil,Nat.reduceAdd,Nat.reduceSub,Array.replicate_succ,Array.replicate_zero,List.push_toArray,List.append_toArray,List.nil_append,List.cons_append]
 gi_wp2
 gi_loopw [3] (fun i wr=>∃k:Nat,k<=len/\i=.int .i64 ((len:Int)-1-(k:Int))/\J (pT (fun j=>(j,z j)) len k) wr/\Below n₀ W wr)
  (fun i _=>(intOf i+1).toNat)
 case atStart=>exact⟨0,Nat.zero_le _,by first|(simp;done)|(simp;omega),h0,Below.refl _ _⟩
 case round =>
  obtain⟨k,hk,rfl,hJs,hnx⟩:=hrel
  by_cases hlt:k<len
  ·obtain⟨j,hj⟩:∃j:Nat,(len:Int)-1-(k:Int)=(j:Int):=⟨len-1-k,by omega⟩
   rw[hj]
   have hjl:j<len:=by omega
   have ej:len-1-k=j:=by omega
   obtain⟨fn,tmps,assign,body,hy,hR⟩:=hY _ (j,z j) wr hJs (by rw[EB];exact hlt)
   dsimp only at hy
   have hBs':wr.cell? ⟨Bs,0,none⟩=some (.slice (some ⟨b,off,none⟩) len cap):=(hnx.cell (p:=⟨Bs,0,none⟩) hBn).trans hBs
   have g0:=(hnx.cell (p:=⟨b,off+j*3,none⟩) hb).trans (hc0 j hjl)
   have g1:=(hnx.cell (p:=⟨b,off+j*3+1,none⟩) hb).trans (hc1 j hjl)
   have g2:=(hnx.cell (p:=⟨b,off+j*3+2,none⟩) hb).trans (hc2 j hjl)
   gi_wp2
   refine hR.mono ?_
   rintro e W3 (⟨rfl,hJ3,hk3⟩|⟨rfl,hJx3⟩)
   ·gi_wp2
    go_roundw
    case rel=>exact⟨k+1,by omega,by first|(simp;done)|(simp;omega),by rw[uk,ej];exact hJ3,hnx.trans hk3⟩
    case measure=>first|(simp[intOf];done)|(simp[intOf];omega)
   gi_wp2
   refine bodyPost_ret (results_none rfl _ _ _) rfl ?_
   exact⟨⟨_,rfl⟩,.inr ⟨_,⟨k+1,by omega,by rw[uk,ej]⟩,hJx3⟩⟩
  obtain rfl:k=len:=by omega
  gi_wp2
  go_end0
  exact⟨⟨_,rfl⟩,.inl ⟨_,rfl,hJs⟩⟩
def EV(l Bs n₀:Nat)(hBn:Bs<n₀)(J:List (Nat×WX)->World->Prop)(W:World)(a:Option Addr)(cap:Nat)(hBs:W.cell? ⟨Bs,0,none⟩=some (.slice a 0 cap))(h0:J [] W):
  CallsIn Fence.wide 10 prog 125 #[.func (.yield l) #[] #[],.pointer (some ⟨Bs,0,none⟩)] W fun e W'=>(∃v,e=.returned v)/\J [] W':=by
 refine callsIn_of_wp func125 rfl trivial ?_ rfl
 simp only[ntmps125,List.size_toArray,List.length_cons,List.length_nil,Nat.reduceAdd,Nat.reduceSub,Array.replicate_succ,Array.replicate_zero,List.push_toArray,List.append_toArray,List.nil_append,List.cons_append]
 gi_wp2
 gi_loopw [3] (fun i wr=>i=.int .i64 (-1)/\J [] wr) (fun _ _=>0)
 case atStart=>exact⟨rfl,h0⟩
 case round =>
  obtain⟨rfl,hJs⟩:=hrel
  gi_wp2
  go_end0
  exact⟨⟨_,rfl⟩,hJs⟩
def tI(n₀:Nat)(W:World)(sv:Value)(len:Nat)(z:Nat->WX):Prop :=
 (∃a cap,sv=.slice a 0 cap/\len=0)\/∃b off cap,sv=.slice (some ⟨b,off,none⟩) len cap/\b<n₀/\(∀j,j<len->W.cell? ⟨b,off+j*3,none⟩=some (.string (z j).1.1)) /\
  (∀j,j<len->W.cell? ⟨b,off+j*3+1,none⟩=some (.int .i64 (z j).1.2.1))/\(∀j,j<len->W.cell? ⟨b,off+j*3+2,none⟩=some (.int .i64 (z j).1.2.2))
def tI.below{n₀:Nat}{A B:World}(h:Below n₀ A B){sv:Value}{len:Nat}{z:Nat->WX}:tI n₀ A sv len z->tI n₀ B sv len z
 | .inl e=>.inl e
 | .inr ⟨b,off,cap,e,hb,h0,h1,h2⟩=>.inr ⟨b,off,cap,e,hb,fun j hj=>(h.cell (p:=⟨b,off+j*3,none⟩) hb).trans (h0 j hj),fun j hj=>(h.cell (p:=⟨b,off+j*3+1,none⟩) hb).trans (h1 j hj),fun j hj=>(h.cell (p:=⟨b,off+j*3+2,none⟩) hb).trans (h2 j hj)⟩
def Za(a:Option Addr)(len cap:Nat)(w:World):
  CallsIn Fence.wide 10 prog 95 #[.slice a len cap] w fun e w'=>e=.returned (.func (.func 125) #[] #[.pointer (some ⟨w.heap.size,0,none⟩)])/\w'=w.alloc (.cells #[.slice a len cap] 31):=by
 refine callsIn_of_wp func95 rfl trivial ?_ rfl
 simp only[ntmps95,List.size_toArray,List.length_cons,List.length_nil,Nat.reduceAdd,Nat.reduceSub,Array.replicate_succ,Array.replicate_zero,List.push_toArray,List.append_toArray,List.nil_append,List.cons_append]
 gi_wp2
 go_ret
 exact⟨rfl,rfl⟩
def JE(Bs n₀:Nat)(sv:Value)(len:Nat)(z:Nat->WX)(hreach:len*32<=140737488351232)(w:World)(hBs:Bs<w.heap.size)(hBn:Bs<n₀)(hn₀:n₀<=w.heap.size)
  (hc:w.cell? ⟨Bs,0,none⟩=some sv) (hI:tI n₀ w sv len z) :
  SeqStopsK Fence.wide 10 prog 125 #[.pointer (some ⟨Bs,0,none⟩)] (fun x:Nat×WX=>#[Value.int .i64 (x.1:Int),wv x.2]) (Below n₀) (fun ys=>ys=pT (fun j=>(j,z j)) len len)
   (fun pre=>∃k,k<=len/\pre=pT (fun j=>(j,z j)) len k) len w:=fun l J Jx W hW _ _ hY h0=>by
 have hc':=(hW.cell (p:=⟨Bs,0,none⟩) hBs).trans hc
 rcases hI.below (hW.mono hn₀)with ⟨a,cap,rfl,rfl⟩|⟨b,off,cap,rfl,hb,h1,h2,h3⟩
 ·exact(EV l Bs n₀ hBn J W a cap hc' h0).mono fun e W' ⟨he,hj⟩=>⟨he,.inl ⟨_,rfl,hj⟩⟩
 exact Vg l Bs n₀ b off len cap z hreach hb hBn J Jx hY W hc' h1 h2 h3 h0
end Go.Proofs.YtjcminooghmpeaaGreatDoor
namespace Go.Proofs.YtjcminooghmpeaaGreatDoor
open Go.RowKit Go.Shelf
attribute [local go_sem] Oper.semAt_some
def jA(W:World)(B:Nat)(t:TypeId)(a b c:Value):Prop:=W.heap[B]?=some (.cells #[a,b,c] t (0,0))
def jA.lt{W:World}{B:Nat}{t:TypeId}{a b c:Value}(h:jA W B t a b c):B<W.heap.size:=(Array.getElem?_eq_some_iff.1 h).1
def jA.c0{W:World}{B:Nat}{t:TypeId}{a b c:Value}(h:jA W B t a b c):W.cell? ⟨B,0,none⟩=some a:=by simp[World.cell?,show W.heap[B]?=_ from h]
def jA.c1{W:World}{B:Nat}{t:TypeId}{a b c:Value}(h:jA W B t a b c):W.cell? ⟨B,1,none⟩=some b:=by simp[World.cell?,show W.heap[B]?=_ from h]
def jA.c2{W:World}{B:Nat}{t:TypeId}{a b c:Value}(h:jA W B t a b c):W.cell? ⟨B,2,none⟩=some c:=by simp[World.cell?,show W.heap[B]?=_ from h]
def jA.f0{W:World}{B:Nat}{t:TypeId}{a b c:Value}(h:jA W B t a b c)(k:Nat):W.frozen? ⟨B,k,none⟩=false:=by simp[World.frozen?,show W.heap[B]?=_ from h]
def jA.new(W:World)(t:TypeId)(a b c:Value):jA (W.alloc (.cells #[a,b,c] t)) W.heap.size t a b c:=World.alloc_heap_new W _
def jA.kept{W W':World}{row:Option Nat}{B:Nat}{t:TypeId}{a b c:Value}(h:jA W B t a b c)(hg:W.grownBy W' row)(hne:some B≠row):jA W' B t a b c:=(hg.block B h.lt hne).trans h
def jA.alloc{W:World}{B:Nat}{t:TypeId}{a b c:Value}(h:jA W B t a b c)(o:Obj):jA (W.alloc o) B t a b c:=h.kept (World.grownBy_alloc W o none) (by simp)
def jA.below{W W':World}{B:Nat}{t:TypeId}{a b c:Value}(h:jA W B t a b c)(k:Below W.heap.size W W'):jA W' B t a b c:=(k.block B h.lt).trans h
def sF{W W':World}{B:Nat}{t:TypeId}{v:Value}(h:Boxed W B t v)(k:Below W.heap.size W W'):Boxed W' B t v:=(k.block B h.lt).trans h
def zt{β:Type}(B:Nat)(t:TypeId)(a b c:β->Value):Own (fun s W=>jA W B t (a s) (b s) (c s)):=fun s X Y row h hg hr=>h.kept hg fun e=>by
 obtain⟨o,ho,hc⟩:=hr B e.symm
 rw[show X.heap[B]?=_ from h]at ho;cases ho;cases hc
def yb{W W':World}(h:Below W.heap.size W W'):KeepsOthers W W' :=
 ⟨h.size,fun k o hk _=>(h.block k (Array.getElem?_eq_some_iff.1 hk).1).trans hk⟩
def aV0{β:Type}(I:β->Prop)(B:Nat):OwnFrom B (fun s (_:World)=>I s):=fun _ _ _ _ h _ _=>h
def S7{W:World}{B:Nat}{t:TypeId}{a b c:Value}(h:jA W B t a b c)(a' b' c':Value):jA (((W.setCell ⟨B,0,none⟩ a').setCell ⟨B,1,none⟩ b').setCell ⟨B,2,none⟩ c') B t a' b' c':=by
 obtain⟨hlt,hk⟩:=Array.getElem?_eq_some_iff.1 h
 unfold jA World.setCell
 simp[hlt,Array.getElem_modify,hk]
def A6{W:World}{B B' k:Nat}{t:TypeId}{a b c v:Value}(h:jA W B t a b c)(hne:B≠B'):jA (W.setCell ⟨B',k,none⟩ v) B t a b c :=
 (Below.heap_setCell _ _ _ B hne).trans h
def im{W:World}{B B' k:Nat}{t:TypeId}{u v:Value}(h:Boxed W B t u)(hne:B≠B'):Boxed (W.setCell ⟨B',k,none⟩ v) B t u :=
 (Below.heap_setCell _ _ _ B hne).trans h
def Ij{W:World}{A:Nat}{t0 t1 t2:TypeId}{a b c u v:Value}(h4:jA W A t0 a b c)(h5:Boxed W (A+1) t1 u)(h6:Boxed W (A+1+1) t2 v)(a' b' c' u' v':Value){W':World}
  (hW:((((W.setCell ⟨A,0,none⟩ a').setCell ⟨A,1,none⟩ b').setCell ⟨A,2,none⟩ c').setCell ⟨A+1,0,none⟩ u').setCell ⟨A+1+1,0,none⟩ v'=W') :
  (jA W' A t0 a' b' c'/\Boxed W' (A+1) t1 u'/\Boxed W' (A+1+1) t2 v')/\KeepsOthers W W'/\(∀n,n<=A->Below n W W'):=by
 subst hW
 refine⟨⟨?_,?_,?_⟩,?_,fun n hn=>?_⟩
 ·exact A6 (A6 (S7 h4 a' b' c') (by omega)) (by omega)
 ·exact im ((im (im (im h5 (by omega)) (by omega)) (by omega)).set u') (by omega)
 ·exact(im (im (im (im h6 (by omega)) (by omega)) (by omega)) (by omega)).set v'
 ·exact((((KeepsOthers.setCell _ _ _).trans (KeepsOthers.setCell _ _ _)).trans (KeepsOthers.setCell _ _ _)).trans (KeepsOthers.setCell _ _ _)).trans (KeepsOthers.setCell _ _ _)
 exact(((((Below.refl n W).setCell (p:=⟨A,0,none⟩) hn _).setCell (p:=⟨A,1,none⟩) hn _).setCell (p:=⟨A,2,none⟩) hn _).setCell (p:=⟨A+1,0,none⟩) (Nat.le_succ_of_le hn) _).setCell (p:=⟨A+1+1,0,none⟩) (Nat.le_succ_of_le (Nat.le_succ_of_le hn)) _
def Y1(a:Option Addr)(len cap:Nat)(nb:Addr)(z:Nat->WX)(p:WX->Bool)(hreach:len*32<=140737488351232)(w:World)(hI:tI w.heap.size w (.slice a len cap) len z)
  (hso:∀W,Below w.heap.size w W->∀x,Calls prog 65 #[wv x,.pointer (some nb)] W fun e W'=>e=.returned (.bool (p x))/\Below W.heap.size W W') :
  CallsIn Fence.wide 11 prog 64 #[.slice a len cap,.func (.func 65) #[] #[.pointer (some nb)]] w fun e W' =>
   ((e=.returned (.tuple #[.agg #[.string ⟨#[]⟩,.int .i64 0,.int .i64 0],.int .i64 0,.bool false])/\∀j,j<len->p (z j)=false)\/(∃k:Nat,k<len/\e=.returned (.tuple #[wv (z k),.int .i64 k,.bool true])/\p (z k)=true/\∀j,k<j->j<len->p (z j)=false))/\Below w.heap.size w W':=by
 refine callsIn_of_wp_marks func64 rfl trivial ?_ rfl
 simp only[ntmps64,List.size_toArray,List.length_cons,List.length_nil,Nat.reduceAdd,Nat.reduceSub,Array.replicate_succ,Array.replicate_zero,List.push_toArray,List.append_toArray,List.nil_append,List.cons_append]
 gi_wp2_with (refine⟨trivial,?_⟩;gi_at_call 95;refine(Za _ _ _ _).mono ?_;rintro e w' ⟨rfl,rfl⟩)
 have hB0:Below w.heap.size w (((((w.alloc (.cells #[.func (.func 65) #[] #[.pointer (some nb)]] 83)).alloc (.cells #[.string ⟨#[]⟩,.int .i64 0,.int .i64 0] 61)).alloc (.cells #[.int .i64 0] 3)).alloc (.cells #[.bool false] 4)).alloc (.cells #[.slice a len cap] 31)) :=
  (((((Below.refl _ w).alloc (Nat.le_refl _) _).alloc (by simp) _).alloc (by simp;omega) _).alloc (by simp;omega) _).alloc (by simp;omega) _
 have b3:=((((Boxed.new w 83 (.func (.func 65) #[] #[.pointer (some nb)])).alloc (.cells #[.string ⟨#[]⟩,.int .i64 0,.int .i64 0] 61)).alloc (.cells #[.int .i64 0] 3)).alloc (.cells #[.bool false] 4)).alloc (.cells #[.slice a len cap] 31)
 have b4:=(((jA.new (w.alloc (.cells #[.func (.func 65) #[] #[.pointer (some nb)]] 83)) 61 (.string ⟨#[]⟩) (.int .i64 0) (.int .i64 0)).alloc (.cells #[.int .i64 0] 3)).alloc (.cells #[.bool false] 4)).alloc (.cells #[.slice a len cap] 31)
 have b5:=((Boxed.new ((w.alloc (.cells #[.func (.func 65) #[] #[.pointer (some nb)]] 83)).alloc (.cells #[.string ⟨#[]⟩,.int .i64 0,.int .i64 0] 61)) 3 (.int .i64 0)).alloc (.cells #[.bool false] 4)).alloc (.cells #[.slice a len cap] 31)
 have b6:=(Boxed.new (((w.alloc (.cells #[.func (.func 65) #[] #[.pointer (some nb)]] 83)).alloc (.cells #[.string ⟨#[]⟩,.int .i64 0,.int .i64 0] 61)).alloc (.cells #[.int .i64 0] 3)) 4 (.bool false)).alloc (.cells #[.slice a len cap] 31)
 have bN:=Boxed.new ((((w.alloc (.cells #[.func (.func 65) #[] #[.pointer (some nb)]] 83)).alloc (.cells #[.string ⟨#[]⟩,.int .i64 0,.int .i64 0] 61)).alloc (.cells #[.int .i64 0] 3)).alloc (.cells #[.bool false] 4)) 31 (.slice a len cap)
 simp only[World.size_alloc]at b4 b5 b6 bN
 obtain⟨W0,hW0⟩:∃W0,((((w.alloc (.cells #[.func (.func 65) #[] #[.pointer (some nb)]] 83)).alloc (.cells #[.string ⟨#[]⟩,.int .i64 0,.int .i64 0] 61)).alloc (.cells #[.int .i64 0] 3)).alloc (.cells #[.bool false] 4)).alloc (.cells #[.slice a len cap] 31)=W0:=⟨_,rfl⟩
 have hsz:W0.heap.size=w.heap.size+5:=by rw[<-hW0];simp
 rw[hW0]at hB0 b3 b4 b5 b6 bN ⊢
 clear hW0
 refine wpIn_rangeFunc_ownH rfl (by decide) (gf:=125) (lb:=#[.pointer (some ⟨w.heap.size+1+1+1+1,0,none⟩)]) rfl trivial (enters_of func125 (by kernel_rfl) rfl)
  (JE (w.heap.size+1+1+1+1) W0.heap.size (.slice a len cap) len z hreach W0 (by omega) (by omega) (Nat.le_refl _) bN.cell (by
   rcases hI.below hB0 with h|⟨b,off,cap',e,hb,h0,h1,h2⟩
   ·exact .inl h
   exact .inr ⟨b,off,cap',e,by omega,h0,h1,h2⟩)) belowK_t (belowK_b (Nat.le_refl _)) (Below.refl _ _) (fun _=>rfl)
  (fun pre W=>((∀q∈pre,p q.2=false)/\Boxed W w.heap.size 83 (.func (.func 65) #[] #[.pointer (some nb)])/\jA W (w.heap.size+1) 61 (.string ⟨#[]⟩) (.int .i64 0) (.int .i64 0)/\Boxed W (w.heap.size+1+1) 3 (.int .i64 0)/\Boxed W (w.heap.size+1+1+1) 4 (.bool false))/\Below w.heap.size w W/\W0.heap.size<=W.heap.size)
  (fun c pre W=>(c=.ret/\∃ini q,pre=ini++[q]/\(∀q∈ini,p q.2=false)/\p q.2=true/\jA W (w.heap.size+1) 61 (.string q.2.1.1) (.int .i64 q.2.1.2.1) (.int .i64 q.2.1.2.2)/\Boxed W (w.heap.size+1+1) 3 (.int .i64 (q.1:Int))/\Boxed W (w.heap.size+1+1+1) 4 (.bool true))/\Below w.heap.size w W)
  (OwnFrom.and (OwnFrom.and (aV0 _ _) (OwnFrom.and (Own.from (boxed_own _ _ _) _) (OwnFrom.and (Own.from (zt _ _ _ _ _) _) (OwnFrom.and (Own.from (boxed_own _ _ _) _) (Own.from (boxed_own _ _ _) _))))) (OwnFrom.and (ownFrom_below (Nat.le_refl _) (by omega)) (fun _ _ _ _ h hg _=>Nat.le_trans h hg.size)))
  (fun c=>OwnFrom.and (fun s X Y row hs hg hr=>by
   obtain⟨hc,ini,q,e1,e2,e3,e4,e5,e6⟩:=hs
   exact⟨hc,ini,q,e1,e2,e3,zt _ _ (fun(_:Unit)=>_) (fun _=>_) (fun _=>_) () X Y row e4 hg (fun r e=>(hr r e).2),boxed_own _ _ (fun(_:Unit)=>_) () X Y row e5 hg (fun r e=>(hr r e).2),boxed_own _ _ (fun(_:Unit)=>_) () X Y row e6 hg (fun r e=>(hr r e).2)⟩) (ownFrom_below (Nat.le_refl _) (by omega)))
  ⟨⟨(fun q hq=>nomatch hq),b3,b4,b5,b6⟩,hB0,Nat.le_refl _⟩
  (fun x a' W=>∃Bx,w.heap.size+1+1+1<Bx/\jA W Bx 61 (.string x.2.1.1) (.int .i64 x.2.1.2.1) (.int .i64 x.2.1.2.2)/\a'={tmps:=#[.slice a len cap,.func (.func 65) #[] #[.pointer (some nb)],undef,.pointer (some ⟨w.heap.size,0,none⟩),.pointer (some ⟨w.heap.size+1,0,none⟩),.pointer (some ⟨w.heap.size+1+1,0,none⟩),.pointer (some ⟨w.heap.size+1+1+1,0,none⟩),.int .i64 (x.1:Int),.pointer (some ⟨Bx,0,none⟩),undef,.slice a len cap,.func (.func 125) #[] #[.pointer (some ⟨w.heap.size+1+1+1+1,0,none⟩)],.int .i64 (x.1:Int),wv x.2,undef,undef,undef,undef,undef,undef],defers:=[]})
  (fun x a' _ X Y row hs hg hr=>by obtain⟨Bx,h1,h2,h3⟩:=hs;exact⟨Bx,h1,zt Bx 61 (fun(_:Unit)=>_) (fun _=>_) (fun _=>_) () X Y row h2 hg (fun r e=>(hr r e).2),h3⟩)
  ?assign ?body ?done ?stop
 case assign =>
  rintro l pre x W K ⟨⟨hp,c3,c4,c5,c6⟩,hB1,hsW⟩ hK
  gi_wp2
  exact hK _ _ ((KeepsOthers.alloc _ _).from _) ((Below.refl _ W).alloc hsW _) ⟨⟨hp,c3.alloc _,c4.alloc _,c5.alloc _,c6.alloc _⟩,hB1.alloc hB1.size _,by simp;omega⟩ ⟨W.heap.size,c6.lt,jA.new W 61 _ _ _,rfl⟩
 case body =>
  rintro l pre x a' W hl ⟨r,hr⟩ ⟨⟨hp,c3,c4,c5,c6⟩,hB1,hsW⟩ ⟨Bx,hBx,bX,rfl⟩ hlt
  have k3:=c3.cell
  have x0:=bX.c0
  have x1:=bX.c1
  have x2:=bX.c2
  gi_wp2_with (refine⟨trivial,?_⟩;gi_at_call 65;refine(CallsIn.inRound l (callsIn_wide.2 (hso W hB1 x.2))).mono ?_;rintro e w' ⟨rfl,hbel⟩;have q4:=c4.below hbel;have q40:=q4.c0;have q41:=q4.c1;have q42:=q4.c2;have r40:=q4.f0 0;have r41:=q4.f0 1;have r42:=q4.f0 2;have qx:=bX.below hbel;have qx0:=qx.c0;have qx1:=qx.c1;have qx2:=qx.c2;have q5:=sF c5 hbel;have q50:=q5.cell;have r50:=q5.frozen;have q6:=sF c6 hbel;have q60:=q6.cell;have r60:=q6.frozen)
  ·have hpx:p x.2=true:=by assumption
   obtain⟨⟨g4,g5,g6⟩,gk,gb⟩:=Ij (W:=_) q4 q5 q6 (.string x.2.1.1) (.int .i64 x.2.1.2.1) (.int .i64 x.2.1.2.2) (.int .i64 (x.1:Int)) (.bool true) rfl
   exact⟨((yb hbel).trans gk).from _,⟨rfl,pre,x,rfl,hp,hpx,g4,g5,g6⟩,hB1.trans ((hbel.mono hB1.size).trans (gb _ (by omega)))⟩
  have hpx:p x.2=false:=by assumption
  exact⟨(yb hbel).from _,hbel.mono hsW,⟨(fun q hq=>(List.mem_append.1 hq).elim (hp q) (fun e=>by simp at e;subst e;exact hpx)),sF c3 hbel,q4,q5,q6⟩,hB1.trans (hbel.mono hB1.size),Nat.le_trans hsW hbel.size⟩
 case done =>
  rintro D ys W hD rfl ⟨⟨hp,c3,c4,c5,c6⟩,hB,hsW⟩ hK
  have q4:=c4.alloc (.cells #[.string ⟨#[]⟩,.int .i64 0,.int .i64 0] 61)
  have q40:=q4.c0
  have q41:=q4.c1
  have q42:=q4.c2
  have r40:=q4.f0 0
  have r41:=q4.f0 1
  have r42:=q4.f0 2
  have q5:=c5.alloc (.cells #[.string ⟨#[]⟩,.int .i64 0,.int .i64 0] 61)
  have q50:=q5.cell
  have r50:=q5.frozen
  have q6:=c6.alloc (.cells #[.string ⟨#[]⟩,.int .i64 0,.int .i64 0] 61)
  have q60:=q6.cell
  have r60:=q6.frozen
  gi_wp2
  obtain⟨⟨g4,g5,g6⟩,gk,gb⟩:=Ij (W:=_) q4 q5 q6 (.string ⟨#[]⟩) (.int .i64 0) (.int .i64 0) (.int .i64 0) (.bool false) rfl
  have hK':=gk.same D _ ((Below.heap_alloc W _ D (Array.getElem?_eq_some_iff.1 hK).1).trans hK) rfl
  refine⟨by simp,.inl ⟨_,_,rfl,run_takeDeferred hK',?_⟩⟩
  have ck:∀{q:Addr} {v:Value},_->_:=fun {q} {v} h=>cell_kept (a:=q) (v:=v) h (grownBy_putObj' _ D (.deferred none)) (fun r e=>by cases e;exact⟨_,hK',rfl⟩)
  have e0:=ck g4.c0
  have e1:=ck g4.c1
  have e2:=ck g4.c2
  have e5:=ck g5.cell
  have e6:=ck g6.cell
  refine⟨.tuple #[.agg #[.string ⟨#[]⟩,.int .i64 0,.int .i64 0],.int .i64 0,.bool false],?_,.inl ⟨rfl,fun j hj=>hp (j,z j) (by simp only[pT,List.mem_map,List.mem_range];exact⟨len-1-j,by omega,by rw[show len-1-(len-1-j)=j by omega]⟩)⟩,?_⟩
  ·simp[results,Tryz.f64,go_sem,e0,e1,e2,e5,e6]
  exact((hB.alloc hB.size _).trans (gb _ (by omega))).trans (belowK_b (w:=w) (Nat.le_refl _) _ D _ _ (by omega) hK' rfl rfl)
 case stop =>
  rintro D c pre W hD ⟨k,hk,rfl⟩ ⟨⟨rfl,ini,q,e1,e2,e3,e4,e5,e6⟩,hB⟩ hK
  gi_wp2
  refine⟨by simp,.inl ⟨_,_,rfl,run_takeDeferred hK,?_⟩⟩
  have ck:∀{q:Addr} {v:Value},_->_:=fun {q} {v} h=>cell_kept (a:=q) (v:=v) h (grownBy_putObj' _ D (.deferred none)) (fun r e=>by cases e;exact⟨_,hK,rfl⟩)
  have f0:=ck e4.c0
  have f1:=ck e4.c1
  have f2:=ck e4.c2
  have f5:=ck e5.cell
  have f6:=ck e6.cell
  obtain⟨k',rfl⟩:∃k',k=k'+1:=by
   cases k with
   | zero=>simp[pT]at e1
   | succ k'=>exact⟨k',rfl⟩
  rw[uk]at e1
  obtain⟨rfl,e7⟩:=List.append_inj' e1 rfl
  obtain rfl:(len-1-k',z (len-1-k'))=q:=by simpa using e7
  refine⟨.tuple #[wv (z (len-1-k')),.int .i64 ((len-1-k':Nat):Int),.bool true],?_,.inr ⟨len-1-k',by omega,rfl,e3,fun j h1 h2=>e2 (j,z j) (by simp only[pT,List.mem_map,List.mem_range];exact⟨len-1-j,by omega,by rw[show len-1-(len-1-j)=j by omega]⟩)⟩,?_⟩
  ·simp[results,Tryz.f64,go_sem,f0,f1,f2,f5,f6]
  exact hB.trans (belowK_b (w:=w) (Nat.le_refl _) W D _ _ (by omega) hK rfl rfl)
end Go.Proofs.YtjcminooghmpeaaGreatDoor
namespace Go.Proofs.YtjcminooghmpeaaGreatDoor
inductive rM where
 | mk (kind n:Int) (a b:List rM)
def rM.kind:rM->Int|.mk k _ _ _=>k
def rM.n:rM->Int|.mk _ n _ _=>n
def rM.a:rM->List rM|.mk _ _ a _=>a
def rM.b:rM->List rM|.mk _ _ _ b=>b
instance:Inhabited rM:=⟨.mk 0 0 [] []⟩
structure PSt where
 rest:List (List UInt8)
 opn:Int
 loops:Int
 bad:Int
def PSt.fail(s:PSt)(e:Int):PSt:=if s.bad=0 then {s with bad:=e} else s
structure DSt where
 rest:List (List UInt8)
 bad:Int
def DSt.fail(s:DSt)(e:Int):DSt:=if s.bad=0 then {s with bad:=e} else s
end Go.Proofs.YtjcminooghmpeaaGreatDoor
namespace Go.Proofs.YtjcminooghmpeaaGreatDoor
def PSt.more(s:PSt)(y:List (List UInt8)):PSt:={s with rest:=s.rest++y}
def aK5(e:Int):Prop:=e=0\/e = -22\/e = -16
instance (e:Int):Decidable (aK5 e):=by unfold aK5;infer_instance
open Go.RowKit
inductive SK where
 | any
 | clip
 | own (t k:Nat)
inductive fX where
 | s (k:List UInt8)
 | n (i:Int)
deriving DecidableEq
inductive PV where
 | val (v:Value)
 | any
 | agg (cs:List PV)
 | tup (cs:List PV)
 | ptr (i off:Nat)
 | seq (n:Nat) (xs:List PV) (s:SK)
 | row (xs:List PV)
 | arr (i off n cap:Nat)
 | fn (f:Fn) (first cap:List PV)
 | mapv (i:Nat)
 | arw (i off n:Nat)
 | smap (ks:List fX) (xs:List PV)
 | ifc (t:TypeId) (x:PV)
structure Cx where
 w:World
 N:Nat
 σ:Nat->Option Nat
 Wr:Nat->Nat->Prop
def rP(c:Cx)(b:Addr)(vs:List Value):Prop :=
 b.spot=none/\∀(j:Nat) (u:Value),vs[j]?=some u->c.w.cell? ⟨b.block,b.off+j,none⟩=some u/\¬c.Wr b.block (b.off+j)
def Ac(c:Cx)(s:SK)(a:Option Addr)(n cap len:Nat):Prop :=
 match s with
 | .any=>True
 | .clip=>cap=n
 | .own t k=>t<c.N/\len=n*k/\(cap=n\/∃b cs e,c.σ t=some b/\a=some ⟨b,0,none⟩/\c.w.heap[b]?=some (Obj.cells cs e (0,0))/\cap*k<=cs.size)
def oQ:fX->Value
 | .s k=>.string ⟨k.toArray⟩
 | .n i=>.int .i64 i
mutual
def Rep(c:Cx):PV->Value->Prop
 | .val u,v=>v=u
 | .any,_=>True
 | .agg cs,v=>∃vs:List Value,v=.agg vs.toArray/\au c cs vs
 | .tup cs,v=>∃vs:List Value,v=.tuple vs.toArray/\au c cs vs
 | .ptr i off,v=>i<c.N/\∃b,c.σ i=some b/\v=.pointer (some ⟨b,off,none⟩)
 | .seq n xs s,v=>∃(a:Option Addr) (cap:Nat) (vs:List Value),v=.slice a n cap/\n<=cap/\(a=none->n=0/\cap=0/\vs=[])/\au c xs vs /\
   (∀b,a=some b->rP c b vs\/(cap=0/\vs=[]))/\Ac c s a n cap xs.length
 | .row xs,v=>∃(b:Addr) (vs:List Value),v=.pointer (some b)/\au c xs vs/\rP c b vs
 | .arr i off n cap,v=>i<c.N/\∃b,c.σ i=some b/\v=.slice (some ⟨b,off,none⟩) n cap
 | .fn f first cap,v=>∃fs cs:List Value,v=.func f fs.toArray cs.toArray/\au c first fs/\au c cap cs
 | .mapv i,v=>i<c.N/\∃b,c.σ i=some b/\v=.map (some b)
 | .arw i off n,v=>i<c.N/\∃b cap,c.σ i=some b/\n<=cap/\v=.slice (some ⟨b,off,none⟩) n cap
 | .smap ks xs,v=>∃(b:Nat) (es:Array MapEntry) (clk:Nat),v=.map (some b)/\c.w.heap[b]?=some (Obj.map es clk)/\¬c.Wr b 0/\es.toList.map (·.key)=ks.map oQ/\au c xs (es.toList.map (·.val))
 | .ifc t x,v=>∃u,v=.iface t u/\Rep c x u
def au(c:Cx):List PV->List Value->Prop
 | [],vs=>vs=[]
 | x::xs,vs=>∃(u:Value) (us:List Value),vs=u::us/\Rep c x u/\au c xs us
end
structure Cx.Le (c c':Cx):Prop where
 N:c.N<=c'.N
 σ:∀i,i<c.N->c'.σ i=c.σ i
 cell:∀b off u,¬c.Wr b off->c.w.cell? ⟨b,off,none⟩=some u->c'.w.cell? ⟨b,off,none⟩=some u/\¬c'.Wr b off
 mapo:∀(b:Nat) (es:Array MapEntry) (clk:Nat),¬c.Wr b 0->c.w.heap[b]?=some (Obj.map es clk)->c'.w.heap[b]?=some (Obj.map es clk)/\¬c'.Wr b 0
 shape:∀(b:Nat) (cs:Array Value) (e:TypeId) (fr:Nat×Nat),c.w.heap[b]?=some (Obj.cells cs e fr)->∃cs':Array Value,c'.w.heap[b]?=some (Obj.cells cs' e fr)/\cs'.size=cs.size
def Cx.Le.refl(c:Cx):c.Le c:=⟨Nat.le_refl _,fun _ _=>rfl,fun _ _ _ h1 h2=>⟨h2,h1⟩,fun _ _ _ h1 h2=>⟨h2,h1⟩,fun _ cs _ _ h=>⟨cs,h,rfl⟩⟩
def Cx.Le.trans{a b c:Cx}(h:a.Le b)(k:b.Le c):a.Le c:=by
 refine⟨Nat.le_trans h.N k.N,fun i hi=>(k.σ i (Nat.lt_of_lt_of_le hi h.N)).trans (h.σ i hi),fun x off u h1 h2=>?_,fun x es clk h1 h2=>?_,fun x cs e fr h1=>?_⟩
 ·obtain⟨h3,h4⟩:=h.cell x off u h1 h2
  exact k.cell x off u h4 h3
 ·obtain⟨h3,h4⟩:=h.mapo x es clk h1 h2
  exact k.mapo x es clk h4 h3
 obtain⟨c1,h2,h3⟩:=h.shape x cs e fr h1
 obtain⟨c2,h4,h5⟩:=k.shape x c1 e fr h2
 exact⟨c2,h4,h5.trans h3⟩
def rP.mono{c c':Cx}(h:c.Le c'){b:Addr}{vs:List Value}(k:rP c b vs):rP c' b vs :=
 ⟨k.1,fun j u hj=>h.cell _ _ u (k.2 j u hj).2 (k.2 j u hj).1⟩
def Ac.mono{c c':Cx}(h:c.Le c'){s:SK}{a:Option Addr}{n cap len:Nat}(k:Ac c s a n cap len):Ac c' s a n cap len:=by
 cases s with
 | any=>trivial
 | clip=>exact k
 | own t m =>
  obtain⟨h1,h2,h3⟩:=k
  refine⟨Nat.lt_of_lt_of_le h1 h.N,h2,?_⟩
  rcases h3 with h3|⟨b,cs,e,h3,h4,h5,h6⟩
  ·exact .inl h3
  obtain⟨cs',h7,h8⟩:=h.shape _ cs e _ h5
  exact .inr ⟨b,cs',e,by rw[h.σ t h1];exact h3,h4,h7,by omega⟩
mutual
def Rep.mono{c c':Cx}(h:c.Le c'):∀{x:PV} {v:Value},Rep c x v->Rep c' x v
 | .val u,v,k=>by unfold Rep at k ⊢;exact k
 | .any,_,_=>by unfold Rep;trivial
 | .agg cs,v,k=>by unfold Rep at k ⊢;obtain⟨vs,h1,h2⟩:=k;exact⟨vs,h1,au.mono h h2⟩
 | .tup cs,v,k=>by unfold Rep at k ⊢;obtain⟨vs,h1,h2⟩:=k;exact⟨vs,h1,au.mono h h2⟩
 | .ptr i off,v,k=>by unfold Rep at k ⊢;exact⟨Nat.lt_of_lt_of_le k.1 h.N,by rw[h.σ i k.1];exact k.2⟩
 | .seq n xs s,v,k=>by
  unfold Rep at k ⊢
  obtain⟨a,cap,vs,h1,h2,h3,h4,h5,h6⟩:=k
  exact⟨a,cap,vs,h1,h2,h3,au.mono h h4,fun b hb=>(h5 b hb).imp (·.mono h) id,h6.mono h⟩
 | .row xs,v,k=>by unfold Rep at k ⊢;obtain⟨b,vs,h1,h2,h3⟩:=k;exact⟨b,vs,h1,au.mono h h2,h3.mono h⟩
 | .arr i off n cap,v,k=>by unfold Rep at k ⊢;exact⟨Nat.lt_of_lt_of_le k.1 h.N,by rw[h.σ i k.1];exact k.2⟩
 | .fn f first cap,v,k=>by unfold Rep at k ⊢;obtain⟨fs,cs,h1,h2,h3⟩:=k;exact⟨fs,cs,h1,au.mono h h2,au.mono h h3⟩
 | .mapv i,v,k=>by unfold Rep at k ⊢;exact⟨Nat.lt_of_lt_of_le k.1 h.N,by rw[h.σ i k.1];exact k.2⟩
 | .arw i off n,v,k=>by unfold Rep at k ⊢;exact⟨Nat.lt_of_lt_of_le k.1 h.N,by rw[h.σ i k.1];exact k.2⟩
 | .smap ks xs,v,k=>by
  unfold Rep at k ⊢
  obtain⟨b,es,clk,h1,h2,h3,h4,h5⟩:=k
  obtain⟨h6,h7⟩:=h.mapo b es clk h3 h2
  exact⟨b,es,clk,h1,h6,h7,h4,au.mono h h5⟩
 | .ifc t x,v,k=>by unfold Rep at k ⊢;obtain⟨u,h1,h2⟩:=k;exact⟨u,h1,Rep.mono h h2⟩
def au.mono{c c':Cx}(h:c.Le c'):∀{xs:List PV} {vs:List Value},au c xs vs->au c' xs vs
 | [],vs,k=>by unfold au at k ⊢;exact k
 | x::xs,vs,k=>by unfold au at k ⊢;obtain⟨u,us,h1,h2,h3⟩:=k;exact⟨u,us,h1,Rep.mono h h2,au.mono h h3⟩
end
def aG{c:Cx}{vs:List Value}:au c [] vs↔vs=[]:=by unfold au;rfl
def af{c:Cx}{x:PV}{xs:List PV}{u:Value}{us:List Value}:au c (x::xs) (u::us)↔Rep c x u/\au c xs us:=by
 constructor
 ·intro h
  unfold au at h
  obtain⟨u',us',h1,h2,h3⟩:=h
  injection h1 with h4 h5
  subst h4 h5
  exact⟨h2,h3⟩
 intro h;unfold au;exact⟨u,us,rfl,h.1,h.2⟩
def au.length{c:Cx}:∀{xs:List PV} {vs:List Value},au c xs vs->vs.length=xs.length
 | [],vs,h=>by rw[aG]at h;simp[h]
 | x::xs,[],h=>by unfold au at h;obtain⟨u,us,h1,_⟩:=h;cases h1
 | x::xs,v::vs,h=>by rw[af]at h;simp[au.length h.2]
def au.get{c:Cx}:∀{xs:List PV} {vs:List Value} (_:au c xs vs) {j:Nat} {x:PV} (_:xs[j]?=some x),∃u,vs[j]?=some u/\Rep c x u
 | [],_,_,j,x,hj=>by simp at hj
 | y::xs,[],h,_,_,_=>by unfold au at h;obtain⟨u,us,h1,_⟩:=h;cases h1
 | y::xs,v::vs,h,0,x,hj=>by rw[af]at h;simp at hj;subst hj;exact⟨v,rfl,h.1⟩
 | y::xs,v::vs,h,j+1,x,hj=>by rw[af]at h;simpa using au.get h.2 (by simpa using hj)
def au.append{c:Cx}:∀{xs ys:List PV} {vs us:List Value},au c xs vs->au c ys us->au c (xs++ys) (vs++us)
 | [],ys,vs,us,h,k=>by rw[aG]at h;subst h;exact k
 | x::xs,ys,[],us,h,k=>by unfold au at h;obtain⟨u,_,h1,_⟩:=h;cases h1
 | x::xs,ys,v::vs,us,h,k=>by rw[af]at h;exact af.2 ⟨h.1,au.append h.2 k⟩
def au.drop{c:Cx}:∀{xs:List PV} {vs:List Value} (n:Nat),au c xs vs->au c (xs.drop n) (vs.drop n)
 | xs,vs,0,h=>by simpa using h
 | [],vs,n+1,h=>by rw[aG]at h;subst h;simpa using aG.2 rfl
 | x::xs,[],n+1,h=>by unfold au at h;obtain⟨u,_,h1,_⟩:=h;cases h1
 | x::xs,v::vs,n+1,h=>by rw[af]at h;simpa using au.drop n h.2
def au.take{c:Cx}:∀{xs:List PV} {vs:List Value} (n:Nat),au c xs vs->au c (xs.take n) (vs.take n)
 | xs,vs,0,h=>by simpa using aG.2 rfl
 | [],vs,n+1,h=>by rw[aG]at h;subst h;simpa using aG.2 rfl
 | x::xs,[],n+1,h=>by unfold au at h;obtain⟨u,_,h1,_⟩:=h;cases h1
 | x::xs,v::vs,n+1,h=>by rw[af]at h;simpa using af.2 ⟨h.1,au.take n h.2⟩
def au.set{c:Cx}:∀{xs:List PV} {vs:List Value} (n:Nat) {x:PV} {u:Value},au c xs vs->Rep c x u->au c (xs.set n x) (vs.set n u)
 | [],vs,n,x,u,h,k=>by rw[aG]at h;subst h;simpa using aG.2 rfl
 | y::xs,[],n,x,u,h,k=>by unfold au at h;obtain⟨u,_,h1,_⟩:=h;cases h1
 | y::xs,v::vs,0,x,u,h,k=>by rw[af]at h;simpa using af.2 ⟨k,h.2⟩
 | y::xs,v::vs,n+1,x,u,h,k=>by rw[af]at h;simpa using af.2 ⟨h.1,au.set n h.2 k⟩
def rP.drop{c:Cx}{b:Addr}{vs:List Value}(h:rP c b vs)(n:Nat):rP c ⟨b.block,b.off+n,none⟩ (vs.drop n) :=
 ⟨rfl,fun j u hj=>by rw[List.getElem?_drop]at hj;have:=h.2 (n+j) u hj;simpa[Nat.add_assoc]using this⟩
def rP.take{c:Cx}{b:Addr}{vs:List Value}(h:rP c b vs)(n:Nat):rP c b (vs.take n) :=
 ⟨h.1,fun j u hj=>by rw[List.getElem?_take]at hj;split at hj;exact h.2 j u hj;cases hj⟩
inductive Ob where
 | smap (ks:List fX) (xs:List PV)
 | iter (s:List UInt8) (pos:Nat)
 | cells (xs:List PV) (e:TypeId)
 | free (m:Nat)
 | dead
 | glob (g:Nat) (u:Value)
def Ob.live:Ob->Bool
 | .dead=>false
 | .glob _ _=>false
 | _=>true
def Ob.wr:Ob->Nat->Prop
 | .cells _ _,_=>True
 | .free m,off=>m<=off
 | .smap _ _,_=>True
 | .iter _ _,_=>True
 | .dead,_=>False
 | .glob _ _,_=>False
def kM(σ:Nat->Option Nat)(H:List Ob)(b off:Nat):Prop:=∃i ob,H[i]?=some ob/\σ i=some b/\ob.wr off
def cx(B:Nat->Nat->Prop)(H:List Ob)(σ:Nat->Option Nat)(w:World):Cx:=⟨w,H.length,σ,fun b off=>B b off\/kM σ H b off⟩
def sd(c:Cx)(xs:List PV)(vs:List Value):Prop:=∃p q,vs=p++q/\au c xs p
def sd.of{c:Cx}{xs:List PV}{vs:List Value}(h:au c xs vs):sd c xs vs:=⟨vs,[],by simp,h⟩
def sd.mono{c c':Cx}(h:c.Le c'){xs:List PV}{vs:List Value}(k:sd c xs vs):sd c' xs vs:=by
 obtain⟨p,q,h1,h2⟩:=k;exact⟨p,q,h1,au.mono h h2⟩
def sd.le{c:Cx}{xs:List PV}{vs:List Value}(k:sd c xs vs):xs.length<=vs.length:=by
 obtain⟨p,q,rfl,h2⟩:=k;rw[List.length_append,au.length h2];omega
def sd.take{c:Cx}{xs:List PV}{vs:List Value}(k:sd c xs vs){n:Nat}(hn:n<=xs.length):au c (xs.take n) (vs.take n):=by
 obtain⟨p,q,rfl,h2⟩:=k
 rw[List.take_append_of_le_length (by rw[au.length h2];exact hn)]
 exact au.take n h2
def sd.drop{c:Cx}{xs:List PV}{vs:List Value}(k:sd c xs vs)(n:Nat):sd c (xs.drop n) (vs.drop n):=by
 obtain⟨p,q,rfl,h2⟩:=k
 rw[List.drop_append]
 exact⟨_,_,rfl,au.drop n h2⟩
def ah0(fr:Nat×Nat)(n:Nat):Prop:=fr=(0,0)\/n<=fr.1
def G7(c:Cx)(i:Nat):Ob->Prop
 | .cells xs e=>∃(b:Nat) (vs:List Value) (fr:Nat×Nat),c.σ i=some b/\c.w.heap[b]?=some (Obj.cells vs.toArray e fr)/\ah0 fr vs.length/\sd c xs vs
 | .smap ks xs=>∃(b:Nat) (es:Array MapEntry) (clk:Nat),c.σ i=some b/\c.w.heap[b]?=some (Obj.map es clk)/\es.toList.map (·.key)=ks.map oQ/\au c xs (es.toList.map (·.val))
 | .iter s pos=>∃(b:Nat),c.σ i=some b/\c.w.heap[b]?=some (Obj.stringIter ⟨s.toArray⟩ pos)
 | .free m=>∀b,c.σ i=some b->∃cs e,c.w.heap[b]?=some (Obj.cells cs e (0,0))/\m<=cs.size
 | .dead=>True
 | .glob g u=>c.w.cell? ⟨g,0,none⟩=some u/\¬c.Wr g 0
structure Sim (B:Nat->Nat->Prop) (H:List Ob) (σ:Nat->Option Nat) (w:World):Prop where
 inj:∀i j b oi oj,H[i]?=some oi->H[j]?=some oj->oi.live=true->oj.live=true->σ i=some b->σ j=some b->i=j
 sep:∀i b oi,H[i]?=some oi->oi.live=true->σ i=some b->∀off,¬B b off
 base:∀b off,B b off->b<w.heap.size
 holds:∀i oi,H[i]?=some oi->G7 (cx B H σ w) i oi
structure eH (B:Nat->Nat->Prop) (H:List Ob) (σ:Nat->Option Nat) (w:World) (H':List Ob) (σ':Nat->Option Nat) (w':World):Prop where
 le:(cx B H σ w).Le (cx B H' σ' w')
 os:w'.os=w.os
 tape:w'.tape=w.tape
 output:w'.output=w.output
 size:w.heap.size<=w'.heap.size
 new:∀i oi b,H'[i]?=some oi->oi.live=true->σ' i=some b->w.heap.size<=b\/∃j oj,H[j]?=some oj/\oj.live=true/\σ j=some b
 block:∀b,b<w.heap.size->(∀i oi,H[i]?=some oi->oi.live=true->σ i≠some b)->w'.heap[b]?=w.heap[b]?
def eH.refl(B:Nat->Nat->Prop)(H:List Ob)(σ:Nat->Option Nat)(w:World):eH B H σ w H σ w :=
 ⟨Cx.Le.refl _,rfl,rfl,rfl,Nat.le_refl _,fun i oi b h1 h2 h3=>.inr ⟨i,oi,h1,h2,h3⟩,fun _ _ _=>rfl⟩
def eH.trans{B:Nat->Nat->Prop}{H H1 H2:List Ob}{σ σ1 σ2:Nat->Option Nat}{w w1 w2:World}(h:eH B H σ w H1 σ1 w1)(k:eH B H1 σ1 w1 H2 σ2 w2):eH B H σ w H2 σ2 w2:=by
 refine⟨h.le.trans k.le,k.os.trans h.os,k.tape.trans h.tape,k.output.trans h.output,Nat.le_trans h.size k.size,fun i oi b h1 h2 h0=>?_,fun b hb hn=>?_⟩
 ·rcases k.new i oi b h1 h2 h0 with h3|⟨j,oj,h3,h4,h5⟩
  ·exact .inl (Nat.le_trans h.size h3)
  rcases h.new j oj b h3 h4 h5 with h6|h6
  ·exact .inl h6
  exact .inr h6
 rw[k.block b (Nat.lt_of_lt_of_le hb h.size) (fun i oi h1 h2 e=>?_)]
 ·exact h.block b hb hn
 rcases h.new i oi b h1 h2 e with h3|⟨j,oj,h3,h4,h5⟩
 ·omega
 exact hn j oj h3 h4 h5
open Go.RowKit
def upd(i:Nat)(x:PV)(T:Nat->PV):Nat->PV:=fun j=>match Nat.beq j i with|true=>x|false=>T j
def d8(d:Option Tmp)(x:PV)(T:Nat->PV):Nat->PV:=match d with|some i=>upd i x T|none=>T
def fJ(i:Nat)(x:PV)(T:Nat->PV):upd i x T i=x:=by simp[upd]
def dG(i j:Nat)(x:PV)(T:Nat->PV)(h:j≠i):upd i x T j=T j:=by
 unfold upd
 have:Nat.beq j i=false:=by rw[<-Bool.not_eq_true,Nat.beq_eq];exact h
 rw[this]
def Zu(c:Cx)(T:Nat->PV)(a:Act):Prop:=∀i,Rep c (T i) (a.tmps.getD i undef)
class DL where
 k:Nat
 cur:(Nat->Option Nat)->List Deferred->Prop
 ccur:∀{σ σ':Nat->Option Nat} {l:List Deferred},(∀i,i<k->σ' i=σ i)->cur σ l->cur σ' l
 m:Nat
 ret:(Nat->Option Nat)->List Deferred->Prop
 cret:∀{σ σ':Nat->Option Nat} {l:List Deferred},(∀i,i<m->σ' i=σ i)->ret σ l->ret σ' l
instance dl0:DL:=⟨0,fun _ l=>l=[],fun _ h=>h,0,fun _ l=>l=[],fun _ h=>h⟩
@[reducible] def DL.at_ (D : DL) : Exit -> DL
 | .ret=>⟨D.m,D.ret,D.cret,D.m,D.ret,D.cret⟩
 | _=>D
class DR (D:DL):Prop where
 le:D.m<=D.k
 ok:∀{σ:Nat->Option Nat} {l:List Deferred},D.cur σ l->D.ret σ l
instance dr0:DR dl0:=⟨Nat.le_refl _,fun h=>h⟩
def mn[D:DL]{B:Nat->Nat->Prop}{H H':List Ob}{σ σ':Nat->Option Nat}{w w':World}{l:List Deferred}(st:eH B H σ w H' σ' w')(h:D.k<=H.length/\D.cur σ l):D.k<=H'.length/\D.cur σ' l :=
 ⟨Nat.le_trans h.1 st.le.N,D.ccur (fun i hi=>st.le.σ i (Nat.lt_of_lt_of_le hi h.1)) h.2⟩
structure mO [D:DL] (B:Nat->Nat->Prop) (n:Nat) (T:Nat->PV) (H:List Ob) (σ:Nat->Option Nat) (w:World) (a:Act):Prop where
 sim:Sim B H σ w
 rep:Zu (cx B H σ w) T a
 size:a.tmps.size=n
 defers:D.k<=H.length/\D.cur σ a.defers
def Pe[D:DL](B:Nat->Nat->Prop)(n:Nat)(H:List Ob)(σ:Nat->Option Nat)(w:World)(Q:Exit->(Nat->PV)->List Ob->Prop):Exit->Act->World->Prop :=
 fun e a' w'=>∃T' H' σ',Q e T' H'/\mO (D:=D.at_ e) B n T' H' σ' w' a'/\eH B H σ w H' σ' w'
def MM{B:Nat->Nat->Prop}{n:Nat}{T:Nat->PV}{H:List Ob}{σ:Nat->Option Nat}{w:World}{a:Act}{e:Exit}(h:mO (D:=dl0.at_ e) B n T H σ w a):mO (D:=dl0) B n T H σ w a:=by
 cases e<;>exact h
def W[D:DL](P:Program)(B:Nat->Nat->Prop)(n:Nat)(c:Code)(T:Nat->PV)(H:List Ob)(Q:Exit->(Nat->PV)->List Ob->Prop):Prop :=
 ∀σ w a,mO B n T H σ w a->c.wp P (Pe B n H σ w Q) a w
def qj(K:(Nat->PV)->List Ob->Prop)(Q:Exit->(Nat->PV)->List Ob->Prop):Exit->(Nat->PV)->List Ob->Prop
 | .normal,T,H=>K T H
 | e,T,H=>Q e T H
def RO(id:Nat)(Q:Exit->(Nat->PV)->List Ob->Prop):Exit->(Nat->PV)->List Ob->Prop
 | .exit i,T,H=>match Nat.beq i id with|true=>Q .normal T H|false=>Q (.exit i) T H
 | e,T,H=>Q e T H
def Eo:Value->PV
 | .slice none 0 0=>.seq 0 [] .clip
 | .agg cs=>.agg (cs.toList.map fun|.slice none 0 0=>.seq 0 [] .clip|v=>.val v)
 | v=>.val v
def opv(T:Nat->PV):Operand->PV
 | .tmp t=>T t
 | .const v=>Eo v
 | .global g=>.val (.pointer (some ⟨g,0,none⟩))
 | .func f=>.fn (.func f) [] []
def ar(c:Cx)(v:Value):Rep c (.val v) v:=by unfold Rep;rfl
def y3(c:Cx):Rep c (.seq 0 [] .clip) (.slice none 0 0):=by
 unfold Rep
 exact⟨none,0,[],rfl,Nat.le_refl _,fun _=>⟨rfl,rfl,rfl⟩,aG.2 rfl,(fun b h=>by cases h),rfl⟩
def OB(c:Cx)(v:Value):Rep c (Eo v) v:=by
 unfold Eo
 split
 ·exact y3 c
 ·rename_i cs
  unfold Rep
  refine⟨cs.toList,rfl,?_⟩
  generalize cs.toList=l
  induction l with
  | nil=>exact aG.2 rfl
  | cons x l ih =>
   refine af.2 ⟨?_,ih⟩
   dsimp only
   split
   ·exact y3 c
   exact ar c _
 exact ar c _
def tu{T:Nat->PV}{c:Cx}{a:Act}(h:Zu c T a)(x:Operand):Rep c (opv T x) (a.eval x):=by
 cases x with
 | tmp t=>exact h t
 | const v=>exact OB c v
 | global g=>exact ar c _
 | func f=>unfold opv Rep;exact⟨[],[],rfl,aG.2 rfl,aG.2 rfl⟩
section
variable {P : Program} {B : Nat -> Nat -> Prop} {n : Nat} {T : Nat -> PV} {H : List Ob} {Q : Exit -> (Nat -> PV) -> List Ob -> Prop}
def ia[DL]{σ:Nat->Option Nat}{w w1:World}{H1:List Ob}{σ1:Nat->Option Nat}{Q':Exit->(Nat->PV)->List Ob->Prop}(h:eH B H σ w H1 σ1 w1)(hq:∀e T H,Q e T H->Q' e T H){e:Exit}{a':Act}{w':World}
  (k:Pe B n H1 σ1 w1 Q e a' w'):Pe B n H σ w Q' e a' w':=by
 obtain⟨T',H',σ',h1,h2,h3⟩:=k
 exact⟨T',H',σ',hq _ _ _ h1,h2,h.trans h3⟩
def Wj[DL](h:Q .normal T H):W P B n .skip T H Q:=fun σ w a g=>wp_skip ⟨T,H,σ,h,g,eH.refl _ _ _ _⟩
def Wq[D:DL][R:DR D](h:Q .ret T H):W P B n .ret T H Q:=fun σ w a g=>wp_ret ⟨T,H,σ,h,mO.mk (D:=D.at_ .ret) g.sim g.rep g.size ⟨Nat.le_trans R.le g.defers.1,R.ok g.defers.2⟩,eH.refl _ _ _ _⟩
def aW[DL]{id:Nat}(h:Q (.exit id) T H):W P B n (.exit id) T H Q:=fun σ w a g=>wp_exit ⟨T,H,σ,h,g,eH.refl _ _ _ _⟩
def Ws[DL]{x y:Code}(h:W P B n x T H (qj (fun T' H'=>W P B n y T' H' Q) Q)):W P B n (x.seq y) T H Q:=by
 intro σ w a g
 refine wp_seq (wp_mono (h σ w a g) ?_)
 rintro e a' w' ⟨T',H',σ',h1,h2,h3⟩
 cases e with
 | normal=>exact wp_mono (h1 σ' w' a' h2) fun _ _ _ k=>ia h3 (fun _ _ _ h=>h) k
 | exit id=>exact⟨T',H',σ',h1,h2,h3⟩
 | goto l=>exact⟨T',H',σ',h1,h2,h3⟩
 | ret=>exact⟨T',H',σ',h1,h2,h3⟩
 | panic c=>exact⟨T',H',σ',h1,h2,h3⟩
 | outgrown=>exact⟨T',H',σ',h1,h2,h3⟩
def Wl[DL]{id:Nat}{c:Code}(h:W P B n c T H (RO id Q)):W P B n (.block id c) T H Q:=by
 intro σ w a g
 refine wp_block (wp_mono (h σ w a g) ?_)
 rintro e a' w' ⟨T',H',σ',h1,h2,h3⟩
 cases e with
 | exit i =>
  simp only[RO]at h1
  simp only[Exit.inBlock]
  by_cases hi:i=id
  ·subst hi
   rw[show Nat.beq i i=true from Nat.beq_refl i]at h1
   rw[if_pos rfl]
   exact⟨T',H',σ',h1,h2,h3⟩
  rw[show Nat.beq i id=false from by rw[<-Bool.not_eq_true,Nat.beq_eq];exact hi]at h1
  rw[if_neg hi]
  exact⟨T',H',σ',h1,h2,h3⟩
 | normal=>exact⟨T',H',σ',h1,h2,h3⟩
 | goto l=>exact⟨T',H',σ',h1,h2,h3⟩
 | ret=>exact⟨T',H',σ',h1,h2,h3⟩
 | panic c=>exact⟨T',H',σ',h1,h2,h3⟩
 | outgrown=>exact⟨T',H',σ',h1,h2,h3⟩
def Wi[DL]{c:Operand}{x y:Code}{t:Bool}(hc:opv T c=.val (.bool t))(h1:t=true->W P B n x T H Q)(h2:t=false->W P B n y T H Q):W P B n (.cond c x y) T H Q:=by
 intro σ w a g
 have he:=tu g.rep c
 rw[hc]at he
 unfold Rep at he
 cases t with
 | true=>exact wp_cond he (h1 rfl σ w a g)
 | false=>exact wp_cond he (h2 rfl σ w a g)
def aP7[DL]{c:Code}(d:Nat){x y:PV}(hT:T d=x)(hxy:x=y)(h1:W P B n c (upd d y T) H Q):W P B n c T H Q:=by
 have e:upd d y T=T:=by
  funext i
  by_cases hi:i=d
  ·subst hi;rw[fJ,hT,hxy]
  rw[dG _ _ _ _ hi]
 rwa [e]at h1
def Wt[DL]{c:Operand}{x y:Code}{t:Bool}(hc:opv T c=.val (.bool t))(ht:t=true)(h1:W P B n x T H Q):W P B n (.cond c x y) T H Q:=Wi hc (fun _=>h1) (fun h=>by rw[ht]at h;cases h)
def Wf[DL]{c:Operand}{x y:Code}{t:Bool}(hc:opv T c=.val (.bool t))(ht:t=false)(h1:W P B n y T H Q):W P B n (.cond c x y) T H Q:=Wi hc (fun h=>by rw[ht]at h;cases h) (fun _=>h1)
end
def KL{P:Program}{Q:Exit->Act->World->Prop}{c:Code}(I:Nat->Act->World->Prop)
  (round:∀m a w,I m a w->c.wp P (Exit.then (fun a' w'=>∃m',m'<m/\I m' a' w') Q) a w):∀m a w,I m a w->(Code.loop c).wp P Q a w:=by
 have key:∀(m:Nat) (a:Act) (w:World),I m a w->∀(b:Frame) (k:List Item) (cs:List Frame),
   ∃e a' w',Q e a' w'/\Arrives P (lone (b.at a (.code c::.inLoop c::k)) cs w) b k cs e a' w':=by
  intro m
  induction m using Nat.strongRecOn with
  | _ m ih =>
   intro a w hI b k cs
   obtain⟨e,a1,w1,hq,harr⟩:=round m a w hI b (.inLoop c::k) cs
   cases e with
   | normal =>
    obtain⟨m',hlt,hI'⟩:=hq
    obtain⟨e2,a2,w2,hq2,harr2⟩:=ih m' hlt a1 w1 hI' b k cs
    exact⟨e2,a2,w2,hq2,.of_steps (Steps.trans harr (.one step_inLoop)) harr2⟩
   | exit id=>exact⟨_,a1,w1,hq,.pass (x:=.inLoop c) rfl (fun _ _=>.inl (by simp)) harr⟩
   | goto l=>exact⟨_,a1,w1,hq,.pass (x:=.inLoop c) rfl (fun _ _=>.inl (by simp)) harr⟩
   | ret=>exact⟨_,a1,w1,hq,.pass (x:=.inLoop c) rfl (fun _ _=>.inl (by simp)) harr⟩
   | panic ch=>exact⟨_,a1,w1,hq,.pass (x:=.inLoop c) rfl (fun _ _=>.inl (by simp)) harr⟩
   | outgrown=>exact⟨_,a1,w1,hq,.pass (x:=.inLoop c) rfl (fun _ _=>.inl (by simp)) harr⟩
 intro m a w hI b k cs
 obtain⟨e,a',w',hq,harr⟩:=key m a w hI b k cs
 exact⟨e,a',w',hq,.of_steps (.one step_loop) harr⟩
section
variable {P : Program} {B : Nat -> Nat -> Prop} {n : Nat} {T : Nat -> PV} {H : List Ob} {Q : Exit -> (Nat -> PV) -> List Ob -> Prop}
end
def wpL(P:Program)(all:Array Oper)(Q:Exit->Act->World->Prop):List Oper->Act->World->Prop
 | [],a,w=>Q .normal a w
 | o::rest,a,w=>if Region.wanted o (yielded all a.tmps)then o.wp P a w (wpL P all Q rest) Q else wpL P all Q rest (a.put o.dst undef) w
def rh{P:Program}{all:Array Oper}{Q:Exit->Act->World->Prop}:∀(l:List Oper) (k:Nat) (a:Act) (w:World),(∀j,l[j]?=all[k+j]?)->wpL P all Q l a w->wpOps P all Q (List.range' k l.length) a w
 | [],k,a,w,_,h=>by simpa[wpOps,wpL]using h
 | o::l,k,a,w,hl,h=>by
  have h0:all[k]?=some o:=by simpa using (hl 0).symm
  have hr:List.range' k (o::l).length=k::List.range' (k+1) l.length:=by simp[List.range'_succ]
  have hn:∀j,l[j]?=all[k+1+j]?:=fun j=>by have:=hl (j+1);simpa[Nat.add_assoc,Nat.add_comm 1 j]using this
  rw[hr]
  simp only[wpOps,h0]
  simp only[wpL]at h
  split
  ·rename_i hw
   rw[if_pos hw]at h
   exact .inl (Oper.wp_mono (fun a w h=>rh l (k+1) a w hn h) h)
  rename_i hw
  rw[if_neg hw]at h
  exact rh l (k+1) _ w hn h
def Ic{P:Program}{id:Nat}{l:List Oper}{Q:Exit->Act->World->Prop}{a:Act}{w:World}(h:wpL P l.toArray Q l a w):(Code.region id l.toArray false).wp P Q a w:=by
 refine wp_region ?_
 have:=rh (all:=l.toArray) l 0 a w (fun j=>by simp) h
 rwa [List.range_eq_range',List.size_toArray]
def iv(n:Nat)(all:Array Oper):Bool:=all.toList.all fun o=>match o.dst with|some d=>Nat.blt d n|none=>true
def kI{n:Nat}{all:Array Oper}(h:iv n all=true):∀(i d:Nat),(all[i]?).bind (·.dst)=some d->Nat.blt d n=true:=by
 intro i d hd
 unfold iv at h
 rw[List.all_eq_true]at h
 cases ho:all[i]? with
 | none=>rw[ho]at hd;cases hd
 | some o =>
  rw[ho]at hd
  simp only[Option.bind_some]at hd
  have hm:o∈all.toList:=by rw[Array.mem_toList_iff];exact Array.mem_of_getElem? ho
  have:=h o hm
  rw[hd]at this
  exact this
def dOk(n:Nat):Option Tmp->Bool
 | some d=>Nat.blt d n
 | none=>true
def nfD(n:Nat):Option Tmp->Option (Option Tmp)
 | some d=>match Nat.blt d n with
  | true=>some (some d)
  | false=>none
 | none=>some none
def iD{n:Nat}{x d:Option Tmp}(h:nfD n x=some d):d=x/\dOk n x=true:=by
 cases x with
 | none=>injection h with h;exact⟨h.symm,rfl⟩
 | some i =>
  simp only[nfD]at h
  split at h
  ·rename_i hi;injection h with h;exact⟨h.symm,hi⟩
  cases h
def vY{n:Nat}{d:Option Tmp}(h:dOk n d=true):∀i,d=some i->Nat.blt i n=true:=by rintro i rfl;exact h
def WO[D:DL](P:Program)(B:Nat->Nat->Prop)(n:Nat)(all:Array Oper)(l:List Oper)(T:Nat->PV)(H:List Ob)(K:(Nat->PV)->List Ob->Prop):Prop :=
 iv n all=true->∀σ w a,mO B n T H σ w a->wpL P all (Pe B n H σ w (qj K fun _ _ _=>False)) l a w
def gi{P:Program}{all:Array Oper}{Q Q':Exit->Act->World->Prop}(hq:∀e a w,Q e a w->Q' e a w):∀(l:List Oper) (a:Act) (w:World),wpL P all Q l a w->wpL P all Q' l a w
 | [],a,w,h=>hq _ _ _ h
 | o::l,a,w,h=>by
  simp only[wpL]at h ⊢
  split
  ·rename_i hw
   rw[if_pos hw]at h
   unfold Oper.wp at h ⊢
   generalize (execOp a.eval o).run P w=r at h ⊢
   cases r with
   | ok x w' =>
    cases x<;>simp only[Oper.upon]at h ⊢
    case value v=>exact gi hq l _ _ h
    case skip=>exact gi hq l _ _ h
    case defer d=>exact gi hq l _ _ h
    case enter f args =>
     refine Calls.mono h fun e w' k=>?_
     cases e with
     | returned v=>exact gi hq l _ _ k
     | panicked c=>exact hq _ _ _ k
     | outgrown=>obtain⟨a0,w0,k⟩:=k;exact⟨a0,w0,hq _ _ _ k⟩
    case row r args=>exact Rows.mono h fun v w' k=>gi hq l _ _ k
   | halt x w'=>cases x<;>simp only[Oper.upon]at h ⊢;exact hq _ _ _ h
  rename_i hw
  rw[if_neg hw]at h
  exact gi hq l _ _ h
section
variable {P : Program} {B : Nat -> Nat -> Prop} {n : Nat} {T : Nat -> PV} {H : List Ob} {Q : Exit -> (Nat -> PV) -> List Ob -> Prop}
def aI[DL]{id:Nat}{l:List Oper}(hall:iv n l.toArray=true)(h:WO P B n l.toArray l T H (fun T' H'=>Q .normal T' H')):W P B n (.region id l.toArray false) T H Q:=by
 intro σ w a g
 refine Ic (gi ?_ _ _ _ (h hall σ w a g))
 rintro e a' w' ⟨T',H',σ',h1,h2,h3⟩
 cases e<;>first|exact⟨T',H',σ',h1,h2,h3⟩|exact False.elim h1
variable {all : Array Oper} {K : (Nat -> PV) -> List Ob -> Prop}
def Wn[DL](h:K T H):WO P B n all [] T H K:=fun _ σ w a g=>⟨T,H,σ,h,g,eH.refl _ _ _ _⟩
def bf(all:Array Oper)(T:Nat->PV)(o:Oper):Option Bool :=
 match o.guard with
 | none=>some true
 | some (g,b)=>match (all[g]?).bind (·.dst)with
  | some d=>match T d with
   | .val (.bool x)=>match x,b with
    | true,true=>some true
    | false,false=>some true
    | true,false=>some false
    | false,true=>some false
   | .val (.tuple _)=>some false
   | _=>none
  | none=>none
def FD{c:Cx}{a:Act}{o:Oper}{q:Bool}(h:∀(g:Nat) (b:Bool) (d:Nat),o.guard=some (g,b)->(all[g]?).bind (·.dst)=some d->d<a.tmps.size/\Rep c (T d) (a.tmps.getD d undef))(k:bf all T o=some q):
  Region.wanted o (yielded all a.tmps)=q:=by
 unfold bf at k
 unfold Region.wanted
 split at k
 ·rename_i hg;rw[hg];injection k
 rename_i g b hg
 rw[hg]
 simp only
 split at k
 ·rename_i d hd
  obtain⟨h0,h1⟩:=h g b d hg hd
  have h2:a.tmps[d]?=some (a.tmps.getD d undef):=by simp[Array.getElem?_eq_getElem h0,Array.getD,h0]
  split at k
  ·rename_i x hx
   rw[hx]at h1
   unfold Rep at h1
   have hy:yielded all a.tmps g=some x:=by unfold yielded;rw[hd];simp only[Option.bind_some];rw[h2,h1]
   rw[hy]
   cases x<;>cases b<;>simp at k<;>subst k<;>rfl
  ·rename_i x hx
   rw[hx]at h1
   unfold Rep at h1
   have hy:yielded all a.tmps g=none:=by unfold yielded;rw[hd];simp only[Option.bind_some];rw[h2,h1]
   rw[hy]
   cases k
   rfl
  cases k
 cases k
def bM(P:Program)(B:Nat->Nat->Prop)(o:Oper)(T:Nat->PV)(H:List Ob)(x:PV)(H':List Ob):Prop :=
 ∀(σ:Nat->Option Nat) (w:World) (a:Act),Sim B H σ w->(∀y∈o.op.operands.toList,Rep (cx B H σ w) (opv T y) (a.eval y)) ->
  ∃(v:Value) (w':World) (σ':Nat->Option Nat),((execOp a.eval o).run P w=.ok (.value v) w'\/(execOp a.eval o).run P w=.ok .skip w'/\v=undef)/\Rep (cx B H' σ' w') x v/\Sim B H' σ' w'/\eH B H σ w H' σ' w'
def ly(P:Program)(B:Nat->Nat->Prop)(o:Oper)(T:Nat->PV)(H:List Ob)(x:PV)(H':List Ob):Prop :=
 ∀(σ:Nat->Option Nat) (w:World) (a:Act),Sim B H σ w->(∀y∈o.op.operands.toList,Rep (cx B H σ w) (opv T y) (a.eval y)) ->
  ∃(f:FuncId) (args:Array Value),(execOp a.eval o).run P w=.ok (.enter f args) w/\Calls P f args w fun e w'=>∃v σ',e=.returned v/\Rep (cx B H' σ' w') x v/\Sim B H' σ' w'/\eH B H σ w H' σ' w'
def oE[D:DL]{σ:Nat->Option Nat}{w:World}{a:Act}{H':List Ob}{σ':Nat->Option Nat}{w':World}{x:PV}{v:Value}{d:Option Tmp}(hd:∀i,d=some i->Nat.blt i n=true)(g:mO B n T H σ w a)(h1:Rep (cx B H' σ' w') x v)(h2:Sim B H' σ' w')(h3:eH B H σ w H' σ' w'):
  mO B n (d8 d x T) H' σ' w' (a.put d v):=by
 cases d with
 | none=>exact⟨h2,fun i=>(g.rep i).mono h3.le,g.size,mn h3 g.defers⟩
 | some d =>
  have hlt:d<n:=by have:=hd d rfl;simpa[Nat.blt_eq]using this
  refine⟨h2,fun i=>?_,by simp[Act.put,g.size],mn h3 g.defers⟩
  by_cases hi:i=d
  ·subst hi
   show Rep _ (upd i x T i) _
   rw[fJ]
   have:(a.put (some i) v).tmps.getD i undef=v:=by simp[Act.put,Array.getD,g.size,hlt]
   rw[this];exact h1
  show Rep _ (upd d x T i) _
  rw[dG _ _ _ _ hi]
  have:(a.put (some d) v).tmps.getD i undef=a.tmps.getD i undef:=by simp[Act.put,Array.getD_eq_getD_getElem?,Array.getElem?_setIfInBounds_ne (Ne.symm hi)]
  rw[this];exact(g.rep i).mono h3.le
def rY[DL](hall:∀(i d:Nat),(all[i]?).bind (·.dst)=some d->Nat.blt d n=true){σ:Nat->Option Nat}{w:World}{a:Act}(g:mO B n T H σ w a){o:Oper}{q:Bool}(k:bf all T o=some q):Region.wanted o (yielded all a.tmps)=q :=
 FD (c:=cx B H σ w) (fun i b d _ hd=>⟨by have:=hall i d hd;rw[g.size];simpa[Nat.blt_eq]using this,g.rep d⟩) k
def Wd[DL]{o:Oper}{l:List Oper}{x:PV}{H':List Ob}{d:Option Tmp}(hd:nfD n o.dst=some d)(hw:bf all T o=some true)(h:bM P B o T H x H')(k:WO P B n all l (d8 d x T) H' K):WO P B n all (o::l) T H K:=by
 obtain⟨rfl,hd0⟩:=iD hd
 intro hall σ w a g
 obtain⟨v,w',σ',h1,h2,h3,h4⟩:=h σ w a g.sim (fun y _=>tu g.rep y)
 have g':=oE (vY hd0) g h2 h3 h4
 have k':=gi (fun _ _ _ h=>ia h4 (fun _ _ _ h=>h) h) _ _ _ (k hall σ' w' _ g')
 simp only[wpL]
 rw[if_pos (rY (kI hall) g hw)]
 unfold Oper.wp
 rcases h1 with h1|⟨h1,rfl⟩
 ·rw[h1];exact k'
 rw[h1];exact k'
def Wc[DL]{o:Oper}{l:List Oper}{x:PV}{H':List Ob}{d:Option Tmp}(hd:nfD n o.dst=some d)(hw:bf all T o=some true)(h:ly P B o T H x H')(k:WO P B n all l (d8 d x T) H' K):WO P B n all (o::l) T H K:=by
 obtain⟨rfl,hd0⟩:=iD hd
 intro hall σ w a g
 obtain⟨f,args,h1,hc⟩:=h σ w a g.sim (fun y _=>tu g.rep y)
 simp only[wpL]
 rw[if_pos (rY (kI hall) g hw)]
 unfold Oper.wp
 rw[h1]
 refine Calls.mono hc ?_
 rintro e w' ⟨v,σ',rfl,h2,h3,h4⟩
 exact gi (fun _ _ _ h=>ia h4 (fun _ _ _ h=>h) h) _ _ _ (k hall σ' w' _ (oE (vY hd0) g h2 h3 h4))
def Wk[DL]{o:Oper}{l:List Oper}{d:Option Tmp}(hd:nfD n o.dst=some d)(hw:bf all T o=some false)(k:WO P B n all l (d8 d (.val undef) T) H K):WO P B n all (o::l) T H K:=by
 obtain⟨rfl,hd0⟩:=iD hd
 intro hall σ w a g
 simp only[wpL]
 rw[if_neg (by rw[rY (kI hall) g hw];simp)]
 exact k hall σ w _ (oE (vY hd0) g (ar _ _) g.sim (eH.refl _ _ _ _))
def Wb[DL]{l:List Oper}(d:Nat){b:Bool}(hT:T d=.val (.bool b))(h1:b=true->WO P B n all l (upd d (.val (.bool true)) T) H K)(h2:b=false->WO P B n all l (upd d (.val (.bool false)) T) H K):WO P B n all l T H K:=by
 have e:∀q,b=q->upd d (.val (.bool q)) T=T:=by
  rintro q rfl
  funext i
  by_cases hi:i=d
  ·subst hi;rw[fJ,hT]
  rw[dG _ _ _ _ hi]
 cases hb:b with
 | true=>have:=h1 hb;rwa [e true hb]at this
 | false=>have:=h2 hb;rwa [e false hb]at this
def cT[DL]{l:List Oper}(d:Nat){b:Bool}(hT:T d=.val (.bool b))(hb:b=true)(h1:WO P B n all l (upd d (.val (.bool true)) T) H K):WO P B n all l T H K :=
 Wb d hT (fun _=>h1) (fun h=>by rw[hb]at h;cases h)
def pJ[DL]{l:List Oper}(d:Nat){b:Bool}(hT:T d=.val (.bool b))(hb:b=false)(h1:WO P B n all l (upd d (.val (.bool false)) T) H K):WO P B n all l T H K :=
 Wb d hT (fun h=>by rw[hb]at h;cases h) (fun _=>h1)
def Wa[DL]{l:List Oper}(d:Nat){x y:PV}(hT:T d=x)(hxy:x=y)(h1:WO P B n all l (upd d y T) H K):WO P B n all l T H K:=by
 have e:upd d y T=T:=by
  funext i
  by_cases hi:i=d
  ·subst hi;rw[fJ,hT,hxy]
  rw[dG _ _ _ _ hi]
 rwa [e]at h1
end
open Go.RowKit
def ext(σ:Nat->Option Nat)(n:Nat)(b:Option Nat):Nat->Option Nat:=fun i=>if i=n then b else σ i
def bY{σ:Nat->Option Nat}{n i:Nat}{b:Option Nat}(h:i<n):ext σ n b i=σ i:=by unfold ext;rw[if_neg (by omega)]
def bx(σ:Nat->Option Nat)(n:Nat)(b:Option Nat):ext σ n b n=b:=by unfold ext;rw[if_pos rfl]
def fI{α:Type}{H:List α}{o x:α}{i:Nat}(h:(H++[o])[i]?=some x):(i<H.length/\H[i]?=some x)\/(i=H.length/\x=o):=by
 rcases Nat.lt_trichotomy i H.length with h1|h1|h1
 ·rw[List.getElem?_append_left h1]at h;exact .inl ⟨h1,h⟩
 ·subst h1;rw[List.getElem?_append_right (Nat.le_refl _)]at h;simp at h;exact .inr ⟨rfl,h.symm⟩
 rw[List.getElem?_append_right (by omega)]at h;rw[List.getElem?_eq_none (by simp;omega)]at h;cases h
def cM{α:Type}{H:List α}{i:Nat}{x:α}(h:H[i]?=some x):i<H.length:=by
 rcases Nat.lt_or_ge i H.length with h1|h1
 ·exact h1
 rw[List.getElem?_eq_none h1]at h;cases h
def G7.lt{c:Cx}{i b:Nat}{oi:Ob}(h:G7 c i oi)(hl:oi.live=true)(hb:c.σ i=some b):b<c.w.heap.size:=by
 cases oi with
 | cells xs e=>obtain⟨b',vs,fr,h1,h2,_⟩:=h;rw[hb]at h1;cases h1;exact(Array.getElem?_eq_some_iff.1 h2).1
 | free m=>obtain⟨cs,e,h1,_⟩:=h b hb;exact(Array.getElem?_eq_some_iff.1 h1).1
 | dead=>cases hl
 | glob g u=>cases hl
 | smap ks xs=>obtain⟨b',es,clk,h1,h2,_⟩:=h;rw[hb]at h1;cases h1;exact(Array.getElem?_eq_some_iff.1 h2).1
 | iter s pos=>obtain⟨b',h1,h2⟩:=h;rw[hb]at h1;cases h1;exact(Array.getElem?_eq_some_iff.1 h2).1
section
variable {B : Nat -> Nat -> Prop} {H : List Ob} {σ : Nat -> Option Nat} {w w' : World}
structure bj (w w':World):Prop where
 os:w'.os=w.os
 tape:w'.tape=w.tape
 output:w'.output=w.output
 size:w.heap.size<=w'.heap.size
 block:∀b,b<w.heap.size->w'.heap[b]?=w.heap[b]?
def bj.refl(w:World):bj w w:=⟨rfl,rfl,rfl,Nat.le_refl _,fun _ _=>rfl⟩
def bj.alloc(w:World)(o:Obj):bj w (w.alloc o):=⟨rfl,rfl,rfl,by simp,fun b hb=>Below.heap_alloc w o b hb⟩
def bj.drew(w:World):bj w w.drew:=⟨rfl,rfl,rfl,Nat.le_refl _,fun _ _=>rfl⟩
def bj.trans{a b c:World}(h:bj a b)(k:bj b c):bj a c :=
 ⟨k.os.trans h.os,k.tape.trans h.tape,k.output.trans h.output,Nat.le_trans h.size k.size,fun i hi=>(k.block i (Nat.lt_of_lt_of_le hi h.size)).trans (h.block i hi)⟩
def bj.of_below(h:Below w.heap.size w w'):bj w w':=⟨h.os,h.tape,h.output,h.size,h.block⟩
def bj.cell(h:bj w w'){b off:Nat}{u:Value}(hc:w.cell? ⟨b,off,none⟩=some u):w'.cell? ⟨b,off,none⟩=some u:=by
 have hlt:=World.block_lt_of_cell? w ⟨b,off,none⟩ hc
 rw[World.cell?_of_block (w:=w) (a:=⟨b,off,none⟩) (h.block b hlt)]
 exact hc
def gU(s:Sim B H σ w)(g:bj w w'):Sim B H σ w'/\eH B H σ w H σ w':=by
 have le:(cx B H σ w).Le (cx B H σ w'):=⟨Nat.le_refl _,fun _ _=>rfl,fun b off u h1 h2=>⟨g.cell h2,h1⟩,fun b es clk h1 h2=>⟨(g.block b (Array.getElem?_eq_some_iff.1 h2).1).trans h2,h1⟩,fun b cs e fr h1=>⟨cs,(g.block b (Array.getElem?_eq_some_iff.1 h1).1).trans h1,rfl⟩⟩
 refine⟨⟨s.inj,s.sep,fun b off h=>Nat.lt_of_lt_of_le (s.base b off h) g.size,fun i oi h=>?_⟩,⟨le,g.os,g.tape,g.output,g.size,fun i oi b h1 h2 h3=>.inr ⟨i,oi,h1,h2,h3⟩,fun b hb _=>g.block b hb⟩⟩
 have k:=s.holds i oi h
 cases oi with
 | cells xs e=>obtain⟨b,vs,fr,h1,h2,hf,h3⟩:=k;exact⟨b,vs,fr,h1,(g.block b (Array.getElem?_eq_some_iff.1 h2).1).trans h2,hf,h3.mono le⟩
 | free m=>intro b hb;obtain⟨cs,e,h1,h2⟩:=k b hb;exact⟨cs,e,(g.block b (Array.getElem?_eq_some_iff.1 h1).1).trans h1,h2⟩
 | dead=>trivial
 | glob g u=>obtain⟨q1,q2⟩:=k;exact le.cell g 0 u q2 q1
 | smap ks xs=>obtain⟨b,es,clk,h1,h2,h3,h4⟩:=k;exact⟨b,es,clk,h1,(g.block b (Array.getElem?_eq_some_iff.1 h2).1).trans h2,h3,au.mono le h4⟩
 | iter s pos=>obtain⟨b,h1,h2⟩:=k;exact⟨b,h1,(g.block b (Array.getElem?_eq_some_iff.1 h2).1).trans h2⟩
def fv(s:Sim B H σ w)(g:bj w w')(o:Ob)(nb:Option Nat)(hnew:∀b,nb=some b->w.heap.size<=b)(ho:G7 (cx B (H++[o]) (ext σ H.length nb) w') H.length o):
  Sim B (H++[o]) (ext σ H.length nb) w'/\eH B H σ w (H++[o]) (ext σ H.length nb) w':=by
 have own:∀b off,b<w.heap.size->kM (ext σ H.length nb) (H++[o]) b off->kM σ H b off:=by
  rintro b off hb ⟨i,oi,h1,h2,h3⟩
  rcases fI h1 with ⟨h4,h5⟩|⟨rfl,rfl⟩
  ·rw[bY h4]at h2;exact⟨i,oi,h5,h2,h3⟩
  rw[bx]at h2;have:=hnew b h2;omega
 have le:(cx B H σ w).Le (cx B (H++[o]) (ext σ H.length nb) w'):=by
  refine⟨by simp[cx],fun i hi=>bY hi,fun b off u h1 h2=>⟨g.cell h2,fun h=>?_⟩,fun b es clk h1 h2=>⟨(g.block b (Array.getElem?_eq_some_iff.1 h2).1).trans h2,fun h=>h.elim (fun h=>h1 (.inl h)) (fun h=>h1 (.inr (own b 0 (Array.getElem?_eq_some_iff.1 h2).1 h)))⟩,fun b cs e fr h1=>⟨cs,(g.block b (Array.getElem?_eq_some_iff.1 h1).1).trans h1,rfl⟩⟩
  rcases h with h|h
  ·exact h1 (.inl h)
  exact h1 (.inr (own b off (World.block_lt_of_cell? w ⟨b,off,none⟩ h2) h))
 refine⟨⟨?_,?_,fun b off h=>Nat.lt_of_lt_of_le (s.base b off h) g.size,?_⟩,⟨le,g.os,g.tape,g.output,g.size,?_,fun b hb _=>g.block b hb⟩⟩
 ·intro i j b oi oj h1 h2 l1 l2 e1 e2
  rcases fI h1 with ⟨h3,h4⟩|⟨rfl,rfl⟩<;>rcases fI h2 with ⟨h5,h6⟩|⟨rfl,rfl⟩
  ·rw[bY h3]at e1;rw[bY h5]at e2;exact s.inj i j b oi oj h4 h6 l1 l2 e1 e2
  ·rw[bY h3]at e1;rw[bx]at e2
   have:=(s.holds i oi h4).lt l1 e1
   have:=hnew b e2
   simp only[cx]at *;omega
  ·rw[bx]at e1;rw[bY h5]at e2
   have:=(s.holds j oj h6).lt l2 e2
   have:=hnew b e1
   simp only[cx]at *;omega
  rfl
 ·intro i b oi h1 l1 e1 off hB
  rcases fI h1 with ⟨h3,h4⟩|⟨rfl,rfl⟩
  ·rw[bY h3]at e1;exact s.sep i b oi h4 l1 e1 off hB
  rw[bx]at e1
  have:=hnew b e1
  have:=s.base b off hB
  omega
 ·intro i oi h1
  rcases fI h1 with ⟨h3,h4⟩|⟨rfl,rfl⟩
  ·have k:=s.holds i oi h4
   cases oi with
   | cells xs e=>obtain⟨b,vs,fr,h5,h6,hf,h7⟩:=k;exact⟨b,vs,fr,(bY h3).trans h5,(g.block b (Array.getElem?_eq_some_iff.1 h6).1).trans h6,hf,h7.mono le⟩
   | free m=>intro b hb;obtain⟨cs,e,h5,h6⟩:=k b ((bY h3).symm.trans hb);exact⟨cs,e,(g.block b (Array.getElem?_eq_some_iff.1 h5).1).trans h5,h6⟩
   | dead=>trivial
   | glob g u=>obtain⟨q1,q2⟩:=k;exact le.cell g 0 u q2 q1
   | iter s pos=>obtain⟨b,h5,h6⟩:=k;exact⟨b,(bY h3).trans h5,(g.block b (Array.getElem?_eq_some_iff.1 h6).1).trans h6⟩
   | smap ks xs=>obtain⟨b,es,clk,h5,h6,h7,h8⟩:=k;exact⟨b,es,clk,(bY h3).trans h5,(g.block b (Array.getElem?_eq_some_iff.1 h6).1).trans h6,h7,au.mono le h8⟩
  exact ho
 intro i oi b h1 h2 h3
 rcases fI h1 with ⟨h4,h5⟩|⟨rfl,rfl⟩
 ·rw[bY h4]at h3;exact .inr ⟨i,oi,h5,h2,h3⟩
 rw[bx]at h3;exact .inl (hnew b h3)
def uh(s:Sim B H σ w)(xs:List PV)(vs:List Value)(e:TypeId)(h:au (cx B H σ w) xs vs):
  Sim B (H++[.cells xs e]) (ext σ H.length (some w.heap.size)) (w.alloc (.cells vs.toArray e))/\eH B H σ w (H++[.cells xs e]) (ext σ H.length (some w.heap.size)) (w.alloc (.cells vs.toArray e)):=by
 have k:=fun ho=>fv s (bj.alloc w (.cells vs.toArray e)) (.cells xs e) (some w.heap.size) (fun b hb=>by cases hb;exact Nat.le_refl _) ho
 refine k ⟨w.heap.size,vs,(0,0),bx _ _ _,(by show(w.heap.push (Obj.cells vs.toArray e))[w.heap.size]?=_;simp),.inl rfl,.of (au.mono ?_ h)⟩
 have g:=bj.alloc w (Obj.cells vs.toArray e)
 refine⟨by simp[cx],fun i hi=>bY hi,fun b off u h1 h2=>⟨g.cell h2,fun h=>?_⟩,fun b es clk h1 h2=>⟨(g.block b (Array.getElem?_eq_some_iff.1 h2).1).trans h2,fun h=>h.elim (fun h=>h1 (.inl h)) (fun⟨i,oi,h3,h4,h5⟩=>(fI h3).elim (fun⟨h6,h7⟩=>h1 (.inr ⟨i,oi,h7,by rw[bY h6]at h4;exact h4,h5⟩)) (fun⟨h6,_⟩=>by subst h6;rw[bx]at h4;cases h4;have:=(Array.getElem?_eq_some_iff.1 h2).1;simp[cx]at this))⟩,fun b cs e' fr h1=>⟨cs,(g.block b (Array.getElem?_eq_some_iff.1 h1).1).trans h1,rfl⟩⟩
 rcases h with h|⟨i,oi,h3,h4,h5⟩
 ·exact h1 (.inl h)
 rcases fI h3 with ⟨h6,h7⟩|⟨rfl,rfl⟩
 ·rw[bY h6]at h4;exact h1 (.inr ⟨i,oi,h7,h4,h5⟩)
 rw[bx]at h4;cases h4
 have:=World.block_lt_of_cell? w ⟨w.heap.size,off,none⟩ h2
 simp at this
def cV(w:World)(g:Nat)(cs:Array Value)(b:Nat)(h:b≠g):(w.setRow g cs).heap[b]?=w.heap[b]?:=by
 simp only[World.setRow,Array.getElem?_modify]
 rw[if_neg (by omega)]
def fV{w:World}{g:Nat}{cs cs':Array Value}{e:TypeId}{fr:Nat×Nat}(h:w.heap[g]?=some (Obj.cells cs e fr)):(w.setRow g cs').heap[g]?=some (Obj.cells cs' e fr):=by
 simp only[World.setRow,Array.getElem?_modify,if_true,h,Option.map_some]
def o8(w:World)(g:Nat)(cs:Array Value):(w.setRow g cs).heap.size=w.heap.size:=by simp[World.setRow]
def oV(w:World)(g:Nat)(cs:Array Value)(b off:Nat)(h:b≠g):(w.setRow g cs).cell? ⟨b,off,none⟩=w.cell? ⟨b,off,none⟩ :=
 World.cell?_of_block (w:=w) (a:=⟨b,off,none⟩) (cV w g cs b h)
def lV(s:Sim B H σ w){i b:Nat}{xs ys:List PV}{e:TypeId}(hi:H[i]?=some (.cells xs e))(hb:σ i=some b){vs us:List Value}{fr:Nat×Nat}(hv:w.heap[b]?=some (Obj.cells vs.toArray e fr))(hfr:ah0 fr vs.length)(hl:us.length=vs.length)
  (hr:sd (cx B H σ w) ys us):Sim B (H.set i (.cells ys e)) σ (w.setRow b us.toArray)/\eH B H σ w (H.set i (.cells ys e)) σ (w.setRow b us.toArray):=by
 have hlen:=cM hi
 have get:∀j o,(H.set i (.cells ys e))[j]?=some o->(j=i/\o=.cells ys e)\/(j≠i/\H[j]?=some o):=by
  intro j o h
  by_cases hj:j=i
  ·subst hj;rw[List.getElem?_set_self hlen]at h;cases h;exact .inl ⟨rfl,rfl⟩
  rw[List.getElem?_set_ne (Ne.symm hj)]at h;exact .inr ⟨hj,h⟩
 have own:∀x off,kM σ (H.set i (.cells ys e)) x off->kM σ H x off:=by
  rintro x off ⟨j,o,h1,h2,h3⟩
  rcases get j o h1 with ⟨rfl,rfl⟩|⟨_,h4⟩
  ·exact⟨j,_,hi,h2,trivial⟩
  exact⟨j,o,h4,h2,h3⟩
 have wr:∀off,kM σ H b off:=fun off=>⟨i,_,hi,hb,trivial⟩
 have le:(cx B H σ w).Le (cx B (H.set i (.cells ys e)) σ (w.setRow b us.toArray)):=by
  refine⟨by simp[cx],fun _ _=>rfl,fun x off u h1 h2=>⟨?_,fun h=>h1 (h.imp id (own x off))⟩,fun x es clk h1 h2=>⟨?_,fun h=>h1 (h.imp id (own x 0))⟩,fun x cs t fr h1=>?_⟩
  ·have hx:x≠b:=fun hx=>h1 (.inr (hx▸wr off))
   exact(oV w b _ x off hx).trans h2
  ·have hx:x≠b:=fun hx=>h1 (.inr (hx▸wr 0))
   exact(cV w b _ x hx).trans h2
  by_cases hx:x=b
  ·subst hx
   simp only[cx]at h1
   rw[hv]at h1;cases h1
   exact⟨_,fV hv,by simpa using hl⟩
  exact⟨cs,(cV w b _ x hx).trans h1,rfl⟩
 refine⟨⟨?_,?_,fun x off h=>by rw[o8];exact s.base x off h,?_⟩,⟨le,rfl,rfl,rfl,by rw[o8];exact Nat.le_refl _,?_,?_⟩⟩
 ·intro j k x oj ok h1 h2 l1 l2 e1 e2
  rcases get j oj h1 with ⟨rfl,rfl⟩|⟨_,h3⟩<;>rcases get k ok h2 with ⟨rfl,rfl⟩|⟨_,h4⟩
  ·rfl
  ·exact s.inj _ _ x _ _ hi h4 rfl l2 e1 e2
  ·exact s.inj _ _ x _ _ h3 hi l1 rfl e1 e2
  exact s.inj _ _ x _ _ h3 h4 l1 l2 e1 e2
 ·intro j x oj h1 l1 e1 off
  rcases get j oj h1 with ⟨rfl,rfl⟩|⟨_,h3⟩
  ·exact s.sep _ x _ hi rfl e1 off
  exact s.sep _ x _ h3 l1 e1 off
 ·intro j oj h1
  rcases get j oj h1 with ⟨rfl,rfl⟩|⟨hj,h3⟩
  ·exact⟨b,us,fr,hb,fV hv,by rw[hl];exact hfr,hr.mono le⟩
  have k:=s.holds j oj h3
  cases oj with
  | cells zs t =>
   obtain⟨x,ws,fr',h5,h6,hf,h7⟩:=k
   have hx:x≠b:=fun hx=>hj (s.inj j i b _ _ h3 hi rfl rfl (hx▸h5) hb)
   exact⟨x,ws,fr',h5,(cV w b _ x hx).trans h6,hf,h7.mono le⟩
  | free m =>
   intro x hx
   obtain⟨cs,t,h5,h6⟩:=k x hx
   have hne:x≠b:=fun h=>hj (s.inj j i b _ _ h3 hi rfl rfl (h▸hx) hb)
   exact⟨cs,t,(cV w b _ x hne).trans h5,h6⟩
  | iter s2 pos =>
   obtain⟨x,h5,h6⟩:=k
   have hx:x≠b:=fun hx=>hj (s.inj j i b _ _ h3 hi rfl rfl (hx▸h5) hb)
   exact⟨x,h5,(cV w b _ x hx).trans h6⟩
  | smap ks ms =>
   obtain⟨x,es,clk,h5,h6,h7,h8⟩:=k
   have hx:x≠b:=fun hx=>hj (s.inj j i b _ _ h3 hi rfl rfl (hx▸h5) hb)
   exact⟨x,es,clk,h5,(cV w b _ x hx).trans h6,h7,au.mono le h8⟩
  | dead=>trivial
  | glob g u=>obtain⟨q1,q2⟩:=k;exact le.cell g 0 u q2 q1
 ·intro j oj x h1 h2 h3
  rcases get j oj h1 with ⟨rfl,rfl⟩|⟨_,h4⟩
  ·exact .inr ⟨_,_,hi,rfl,h3⟩
  exact .inr ⟨j,oj,h4,h2,h3⟩
 intro x hx hn
 exact cV w b _ x (fun h=>hn i _ hi rfl (h▸hb))
end
open Go.RowKit
inductive Sh where
 | other
 | bool
 | int (k:IntKind)
 | str
 | struct (fs:List (Nat×Nat×Bool))
 | slice (e:Nat)
 | array (n e:Nat)
structure TD where
 size:Nat
 bytes:Nat
 zero:List PV
 sh:Sh
def TD.agg(d:TD):Bool:=match d.sh with
 | .struct _=>true
 | .array _ _=>true
 | _=>false
def S2:PV->Value->Bool
 | .val (.int k n),.int k' n'=>decide (k=k')&&decide (n=n')
 | .val (.bool b),.bool b'=>b==b'
 | .val (.string s),.string s'=>decide (s.data.toList=s'.data.toList)
 | .val (.pointer none),.pointer none=>true
 | .val (.map none),.map none=>true
 | .val .nilFunc,.nilFunc=>true
 | .val .nilIface,.nilIface=>true
 | .seq 0 [] .clip,.slice none 0 0=>true
 | _,_=>false
def Eu:List PV->List Value->Bool
 | [],[]=>true
 | x::xs,v::vs=>S2 x v&&Eu xs vs
 | _,_=>false
def OO(c:Cx){x:PV}{v:Value}(h:S2 x v=true):Rep c x v:=by
 unfold S2 at h
 split at h
 ·simp at h;obtain⟨rfl,rfl⟩:=h;exact ar c _
 ·simp at h;subst h;exact ar c _
 ·rename_i s s'
  have e:s.data.toList=s'.data.toList:=of_decide_eq_true h
  have e':s=s':=by
   obtain⟨⟨l⟩⟩:=s
   obtain⟨⟨l'⟩⟩:=s'
   simp at e
   rw[e]
  subst e';exact ar c _
 ·exact ar c _
 ·exact ar c _
 ·exact ar c _
 ·exact ar c _
 ·exact y3 c
 cases h
def Ae(c:Cx):∀{xs:List PV} {vs:List Value},Eu xs vs=true->au c xs vs
 | [],[],_=>aG.2 rfl
 | x::xs,v::vs,h=>by simp only[Eu,Bool.and_eq_true]at h;exact af.2 ⟨OO c h.1,Ae c h.2⟩
 | [],v::vs,h=>by cases h
 | x::xs,[],h=>by cases h
def aJ6(P:Program)(t:TypeId):Option Bool:=match P.underlying t with
 | some (.struct _)=>some true
 | some (.array _ _)=>some true
 | some _=>some false
 | none=>none
def yS(P:Program):Field×(Nat×Nat×Bool)->Bool
 | (f,(o,s,g))=>decide (f.offset=o)&&decide (s≠0)&&(match P.info? f.type with|some i=>decide (i.size=s)|none=>false)&&(match aJ6 P f.type with|some b=>b==g|none=>false)
def K0(P:Program):TypeDesc->Sh->Bool
 | .struct F,.struct fs=>decide (F.size=fs.length)&&(F.toList.zip fs).all (yS P)
 | .slice e,.slice e'=>decide (e=e')
 | .array n e,.array n' e'=>decide (n=n')&&decide (e=e')
 | .int k,.int k'=>decide (k=k')
 | .string,.str=>true
 | .bool,.bool=>true
 | .struct _,_=>false
 | .array _ _,_=>false
 | _,.other=>true
 | _,_=>false
def ai3(P:Program)(t:TypeId)(d:TD):Bool :=
 (match P.info? t with
  | some i=>decide (i.size=d.size)&&decide (i.bytes=d.bytes/\d.zero.length=d.size)&&(match i.zero with|some z=>Eu d.zero z.cells.toList|none=>false)
  | none=>false) &&
 (match P.underlying t with
  | some u=>K0 P u d.sh
  | none=>false)
structure ap (P:Program) (t:TypeId) (d:TD):Prop where
 info:∃i z,P.info? t=some i/\i.size=d.size/\i.bytes=d.bytes/\i.zero=some z/\∀c,au c d.zero z.cells.toList
 zlen:d.zero.length=d.size
 under:∃u,P.underlying t=some u/\K0 P u d.sh=true
def Ow{P:Program}{t:TypeId}{d:TD}(h:ai3 P t d=true):ap P t d:=by
 unfold ai3 at h
 simp only[Bool.and_eq_true]at h
 obtain⟨h1,h2⟩:=h
 cases hi:P.info? t with
 | none=>rw[hi]at h1;cases h1
 | some i =>
 rw[hi]at h1
 simp only[Bool.and_eq_true,decide_eq_true_eq]at h1
 obtain⟨⟨h3,h4,h4'⟩,h5⟩:=h1
 refine⟨?_,h4',?_⟩
 ·cases hz:i.zero with
  | none=>rw[hz]at h5;cases h5
  | some z=>rw[hz]at h5;exact⟨i,z,hi,h3,h4,hz,fun c=>Ae c h5⟩
 cases hu:P.underlying t with
 | none=>rw[hu]at h2;cases h2
 | some u=>rw[hu]at h2;exact⟨u,rfl,h2⟩
section
variable {P : Program} {t : TypeId} {d : TD}
def ap.sizeOf(f:ap P t d)(w:World):(sizeOf t).run P w=.ok d.size w:=by
 obtain⟨i,z,h1,h2,_⟩:=f.info
 simp[Go.sizeOf,typeInfo,h1,h2]
def ap.isAgg(f:ap P t d)(w:World):(isAgg t).run P w=.ok d.agg w:=by
 obtain⟨u,h1,h2⟩:=f.under
 unfold Go.isAgg
 simp only[Sem.run_bind,run_underlying h1,Result.andThen_ok]
 unfold TD.agg
 cases u<;>cases hs:d.sh<;>rw[hs]at h2<;>first|(cases h2;done)|rfl
def ap.struct(f:ap P t d){fs:List (Nat×Nat×Bool)}(h:d.sh=.struct fs):∃F:Array Field,P.underlying t=some (.struct F)/\∀(i o s:Nat) (g:Bool),fs[i]?=some (o,s,g)->∃x:Field,F[i]?=some x/\x.offset=o/\s≠0/\(∀w,(Go.sizeOf x.type).run P w=.ok s w)/\∀w,(Go.isAgg x.type).run P w=.ok g w:=by
 obtain⟨u,h1,h2⟩:=f.under
 rw[h]at h2
 cases u with
 | struct F =>
  refine⟨F,h1,fun i o s g hi=>?_⟩
  simp only[K0,Bool.and_eq_true,decide_eq_true_eq]at h2
  obtain⟨h3,h4⟩:=h2
  have hlt:i<F.size:=by rw[h3];exact cM hi
  refine⟨F[i],by rw[Array.getElem?_eq_getElem hlt],?_⟩
  rw[List.all_eq_true]at h4
  have h5:=h4 (F[i],(o,s,g)) (by
   rw[List.mem_iff_getElem?]
   refine⟨i,?_⟩
   rw[List.getElem?_zip_eq_some]
   exact⟨by simp[hlt],hi⟩)
  simp only[yS,Bool.and_eq_true,decide_eq_true_eq]at h5
  obtain⟨⟨⟨h6,h7⟩,h8⟩,h9⟩:=h5
  refine⟨h6,h7,fun w=>?_,fun w=>?_⟩
  ·cases hi:P.info? F[i].type with
   | none=>rw[hi]at h8;cases h8
   | some x=>rw[hi]at h8;simp at h8;simp[Go.sizeOf,typeInfo,hi,h8]
  unfold aJ6 at h9
  unfold Go.isAgg
  cases hu:P.underlying F[i].type with
  | none=>rw[hu]at h9;cases h9
  | some u =>
   rw[hu]at h9
   simp only[Sem.run_bind,run_underlying hu,Result.andThen_ok]
   cases u<;>simp at h9<;>subst h9<;>rfl
 | _=>cases h2
def ap.slice(f:ap P t d){e:Nat}(h:d.sh=.slice e):P.underlying t=some (.slice e):=by
 obtain⟨u,h1,h2⟩:=f.under
 rw[h]at h2
 cases u<;>first|(cases h2;done)|(simp[K0]at h2;subst h2;exact h1)
def ap.array(f:ap P t d){n e:Nat}(h:d.sh=.array n e):P.underlying t=some (.array n e):=by
 obtain⟨u,h1,h2⟩:=f.under
 rw[h]at h2
 cases u<;>first|(cases h2;done)|(simp[K0]at h2;obtain⟨rfl,rfl⟩:=h2;exact h1)
def ap.int(f:ap P t d){k:IntKind}(h:d.sh=.int k):P.underlying t=some (.int k):=by
 obtain⟨u,h1,h2⟩:=f.under
 rw[h]at h2
 cases u<;>first|(cases h2;done)|(simp[K0]at h2;subst h2;exact h1)
def ap.bool(f:ap P t d)(h:d.sh=.bool):P.underlying t=some .bool:=by
 obtain⟨u,h1,h2⟩:=f.under
 rw[h]at h2
 cases u<;>first|(cases h2;done)|exact h1
def ap.str(f:ap P t d)(h:d.sh=.str):P.underlying t=some .string:=by
 obtain⟨u,h1,h2⟩:=f.under
 rw[h]at h2
 cases u<;>first|(cases h2;done)|exact h1
end
def po{α:Type}:Sem α->Option α
 | .pure a=>some a
 | _=>none
def nY{α:Type}{s:Sem α}{x:α}(h:po s=some x)(P:Program)(w:World):s.run P w=.ok x w:=by
 cases s<;>simp[po]at h
 subst h;rfl
def Ky(op:BinOp)(t:TypeId)(x y:Operand)(u v:Value):Option Value:=match po (eqGuard op t x y u v)with
 | some _=>po (binOp op t u v)
 | none=>none
def kY(d:TD)(xs:List PV)(off:Nat):Option PV:=match d.agg with
 | true=>match Nat.ble (off+d.size) xs.length with
  | true=>some (.agg ((xs.drop off).take d.size))
  | false=>none
 | false=>xs[off]?
def rm:PV->Option (List PV)
 | .agg cs=>some cs
 | .any=>none
 | .tup _=>none
 | .val (.agg _)=>none
 | .val (.tuple _)=>none
 | x=>some [x]
def okC:PV->Bool
 | .val v=>v.oneCell'
 | .any=>false
 | .agg _=>false
 | .tup _=>false
 | _=>true
def sV{c:Cx}{x:PV}{xs:List PV}{v:Value}(h:rm x=some xs)(k:Rep c x v):au c xs v.cells.toList:=by
 have one:∀{x:PV},Rep c x v->v.cells=#[v]->au c [x] v.cells.toList:=fun hx e=>by rw[e];exact af.2 ⟨hx,aG.2 rfl⟩
 cases x with
 | agg cs=>injection h with h;subst h;unfold Rep at k;obtain⟨vs,rfl,k⟩:=k;simpa[Value.cells]using k
 | any=>cases h
 | tup cs=>cases h
 | val u =>
  have k':=k
  unfold Rep at k
  subst k
  cases v<;>first|(cases h;done)|(injection h with h;subst h;exact one k' rfl)
 | ptr i off=>injection h with h;subst h;have k':=k;unfold Rep at k;obtain⟨_,b,_,rfl⟩:=k;exact one k' rfl
 | seq n ys s=>injection h with h;subst h;have k':=k;unfold Rep at k;obtain⟨a,cap,vs,rfl,_⟩:=k;exact one k' rfl
 | row ys=>injection h with h;subst h;have k':=k;unfold Rep at k;obtain⟨b,vs,rfl,_⟩:=k;exact one k' rfl
 | arr i off n cap=>injection h with h;subst h;have k':=k;unfold Rep at k;obtain⟨_,b,_,rfl⟩:=k;exact one k' rfl
 | fn f a b=>injection h with h;subst h;have k':=k;unfold Rep at k;obtain⟨_,_,rfl,_⟩:=k;exact one k' rfl
 | mapv i=>injection h with h;subst h;have k':=k;unfold Rep at k;obtain⟨_,b,_,rfl⟩:=k;exact one k' rfl
 | arw i off n=>injection h with h;subst h;have k':=k;unfold Rep at k;obtain⟨_,b,cap,_,_,rfl⟩:=k;exact one k' rfl
 | smap ks ms=>injection h with h;subst h;have k':=k;unfold Rep at k;obtain⟨b,es,clk,rfl,_⟩:=k;exact one k' rfl
 | ifc t y=>injection h with h;subst h;have k':=k;unfold Rep at k;obtain⟨u,rfl,_⟩:=k;exact one k' rfl
def M5{c:Cx}{x:PV}{v:Value}(h:okC x=true)(k:Rep c x v):v.oneCell'=true:=by
 cases x with
 | val u=>unfold Rep at k;subst k;exact h
 | any=>cases h
 | agg cs=>cases h
 | tup cs=>cases h
 | ptr i off=>unfold Rep at k;obtain⟨_,b,_,rfl⟩:=k;rfl
 | seq n ys s=>unfold Rep at k;obtain⟨a,cap,vs,rfl,_⟩:=k;rfl
 | row ys=>unfold Rep at k;obtain⟨b,vs,rfl,_⟩:=k;rfl
 | arr i off n cap=>unfold Rep at k;obtain⟨_,b,_,rfl⟩:=k;rfl
 | fn f a b=>unfold Rep at k;obtain⟨_,_,rfl,_⟩:=k;rfl
 | mapv i=>unfold Rep at k;obtain⟨_,b,_,rfl⟩:=k;rfl
 | arw i off n=>unfold Rep at k;obtain⟨_,b,cap,_,_,rfl⟩:=k;rfl
 | smap ks ms=>unfold Rep at k;obtain⟨b,es,clk,rfl,_⟩:=k;rfl
 | ifc t y=>unfold Rep at k;obtain⟨u,rfl,_⟩:=k;rfl
def Jc{c:Cx}:∀{xs:List PV} {vs:List Value},xs.all okC=true->au c xs vs->∀v∈vs,v.oneCell'=true
 | [],vs,_,h,v,hv=>by rw[aG]at h;subst h;cases hv
 | x::xs,[],_,h,v,hv=>by cases hv
 | x::xs,u::us,ho,h,v,hv=>by
  rw[af]at h
  simp only[List.all_cons,Bool.and_eq_true]at ho
  cases hv with
  | head=>exact M5 ho.1 h.1
  | tail _ hv=>exact Jc ho.2 h.2 v hv
def fa{w:World}{b:Nat}{vs:List Value}{e:TypeId}{fr:Nat×Nat}(h:w.heap[b]?=some (Obj.cells vs.toArray e fr))(j:Nat):w.cell? ⟨b,j,none⟩=vs[j]?:=by
 simp[World.cell?,h]
section
variable {P : Program} {B : Nat -> Nat -> Prop} {o : Oper} {T : Nat -> PV} {H : List Ob}
def aM{x:PV}(h:∀(σ:Nat->Option Nat) (w:World) (a:Act),Sim B H σ w->(∀y∈o.op.operands.toList,Rep (cx B H σ w) (opv T y) (a.eval y))->∃v,(execOp a.eval o).run P w=.ok (.value v) w/\Rep (cx B H σ w) x v):bM P B o T H x H:=by
 intro σ w a s ho
 obtain⟨v,h1,h2⟩:=h σ w a s ho
 exact⟨v,w,σ,.inl h1,h2,s,eH.refl _ _ _ _⟩
def ki{w:World}{b off:Nat}{t:TypeId}{d:TD}(f:ap P t d){c:Cx}{xs:List PV}{vs:List Value}(hr:au c xs vs)(hc:∀(j:Nat) u,vs[j]?=some u->w.cell? ⟨b,off+j,none⟩=some u){k:Nat}{x:PV}(hx:kY d xs k=some x):
  ∃v,(loadVar t ⟨b,off+k,none⟩).run P w=.ok v w/\Rep c x v:=by
 unfold kY at hx
 unfold loadVar
 simp only[Sem.run_bind,f.isAgg,Result.andThen_ok]
 cases ha:d.agg with
 | true =>
  rw[ha]at hx
  simp only at hx
  split at hx
  ·rename_i hle
   rw[Nat.ble_eq]at hle
   injection hx with hx;subst hx
   have hlen:((vs.drop k).take d.size).length=d.size:=by rw[List.length_take,List.length_drop,au.length hr];omega
   have hl:=run_loadCells_list (P:=P) w ⟨b,off+k,none⟩ ((vs.drop k).take d.size) (fun j v hj=>by
    rw[List.getElem?_take]at hj
    split at hj
    ·rw[List.getElem?_drop]at hj
     rw[Addr.add_lit,Nat.add_assoc];exact hc _ _ hj
    cases hj)
   rw[hlen]at hl
   refine⟨.agg ((vs.drop k).take d.size).toArray,?_,?_⟩
   ·simp[f.sizeOf,hl]
   unfold Rep;exact⟨_,rfl,(hr.drop k).take d.size⟩
  cases hx
 | false =>
  rw[ha]at hx
  obtain⟨u,hu,hru⟩:=hr.get hx
  refine⟨u,?_,hru⟩
  have:=hc k u hu
  simp[this]
def Oa{x:Operand}(ho:o.op=.move x):bM P B o T H (opv T x) H :=
 aM fun σ w a s h=>⟨a.eval x,by simp[execOp,ho],h x (by simp[ho,Op.operands])⟩
def I4{x:Operand}(ho:o.op=.assign x):bM P B o T H (opv T x) H :=
 aM fun σ w a s h=>⟨a.eval x,by simp[execOp,ho],h x (by simp[ho,Op.operands])⟩
def CF{c x y:Operand}{b:Bool}(ho:o.op=.pick c x y)(hc:opv T c=.val (.bool b)):bM P B o T H (if b then opv T x else opv T y) H :=
 aM fun σ w a s h=>by
  have h1:=h c (by simp[ho,Op.operands])
  have h2:=h x (by simp[ho,Op.operands])
  have h3:=h y (by simp[ho,Op.operands])
  rw[hc]at h1
  unfold Rep at h1
  cases b with
  | true=>exact⟨a.eval x,by simp[execOp,ho,h1,asBool],h2⟩
  | false=>exact⟨a.eval y,by simp[execOp,ho,h1,asBool],h3⟩
def Ah{op:BinOp}{t yt:TypeId}{x y:Operand}{u v r:Value}(ho:o.op=.binOp op t x y yt)(hx:opv T x=.val u)(hy:opv T y=.val v)(hr:Ky op t x y u v=some r):bM P B o T H (.val r) H :=
 aM fun σ w a s h=>by
  have h1:=h x (by simp[ho,Op.operands])
  have h2:=h y (by simp[ho,Op.operands])
  rw[hx]at h1
  rw[hy]at h2
  unfold Rep at h1 h2
  unfold Ky at hr
  split at hr
  ·rename_i z hz
   refine⟨r,?_,ar _ _⟩
   have e1:=nY hz P w
   have e2:=nY hr P w
   simp[execOp,ho,h1,h2,e1,e2]
  cases hr
def XY{op:UnOp}{t:TypeId}{x:Operand}{u r:Value}(ho:o.op=.unOp op t x)(hx:opv T x=.val u)(hr:po (Op.unary op u)=some r):bM P B o T H (.val r) H :=
 aM fun σ w a s h=>by
  have h1:=h x (by simp[ho,Op.operands])
  rw[hx]at h1
  unfold Rep at h1
  exact⟨r,by simp[execOp,ho,h1,nY hr P w],ar _ _⟩
def EP{x:Operand}{i:Nat}{cs:List PV}{r:PV}(ho:o.op=.extract x i)(hx:opv T x=.tup cs)(hr:cs[i]?=some r):bM P B o T H r H :=
 aM fun σ w a s h=>by
  have h1:=h x (by simp[ho,Op.operands])
  rw[hx]at h1
  unfold Rep at h1
  obtain⟨vs,h1,h2⟩:=h1
  obtain⟨u,hu,hru⟩:=h2.get hr
  exact⟨u,by simp[execOp,ho,h1,Instr.extract,hu],hru⟩
def vP{x:Operand}{i off:Nat}(ho:o.op=.nilCheck x)(hx:opv T x=.ptr i off):bM P B o T H (.ptr i off) H :=
 aM fun σ w a s h=>by
  have h1:=h x (by simp[ho,Op.operands])
  rw[hx]at h1
  have h1':=h1
  unfold Rep at h1
  obtain⟨_,b,_,h1⟩:=h1
  exact⟨a.eval x,by simp[execOp,ho,h1],h1'⟩
def vX{x:Operand}{xs:List PV}(ho:o.op=.nilCheck x)(hx:opv T x=.row xs):bM P B o T H (.row xs) H :=
 aM fun σ w a s h=>by
  have h1:=h x (by simp[ho,Op.operands])
  rw[hx]at h1
  have h1':=h1
  unfold Rep at h1
  obtain⟨b,vs,h1,_⟩:=h1
  exact⟨a.eval x,by simp[execOp,ho,h1],h1'⟩
def v6{α:Type}{p q:List α}{j:Nat}{u:α}(h:p[j]?=some u):(p++q)[j]?=some u:=by
 have:j<p.length:=by rcases Nat.lt_or_ge j p.length with h1|h1;exact h1;rw[List.getElem?_eq_none h1]at h;cases h
 rw[List.getElem?_append_left this];exact h
def cq{t:TypeId}{d:TD}{x:Operand}{i off:Nat}{xs:List PV}{e:TypeId}{r:PV}(f:ap P t d)(ho:o.op=.load t x)(hx:opv T x=.ptr i off)(hi:H[i]?=some (.cells xs e))(hr:kY d xs off=some r):bM P B o T H r H :=
 aM fun σ w a s h=>by
  have h1:=h x (by simp[ho,Op.operands])
  rw[hx]at h1
  unfold Rep at h1
  obtain⟨_,b,hb,h1⟩:=h1
  obtain⟨b',vs,fr,hb',hv,_,p,q,rfl,hrl⟩:=s.holds i _ hi
  simp only[cx]at hb hb' hv
  rw[hb]at hb'
  cases hb'
  obtain⟨v,h2,h3⟩:=ki (P:=P) (w:=w) (b:=b) (off:=0) f hrl (fun j u hj=>by rw[Nat.zero_add,fa hv];exact v6 hj) hr
  rw[Nat.zero_add]at h2
  exact⟨v,by simp[execOp,ho,h1,Instr.loadAt,Instr.sureAddr,h2],h3⟩
def B6{t:TypeId}{d:TD}{x:Operand}{xs:List PV}{r:PV}(f:ap P t d)(ho:o.op=.load t x)(hx:opv T x=.row xs)(hr:kY d xs 0=some r):bM P B o T H r H :=
 aM fun σ w a s h=>by
  have h1:=h x (by simp[ho,Op.operands])
  rw[hx]at h1
  unfold Rep at h1
  obtain⟨b,vs,h1,hrl,hs,hl⟩:=h1
  obtain⟨v,h2,h3⟩:=ki (P:=P) (w:=w) (b:=b.block) (off:=b.off) f hrl (fun j u hj=>(hl j u hj).1) hr
  have hb:b=⟨b.block,b.off+0,none⟩:=by cases b;simp only at hs;subst hs;rfl
  rw[<-hb]at h2
  exact⟨v,by simp[execOp,ho,h1,Instr.loadAt,Instr.sureAddr,h2],h3⟩
def rU{s:TypeId}{d:TD}(f:ap P s d){fs:List (Nat×Nat×Bool)}(hs:d.sh=.struct fs){k off z:Nat}{g:Bool}(hk:fs[k]?=some (off,z,g))(b i:Nat)(w:World):
  (Instr.fieldAt s (.pointer (some ⟨b,i,none⟩)) k).run P w=.ok (.pointer (some ⟨b,i+off,none⟩)) w:=by
 obtain⟨F,h1,h2⟩:=f.struct hs
 obtain⟨x,h3,h4,h5,h6,_⟩:=h2 k off z g hk
 unfold Instr.fieldAt
 simp[run_underlying h1,h3,Instr.sureAddr,fieldPlace,h6,h5,h4,Addr.add_lit]
def uM{s:TypeId}{d:TD}{x:Operand}{k i off fo z:Nat}{g:Bool}{fs:List (Nat×Nat×Bool)}(f:ap P s d)(ho:o.op=.fieldAddr s x k)(hs:d.sh=.struct fs)(hk:fs[k]?=some (fo,z,g))(hx:opv T x=.ptr i off):bM P B o T H (.ptr i (off+fo)) H :=
 aM fun σ w a s' h=>by
  have h1:=h x (by simp[ho,Op.operands])
  rw[hx]at h1
  unfold Rep at h1
  obtain⟨hi,b,hb,h1⟩:=h1
  refine⟨.pointer (some ⟨b,off+fo,none⟩),?_,?_⟩
  ·simp[execOp,ho,h1,rU f hs hk]
  unfold Rep;exact⟨hi,b,hb,rfl⟩
def uq{s:TypeId}{d:TD}{x:Operand}{k fo z:Nat}{g:Bool}{xs:List PV}{fs:List (Nat×Nat×Bool)}(f:ap P s d)(ho:o.op=.fieldAddr s x k)(hs:d.sh=.struct fs)(hk:fs[k]?=some (fo,z,g))(hx:opv T x=.row xs):bM P B o T H (.row (xs.drop fo)) H :=
 aM fun σ w a s' h=>by
  have h1:=h x (by simp[ho,Op.operands])
  rw[hx]at h1
  unfold Rep at h1
  obtain⟨b,vs,h1,hrl,hl⟩:=h1
  have hb:b=⟨b.block,b.off,none⟩:=by cases b;simp only[rP]at hl;cases hl.1;rfl
  refine⟨.pointer (some ⟨b.block,b.off+fo,none⟩),?_,?_⟩
  ·rw[hb]at h1
   simp[execOp,ho,h1,rU f hs hk]
  unfold Rep;exact⟨_,vs.drop fo,rfl,hrl.drop fo,hl.drop fo⟩
def zk(cs:List PV)(fo z:Nat):Bool->Option PV
 | true=>match Nat.ble (fo+z) cs.length with
  | true=>some (.agg ((cs.drop fo).take z))
  | false=>none
 | false=>cs[fo]?
def KH{s:TypeId}{d:TD}{x:Operand}{k fo z:Nat}{g:Bool}{cs:List PV}{r:PV}{fs:List (Nat×Nat×Bool)}(f:ap P s d)(ho:o.op=.field s x k)(hs:d.sh=.struct fs)(hk:fs[k]?=some (fo,z,g))(hx:opv T x=.agg cs)(hr:zk cs fo z g=some r):bM P B o T H r H :=
 aM fun σ w a s' h=>by
  have h1:=h x (by simp[ho,Op.operands])
  rw[hx]at h1
  unfold Rep at h1
  obtain⟨vs,h1,hrl⟩:=h1
  obtain⟨F,h3,h4⟩:=f.struct hs
  obtain⟨y,h5,h6,h7,h8,h9⟩:=h4 k fo z g hk
  cases g with
  | true =>
   simp only[zk]at hr
   split at hr
   ·rename_i hle
    injection hr with hr;subst hr
    refine⟨.agg ((vs.drop fo).take z).toArray,?_,by unfold Rep;exact⟨_,rfl,(hrl.drop fo).take z⟩⟩
    simp[execOp,ho,h1,Instr.field,run_underlying h3,h5,asAgg,part,h9,h8,h6]
   cases hr
  | false =>
   simp only[zk]at hr
   obtain⟨u,hu,hru⟩:=hrl.get hr
   refine⟨u,?_,hru⟩
   simp[execOp,ho,h1,Instr.field,run_underlying h3,h5,asAgg,part,h9,h6,hu]
def cy(xs:List PV)(off:Nat)(ys:List PV):List PV:=xs.take off++ys++xs.drop (off+ys.length)
def my(P:Program)(g o:Nat)(t:TypeId)(fz:Nat×Nat):∀(vs:List Value) (i:Nat) (cur:Array Value) (w:World),w.heap[g]?=some (.cells cur t fz)->ah0 fz cur.size->o+i+vs.length<=cur.size->(∀v∈vs,v.oneCell'=true) ->
  (storeCells ⟨g,o,none⟩ vs i).run P w=.ok () (w.setRow g (cur.toList.take (o+i)++vs++cur.toList.drop (o+i+vs.length)).toArray)
 | [],i,cur,w,hg,_,_,_=>by
  simp only[storeCells,List.append_nil,List.length_nil,Nat.add_zero,List.take_append_drop,Array.toArray_toList]
  rw[setRow_self w g cur t fz hg]
  rfl
 | v::rest,i,cur,w,hg,hz,hl,h1=>by
  have hi:o+i<cur.size:=by simp at hl;omega
  have hadd:(⟨g,o,none⟩:Addr).add i=⟨g,o+i,none⟩:=by unfold Addr.add;split<;>simp_all
  have hcell:w.cell? ⟨g,o+i,none⟩=some cur[o+i]:=by simp[World.cell?,hg,hi]
  have hfro:w.frozen? ⟨g,o+i,none⟩=false:=by
   rcases hz with rfl|hz
   ·simp[World.frozen?,hg]
   obtain⟨lo,hi'⟩:=fz
   simp only[World.frozen?,hg,Bool.and_eq_false_iff,decide_eq_false_iff_not]
   simp only at hz
   exact .inl (by omega)
  have hst:(store ((⟨g,o,none⟩:Addr).add i) v).run P w=.ok () (w.setRow g (cur.setIfInBounds (o+i) v)):=by
   rw[hadd,run_store P w _ v _ (h1 v (by simp)),hcell]
   simp[hfro,setCell_eq_setRow w g (o+i) cur t fz v hg]
  have ih:=my P g o t fz rest (i+1) (cur.setIfInBounds (o+i) v) (w.setRow g (cur.setIfInBounds (o+i) v)) (setRow_heap w g cur _ t _ hg) (by simpa using hz) (by simp at hl ⊢;omega) (fun x hx=>h1 x (by simp[hx]))
  simp only[storeCells,Sem.run_bind,hst,Result.andThen_ok,ih,setRow_setRow]
  congr 3
  have e:=list_seg_step cur.toList (o+i) v rest (by simp at hl ⊢;omega)
  simpa[Array.toList_setIfInBounds,Nat.add_assoc]using e
def bP{t:TypeId}{d:TD}{x y:Operand}{i off:Nat}{xs ys:List PV}{e:TypeId}(f:ap P t d)(ho:o.op=.store t x y)(hx:opv T x=.ptr i off)(hi:H[i]?=some (.cells xs e))(hy:rm (opv T y)=some ys)(hl:Nat.beq ys.length d.size=true)(hok:ys.all okC=true)
  (hle:Nat.ble (off+ys.length) xs.length=true):bM P B o T H (.val undef) (H.set i (.cells (cy xs off ys) e)):=by
 intro σ w a s h
 have h1:=h x (by simp[ho,Op.operands])
 have h2:=h y (by simp[ho,Op.operands])
 rw[hx]at h1
 unfold Rep at h1
 obtain⟨_,b,hb,h1⟩:=h1
 obtain⟨b',vs,fr,hb',hv,hfr,hrp⟩:=s.holds i _ hi
 simp only[cx]at hb hb' hv
 rw[hb]at hb'
 cases hb'
 have h3:=sV hy h2
 have h4:=Jc hok h3
 rw[Nat.beq_eq]at hl
 rw[Nat.ble_eq]at hle
 have hlen:(a.eval y).cells.toList.length=d.size:=by rw[au.length h3];exact hl
 have hvl:=hrp.le
 have hst:=my P b off e fr (a.eval y).cells.toList 0 vs.toArray w hv (by simpa using hfr) (by rw[Nat.add_zero,hlen,List.size_toArray];omega) h4
 simp only[Nat.add_zero]at hst
 obtain⟨s',st⟩:=lV s (ys:=cy xs off ys) hi hb hv hfr (us:=vs.take off++(a.eval y).cells.toList++vs.drop (off+(a.eval y).cells.toList.length)) (by
  simp only[List.length_append,List.length_take,List.length_drop];rw[hlen];omega) (by
  unfold cy
  have e1:(a.eval y).cells.toList.length=ys.length:=au.length h3
  rw[e1]
  obtain⟨p,q,hpq,hd⟩:=hrp.drop (off+ys.length)
  exact⟨vs.take off++(a.eval y).cells.toList++p,q,by rw[hpq];simp,((hrp.take (by omega)).append h3).append hd⟩)
 refine⟨undef,_,σ,.inr ⟨?_,rfl⟩,ar _ _,s',st⟩
 have hsz:(a.eval y).cells.size=d.size:=by rw[<-hlen,Array.length_toList]
 simp[execOp,ho,h1,Instr.storeAt,Instr.sureAddr,storeVar,f.sizeOf,hsz,hst]
def VQ{t:TypeId}{x:Operand}{xs:List PV}(ho:o.op=.box t x)(hx:rm (opv T x)=some xs):bM P B o T H (.ptr H.length 0) (H++[.cells xs t]):=by
 intro σ w a s h
 have h1:=sV hx (h x (by simp[ho,Op.operands]))
 obtain⟨s',st⟩:=uh s xs _ t h1
 refine⟨.pointer (some ⟨w.heap.size,0,none⟩),_,_,.inl ?_,?_,s',st⟩
 ·simp[execOp,ho,Instr.box,newVar,newRow]
 unfold Rep;exact⟨by simp[cx],w.heap.size,by simp[cx,bx],rfl⟩
def Ke{t:TypeId}{d:TD}(f:ap P t d)(ho:o.op=.alloc t):bM P B o T H (.ptr H.length 0) (H++[.cells d.zero t]):=by
 intro σ w a s h
 obtain⟨i,z,h1,h2,h3,h4,h5⟩:=f.info
 obtain⟨s',st⟩:=uh s d.zero _ t (h5 _)
 refine⟨.pointer (some ⟨w.heap.size,0,none⟩),_,_,.inl ?_,?_,s',st⟩
 ·simp[execOp,ho,Instr.alloc,newVar,newRow,zeroValue,typeInfo,h1,h4]
 unfold Rep;exact⟨by simp[cx],w.heap.size,by simp[cx,bx],rfl⟩
def Cn{fn:Fn}{first cap:Array Operand}(ho:o.op=.makeFunc fn first cap):bM P B o T H (.fn fn (first.toList.map (opv T)) (cap.toList.map (opv T))) H :=
 aM fun σ w a s h=>by
  have key:∀l:List Operand,(∀y∈l,y∈o.op.operands.toList)->au (cx B H σ w) (l.map (opv T)) (l.map a.eval):=by
   intro l
   induction l with
   | nil=>intro _;exact aG.2 rfl
   | cons y l ih=>intro hl;exact af.2 ⟨h y (hl y (by simp)),ih (fun z hz=>hl z (by simp[hz]))⟩
  refine⟨.func fn (first.map a.eval) (cap.map a.eval),by simp[execOp,ho,Instr.makeFunc],?_⟩
  unfold Rep
  refine⟨first.toList.map a.eval,cap.toList.map a.eval,(by rw[<-Array.toList_map,<-Array.toList_map]),key _ (fun y hy=>?_),key _ (fun y hy=>?_)⟩
  ·rw[ho];simp[Op.operands];exact .inl (by simpa using hy)
  rw[ho];simp[Op.operands];exact .inr (by simpa using hy)
end
open Go.RowKit
def oG(w:World)(cs:Array Value)(e:TypeId)(fr:Nat×Nat)(b j:Nat)(hb:b=w.heap.size):(w.alloc (.cells cs e fr)).cell? ⟨b,j,none⟩=cs[j]?:=by
 subst hb
 have h:(w.alloc (.cells cs e fr)).heap[w.heap.size]?=some (Obj.cells cs e fr):=by show(w.heap.push _)[w.heap.size]?=_;simp
 unfold World.cell?
 simp only[h]
 rfl
section
variable {P : Program} {B : Nat -> Nat -> Prop} {o : Oper} {T : Nat -> PV} {H : List Ob}
def gJ{c:Cx}{n:Nat}{xs:List PV}{s:SK}{v:Value}(h:Rep c (.seq n xs s) v):∃(a:Option Addr) (cap:Nat) (vs:List Value),v=.slice a n cap/\n<=cap/\(a=none->n=0/\cap=0/\vs=[])/\au c xs vs/\(∀b,a=some b->rP c b vs\/(cap=0/\vs=[]))/\Ac c s a n cap xs.length:=by
 unfold Rep at h;exact h
def gY{c:Cx}{b:Addr}{vs:List Value}(h:rP c b vs):b=⟨b.block,b.off,none⟩:=by cases b;simp only[rP]at h;cases h.1;rfl
def ue{t e:TypeId}{d de:TD}{x ix:Operand}{n:Nat}{xs:List PV}{s:SK}{k:IntKind}{i:Int}(f:ap P t d)(hd:d.sh=.slice e)(fe:ap P e de)(ho:o.op=.indexAddr t x ix)(hx:opv T x=.seq n xs s)(hi:opv T ix=.val (.int k i))(h0:0<=i/\i<n):
  bM P B o T H (.row (xs.drop (i.toNat*de.size))) H :=
 aM fun σ w a s' h=>by
  have h1:=h x (by simp[ho,Op.operands])
  have h2:=h ix (by simp[ho,Op.operands])
  rw[hx]at h1
  rw[hi]at h2
  unfold Rep at h2
  obtain⟨ad,cap,vs,hv,hle,hnil,hrl,hlies,_⟩:=gJ h1
  match ad,hnil,hlies,hv with
  | none,hnil,_,_=>obtain⟨rfl,_⟩:=hnil rfl;omega
  | some b,_,hlies,hv =>
   have hl:=(hlies b rfl).resolve_right (by rintro⟨h3,_⟩;omega)
   have hb:=gY hl
   refine⟨.pointer (some ⟨b.block,b.off+i.toNat*de.size,none⟩),?_,?_⟩
   ·rw[hb]at hv
    simp[execOp,ho,hv,h2,Instr.indexAt,run_underlying (f.slice hd),asIntOf,h0,fe.sizeOf,Addr.add_lit]
   unfold Rep;exact⟨_,vs.drop (i.toNat*de.size),rfl,hrl.drop _,hl.drop _⟩
def uj{t e:TypeId}{d de:TD}{x ix:Operand}{id off n cap:Nat}{k:IntKind}{i:Int}(f:ap P t d)(hd:d.sh=.slice e)(fe:ap P e de)(ho:o.op=.indexAddr t x ix)(hx:opv T x=.arr id off n cap)(hi:opv T ix=.val (.int k i))(h0:0<=i/\i<n):
  bM P B o T H (.ptr id (off+i.toNat*de.size)) H :=
 aM fun σ w a s' h=>by
  have h1:=h x (by simp[ho,Op.operands])
  have h2:=h ix (by simp[ho,Op.operands])
  rw[hx]at h1
  rw[hi]at h2
  unfold Rep at h1 h2
  obtain⟨hN,b,hb,hv⟩:=h1
  refine⟨.pointer (some ⟨b,off+i.toNat*de.size,none⟩),?_,?_⟩
  ·simp[execOp,ho,hv,h2,Instr.indexAt,run_underlying (f.slice hd),asIntOf,h0,fe.sizeOf,Addr.add_lit]
  unfold Rep;exact⟨hN,b,hb,rfl⟩
def uX{t e:TypeId}{d de:TD}{x ix:Operand}{id off n:Nat}{k:IntKind}{i:Int}(f:ap P t d)(hd:d.sh=.slice e)(fe:ap P e de)(ho:o.op=.indexAddr t x ix)(hx:opv T x=.arw id off n)(hi:opv T ix=.val (.int k i))(h0:0<=i/\i<n):
  bM P B o T H (.ptr id (off+i.toNat*de.size)) H :=
 aM fun σ w a s' h=>by
  have h1:=h x (by simp[ho,Op.operands])
  have h2:=h ix (by simp[ho,Op.operands])
  rw[hx]at h1
  rw[hi]at h2
  unfold Rep at h1 h2
  obtain⟨hN,b,cap,hb,_,hv⟩:=h1
  refine⟨.pointer (some ⟨b,off+i.toNat*de.size,none⟩),?_,?_⟩
  ·simp[execOp,ho,hv,h2,Instr.indexAt,run_underlying (f.slice hd),asIntOf,h0,fe.sizeOf,Addr.add_lit]
  unfold Rep;exact⟨hN,b,hb,rfl⟩
def uG{t e:TypeId}{d de:TD}{x ix:Operand}{id off n:Nat}{k:IntKind}{i:Int}(f:ap P t d)(hd:d.sh=.array n e)(fe:ap P e de)(ho:o.op=.indexAddr t x ix)(hx:opv T x=.ptr id off)(hi:opv T ix=.val (.int k i))(h0:0<=i/\i<n):
  bM P B o T H (.ptr id (off+i.toNat*de.size)) H :=
 aM fun σ w a s' h=>by
  have h1:=h x (by simp[ho,Op.operands])
  have h2:=h ix (by simp[ho,Op.operands])
  rw[hx]at h1
  rw[hi]at h2
  unfold Rep at h1 h2
  obtain⟨hN,b,hb,hv⟩:=h1
  refine⟨.pointer (some ⟨b,off+i.toNat*de.size,none⟩),?_,?_⟩
  ·simp[execOp,ho,hv,h2,Instr.indexAt,run_underlying (f.array hd),asIntOf,h0,fe.sizeOf,Addr.add_lit,Instr.sureAddr]
  unfold Rep;exact⟨hN,b,hb,rfl⟩
def t8{t e:TypeId}{d de:TD}{x ix:Operand}{xs:List PV}{n:Nat}{k:IntKind}{i:Int}(f:ap P t d)(hd:d.sh=.array n e)(fe:ap P e de)(ho:o.op=.indexAddr t x ix)(hx:opv T x=.row xs)(hi:opv T ix=.val (.int k i))(h0:0<=i/\i<n):
  bM P B o T H (.row (xs.drop (i.toNat*de.size))) H :=
 aM fun σ w a s' h=>by
  have h1:=h x (by simp[ho,Op.operands])
  have h2:=h ix (by simp[ho,Op.operands])
  rw[hx]at h1
  rw[hi]at h2
  unfold Rep at h1 h2
  obtain⟨b,vs,hv,hrl,hl⟩:=h1
  have hb:=gY hl
  refine⟨.pointer (some ⟨b.block,b.off+i.toNat*de.size,none⟩),?_,?_⟩
  ·rw[hb]at hv
   simp[execOp,ho,hv,h2,Instr.indexAt,run_underlying (f.array hd),asIntOf,h0,fe.sizeOf,Addr.add_lit,Instr.sureAddr]
  unfold Rep;exact⟨_,vs.drop (i.toNat*de.size),rfl,hrl.drop _,hl.drop _⟩
def sEq:List UInt8->List UInt8->Bool
 | [],[]=>true
 | x::xs,y::ys=>match Nat.beq x.toNat y.toNat with
  | true=>sEq xs ys
  | false=>false
 | _,_=>false
def ES:∀xs ys:List UInt8,sEq xs ys=true↔xs=ys
 | [],[]=>by simp[sEq]
 | [],_::_=>by simp[sEq]
 | _::_,[]=>by simp[sEq]
 | x::xs,y::ys=>by
  simp only[sEq]
  split
  ·rename_i h
   rw[Nat.beq_eq]at h
   have h':x=y:=UInt8.toNat_inj.1 h
   subst h'
   simp[ES xs ys]
  rename_i h
  have h':x≠y:=fun e=>by subst e;rw[Nat.beq_refl]at h;cases h
  simp[h']
def nc(a b:ByteArray):Bool:=sEq a.data.toList b.data.toList
def Dg(a b:ByteArray):nc a b=true↔a=b:=by
 unfold nc
 rw[ES]
 obtain⟨⟨l⟩⟩:=a
 obtain⟨⟨m⟩⟩:=b
 simp
def QJ(a b:ByteArray):nc a b=decide (a=b):=by
 by_cases h:a=b
 ·rw[(Dg a b).2 h];simp[h]
 have:nc a b=false:=Bool.eq_false_iff.2 (fun k=>h ((Dg a b).1 k))
 simp[h,this]
def uS(a b:ByteArray):(a.toList==b.toList)=nc a b:=by
 rw[ByteArray.toList_eq,ByteArray.toList_eq,Bool.eq_iff_iff,beq_iff_eq]
 unfold nc
 rw[ES]
def Fs{t yt:TypeId}{x y:Operand}{a b:ByteArray}(ho:o.op=.binOp .eql t x y yt)(hx:opv T x=.val (.string a))(hy:opv T y=.val (.string b)):bM P B o T H (.val (.bool (nc a b))) H :=
 aM fun σ w ac s h=>by
  have h1:=h x (by simp[ho,Op.operands])
  have h2:=h y (by simp[ho,Op.operands])
  rw[hx]at h1
  rw[hy]at h2
  unfold Rep at h1 h2
  refine⟨_,?_,ar _ _⟩
  rw[<-uS]
  simp[execOp,ho,h1,h2,eqGuard_at_string,binOp,Op.stringOp]
def Fr{t yt:TypeId}{x y:Operand}{a b:ByteArray}(ho:o.op=.binOp .neq t x y yt)(hx:opv T x=.val (.string a))(hy:opv T y=.val (.string b)):bM P B o T H (.val (.bool (!nc a b))) H :=
 aM fun σ w ac s h=>by
  have h1:=h x (by simp[ho,Op.operands])
  have h2:=h y (by simp[ho,Op.operands])
  rw[hx]at h1
  rw[hy]at h2
  unfold Rep at h1 h2
  refine⟨_,?_,ar _ _⟩
  rw[<-uS]
  simp[execOp,ho,h1,h2,eqGuard_at_string,binOp,Op.stringOp]
def Cg{t yt:TypeId}{d:TD}{x y:Operand}{a b:Bool}(f:ap P t d)(hd:d.sh=.bool)(ho:o.op=.binOp .eql t x y yt)(hx:opv T x=.val (.bool a))(hy:opv T y=.val (.bool b)):bM P B o T H (.val (.bool (a==b))) H :=
 aM fun σ w ac s h=>by
  have h1:=h x (by simp[ho,Op.operands])
  have h2:=h y (by simp[ho,Op.operands])
  rw[hx]at h1
  rw[hy]at h2
  unfold Rep at h1 h2
  refine⟨_,?_,ar _ _⟩
  have:=run_equalIn_bool' (P:=P) (w:=w) (Op.maxDepth-1) t a b (f.bool hd)
  simp[execOp,ho,h1,h2,eqGuard_at_bool,binOp,Op.equal]
  rw[show Op.maxDepth=Op.maxDepth-1+1 from rfl,this]
  rfl
def Ch{t yt:TypeId}{d:TD}{x y:Operand}{a b:Bool}(f:ap P t d)(hd:d.sh=.bool)(ho:o.op=.binOp .neq t x y yt)(hx:opv T x=.val (.bool a))(hy:opv T y=.val (.bool b)):bM P B o T H (.val (.bool (!(a==b)))) H :=
 aM fun σ w ac s h=>by
  have h1:=h x (by simp[ho,Op.operands])
  have h2:=h y (by simp[ho,Op.operands])
  rw[hx]at h1
  rw[hy]at h2
  unfold Rep at h1 h2
  refine⟨_,?_,ar _ _⟩
  have:=run_equalIn_bool' (P:=P) (w:=w) (Op.maxDepth-1) t a b (f.bool hd)
  simp[execOp,ho,h1,h2,eqGuard_at_bool,binOp,Op.equal]
  rw[show Op.maxDepth=Op.maxDepth-1+1 from rfl,this]
  rfl
def Fz{t yt:TypeId}{x y:Operand}{a b:ByteArray}(ho:o.op=.binOp .add t x y yt)(hx:opv T x=.val (.string a))(hy:opv T y=.val (.string b))(hb:a.size+b.size<=9223372036854775807):bM P B o T H (.val (.string (a++b))) H :=
 aM fun σ w ac s h=>by
  have h1:=h x (by simp[ho,Op.operands])
  have h2:=h y (by simp[ho,Op.operands])
  rw[hx]at h1
  rw[hy]at h2
  unfold Rep at h1 h2
  refine⟨_,?_,ar _ _⟩
  have hb':¬(9223372036854775807<(a.size:Int)+(b.size:Int)):=by omega
  simp[execOp,ho,h1,h2,eqGuard_at_string,binOp,Op.stringOp,hb']
def uN(s:ByteArray)(j:Nat):Int:=((s.data.toList.getD j 0).toNat:Int)
def zN{t:TypeId}{d:TD}{x ix:Operand}{s:ByteArray}{k:IntKind}{i:Int}(f:ap P t d)(hd:d.sh=.str)(ho:o.op=.index t x ix)(hx:opv T x=.val (.string s))(hi:opv T ix=.val (.int k i))(h0:0<=i/\i<s.size):
  bM P B o T H (.val (.int .u8 (uN s i.toNat))) H :=
 aM fun σ w a s' h=>by
  have h1:=h x (by simp[ho,Op.operands])
  have h2:=h ix (by simp[ho,Op.operands])
  rw[hx]at h1
  rw[hi]at h2
  unfold Rep at h1 h2
  have hlt:i.toNat<s.size:=by omega
  have hg:s[i.toNat]?=some s[i.toNat]:=by rw[getElem?_pos s i.toNat hlt]
  refine⟨_,?_,ar _ _⟩
  simp only[execOp,ho,h1,h2,Instr.index,run_underlying (f.str hd),asIntOf,h0,Sem.run_bind,Sem.run_pure,Result.andThen_ok,if_true,hg]
  have e:uN s i.toNat=((s[i.toNat]).toNat:Int):=by
   unfold uN
   have:s.data.toList.getD i.toNat 0=s[i.toNat]:=by
    have hl:i.toNat<s.data.toList.length:=by rw[Array.length_toList];exact hlt
    rw[List.getD_eq_getElem?_getD,List.getElem?_eq_getElem hl];rfl
   rw[this]
  rw[e]
def Ay{t e:TypeId}{d de:TD}{x ix:Operand}{cs:List PV}{n:Nat}{k:IntKind}{i:Int}{r:PV}(f:ap P t d)(hd:d.sh=.array n e)(fe:ap P e de)(ha:de.agg=false)(ho:o.op=.index t x ix)(hx:opv T x=.agg cs)(hi:opv T ix=.val (.int k i))(h0:0<=i/\i<n)(hr:cs[i.toNat*de.size]?=some r):
  bM P B o T H r H :=
 aM fun σ w a s' h=>by
  have h1:=h x (by simp[ho,Op.operands])
  have h2:=h ix (by simp[ho,Op.operands])
  rw[hx]at h1
  rw[hi]at h2
  unfold Rep at h1 h2
  obtain⟨vs,hv,hrl⟩:=h1
  obtain⟨u,hu,hru⟩:=hrl.get hr
  refine⟨u,?_,hru⟩
  simp[execOp,ho,hv,h2,Instr.index,run_underlying (f.array hd),asIntOf,h0,fe.sizeOf,part,fe.isAgg,ha,hu]
def lJ(T:Nat->PV)(y:Option Operand)(dflt v:Nat):Prop:=match y with
 | none=>v=dflt
 | some z=>∃k i,opv T z=.val (.int k i)/\0<=i/\v=i.toNat
def tL{c:Cx}{a:Act}{z:Operand}{dflt v y:Nat}{code:BoundsCode}(h:lJ T (some z) dflt v)(hr:Rep c (opv T z) (a.eval z))(hy:v<=y)(P:Program)(w:World):(Instr.sliceBound (a.eval z) y code).run P w=.ok v w:=by
 obtain⟨k,i,h1,h2,rfl⟩:=h
 rw[h1]at hr
 unfold Rep at hr
 rw[hr]
 have:0<=i/\i<=y:=by omega
 simp[Instr.sliceBound,asIntOf,this]
def oe{c:Cx}{a:Act}{lo hi mx:Option Operand}{n cap l hh:Nat}{m:Nat}{b:Bool}(hr:∀z,(lo=some z\/hi=some z\/mx=some z)->Rep c (opv T z) (a.eval z))(h1:lJ T lo 0 l)(h2:lJ T hi n hh)(h3:lJ T mx cap m)(hmx:mx.isSome=true->hi.isSome=true)(e1:l<=hh)(e2:hh<=m)(e3:m<=cap)(hn:n<=cap)(P:Program)(w:World):
  (Instr.sliceBounds b n cap (lo.map a.eval) (hi.map a.eval) (mx.map a.eval)).run P w=.ok (l,hh,m) w:=by
 unfold Instr.sliceBounds
 cases mx with
 | none =>
  have h3':m=cap:=h3
  subst h3'
  cases hi with
  | none =>
   have h2':hh=n:=h2
   subst h2'
   cases lo with
   | none=>have h1':l=0:=h1;subst h1';simp
   | some z=>simp[tL (code:=.sliceB) h1 (hr z (by simp)) e1]
  | some y =>
   have k2:=fun code=>tL (code:=code) h2 (hr y (by simp)) e2 P w
   cases lo with
   | none=>have h1':l=0:=h1;subst h1';simp[k2]
   | some z=>simp[k2,tL (code:=.sliceB) h1 (hr z (by simp)) e1]
 | some x =>
  have k3:=fun code=>tL (code:=code) h3 (hr x (by simp)) e3 P w
  cases hi with
  | none=>simp at hmx
  | some y =>
   have k2:=fun code=>tL (code:=code) h2 (hr y (by simp)) e2 P w
   cases lo with
   | none=>have h1':l=0:=h1;subst h1';simp[k3,k2]
   | some z=>simp[k3,k2,tL (code:=.slice3C) h1 (hr z (by simp)) e1]
def AF{t e:TypeId}{d de:TD}{x:Operand}{lo hi mx:Option Operand}{n l hh:Nat}{xs:List PV}{s:SK}(f:ap P t d)(hd:d.sh=.slice e)(fe:ap P e de)(ho:o.op=.slice t x lo hi mx)(hx:opv T x=.seq n xs s)
  (h1:lJ T lo 0 l) (h2:lJ T hi n hh) (hm:mx=none) (e1:l<=hh) (e2:hh<=n) :
  bM P B o T H (.seq (hh-l) ((xs.drop (l*de.size)).take ((hh-l)*de.size)) .any) H :=
 aM fun σ w a s' h=>by
  have k1:=h x (by simp[ho,Op.operands])
  rw[hx]at k1
  obtain⟨ad,cap,vs,hv,hle,hnil,hrl,hlies,_⟩:=gJ k1
  subst hm
  have kb:=oe (P:=P) (w:=w) (a:=a) (cap:=cap) (b:=true) (m:=cap) (mx:=none) (c:=cx B H σ w) (fun z hz=>h z (by
   rcases hz with rfl|rfl|hz
   ·simp[ho,Op.operands]
   ·simp[ho,Op.operands]
   cases hz)) h1 h2 rfl (by simp) e1 (by omega) (Nat.le_refl _) hle
  refine⟨.slice (if cap=l then ad else ad.map (·.add (l*de.size))) (hh-l) (cap-l),?_,?_⟩
  ·simp only[Option.map_none]at kb
   simp[execOp,ho,hv,Instr.sliceAt,run_underlying (f.slice hd),Instr.slice,kb,fe.sizeOf]
  unfold Rep
  refine⟨_,_,(vs.drop (l*de.size)).take ((hh-l)*de.size),rfl,by omega,?_,(hrl.drop _).take _,?_,trivial⟩
  ·intro hn
   split at hn
   ·rename_i hcl
    have:=hnil hn
    rw[this.2.2];simp;omega
   cases ad with
   | none=>have:=hnil rfl;rw[this.2.2];simp;omega
   | some b=>cases hn
  intro b hb
  split at hb
  ·rename_i hcl
   have h0:hh-l=0:=by omega
   rw[h0]
   simp only[Nat.zero_mul,List.take_zero]
   exact .inr (by simp<;>omega)
  cases ad with
  | none=>cases hb
  | some b' =>
   have hl:=(hlies b' rfl).resolve_right (by rintro⟨h3,_⟩;omega)
   have hb':=gY hl
   simp only[Option.map_some,Option.some.injEq]at hb
   subst hb
   rw[hb',Addr.add_lit]
   exact .inl ((hl.drop (l*de.size)).take _)
def yH{t e:TypeId}{d de:TD}{x y z:Operand}{lo:Option Operand}{n l hh:Nat}{xs:List PV}{s:SK}(f:ap P t d)(hd:d.sh=.slice e)(fe:ap P e de)(ho:o.op=.slice t x lo (some y) (some z))(hx:opv T x=.seq n xs s)
  (h1:lJ T lo 0 l) (h2:lJ T (some y) n hh) (h3:lJ T (some z) n hh) (e1:l<=hh) (e2:hh<=n) :
  bM P B o T H (.seq (hh-l) ((xs.drop (l*de.size)).take ((hh-l)*de.size)) .clip) H :=
 aM fun σ w a s' h=>by
  have k1:=h x (by simp[ho,Op.operands])
  rw[hx]at k1
  obtain⟨ad,cap,vs,hv,hle,hnil,hrl,hlies,_⟩:=gJ k1
  have h3':lJ T (some z) cap hh:=h3
  have kb:=oe (P:=P) (w:=w) (a:=a) (n:=n) (cap:=cap) (b:=true) (m:=hh) (mx:=some z) (hi:=some y) (lo:=lo) (c:=cx B H σ w) (fun q hq=>h q (by
   rcases hq with rfl|hq|hq
   ·simp[ho,Op.operands]
   ·cases hq;simp[ho,Op.operands]
   cases hq;simp[ho,Op.operands])) h1 h2 h3' (by simp) e1 (Nat.le_refl _) (by omega) hle
  refine⟨.slice (if hh=l then ad else ad.map (·.add (l*de.size))) (hh-l) (hh-l),?_,?_⟩
  ·simp only[Option.map_some]at kb
   simp[execOp,ho,hv,Instr.sliceAt,run_underlying (f.slice hd),Instr.slice,kb,fe.sizeOf]
  unfold Rep
  refine⟨_,_,(vs.drop (l*de.size)).take ((hh-l)*de.size),rfl,by omega,?_,(hrl.drop _).take _,?_,rfl⟩
  ·intro hn
   split at hn
   ·rename_i hcl
    have:=hnil hn
    rw[this.2.2];simp;omega
   cases ad with
   | none=>have:=hnil rfl;rw[this.2.2];simp;omega
   | some b=>cases hn
  intro b hb
  split at hb
  ·rename_i hcl
   have h0:hh-l=0:=by omega
   rw[h0]
   simp only[Nat.zero_mul,List.take_zero]
   exact .inr (by simp<;>omega)
  cases ad with
  | none=>cases hb
  | some b' =>
   have hl:=(hlies b' rfl).resolve_right (by rintro⟨h3,_⟩;omega)
   have hb':=gY hl
   simp only[Option.map_some,Option.some.injEq]at hb
   subst hb
   rw[hb',Addr.add_lit]
   exact .inl ((hl.drop (l*de.size)).take _)
def zw{t:TypeId}{d:TD}{x:Operand}{lo hi:Option Operand}{l hh:Nat}{s:ByteArray}(f:ap P t d)(hd:d.sh=.str)(ho:o.op=.slice t x lo hi none)(hx:opv T x=.val (.string s))
  (h1:lJ T lo 0 l) (h2:lJ T hi s.size hh) (e1:l<=hh) (e2:hh<=s.size) :
  bM P B o T H (.val (.string (s.extract l hh))) H :=
 aM fun σ w a s' h=>by
  have k1:=h x (by simp[ho,Op.operands])
  rw[hx]at k1
  unfold Rep at k1
  have kb:=oe (P:=P) (w:=w) (a:=a) (n:=s.size) (cap:=s.size) (b:=false) (m:=s.size) (mx:=none) (c:=cx B H σ w) (fun z hz=>h z (by
   rcases hz with rfl|rfl|hz
   ·simp[ho,Op.operands]
   ·simp[ho,Op.operands]
   cases hz)) h1 h2 rfl (by simp) e1 e2 (Nat.le_refl _) (Nat.le_refl _)
  refine⟨_,?_,ar _ _⟩
  simp only[Option.map_none]at kb
  simp[execOp,ho,k1,Instr.sliceAt,run_underlying (f.str hd),Instr.slice,kb]
def BC{t e:TypeId}{d de:TD}{x:Operand}{id off n:Nat}(f:ap P t d)(hd:d.sh=.array n e)(fe:ap P e de)(ho:o.op=.slice t x none none none)(hx:opv T x=.ptr id off):
  bM P B o T H (.arr id off n n) H :=
 aM fun σ w a s' h=>by
  have k1:=h x (by simp[ho,Op.operands])
  rw[hx]at k1
  unfold Rep at k1
  obtain⟨hN,b,hb,hv⟩:=k1
  refine⟨.slice (some ⟨b,off,none⟩) n n,?_,by unfold Rep;exact⟨hN,b,hb,rfl⟩⟩
  simp[execOp,ho,hv,Instr.sliceAt,run_underlying (f.array hd),Instr.sliceBounds,Instr.sureAddr,fe.sizeOf,Addr.add_lit]
def Bc{t e:TypeId}{d de:TD}{x:Operand}{lo hi:Option Operand}{id off n cap l hh:Nat}(f:ap P t d)(hd:d.sh=.slice e)(fe:ap P e de)(ho:o.op=.slice t x lo hi none)(hx:opv T x=.arr id off n cap)
  (h1:lJ T lo 0 l) (h2:lJ T hi n hh) (e1:l<=hh) (e2:hh<=n) (e3:n<=cap) :
  bM P B o T H (.arr id (if cap=l then off else off+l*de.size) (hh-l) (cap-l)) H :=
 aM fun σ w a s' h=>by
  have k1:=h x (by simp[ho,Op.operands])
  rw[hx]at k1
  unfold Rep at k1
  obtain⟨hN,b,hb,hv⟩:=k1
  have kb:=oe (P:=P) (w:=w) (a:=a) (n:=n) (cap:=cap) (b:=true) (m:=cap) (mx:=none) (c:=cx B H σ w) (fun z hz=>h z (by
   rcases hz with rfl|rfl|hz
   ·simp[ho,Op.operands]
   ·simp[ho,Op.operands]
   cases hz)) h1 h2 rfl (by simp) e1 (by omega) (Nat.le_refl _) e3
  simp only[Option.map_none]at kb
  refine⟨.slice (some ⟨b,if cap=l then off else off+l*de.size,none⟩) (hh-l) (cap-l),?_,by unfold Rep;exact⟨hN,b,hb,rfl⟩⟩
  simp[execOp,ho,hv,Instr.sliceAt,run_underlying (f.slice hd),Instr.slice,kb,fe.sizeOf,Addr.add_lit]
  split<;>rfl
def xk{src dst:TypeId}{ds dd:TD}{x:Operand}{k k':IntKind}{i:Int}(f:ap P src ds)(g:ap P dst dd)(hd:dd.sh=.int k)(ho:o.op=.convert src dst x)(hx:opv T x=.val (.int k' i)):bM P B o T H (.val (.int k (k.wrap i))) H :=
 aM fun σ w a s' h=>by
  have k1:=h x (by simp[ho,Op.operands])
  rw[hx]at k1
  unfold Rep at k1
  obtain⟨u,hu,_⟩:=f.under
  refine⟨_,?_,ar _ _⟩
  simp[execOp,ho,k1,convert,run_underlying hu,run_underlying (g.int hd),Conv.intToInt]
def xl{src dst:TypeId}{ds dd:TD}{x:Operand}{s:ByteArray}(f:ap P src ds)(g:ap P dst dd)(hd:dd.sh=.str)(ho:o.op=.convert src dst x)(hx:opv T x=.val (.string s)):bM P B o T H (.val (.string s)) H :=
 aM fun σ w a s' h=>by
  have k1:=h x (by simp[ho,Op.operands])
  rw[hx]at k1
  unfold Rep at k1
  obtain⟨u,hu,_⟩:=f.under
  refine⟨_,?_,ar _ _⟩
  simp[execOp,ho,k1,convert,run_underlying hu,run_underlying (g.str hd)]
def kH(z:Int):PV:=.val (.int .u8 z)
def qS{c:Cx}:∀{zs:List Int} {vs:List Value},au c (zs.map kH) vs->vs=zs.map (Value.int .u8)
 | [],vs,h=>by rw[List.map_nil,aG]at h;exact h
 | z::zs,[],h=>by rw[List.map_cons]at h;unfold au at h;obtain⟨u,us,h1,_⟩:=h;cases h1
 | z::zs,v::vs,h=>by
  rw[List.map_cons,af]at h
  have h1:=h.1
  unfold kH Rep at h1
  rw[h1,qS h.2];rfl
def qA{w:World}(src e:TypeId)(hs:P.underlying src=some (.slice e))(he:P.underlying e=some (.int .u8))(b:Addr)(c:Nat)(dst:TypeId)(hd:P.underlying dst=some .string):
  (convert src dst (.slice (some b) 0 c)).run P w=.ok (.string (strOfNums [])) w:=by
 have hl:(loadCells b 0).run P w=.ok (([]:List Int).map (Value.int .u8)).toArray w:=by
  simpa using run_loadCells_list (P:=P) w b [] (fun j v hj=>by simp at hj)
 rw[run_convert_bytes_string w src dst e _ 0 c hs he hd,run_bytesToString w _ 0 c [] hl]
 rfl
def tZ{src dst e:TypeId}(hs:P.underlying src=some (.slice e))(he:P.underlying e=some (.int .u8))(hd:P.underlying dst=some .string)(a:Option Addr)(zs:List Int)(cap:Nat)(w:World)(hc:∀b,a=some b->(b.spot=none/\∀j,j<zs.length->w.cell? ⟨b.block,b.off+j,none⟩=some (.int .u8 (zs.getD j 0)))\/zs=[])(hn:a=none->zs=[]/\cap=0):
  (convert src dst (.slice a zs.length cap)).run P w=.ok (.string (strOfNums zs)) w:=by
 cases a with
 | none =>
  obtain⟨rfl,rfl⟩:=hn rfl
  exact run_convert_bytes_nil (w:=w) src e hs he 0 0 dst hd
 | some b =>
  rcases hc b rfl with ⟨h1,h2⟩|rfl
  case inr=>exact qA (w:=w) src e hs he b cap dst hd
  have hb:b=⟨b.block,b.off,none⟩:=by cases b;simp only at h1;subst h1;rfl
  rw[hb]
  exact run_convert_bytes_arg w src e hs he b.block b.off zs.length cap zs rfl h2 dst hd
def ua{src dst e:TypeId}{ds dd de:TD}{x:Operand}{n:Nat}{zs:List Int}{s:SK}(f:ap P src ds)(hs:ds.sh=.slice e)(fe:ap P e de)(he:de.sh=.int .u8)(g:ap P dst dd)(hd:dd.sh=.str)(ho:o.op=.convert src dst x)(hx:opv T x=.seq n (zs.map kH) s)(hn:zs.length=n):
  bM P B o T H (.val (.string (strOfNums zs))) H :=
 aM fun σ w a s' h=>by
  have k1:=h x (by simp[ho,Op.operands])
  rw[hx]at k1
  obtain⟨ad,cap,vs,hv,hle,hnil,hrl,hlies,_⟩:=gJ k1
  have hvs:=qS hrl
  subst hn
  refine⟨_,?_,ar _ _⟩
  have:=tZ (P:=P) (f.slice hs) (fe.int he) (g.str hd) ad zs cap w (fun b hb=>(hlies b hb).imp (fun hl=>⟨hl.1,fun j hj=>(hl.2 j _ (by rw[hvs,List.getElem?_map,List.getElem?_eq_getElem hj];simp[List.getD,hj])).1⟩) (fun⟨_,h3⟩=>by rw[hvs]at h3;simpa using h3)) (fun h0=>by
   obtain⟨h1,h2,h3⟩:=hnil h0
   exact⟨List.eq_nil_of_length_eq_zero h1,h2⟩)
  simp[execOp,ho,hv,this]
def w5{src dst e:TypeId}{ds dd de:TD}{x:Operand}{id off n:Nat}{xs:List PV}{et:TypeId}{zs:List Int}(f:ap P src ds)(hs:ds.sh=.slice e)(fe:ap P e de)(he:de.sh=.int .u8)(g:ap P dst dd)(hd:dd.sh=.str)(ho:o.op=.convert src dst x)(hx:opv T x=.arw id off n)(hi:H[id]?=some (.cells xs et))(hz:(xs.drop off).take n=zs.map kH)(hn:zs.length=n):
  bM P B o T H (.val (.string (strOfNums zs))) H :=
 aM fun σ w a s' h=>by
  have k1:=h x (by simp[ho,Op.operands])
  rw[hx]at k1
  unfold Rep at k1
  obtain⟨hN,b,cap,hb,_,hv⟩:=k1
  obtain⟨b',vs0,fr,hb',hv',_,vs,q,rfl,hrl⟩:=s'.holds id _ hi
  simp only[cx]at hb hb' hv'
  rw[hb]at hb'
  cases hb'
  have hrl':=(hrl.drop off).take n
  rw[hz]at hrl'
  have hvs:=qS hrl'
  subst hn
  refine⟨_,?_,ar _ _⟩
  have:=tZ (P:=P) (f.slice hs) (fe.int he) (g.str hd) (some ⟨b,off,none⟩) zs cap w (fun b1 hb1=>by
   cases hb1
   refine .inl ⟨rfl,fun j hj=>?_⟩
   rw[fa hv']
   refine v6 ?_
   have:((vs.drop off).take zs.length)[j]?=some (.int .u8 (zs.getD j 0)):=by rw[hvs,List.getElem?_map,List.getElem?_eq_getElem hj];simp[List.getD,hj]
   rw[List.getElem?_take,if_pos hj,List.getElem?_drop]at this
   exact this) (fun h0=>by cases h0)
  simp[execOp,ho,hv,this]
def sU{src dst e:TypeId}{ds dd de:TD}{x:Operand}{s:ByteArray}(f:ap P src ds)(hs:ds.sh=.str)(g:ap P dst dd)(hd:dd.sh=.slice e)(fe:ap P e de)(he:de.sh=.int .u8)(ho:o.op=.convert src dst x)(hx:opv T x=.val (.string s)):
  bM P B o T H (.seq s.size (s.data.toList.map fun b=>kH b.toNat) .any) H:=by
 intro σ w a s' h
 have k1:=h x (by simp[ho,Op.operands])
 rw[hx]at k1
 unfold Rep at k1
 have hr:=run_bytes_of_string w src dst e s (f.str hs) (g.slice hd) (fe.int he)
 have gr:bj w (w.drew.alloc (.cells (bytesRow s (grownCap w s.size 0 e)) e ((bytesRow s (grownCap w s.size 0 e)).size,(bytesRow s (grownCap w s.size 0 e)).size+1))):=(bj.drew w).trans (bj.alloc _ _)
 obtain⟨s2,st⟩:=gU s' gr
 refine⟨_,_,σ,.inl (by simp[execOp,ho,k1,hr];rfl),?_,s2,st⟩
 unfold Rep
 have hlen:(s.data.toList.map fun b=>Value.int .u8 b.toNat).length=s.size:=by rw[List.length_map,Array.length_toList];rfl
 refine⟨_,_,s.data.toList.map (fun b=>Value.int .u8 b.toNat),rfl,grownCap_ge _ _ _ _,(fun h=>by cases h),?_,?_,trivial⟩
 ·generalize s.data.toList=l
  induction l with
  | nil=>exact aG.2 rfl
  | cons x l ih=>exact af.2 ⟨ar _ _,ih⟩
 intro b hb
 cases hb
 refine .inl ⟨rfl,fun j u hj=>⟨?_,?_⟩⟩
 ·have hjl:j<s.size:=by rw[<-hlen];exact cM hj
  show(World.alloc w.drew _).cell? ⟨w.heap.size,0+j,none⟩=_
  rw[oG _ _ _ _ _ _ (by simp),Nat.zero_add]
  simp only[bytesRow]
  rw[Array.getElem?_append_left (by simpa using hjl)]
  simpa using hj
 rintro(h|⟨i,oi,h1,h2,h3⟩)
 ·exact absurd (s'.base _ _ h) (by simp)
 have hl:oi.live=true:=by cases oi<;>first|rfl|cases h3
 have:=(s'.holds i oi h1).lt hl h2
 simp[cx]at this
def uI{src dst e:TypeId}{ds dd de:TD}{x:Operand}{s:ByteArray}(f:ap P src ds)(hs:ds.sh=.str)(g:ap P dst dd)(hd:dd.sh=.slice e)(fe:ap P e de)(he:de.sh=.int .u8)(ho:o.op=.convert src dst x)(hx:opv T x=.val (.string s)):
  bM P B o T H (.arw H.length 0 s.size) (H++[.cells (s.data.toList.map fun b=>kH b.toNat) e]):=by
 intro σ w a s' h
 have k1:=h x (by simp[ho,Op.operands])
 rw[hx]at k1
 unfold Rep at k1
 have hr:=run_bytes_of_string w src dst e s (f.str hs) (g.slice hd) (fe.int he)
 have gr:bj w (w.drew.alloc (.cells (bytesRow s (grownCap w s.size 0 e)) e ((bytesRow s (grownCap w s.size 0 e)).size,(bytesRow s (grownCap w s.size 0 e)).size+1))):=(bj.drew w).trans (bj.alloc _ _)
 have hcl:∀c,au c (s.data.toList.map fun b=>kH b.toNat) (s.data.toList.map fun b=>Value.int .u8 b.toNat):=by
  intro c
  generalize s.data.toList=l
  induction l with
  | nil=>exact aG.2 rfl
  | cons x l ih=>exact af.2 ⟨ar _ _,ih⟩
 obtain⟨s2,st⟩:=fv s' gr (.cells (s.data.toList.map fun b=>kH b.toNat) e) (some w.heap.size) (fun b hb=>by cases hb;exact Nat.le_refl _) (by
  refine⟨w.heap.size,(bytesRow s (grownCap w s.size 0 e)).toList,((bytesRow s (grownCap w s.size 0 e)).size,(bytesRow s (grownCap w s.size 0 e)).size+1),by simp only[cx];rw[bx],?_,?_,?_⟩
  ·show(w.heap.push _)[w.heap.size]?=_
   rw[Array.toArray_toList];simp
  ·exact .inr (by simp)
  refine⟨_,(bytesRow s (grownCap w s.size 0 e)).toList.drop s.size,?_,hcl _⟩
  have e1:(bytesRow s (grownCap w s.size 0 e)).toList.take s.size=s.data.toList.map fun b=>Value.int .u8 b.toNat:=by
   have hsz:s.size=s.data.toList.length:=by rw[Array.length_toList];rfl
   simp only[bytesRow,Array.toList_append,Array.toList_map]
   rw[List.take_append_of_le_length (by rw[List.length_map];exact Nat.le_of_eq hsz),List.take_of_length_le (by rw[List.length_map];exact Nat.le_of_eq hsz.symm)]
  rw[<-e1,List.take_append_drop])
 refine⟨_,_,_,.inl (by simp[execOp,ho,k1,hr];rfl),?_,s2,st⟩
 unfold Rep
 exact⟨by simp[cx],w.heap.size,_,by simp only[cx];rw[bx],grownCap_ge _ _ _ _,rfl⟩
end
end Go.Proofs.YtjcminooghmpeaaGreatDoor
