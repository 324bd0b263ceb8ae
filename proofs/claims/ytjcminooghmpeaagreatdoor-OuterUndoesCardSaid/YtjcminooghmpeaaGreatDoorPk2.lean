import Derived.Carry
import Derived.Ground.Names2Prog
import Derived.Ground.SlbCloneProg
import Derived.Ground.SlgnProg
import Derived.Laws.Externs
import Derived.Lib.MakeNoZero
import Derived.LoopN
import Derived.Shelf.Bits.Mul64
import Derived.Shelf.Bytes.SlClone
import Derived.Shelf.Slices.Clone
import Derived.Shelf.Slices.Turned
import Derived.Shelf.SlicesE.Clone
import Derived.Shelf.Small.Bits
import Derived.Shelf.Small.Strs
import Derived.Shelf.Small.Wraps
import Derived.Shelf.Strconv.Itoa0
import Derived.Shelf.Strings.Builder1
import Derived.Shelf.Strings.Builder2
import Derived.Shelf.Strings.Builder2Cap
import Derived.Shelf.Strings.BuilderCap
import Derived.Shelf.Strings.BuilderF
import Derived.Shelf.Strings.BuilderK
import Derived.Shelf.Strings.Prefix
import Derived.Shelf.Strings.Repeat
import Derived.Shelf.Strings.Search1
import Derived.Test.YtjcminooghmpeaaGreatDoorPk1
set_option linter.all false
set_option maxRecDepth 100000
set_option maxHeartbeats 40000000
open Go.Proofs.Tryz
namespace Go.Proofs.YtjcminooghmpeaaGreatDoor
open Go.RowKit
def St:List (Nat×PV)->Nat->PV
 | [],_=>.any
 | (i,x)::l,j=>match Nat.beq j i with
  | true=>x
  | false=>St l j
def nm(b:Nat)(is:List Nat)(t:Nat):Nat:=match Nat.blt t b with
 | true=>t
 | false=>is.getD (t-b) 0
def y5(b:Nat)(is:List Nat):PV->PV
 | .ptr i off=>.ptr (nm b is i) off
 | x=>x
def Iq(b:Nat)(is:List Nat):PV->PV
 | .ptr i off=>.ptr (nm b is i) off
 | .arr i off n cap=>.arr (nm b is i) off n cap
 | .arw i off n=>.arw (nm b is i) off n
 | .seq n xs (.own t k)=>.seq n xs (.own (nm b is t) k)
 | .fn f a c=>.fn f (a.map (y5 b is)) (c.map (y5 b is))
 | x=>x
def NL1(N:Nat):PV->Prop
 | .ptr i _=>i<N
 | x=>aQ x
def qe(N:Nat):List PV->Prop
 | []=>True
 | x::xs=>NL1 N x/\qe N xs
def NL(N:Nat):PV->Prop
 | .ptr i _=>i<N
 | .arr i _ _ _=>i<N
 | .arw i _ _=>i<N
 | .seq _ xs (.own t _)=>t<N/\aG xs
 | .fn _ a c=>qe N a/\qe N c
 | x=>aQ x
def NLs(N:Nat):List (Nat×PV)->Prop
 | []=>True
 | (_,x)::l=>NL N x/\NLs N l
def NLo(b:Nat):List Ob->Prop
 | []=>True
 | .cells xs _::l=>qe b xs/\NLo b l
 | .smap _ xs::l=>qe b xs/\NLo b l
 | _::l=>NLo b l
def mf:List Ob->List Ob->Prop
 | _,[]=>True
 | [],_::_=>False
 | o::H,o'::Hb=>(o'=o\/o'=.dead)/\mf H Hb
def ReX(H:List Ob):List Nat->List Ob->Prop
 | [],[]=>True
 | k::is,o::Hx=>H[k]?=some o/\ReX H is Hx
 | _,_=>False
def vH(Hb:List Ob)(b:Nat):List Nat->Prop
 | []=>True
 | k::is=>(b<=k\/Hb[k]?=some .dead)/\vH Hb b is
def IW(b:Nat)(is:List Nat)(T:Nat->PV):List (Nat×PV)->Prop
 | []=>True
 | (i,x)::l=>Imp (T i) (Iq b is x)/\IW b is T l
def reσ(b:Nat)(is:List Nat)(σ:Nat->Option Nat):Nat->Option Nat:=fun i=>match Nat.blt i b with
 | true=>σ i
 | false=>match is[i-b]? with
  | some k=>σ k
  | none=>none
structure Re (H Hb Hx:List Ob) (is:List Nat):Prop where
 base:mf H Hb
 extra:ReX H is Hx
 nodup:is.Nodup
 moved:vH Hb Hb.length is
 cont:NLo Hb.length (Hb++Hx)
section
variable {P : Program} {B : Nat -> Nat -> Prop} {T : Nat -> PV} {H Hb Hx : List Ob} {is : List Nat} {σ : Nat -> Option Nat} {w : World}
def mf.get:∀{H Hb:List Ob} (_:mf H Hb) {i:Nat} {o:Ob},Hb[i]?=some o->H[i]?=some o\/o=.dead
 | _,[],_,i,o,h=>by simp at h
 | [],_::_,r,_,_,_=>r.elim
 | x::H,y::Hb,r,0,o,h=>by
  simp at h;subst h
  rcases r.1 with h|h
  ·exact .inl (by simp[h])
  exact .inr h
 | x::H,y::Hb,r,i+1,o,h=>by simpa using mf.get r.2 (by simpa using h)
def mf.le:∀{H Hb:List Ob} (_:mf H Hb),Hb.length<=H.length
 | _,[],_=>by simp
 | [],_::_,r=>r.elim
 | x::H,y::Hb,r=>by simpa using mf.le r.2
def ReX.len:∀{is:List Nat} {Hx:List Ob} (_:ReX H is Hx),Hx.length=is.length
 | [],[],_=>rfl
 | k::is,o::Hx,r=>by simpa using ReX.len r.2
 | [],_::_,r=>r.elim
 | _::_,[],r=>r.elim
def ReX.get:∀{is:List Nat} {Hx:List Ob} (_:ReX H is Hx) {j:Nat} {o:Ob},Hx[j]?=some o->∃k,is[j]?=some k/\H[k]?=some o
 | [],[],_,j,o,h=>by simp at h
 | k::is,x::Hx,r,0,o,h=>by simp at h;subst h;exact⟨k,rfl,r.1⟩
 | k::is,x::Hx,r,j+1,o,h=>by simpa using ReX.get r.2 (by simpa using h)
 | [],_::_,r,_,_,_=>r.elim
 | _::_,[],r,_,_,_=>r.elim
def vH.get:∀{is:List Nat} {b:Nat} (_:vH Hb b is) {k:Nat},k∈is->b<=k\/Hb[k]?=some .dead
 | [],_,_,k,h=>by simp at h
 | x::is,b,r,k,h=>by
  rcases List.mem_cons.1 h with rfl|h
  ·exact r.1
  exact vH.get r.2 h
def Iv{b i:Nat}(h:i<b):reσ b is σ i=σ i:=by unfold reσ;rw[show Nat.blt i b=true from by rw[Nat.blt_eq];exact h]
def RT{b j:Nat}:reσ b is σ (b+j)=match is[j]? with|some k=>σ k|none=>none:=by
 unfold reσ
 rw[show Nat.blt (b+j) b=false from by rw[<-Bool.not_eq_true,Nat.blt_eq];omega]
 simp
def qF(r:Re H Hb Hx is){i:Nat}{o:Ob}(h:(Hb++Hx)[i]?=some o)(hl:o.live=true):
  ∃k,H[k]?=some o/\reσ Hb.length is σ i=σ k/\((i<Hb.length/\k=i)\/∃j,i=Hb.length+j/\is[j]?=some k):=by
 rcases Nat.lt_or_ge i Hb.length with h1|h1
 ·rw[List.getElem?_append_left h1]at h
  rcases r.base.get h with h2|rfl
  ·exact⟨i,h2,Iv h1,.inl ⟨h1,rfl⟩⟩
  cases hl
 obtain⟨j,rfl⟩:∃j,i=Hb.length+j:=⟨i-Hb.length,by omega⟩
 rw[List.getElem?_append_right h1,Nat.add_sub_cancel_left]at h
 obtain⟨k,h2,h3⟩:=r.extra.get h
 exact⟨k,h3,by rw[RT,h2],.inr ⟨j,rfl,h2⟩⟩
def aq5(r:Re H Hb Hx is){b' off:Nat}(h:j8 (reσ Hb.length is σ) (Hb++Hx) b' off):j8 σ H b' off:=by
 obtain⟨i,oi,h1,h2,h3⟩:=h
 have hl:oi.live=true:=by cases oi<;>first|rfl|cases h3
 obtain⟨k,h4,h5,_⟩:=qF (σ:=σ) r h1 hl
 exact⟨k,oi,h4,by rw[<-h5];exact h2,h3⟩
def tU(r:Re H Hb Hx is):∀b' off,(cx B (Hb++Hx) (reσ Hb.length is σ) w).Wr b' off->(cx B H σ w).Wr b' off
 | _,_,.inl h=>.inl h
 | _,_,.inr h=>.inr (aq5 r h)
def yh(r:Re H Hb Hx is){i:Nat}(hi:i<(Hb++Hx).length):reσ Hb.length is σ i=σ (nm Hb.length is i):=by
 unfold nm
 rcases Nat.lt_or_ge i Hb.length with h1|h1
 ·rw[Iv h1,show Nat.blt i Hb.length=true from by rw[Nat.blt_eq];exact h1]
 obtain⟨j,rfl⟩:∃j,i=Hb.length+j:=⟨i-Hb.length,by omega⟩
 rw[RT,show Nat.blt (Hb.length+j) Hb.length=false from by rw[<-Bool.not_eq_true,Nat.blt_eq];omega]
 have hj:j<is.length:=by rw[List.length_append,r.extra.len]at hi;omega
 simp[List.getD,hj]
def R5(r:Re H Hb Hx is){x:PV}{v:Value}(hn:NL (Hb++Hx).length x)(h:Rep (cx B H σ w) (Iq Hb.length is x) v):Rep (cx B (Hb++Hx) (reσ Hb.length is σ) w) x v:=by
 have flat:∀{x v},aQ x->Rep (cx B H σ w) x v->Rep (cx B (Hb++Hx) (reσ Hb.length is σ) w) x v:=fun hf hr=>nU (c:=cx B H σ w) (c':=cx B (Hb++Hx) (reσ Hb.length is σ) w) rfl (tU r) hf hr
 have ptr:∀{i off v},i<(Hb++Hx).length->Rep (cx B H σ w) (.ptr (nm Hb.length is i) off) v->Rep (cx B (Hb++Hx) (reσ Hb.length is σ) w) (.ptr i off) v:=by
  intro i off v hi hr
  unfold Rep at hr ⊢
  obtain⟨_,b,h1,h2⟩:=hr
  exact⟨hi,b,(yh r hi).trans h1,h2⟩
 have one:∀{x v},NL1 (Hb++Hx).length x->Rep (cx B H σ w) (y5 Hb.length is x) v->Rep (cx B (Hb++Hx) (reσ Hb.length is σ) w) x v:=by
  intro x v h1 h2
  cases x<;>first|exact ptr h1 h2|exact flat h1 h2
 have oneL:∀{xs:List PV} {vs:List Value},qe (Hb++Hx).length xs->ay (cx B H σ w) (xs.map (y5 Hb.length is)) vs->ay (cx B (Hb++Hx) (reσ Hb.length is σ) w) xs vs:=by
  intro xs
  induction xs with
  | nil=>intro vs _ h2;rw[List.map_nil,aF]at h2;exact aF.2 h2
  | cons x xs ih =>
   intro vs h1 h2
   cases vs with
   | nil=>rw[List.map_cons]at h2;unfold ay at h2;obtain⟨u,us,h3,_⟩:=h2;cases h3
   | cons v vs=>rw[List.map_cons,ai]at h2;exact ai.2 ⟨one h1.1 h2.1,ih h1.2 h2.2⟩
 cases x with
 | ptr i off=>exact ptr hn h
 | arr i off n cap =>
  unfold Iq Rep at h
  unfold Rep
  obtain⟨_,b,h1,h2⟩:=h
  exact⟨hn,b,(yh r hn).trans h1,h2⟩
 | arw i off n =>
  unfold Iq Rep at h
  unfold Rep
  obtain⟨_,b,cap,h1,h2⟩:=h
  exact⟨hn,b,cap,(yh r hn).trans h1,h2⟩
 | seq n xs s =>
  cases s with
  | own t k =>
   unfold Iq Rep at h
   unfold Rep
   obtain⟨a,cap,vs,h1,h2,h3,h4,h5,h6,h7,h8⟩:=h
   refine⟨a,cap,vs,h1,h2,h3,dj (c:=cx B H σ w) (c':=cx B (Hb++Hx) (reσ Hb.length is σ) w) rfl (tU r) hn.2 h4,fun b hb=>(h5 b hb).imp (fun hl=>⟨hl.1,fun j u hj=>⟨(hl.2 j u hj).1,fun hw=>(hl.2 j u hj).2 (tU r _ _ hw)⟩⟩) id,hn.1,h7,?_⟩
   rcases h8 with h8|⟨b,cs,e,h9,h10,h11⟩
   ·exact .inl h8
   exact .inr ⟨b,cs,e,(yh r hn.1).trans h9,h10,h11⟩
  | any=>exact flat hn h
  | clip=>exact flat hn h
 | fn f a c =>
  unfold Iq Rep at h
  unfold Rep
  obtain⟨fs,cs,h1,h2,h3⟩:=h
  exact⟨fs,cs,h1,oneL hn.1 h2,oneL hn.2 h3⟩
 | _=>exact flat hn h
def pQ:∀{l:List Ob} {b:Nat} (_:NLo b l) {i:Nat} {xs:List PV} {e:TypeId},l[i]?=some (.cells xs e)->qe b xs
 | [],_,_,i,xs,e,h=>by simp at h
 | o::l,b,hn,0,xs,e,h=>by simp at h;subst h;exact hn.1
 | .cells _ _::l,b,hn,i+1,xs,e,h=>pQ (l:=l) hn.2 (by simpa using h)
 | .smap _ _::l,b,hn,i+1,xs,e,h=>pQ (l:=l) hn.2 (by simpa using h)
 | .iter _ _::l,b,hn,i+1,xs,e,h=>pQ (l:=l) hn (by simpa using h)
 | .free _::l,b,hn,i+1,xs,e,h=>pQ (l:=l) hn (by simpa using h)
 | .dead::l,b,hn,i+1,xs,e,h=>pQ (l:=l) hn (by simpa using h)
 | .glob _ _::l,b,hn,i+1,xs,e,h=>pQ (l:=l) hn (by simpa using h)
def nu:∀{l:List Ob} {b:Nat} (_:NLo b l) {i:Nat} {ks:List fv} {xs:List PV},l[i]?=some (.smap ks xs)->qe b xs
 | [],_,_,i,xs,e,h=>by simp at h
 | o::l,b,hn,0,xs,e,h=>by simp at h;subst h;exact hn.1
 | .cells _ _::l,b,hn,i+1,xs,e,h=>nu (l:=l) hn.2 (by simpa using h)
 | .smap _ _::l,b,hn,i+1,xs,e,h=>nu (l:=l) hn.2 (by simpa using h)
 | .iter _ _::l,b,hn,i+1,xs,e,h=>nu (l:=l) hn (by simpa using h)
 | .free _::l,b,hn,i+1,xs,e,h=>nu (l:=l) hn (by simpa using h)
 | .dead::l,b,hn,i+1,xs,e,h=>nu (l:=l) hn (by simpa using h)
 | .glob _ _::l,b,hn,i+1,xs,e,h=>nu (l:=l) hn (by simpa using h)
def C3{b:Nat}:∀{xs:List PV},qe b xs->xs.map (y5 b is)=xs
 | [],_=>rfl
 | x::xs,h=>by
  rw[List.map_cons,C3 h.2]
  congr 1
  have h1:=h.1
  cases x<;>first|rfl|skip
  simp only[NL1]at h1
  simp only[y5,nm]
  rw[show Nat.blt _ b=true from by rw[Nat.blt_eq];exact h1]
def LI(r:Re H Hb Hx is){xs:List PV}{vs:List Value}(hn:qe Hb.length xs)(h:ay (cx B H σ w) xs vs):ay (cx B (Hb++Hx) (reσ Hb.length is σ) w) xs vs:=by
 have h1:=C3 (is:=is) hn
 have h2:ay (cx B H σ w) (xs.map (y5 Hb.length is)) vs:=by rw[h1];exact h
 clear h h1
 induction xs generalizing vs with
 | nil=>rw[List.map_nil,aF]at h2;exact aF.2 h2
 | cons x xs ih =>
  cases vs with
  | nil=>rw[List.map_cons]at h2;unfold ay at h2;obtain⟨u,us,h3,_⟩:=h2;cases h3
  | cons v vs =>
   rw[List.map_cons,ai]at h2
   refine ai.2 ⟨?_,ih hn.2 h2.2⟩
   have hx:=hn.1
   cases x<;>first
    | (refine R5 (x:=.ptr _ _) r ?_ h2.1;show _<_;simp only[NL1]at hx;rw[List.length_append];omega)
    | exact nU (c:=cx B H σ w) (c':=cx B (Hb++Hx) (reσ Hb.length is σ) w) rfl (tU r) hx h2.1
def JA(r:Re H Hb Hx is)(s:Sim B H σ w):Sim B (Hb++Hx) (reσ Hb.length is σ) w:=by
 refine⟨?_,?_,s.base,?_⟩
 ·intro i j b oi oj h1 h2 l1 l2 e1 e2
  obtain⟨k,g1,g2,g3⟩:=qF (σ:=σ) r h1 l1
  obtain⟨k',g1',g2',g3'⟩:=qF (σ:=σ) r h2 l2
  have hk:=s.inj k k' b oi oj g1 g1' l1 l2 (g2▸e1) (g2'▸e2)
  subst hk
  rcases g3 with ⟨g3,rfl⟩|⟨q,rfl,g3⟩<;>rcases g3' with ⟨g3',rfl⟩|⟨q',rfl,g3'⟩
  ·rfl
  ·rcases r.moved.get (List.mem_of_getElem? g3')with g4|g4
   ·omega
   rw[List.getElem?_append_left g3]at h1;rw[h1]at g4;cases g4;cases l1
  ·rcases r.moved.get (List.mem_of_getElem? g3)with g4|g4
   ·omega
   rw[List.getElem?_append_left g3']at h2;rw[h2]at g4;cases g4;cases l2
  have:q=q':=by
   have hq:=(List.getElem?_eq_some_iff.1 g3).1
   exact(List.getElem?_inj hq r.nodup).1 (g3.trans g3'.symm)
  rw[this]
 ·intro i b oi h1 l1 e1 off
  obtain⟨k,g1,g2,_⟩:=qF (σ:=σ) r h1 l1
  exact s.sep k b oi g1 l1 (g2▸e1) off
 intro i oi h1
 cases oi with
 | dead=>trivial
 | glob g u =>
  have key:∃k:Nat,H[k]?=some (Ob.glob g u):=by
   rcases Nat.lt_or_ge i Hb.length with h2|h2
   ·rw[List.getElem?_append_left h2]at h1
    rcases r.base.get h1 with h3|h3
    ·exact⟨i,h3⟩
    cases h3
   rw[List.getElem?_append_right h2]at h1
   obtain⟨k,_,h3⟩:=r.extra.get h1
   exact⟨k,h3⟩
  obtain⟨k,hk⟩:=key
  obtain⟨q1,q2⟩:=s.holds k _ hk
  exact⟨q1,fun q=>q2 (tU r _ _ q)⟩
 | cells xs e =>
  obtain⟨k,g1,g2,_⟩:=qF (σ:=σ) r h1 rfl
  obtain⟨b,vs,fr,h3,h4,h5,p,q,hpq,h6⟩:=s.holds k _ g1
  exact⟨b,vs,fr,g2.trans h3,h4,h5,p,q,hpq,LI r (pQ r.cont h1) h6⟩
 | iter s2 pos =>
  obtain⟨k,g1,g2,_⟩:=qF (σ:=σ) r h1 rfl
  obtain⟨b,h3,h4⟩:=s.holds k _ g1
  exact⟨b,g2.trans h3,h4⟩
 | smap ks ms =>
  obtain⟨k,g1,g2,_⟩:=qF (σ:=σ) r h1 rfl
  obtain⟨b,es,clk,h3,h4,h5,h6⟩:=s.holds k _ g1
  exact⟨b,es,clk,g2.trans h3,h4,h5,LI r (nu r.cont h1) h6⟩
 | free m =>
  obtain⟨k,g1,g2,_⟩:=qF (σ:=σ) r h1 rfl
  intro b hb
  exact s.holds k _ g1 b (by show σ k=some b;rw[<-g2];exact hb)
def Dj{H0:List Ob}{σ0:Nat->Option Nat}{w0:World}(r:Re H Hb Hx is)(hb:H0.length=Hb.length)(st:dU B H0 σ0 w0 H σ w):dU B H0 σ0 w0 (Hb++Hx) (reσ Hb.length is σ) w:=by
 refine⟨⟨by simp[cx];omega,fun i hi=>?_,fun b off u h1 h2=>?_,fun b es clk h1 h2=>?_,st.le.shape⟩,st.os,st.tape,st.output,st.size,fun i oi b h1 h2 h3=>?_,st.block⟩
 ·simp only[cx]at hi ⊢
  rw[Iv (by omega)]
  exact st.le.σ i hi
 ·have:=st.le.cell b off u h1 h2
  exact⟨this.1,fun h=>this.2 (tU r _ _ h)⟩
 ·have:=st.le.mapo b es clk h1 h2
  exact⟨this.1,fun h=>this.2 (tU r _ _ h)⟩
 obtain⟨k,g1,g2,_⟩:=qF (σ:=σ) r h1 h2
 exact st.new k oi b g1 h2 (g2▸h3)
def Dh(r:Re H Hb Hx is){a:Act}(h:Xj (cx B H σ w) T a):∀{l:List (Nat×PV)},IW Hb.length is T l->NLs (Hb++Hx).length l->Xj (cx B (Hb++Hx) (reσ Hb.length is σ) w) (St l) a
 | [],_,_=>fun i=>by unfold St Rep;trivial
 | (i,x)::l,hs,hn=>fun j=>by
  unfold St
  by_cases hj:j=i
  ·subst hj
   rw[show Nat.beq j j=true from Nat.beq_refl j]
   exact R5 r hn.1 (hs.1 _ _ (h j))
  rw[show Nat.beq j i=false from by rw[<-Bool.not_eq_true,Nat.beq_eq];exact hj]
  exact Dh r h hs.2 hn.2 j
variable {n : Nat} {Q : Exit -> (Nat -> PV) -> List Ob -> Prop}
structure VJ (b:Nat) (L:List (Nat×PV)) (Hb Hx:List Ob) (T:Nat->PV) (H:List Ob) (is:List Nat):Prop where
 len:b=Hb.length
 re:Re H Hb Hx is
 sub:IW Hb.length is T L
 low:NLs (Hb++Hx).length L
def cQ{α:Type}{c:Code}(L:α->List (Nat×PV))(Hb Hx:α->List Ob)(Inv:α->Prop)(μ:α->Nat)(s0:α)(i0:Inv s0)(is0:List Nat)(h0:VJ H.length (L s0) (Hb s0) (Hx s0) T H is0)
  (round:∀s,Inv s->W P B n c (St (L s)) (Hb s++Hx s) (pz (fun T' H'=>∃s' is,Inv s'/\μ s'<μ s/\VJ H.length (L s') (Hb s') (Hx s') T' H' is) Q)):W P B n (.loop c) T H Q:=by
 intro σ w a g
 have st0:dU B H σ w (Hb s0++Hx s0) (reσ (Hb s0).length is0 σ) w:=Dj h0.re h0.len (dU.refl B H σ w)
 refine I5 (fun m a' w'=>∃s σ',Inv s/\μ s=m/\nP B n (St (L s)) (Hb s++Hx s) σ' w' a'/\dU B H σ w (Hb s++Hx s) σ' w') ?_ (μ s0) a w ⟨s0,_,i0,rfl,⟨JA h0.re g.sim,Dh h0.re g.rep h0.sub h0.low,g.size,g.defers⟩,st0⟩
 rintro m a' w' ⟨s,σ',hi,rfl,hg,hst⟩
 refine wp_mono (round s hi σ' w' a' hg) ?_
 rintro e a2 w2 ⟨T2,H2,σ2,k1,k2,k3⟩
 have k4:=hst.trans k3
 cases e with
 | normal =>
  obtain⟨s',is,h1,h2,h3⟩:=k1
  exact⟨μ s',h2,s',_,h1,rfl,⟨JA h3.re k2.sim,Dh h3.re k2.rep h3.sub h3.low,k2.size,k2.defers⟩,Dj h3.re h3.len k4⟩
 | exit id=>exact⟨T2,H2,σ2,k1,k2,k4⟩
 | goto l=>exact⟨T2,H2,σ2,k1,k2,k4⟩
 | ret=>exact⟨T2,H2,σ2,k1,k2,k4⟩
 | panic c=>exact⟨T2,H2,σ2,k1,k2,k4⟩
 | outgrown=>exact⟨T2,H2,σ2,k1,k2,k4⟩
def Jz:mf H []:=by cases H<;>exact trivial
def rB{o o':Ob}(h:o'=o\/o'=.dead)(k:mf H Hb):mf (o::H) (o'::Hb):=⟨h,k⟩
def XZ:ReX H [] []:=trivial
def rX{k:Nat}{o:Ob}(h:H[k]?=some o)(r:ReX H is Hx):ReX H (k::is) (o::Hx):=⟨h,r⟩
def Na{b:Nat}:vH Hb b []:=trivial
def mC{b k:Nat}(h:b<=k\/Hb[k]?=some .dead)(r:vH Hb b is):vH Hb b (k::is):=⟨h,r⟩
def KU{b:Nat}:NLo b []:=trivial
def M7{b:Nat}{xs:List PV}{e:TypeId}{l:List Ob}(h:qe b xs)(k:NLo b l):NLo b (.cells xs e::l):=⟨h,k⟩
def RN{b:Nat}{ks:List fv}{xs:List PV}{l:List Ob}(h:qe b xs)(k:NLo b l):NLo b (.smap ks xs::l):=⟨h,k⟩
def nO{b m:Nat}{l:List Ob}(k:NLo b l):NLo b (.free m::l):=k
def Qi{b:Nat}{l:List Ob}(k:NLo b l):NLo b (.dead::l):=k
def ez{b:Nat}:IW b is T []:=trivial
def dA{b i:Nat}{x:PV}{l:List (Nat×PV)}(h:Imp (T i) (Iq b is x))(k:IW b is T l):IW b is T ((i,x)::l):=⟨h,k⟩
def WB{N:Nat}:NLs N []:=trivial
def RE{N i:Nat}{x:PV}{l:List (Nat×PV)}(h:NL N x)(k:NLs N l):NLs N ((i,x)::l):=⟨h,k⟩
def cV{b:Nat}{L:List (Nat×PV)}(sub:IW Hb.length is T L:=by repeat (first|exact ez|refine dA (by first|exact cq rfl|exact og _ _ _|exact cq (congrArg i64 (by first|(rw[bB];unfold wrap64;omega)|omega|(simp;done)))) ?_))(len:b=Hb.length:=by exact rfl)
  (base:mf H Hb:=by repeat (first|exact Jz|refine rB (.inl rfl) ?_|refine rB (.inr rfl) ?_)) (extra:ReX H is Hx:=by repeat (first|exact XZ|refine rX rfl ?_|refine rX (by refine congrArg (fun q=>some (Ob.free q)) ?_;simp<;>omega) ?_)) (nodup:is.Nodup:=by decide)
  (moved:vH Hb Hb.length is:=by repeat (first|exact Na|refine mC (.inl (Nat.le_of_ble_eq_true rfl)) ?_|refine mC (.inr rfl) ?_))
  (cont:NLo Hb.length (Hb++Hx):=by repeat (first|exact KU|exact nO KU|refine M7 (by first|(refine m4 ?_;simp;done)|(refine m4 (bo ?_ _);intro x;simp;done)|(simp[qe,NL1];done)) ?_|refine nO ?_|refine Qi ?_|refine Te ?_|refine RN (by first|(refine m4 ?_;simp;done)|(refine m4 (bo ?_ _);intro x;simp;done)|(simp[qe,NL1];done)) ?_))
  (low:NLs (Hb++Hx).length L:=by repeat (first|exact WB|refine RE (by first|(refine UO ?_;simp;done)|(show _<_;first|decide|(simp;done))|(refine⟨?_,bo ?_ _⟩<;>first|decide|(intro x;simp;done)|(simp;done))|(refine⟨?_,?_⟩<;>first|decide|(simp;done))|(simp[NL,qe,NL1];done)) ?_)):VJ b L Hb Hx T H is :=
 ⟨len,⟨base,extra,nodup,moved,cont⟩,sub,low⟩
def Hu{N:Nat}{x:PV}(h:aQ x):NL1 N x:=by cases x<;>first|exact h|(unfold aQ at h;exact h.elim)
def UO{N:Nat}{x:PV}(h:aQ x):NL N x:=by
 cases x<;>first|exact h|skip
 ·unfold aQ at h;exact h.elim
 ·rename_i n xs s
  cases s<;>first|exact h|(unfold aQ at h;rcases h.2 with h|h<;>cases h)
 ·unfold aQ at h;exact h.elim
 ·rename_i f a b
  unfold aQ at h
  have one:∀l:List PV,aG l->qe N l:=by
   intro l
   induction l with
   | nil=>intro _;exact trivial
   | cons x l ih=>intro hl;unfold aG at hl;exact⟨Hu hl.1,ih hl.2⟩
  exact⟨one _ h.1,one _ h.2⟩
 unfold aQ at h;exact h.elim
def m4{N:Nat}:∀{l:List PV},aG l->qe N l
 | [],_=>trivial
 | x::l,h=>by unfold aG at h;exact⟨Hu h.1,m4 h.2⟩
def bo{α:Type}{enc:α->List PV}(h:∀x,aG (enc x))(l:List α):aG (l.flatMap enc):=by
 have:=gl h l
 unfold sq at this
 unfold aQ at this
 exact this.1
def QH{x y:Code}(L:List (Nat×PV))(Hb Hx:List Ob)(hx:W P B n x T H (pz (fun T1 H1=>∃is,VJ H.length L Hb Hx T1 H1 is) Q))(hy:W P B n y (St L) (Hb++Hx) Q):W P B n (x.seq y) T H Q:=by
 intro σ w a g
 refine wp_seq (wp_mono (hx σ w a g) ?_)
 rintro e a' w' ⟨T',H',σ',h1,h2,h3⟩
 cases e with
 | normal =>
  obtain⟨is,hf⟩:=h1
  exact wp_mono (hy _ w' a' ⟨JA hf.re h2.sim,Dh hf.re h2.rep hf.sub hf.low,h2.size,h2.defers⟩) fun _ _ _ k=>gM (Dj hf.re hf.len h3) (fun _ _ _ h=>h) k
 | exit id=>exact⟨T',H',σ',h1,h2,h3⟩
 | goto l=>exact⟨T',H',σ',h1,h2,h3⟩
 | ret=>exact⟨T',H',σ',h1,h2,h3⟩
 | panic c=>exact⟨T',H',σ',h1,h2,h3⟩
 | outgrown=>exact⟨T',H',σ',h1,h2,h3⟩
end
open Go.RowKit
def fv.like:fv->fv->Bool
 | .s _,.s _=>true
 | .n _,.n _=>true
 | _,_=>false
def fv.kind:fv->TypeDesc
 | .s _=>.string
 | .n _=>.int .i64
def Fe:fv->PV
 | .s k=>.val (.string ⟨k.toArray⟩)
 | .n i=>.val (.int .i64 i)
def Gm(P:Program)(t e:TypeId)(key:fv):Bool:=match P.underlying t with
 | some (.map k e')=>match P.underlying k,key with
  | some .string,.s _=>Nat.beq e' e
  | some (.int .i64),.n _=>Nat.beq e' e
  | _,_=>false
 | _=>false
def y8{P:Program}{t e:TypeId}{key:fv}(h:Gm P t e key=true):∃k,P.underlying t=some (.map k e)/\P.underlying k=some key.kind:=by
 unfold Gm at h
 split at h
 ·rename_i k e' h1
  split at h
  ·rename_i h2
   rw[Nat.beq_eq]at h;subst h
   exact⟨k,h1,h2⟩
  ·rename_i h2
   rw[Nat.beq_eq]at h;subst h
   exact⟨k,h1,h2⟩
  cases h
 cases h
def gJ:List fv->List PV->fv->PV->PV×Bool
 | k::ks,x::xs,key,z=>if k=key then(x,true)else gJ ks xs key z
 | _,_,_,z=>(z,false)
def Hp{k key:fv}(h:key.like k=true):Instr.sameNow key.kind (oc key) (oc k)=some (decide (k=key)):=by
 cases key<;>cases k<;>cases h
 ·rename_i a b
  simp only[fv.kind,oc,Instr.sameNow,Option.some.injEq,fv.s.injEq]
  by_cases hab:b=a
  ·subst hab
   have:((⟨b.toArray⟩:ByteArray)==⟨b.toArray⟩)=true:=by show(b.toArray==b.toArray)=true;simp
   simp[this]
  have:((⟨a.toArray⟩:ByteArray)==⟨b.toArray⟩)=false:=by
   show(a.toArray==b.toArray)=false
   rw[beq_eq_false_iff_ne]
   intro he
   exact hab (by simpa using he.symm)
  simp[hab,this]
 rename_i a b
 simp only[fv.kind,oc,Instr.sameNow,if_true,Option.some.injEq,fv.n.injEq]
 by_cases hab:b=a
 ·subst hab;simp
 have:¬a=b:=fun h=>hab h.symm
 simp[hab,this]
def Q8(P:Program)(e:TypeId)(agg:Bool):Bool:=match (P.info? e).bind (·.zero)with
 | some (.agg _)=>agg
 | some _=>!agg
 | none=>false
def TZ(d:TD):Option PV:=match d.agg with
 | true=>some (.agg d.zero)
 | false=>d.zero[0]?
section
variable {P : Program} {B : Nat -> Nat -> Prop} {n : Nat} {o : Oper} {T : Nat -> PV} {H : List Ob} {G : List (Nat × TD)} {all : Array Oper} {K : (Nat -> PV) -> List Ob -> Prop} {Q : Exit -> (Nat -> PV) -> List Ob -> Prop}
def dc{t:TypeId}(ho:o.op=.makeMap t none):bL P B o T H (.mapv H.length) (H++[.smap [] []]):=by
 intro σ w a s h
 have gr:be w (w.alloc (.map #[] 0)):=be.alloc _ _
 obtain⟨s',st⟩:=eR s gr (.smap [] []) (some w.heap.size) (fun b hb=>by cases hb;exact Nat.le_refl _) ⟨w.heap.size,#[],0,by simp only[cx];rw[bw],by show(w.heap.push _)[w.heap.size]?=_;simp,rfl,aF.2 rfl⟩
 refine⟨.map (some w.heap.size),_,_,.inl ?_,?_,s',st⟩
 ·simp[execOp,ho,run_makeMap]
 unfold Rep;exact⟨by simp[cx],w.heap.size,by simp only[cx];rw[bw],rfl⟩
def EZ{ks:List fv}{key:fv}:∀{es:List MapEntry} {i:Nat},es.map (·.key)=ks.map oc->ks.all key.like=true->key∉ks->Instr.findNow key.kind (oc key) es i=some none:=by
 induction ks with
 | nil=>intro es i h _ _;cases es with
  | nil=>rfl
  | cons e es=>simp at h
 | cons k ks ih =>
  intro es i h hl hn
  cases es with
  | nil=>simp at h
  | cons e es =>
   simp only[List.map_cons,List.cons.injEq]at h
   simp only[List.all_cons,Bool.and_eq_true]at hl
   have h1:Instr.sameNow key.kind (oc key) e.key=some false:=by
    rw[h.1,Hp hl.1]
    simp only[Option.some.injEq,decide_eq_false_iff_not]
    rintro rfl;exact hn (by simp)
   simp only[Instr.findNow,h1]
   exact ih h.2 hl.2 (fun hk=>hn (List.mem_cons_of_mem _ hk))
def zr{c:Cx}{key:fv}{z:PV}:∀{ks:List fv} {xs:List PV} {es:List MapEntry} {i:Nat},es.map (·.key)=ks.map oc->ks.all key.like=true->ay c xs (es.map (·.val)) ->
  (∃j v,Instr.findNow key.kind (oc key) es i=some (some (j,v))/\(gJ ks xs key z).2=true/\Rep c (gJ ks xs key z).1 v)\/(Instr.findNow key.kind (oc key) es i=some none/\gJ ks xs key z=(z,false))
 | [],xs,es,i,h1,_,h2=>by
  cases es with
  | nil=>exact .inr ⟨rfl,by unfold gJ;rfl⟩
  | cons e es=>simp at h1
 | k::ks,xs,[],i,h1,_,h2=>by simp at h1
 | k::ks,[],e::es,i,h1,_,h2=>by rw[List.map_cons]at h2;rw[aF]at h2;cases h2
 | k::ks,x::xs,e::es,i,h1,hl,h2=>by
  simp only[List.map_cons,List.cons.injEq]at h1
  simp only[List.all_cons,Bool.and_eq_true]at hl
  rw[List.map_cons,ai]at h2
  have hs:Instr.sameNow key.kind (oc key) e.key=some (decide (k=key)):=by rw[h1.1];exact Hp hl.1
  by_cases hk:k=key
  ·refine .inl ⟨i,e.val,?_,by simp[gJ,hk],by simpa[gJ,hk]using h2.1⟩
   rw[decide_eq_true hk]at hs
   simp only[Instr.findNow,hs]
  rw[decide_eq_false hk]at hs
  have e1:Instr.findNow key.kind (oc key) (e::es) i=Instr.findNow key.kind (oc key) es (i+1):=by
   simp only[Instr.findNow,hs]
  rw[e1]
  simp only[gJ,if_neg hk]
  exact zr h1.2 hl.2 h2.2
def Bq(n:Nat)(key:fv){kt:TypeId}(h:P.underlying kt=some key.kind)(b:Bool)(w:World):(Instr.checkKey b (n+1) kt (oc key)).run P w=.ok () w:=by
 cases key<;>simp[Instr.checkKey,run_underlying h,fv.kind,oc]
def qc(key:fv){kt:TypeId}(h:P.underlying kt=some key.kind)(b:Bool)(w:World):(Instr.checkKey b 10000 kt (oc key)).run P w=.ok () w:=Bq 9999 key h b w
def V2{σ:Nat->Option Nat}{w:World}(s:Sim B H σ w){i b:Nat}{ks ks':List fv}{xs xs':List PV}(hi:H[i]?=some (.smap ks xs))(hb:σ i=some b){es es':Array MapEntry}{clk clk':Nat}(hv:w.heap[b]?=some (Obj.map es clk))
  (hk:es'.toList.map (·.key)=ks'.map oc) (hr:ay (cx B H σ w) xs' (es'.toList.map (·.val))) :
  Sim B (H.set i (.smap ks' xs')) σ {w with heap:=w.heap.setIfInBounds b (.map es' clk')}/\dU B H σ w (H.set i (.smap ks' xs')) σ {w with heap:=w.heap.setIfInBounds b (.map es' clk')}:=by
 have hlen:=cL hi
 have hbl:=(Array.getElem?_eq_some_iff.1 hv).1
 have other:∀x,x≠b->(w.heap.setIfInBounds b (.map es' clk'))[x]?=w.heap[x]?:=fun x hx=>Array.getElem?_setIfInBounds_ne (Ne.symm hx)
 have same:(w.heap.setIfInBounds b (.map es' clk'))[b]?=some (.map es' clk'):=by simp[hbl]
 have get:∀j o,(H.set i (.smap ks' xs'))[j]?=some o->(j=i/\o=.smap ks' xs')\/(j≠i/\H[j]?=some o):=fun j o h=>yc hlen h
 have own:∀x off,j8 σ (H.set i (.smap ks' xs')) x off->j8 σ H x off:=by
  rintro x off ⟨j,o,h1,h2,h3⟩
  rcases get j o h1 with ⟨rfl,rfl⟩|⟨_,h4⟩
  ·exact⟨j,_,hi,h2,trivial⟩
  exact⟨j,o,h4,h2,h3⟩
 have wr:∀off,j8 σ H b off:=fun off=>⟨i,_,hi,hb,trivial⟩
 have le:(cx B H σ w).Le (cx B (H.set i (.smap ks' xs')) σ {w with heap:=w.heap.setIfInBounds b (.map es' clk')}):=by
  refine⟨by simp[cx],fun _ _=>rfl,fun x off u h1 h2=>⟨?_,fun h=>h1 (h.imp id (own x off))⟩,fun x e2 c2 h1 h2=>⟨?_,fun h=>h1 (h.imp id (own x 0))⟩,fun x cs t fr h1=>⟨cs,?_,rfl⟩⟩
  ·have hx:x≠b:=fun hx=>h1 (.inr (hx▸wr off))
   exact(World.cell?_of_block (w:=w) (w':={w with heap:=w.heap.setIfInBounds b (.map es' clk')}) (a:=⟨x,off,none⟩) (other x hx)).trans h2
  ·have hx:x≠b:=fun hx=>h1 (.inr (hx▸wr 0))
   exact(other x hx).trans h2
  have hx:x≠b:=by rintro rfl;simp only[cx]at h1;rw[hv]at h1;cases h1
  exact(other x hx).trans h1
 refine⟨⟨?_,?_,fun x off h=>by simpa using s.base x off h,?_⟩,⟨le,rfl,rfl,rfl,by simp,?_,?_⟩⟩
 ·intro j k x oj ok h1 h2 l1 l2 e1 e2
  rcases get j oj h1 with ⟨rfl,rfl⟩|⟨_,h3⟩<;>rcases get k ok h2 with ⟨rfl,rfl⟩|⟨_,h4⟩
  ·rfl
  ·exact s.inj _ _ x _ _ hi h4 rfl l2 e1 e2
  ·exact s.inj _ _ x _ _ h3 hi l1 rfl e1 e2
  exact s.inj _ _ x _ _ h3 h4 l1 l2 e1 e2
 ·intro j x oj h1 l1 e1 off
  rcases get j oj h1 with ⟨rfl,rfl⟩|⟨_,h3⟩
  ·exact s.sep _ x _ hi rfl e1 off
  exact s.sep _ x _ h3 l1 e1 off
 ·intro j oj h1
  rcases get j oj h1 with ⟨rfl,rfl⟩|⟨hj,h3⟩
  ·exact⟨b,es',clk',hb,same,hk,ay.mono le hr⟩
  have k:=s.holds j oj h3
  cases oj with
  | cells zs t =>
   obtain⟨x,ws,fr',h5,h6,hf,h7⟩:=k
   have hx:x≠b:=fun hx=>hj (s.inj j i b _ _ h3 hi rfl rfl (hx▸h5) hb)
   exact⟨x,ws,fr',h5,(other x hx).trans h6,hf,h7.mono le⟩
  | iter s2 pos =>
   obtain⟨x,h5,h6⟩:=k
   have hx:x≠b:=fun hx=>hj (s.inj j i b _ _ h3 hi rfl rfl (hx▸h5) hb)
   exact⟨x,h5,(other x hx).trans h6⟩
  | smap ks2 ms =>
   obtain⟨x,e2,c2,h5,h6,h7,h8⟩:=k
   have hx:x≠b:=fun hx=>hj (s.inj j i b _ _ h3 hi rfl rfl (hx▸h5) hb)
   exact⟨x,e2,c2,h5,(other x hx).trans h6,h7,ay.mono le h8⟩
  | free m =>
   intro x hx
   obtain⟨cs,t,h5,h6⟩:=k x hx
   have hne:x≠b:=fun h=>hj (s.inj j i b _ _ h3 hi rfl rfl (h▸hx) hb)
   exact⟨cs,t,(other x hne).trans h5,h6⟩
  | dead=>trivial
  | glob g u=>obtain⟨q1,q2⟩:=k;exact le.cell g 0 u q2 q1
 ·intro j oj x h1 h2 h3
  rcases get j oj h1 with ⟨rfl,rfl⟩|⟨_,h4⟩
  ·exact .inr ⟨_,_,hi,rfl,h3⟩
  exact .inr ⟨j,oj,h4,h2,h3⟩
 intro x hx hn
 exact other x (fun h=>hn i _ hi rfl (h▸hb))
def dI{t e:TypeId}{m k x:Operand}{i:Nat}{ks:List fv}{xs:List PV}{key:fv}(ht:Gm P t e key=true)(ho:o.op=.insert t m k x)(hm:opv T m=.mapv i)(hi:H[i]?=some (.smap ks xs))(hk:opv T k=Fe key)(hn:(ks.all key.like&&!(ks.contains key))=true):
  bL P B o T H (.val undef) (H.set i (.smap (ks++[key]) (xs++[opv T x]))):=by
 intro σ w a s h
 obtain⟨kt,h1,h2⟩:=y8 ht
 have k1:=h m (by simp[ho,Op.operands])
 have k2:=h k (by simp[ho,Op.operands])
 have k3:=h x (by simp[ho,Op.operands])
 rw[hm]at k1
 rw[hk]at k2
 unfold Rep at k1
 have k2:a.eval k=oc key:=by cases key<;>(unfold Fe Rep at k2;exact k2)
 obtain⟨_,b,hb,hv⟩:=k1
 obtain⟨b',es,clk,hb',hg,hks,hxs⟩:=s.holds i _ hi
 simp only[cx]at hb hb' hg
 rw[hb]at hb'
 cases hb'
 simp only[Bool.and_eq_true,Bool.not_eq_true',List.contains_eq_mem,decide_eq_false_iff_not]at hn
 have hf:=EZ (i:=0) hks hn.1 hn.2
 obtain⟨s',st⟩:=V2 s (es':=es.push {key:=oc key,val:=a.eval x,born:=clk}) (clk':=clk+1) hi hb hg (ks':=ks++[key]) (xs':=xs++[opv T x]) (by simp[hks]) (by
  rw[Array.toList_push,List.map_append]
  exact hxs.append (ai.2 ⟨k3,aF.2 rfl⟩))
 refine⟨undef,_,σ,.inr ⟨?_,rfl⟩,av _ _,s',st⟩
 simp only[execOp,ho,hv,k2]
 simp[Instr.mapUpdate,run_underlying h1,qc key h2,run_underlying h2,Instr.findKey,hf,getObj,setObj,Sem.run,hg]
def ba{t e:TypeId}{de:TD}{m k:Operand}{b:Bool}{ks:List fv}{xs:List PV}{key:fv}{z y:PV}{q:Bool}(ht:Gm P t e key=true)(fe:ao P e de)(hzo:Q8 P e de.agg=true)(hz:TZ de=some z)(ho:o.op=.lookup t m k b)(hm:opv T m=.smap ks xs)(hk:opv T k=Fe key)(hkl:ks.all key.like=true)(hl:gJ ks xs key z=(y,q)):
  bL P B o T H (match b with|true=>.tup [y,.val (.bool q)]|false=>y) H :=
 aO fun σ w a s h=>by
  obtain⟨kt,h1,h2⟩:=y8 ht
  have k1:=h m (by simp[ho,Op.operands])
  have k2:=h k (by simp[ho,Op.operands])
  rw[hm]at k1
  rw[hk]at k2
  unfold Rep at k1
  have k2:a.eval k=oc key:=by cases key<;>(unfold Fe Rep at k2;exact k2)
  obtain⟨r,es,clk,hv,hg,_,hks,hxs⟩:=k1
  simp only[cx]at hg
  obtain⟨i,zv,hi,_,_,hzv,hzr⟩:=fe.info
  have zrep:Rep (cx B H σ w) z zv:=by
   have hz1:=hzr (cx B H σ w)
   have hz2:(P.info? e).bind (·.zero)=some zv:=by rw[hi];exact hzv
   unfold Q8 at hzo
   rw[hz2]at hzo
   unfold TZ at hz
   cases hag:de.agg with
   | true =>
    rw[hag]at hz hzo
    simp only[Option.some.injEq]at hz
    subst hz
    cases zv<;>first|(simp at hzo;done)|skip
    rename_i cs
    unfold Rep
    exact⟨cs.toList,by simp,by simpa[Value.cells]using hz1⟩
   | false =>
    rw[hag]at hz hzo
    simp only at hz
    cases zv<;>first|(simp at hzo;done)|(
     simp only[Value.cells]at hz1
     obtain⟨u,hu,hr⟩:=hz1.get hz
     simp only[List.getElem?_cons_zero,Option.some.injEq]at hu
     subst hu
     exact hr)
  have fin:∀v,Rep (cx B H σ w) y v->Rep (cx B H σ w) (match b with|true=>.tup [y,.val (.bool q)]|false=>y) (if b then .tuple #[v,.bool q]else v):=by
   intro v hv
   cases b with
   | true=>show Rep _ (.tup _) _;unfold Rep;exact⟨[v,.bool q],rfl,ai.2 ⟨hv,ai.2 ⟨av _ _,aF.2 rfl⟩⟩⟩
   | false=>exact hv
  rcases zr (i:=0) (z:=z) (key:=key) hks hkl hxs with ⟨j,v,h3,h4,h5⟩|⟨h3,h4⟩
  ·rw[hl]at h4 h5
   simp only at h4 h5
   subst h4
   refine⟨_,?_,fin v h5⟩
   simp only[execOp,ho,hv,k2]
   simp[Instr.lookup,run_underlying h1,qc key h2,run_underlying h2,Instr.findKey,h3,getObj,Sem.run,hg]
  rw[hl]at h4
  cases h4
  refine⟨_,?_,fin zv zrep⟩
  simp only[execOp,ho,hv,k2]
  simp[Instr.lookup,run_underlying h1,qc key h2,run_underlying h2,Instr.findKey,h3,getObj,Sem.run,hg,zeroValue,typeInfo,hi,hzv]
def DO{σ:Nat->Option Nat}{w:World}{a:Act}(g:nP B n T H σ w a){d i:Nat}{xs:List PV}{e:TypeId}(hT:T d=.ptr i 0)(hi:H[i]?=some (.cells xs e)):
  nP B n (upd d (.row xs) T) (H.set i .dead) σ w a/\dU B H σ w (H.set i .dead) σ w:=by
 obtain⟨s',st⟩:=lr g.sim hi
 refine⟨⟨s',fun j=>?_,g.size,g.defers⟩,st⟩
 by_cases hj:j=d
 ·subst hj
  rw[eZ]
  have h1:=g.rep j
  rw[hT]at h1
  unfold Rep at h1
  obtain⟨_,b,hb,hv⟩:=h1
  obtain⟨b',vs,fr,hb',hg,_,p,q,rfl,hp⟩:=g.sim.holds i _ hi
  simp only[cx]at hb hb' hg
  rw[hb]at hb'
  cases hb'
  rw[hv]
  unfold Rep
  refine⟨_,p,rfl,ay.mono st.le hp,rfl,fun j' u hu=>⟨?_,?_⟩⟩
  ·show w.cell? ⟨b,0+j',none⟩=some u
   rw[Nat.zero_add,d9 hg];exact vt hu
  rintro(h2|⟨k,ok,h2,h3,h4⟩)
  ·exact g.sim.sep i b _ hi rfl hb _ h2
  have hlk:ok.live=true:=by cases ok<;>first|rfl|cases h4
  by_cases hki:k=i
  ·subst hki
   rw[List.getElem?_set_self (cL hi)]at h2;cases h2;cases h4
  rw[List.getElem?_set_ne (Ne.symm hki)]at h2
  exact hki (g.sim.inj k i b _ _ h2 hi hlk rfl h3 hb)
 rw[dt _ _ _ _ hj];exact(g.rep j).mono st.le
def DI{σ:Nat->Option Nat}{w:World}{a:Act}(g:nP B n T H σ w a){d i:Nat}{ks:List fv}{xs:List PV}(hT:T d=.mapv i)(hi:H[i]?=some (.smap ks xs)):
  nP B n (upd d (.smap ks xs) T) (H.set i .dead) σ w a/\dU B H σ w (H.set i .dead) σ w:=by
 obtain⟨s',st⟩:=lr g.sim hi
 refine⟨⟨s',fun j=>?_,g.size,g.defers⟩,st⟩
 by_cases hj:j=d
 ·subst hj
  rw[eZ]
  have h1:=g.rep j
  rw[hT]at h1
  unfold Rep at h1
  obtain⟨_,b,hb,hv⟩:=h1
  obtain⟨b',es,clk,hb',hg,hk,hp⟩:=g.sim.holds i _ hi
  simp only[cx]at hb hb' hg
  rw[hb]at hb'
  cases hb'
  rw[hv]
  unfold Rep
  refine⟨b,es,clk,rfl,hg,?_,hk,ay.mono st.le hp⟩
  rintro(h2|⟨k,ok,h2,h3,h4⟩)
  ·exact g.sim.sep i b _ hi rfl hb _ h2
  have hlk:ok.live=true:=by cases ok<;>first|rfl|cases h4
  by_cases hki:k=i
  ·subst hki
   rw[List.getElem?_set_self (cL hi)]at h2;cases h2;cases h4
  rw[List.getElem?_set_ne (Ne.symm hki)]at h2
  exact hki (g.sim.inj k i b _ _ h2 hi hlk rfl h3 hb)
 rw[dt _ _ _ _ hj];exact(g.rep j).mono st.le
def bQ{l:List Oper}(d i:Nat){xs:List PV}{e:TypeId}{H':List Ob}(hT:T d=.ptr i 0)(hi:H[i]?=some (.cells xs e))(hH:nfH (H.set i .dead)=some H')(h1:WO P B n all l (upd d (.row xs) T) H' K):WO P B n all l T H K:=by
 rw[r5 hH]at h1
 intro hall σ w a g
 obtain⟨g',st⟩:=DO g hT hi
 exact fQ (fun _ _ _ h=>gM st (fun _ _ _ h=>h) h) _ _ _ (h1 hall σ w a g')
def dZ{l:List Oper}(d i:Nat){ks:List fv}{xs:List PV}{H':List Ob}(hT:T d=.mapv i)(hi:H[i]?=some (.smap ks xs))(hH:nfH (H.set i .dead)=some H')(h1:WO P B n all l (upd d (.smap ks xs) T) H' K):WO P B n all l T H K:=by
 rw[r5 hH]at h1
 intro hall σ w a g
 obtain⟨g',st⟩:=DI g hT hi
 exact fQ (fun _ _ _ h=>gM st (fun _ _ _ h=>h) h) _ _ _ (h1 hall σ w a g')
def WR(P:Program)(B:Nat->Nat->Prop)(n:Nat)(c:Code)(Q:Exit->(Nat->PV)->List Ob->Prop):Nat->(Nat->PV)->List Ob->Prop
 | 0,_,_=>False
 | m+1,T,H=>W P B n c T H (pz (fun T' H'=>WR P B n c Q m T' H') Q)
def Gn{c:Code}{H0:List Ob}{σ0:Nat->Option Nat}{w0:World}:∀(m:Nat) {T:Nat->PV} {H:List Ob} {σ:Nat->Option Nat} {w:World} {a:Act},WR P B n c Q m T H->nP B n T H σ w a->dU B H0 σ0 w0 H σ w->Code.rounds P c (Np B n H0 σ0 w0 Q) m a w
 | 0,_,_,_,_,_,h,_,_=>h.elim
 | m+1,T,H,σ,w,a,h,g,st=>by
  rw[rounds_succ]
  refine wp_mono (h σ w a g) ?_
  rintro e a' w' ⟨T',H',σ',h1,h2,h3⟩
  cases e with
  | normal=>exact Gn m h1 h2 (st.trans h3)
  | exit id=>exact⟨T',H',σ',h1,h2,st.trans h3⟩
  | goto l=>exact⟨T',H',σ',h1,h2,st.trans h3⟩
  | ret=>exact⟨T',H',σ',h1,h2,st.trans h3⟩
  | panic ch=>exact⟨T',H',σ',h1,h2,st.trans h3⟩
  | outgrown=>exact⟨T',H',σ',h1,h2,st.trans h3⟩
def jF{c:Code}(m:Nat)(h:WR P B n c Q m T H):W P B n (.loop c) T H Q:=fun σ w a g=>wp_loop_rounds m (Gn m h g (dU.refl _ _ _ _))
def nD(P:Program)(f:FuncId)(args:List PV)(H:List Ob)(res:PV)(H':List Ob):Prop :=
 (∃ fn, P.funcs[f]? = some fn ∧ fn.body.isNone = false ∧ (fn.name == "runtime.NumGoroutine") = false) ∧ HC P f args H res H'
def eQ{f:FuncId}{x:Operand}{first cap:List PV}{args:Array Operand}{ats:Array TypeId}{res:PV}{H':List Ob}(ho:o.op=.call {callee:=.value x,args:=args,argTypes:=ats})(hx:opv T x=.fn (.func f) first cap)
  (h:nD P f (first++(args.toList.map fun y=>wk (opv T y))++cap) H res H'):lW P B o T H res H':=by
 obtain⟨⟨fn,h1,h2,h3⟩,h4⟩:=h
 exact dQ ho hx h1 h2 h3 h4
end
open Go.RowKit
section
variable {P : Program} {B : Nat -> Nat -> Prop} {n : Nat} {H : List Ob} {md : Region.Mode} {ops : Array Oper} {k : Nat}
def U8{α:Type}{l:List α}{j:Nat}{x:α}(h:l[j]?=some x):(x,j)∈l.zipIdx:=by
 rw[List.mem_zipIdx_iff_getElem?];exact h
variable {T : Nat -> PV} {Q : Exit -> (Nat -> PV) -> List Ob -> Prop}
end
section
variable {P : Program} {B : Nat -> Nat -> Prop} {n : Nat} {all : Array Oper} {K : (Nat -> PV) -> List Ob -> Prop} {H : List Ob} {T : Nat -> PV} {o : Oper}
def vJ{l:List Oper}{d:Option Tmp}{t yt:TypeId}{td:TD}{e:Nat}{x:Operand}{q:Nat}{xs:List PV}{s:SK}(f:ao P t td)(htd:td.sh=.slice e)(hd:nfD n o.dst=some d)(hw:bs all T o=some true)(ho:o.op=.binOp .eql t x (.const (.slice none 0 0)) yt)(hx:opv T x=.seq q xs s)
  (k:∀b,(b=true->q=0/\xs=[])->WO P B n all l (eK d (.val (.bool b)) T) H K):WO P B n all (o::l) T H K:=by
 obtain⟨rfl,hd0⟩:=iI hd
 intro hall σ w a g
 have k1:=sM g.rep x
 rw[hx]at k1
 obtain⟨ad,cap,vs,hv,hle,hnil,hrl,hlies,hk⟩:=gc k1
 have hb:ad.isNone=true->q=0/\xs=[]:=fun h=>by
  have h1:=hnil (by simpa using h)
  exact⟨h1.1,List.eq_nil_of_length_eq_zero (by rw[<-ay.length hrl,h1.2.2];rfl)⟩
 have hr:(execOp a.eval o).run P w=.ok (.value (.bool ad.isNone)) w:=by
  have hc:a.eval (.const (.slice none 0 0))=.slice none 0 0:=rfl
  have hq:(Op.equal t (.slice ad q cap) (.slice none 0 0)).run P w=.ok ad.isNone w:=by
   unfold Op.equal
   cases hm:Op.maxDepth with
   | zero=>exact absurd hm (by decide)
   | succ m=>cases ad<;>simp[Op.equalIn,run_underlying (f.slice htd)]
  simp[execOp,ho,hv,hc,eqGuard,binOp,hq]
 simp only[wpL]
 rw[if_pos (rn (j3 hall) g hw)]
 unfold Oper.wp
 rw[hr]
 exact k _ hb hall σ w _ (nQ (vq hd0) g (av _ _) g.sim (dU.refl _ _ _ _))
def sr{α:Type}(enc:α->List PV){l:List α}{s:SK}:PV.seq (0+l.length) ([]++l.flatMap enc) s=.seq l.length (l.flatMap enc) s:=by simp
def sqc{α:Type}(enc:α->List PV)(l:List α):PV:=.seq l.length (l.flatMap enc) .clip
def kQ{α:Type}{enc:α->List PV}(h:∀x,aG (enc x))(l:List α):aQ (sqc enc l):=by
 have:=gl h l
 unfold sq aQ at this
 unfold sqc aQ
 exact⟨this.1,.inr rfl⟩
def as3{α:Type}{enc:α->List PV}{l:List α}(h:l.length=0/\l.flatMap enc=[]):PV.seq 0 [] .any=sq enc l:=by
 have:l=[]:=List.eq_nil_of_length_eq_zero h.1
 subst this;rfl
def oE{i off m cap:Nat}(h:m<=cap):Imp (.arr i off m cap) (.arw i off m):=by
 intro c v hr
 unfold Rep at hr ⊢
 obtain⟨h1,b,h2,h3⟩:=hr
 exact⟨h1,b,cap,h2,h,h3⟩
def kG{t tx e:TypeId}{d de dx:TD}{x y:Operand}{q m:Nat}{xs ys:List PV}(f:ao P t d)(hd:d.sh=.slice e)(fe:ao P e de)(fx:ao P tx dx)
  (ho:o.op=.call {callee:=.builtin .append,args:=#[x,y],argTypes:=#[t,tx]}) (hx:opv T x=.seq q xs .clip) (ht:Fd dx (opv T y)) (hy:BC de.size (opv T y) m ys) (hl:xs.length=q*de.size)
  (hb:(q+m)*de.bytes<=140737488355328) (h63:q+m<=9223372036854775807) (hm:0<m) :
  bL P B o T H (.arw H.length 0 (q+m)) (H++[.cells (xs++ys) e]):=by
 intro σ w a s h
 have k1:=h x (by simp[ho,Op.operands,Call.operands])
 have k2:=h y (by simp[ho,Op.operands,Call.operands])
 rw[hx]at k1
 obtain⟨ad,cap,vs,hv,hle,hnil,hrl,hlies,hk⟩:=gc k1
 have hcap:cap=q:=hk
 subst hcap
 obtain⟨news,hnr,hsrc⟩:=Ea fx ht hy k2
 obtain⟨i,z,hi,hsz,hby,hz,hzr⟩:=fe.info
 rw[<-hsz]at hsrc
 have hsrc':Src P i.size tx (a.eval y) m news w:=hsrc
 have hvl:vs.length=cap*i.size:=by rw[ay.length hrl,hsz];exact hl
 have hr:=yP (P:=P) (w:=w) t tx o.type e i z (f.slice hd) hi hz ad cap cap vs hvl (fun h0=>(hnil h0).1) (fun b hb j v hj=>by
  have hl2:=(hlies b hb).resolve_right (by rintro⟨_,h3⟩;rw[h3]at hj;simp at hj)
  rw[gC hl2,Addr.add_lit];exact(hl2.2 j v hj).1) _ m news hsrc' (by omega) (by rw[hby];exact hb) h63
 have gr:be w (w.drew.alloc (.cells ((vs++news).toArray++Builtin.zeroCells z.cells (grownCap w (cap+m) cap e-(cap+m))) e)):=(be.drew w).trans (be.alloc _ _)
 have hheap:(w.drew.alloc (.cells ((vs++news).toArray++Builtin.zeroCells z.cells (grownCap w (cap+m) cap e-(cap+m))) e)).heap[w.heap.size]?=some (Obj.cells ((vs++news)++(Builtin.zeroCells z.cells (grownCap w (cap+m) cap e-(cap+m))).toList).toArray e (0,0)):=by
  show(w.heap.push _)[w.heap.size]?=_;simp
 obtain⟨s0,st0⟩:=gu s gr
 obtain⟨s',st⟩:=eR s gr (.cells (xs++ys) e) (some w.heap.size) (fun b hb=>by cases hb;exact Nat.le_refl _) (by
  refine⟨w.heap.size,_,(0,0),bw _ _ _,hheap,.inl rfl,?_⟩
  refine⟨vs++news,_,rfl,?_⟩
  refine ay.mono ?_ (hrl.append hnr)
  refine⟨by simp[cx],fun i hi=>bZ hi,fun b off u h1 h2=>⟨gr.cell h2,fun h=>?_⟩,fun b es clk h1 h2=>⟨(gr.block b (Array.getElem?_eq_some_iff.1 h2).1).trans h2,fun h=>h.elim (fun h=>h1 (.inl h)) (fun⟨i,oi,h3,h4,h5⟩=>(eX h3).elim (fun⟨h6,h7⟩=>h1 (.inr ⟨i,oi,h7,by rw[bZ h6]at h4;exact h4,h5⟩)) (fun⟨h6,_⟩=>by subst h6;rw[bw]at h4;cases h4;have:=(Array.getElem?_eq_some_iff.1 h2).1;simp[cx]at this))⟩,fun b cs e' fr h1=>⟨cs,(gr.block b (Array.getElem?_eq_some_iff.1 h1).1).trans h1,rfl⟩⟩
  rcases h with h|⟨i,oi,h3,h4,h5⟩
  ·exact h1 (.inl h)
  rcases eX h3 with ⟨h6,h7⟩|⟨rfl,rfl⟩
  ·rw[bZ h6]at h4;exact h1 (.inr ⟨i,oi,h7,h4,h5⟩)
  rw[bw]at h4;cases h4
  have:=World.block_lt_of_cell? w ⟨w.heap.size,off,none⟩ h2
  simp at this)
 refine⟨_,_,_,.inl (m9 ho hv hr),?_,s',st⟩
 unfold Rep
 exact⟨by simp[cx],w.heap.size,_,bw _ _ _,grownCap_ge w (cap+m) cap e,rfl⟩
end
@[simp] theorem JS : aQ (.seq 0 [] .clip) := by unfold aQ; exact ⟨trivial, .inr rfl⟩
def bsL{α:Type}(enc:α->List PV)(l:List α){n:Nat}{xs:List PV}(h:xs=l.flatMap enc)(hn:n=l.length):PV.seq n xs .clip=.seq l.length (l.flatMap enc) .clip:=by rw[h,hn]
def fp:∀{a b:List PV},aG a->aG b->aG (a++b)
 | [],_,_,h=>h
 | _::_,_,h,k=>by unfold aG at h;exact⟨h.1,fp h.2 k⟩
section
variable {P : Program} {H : List Ob} {T : Nat -> PV}
def nE{G:List (Nat×TD)}{rs:List ResultVar}{x res:PV}(h:o8 G T H rs=some x)(h2:x=res):Bz G rs res .ret T H:=by
 subst h2;exact⟨_,h,Imp.refl _⟩
end
open Go.RowKit
section
variable {P : Program} {B : Nat -> Nat -> Prop} {n : Nat} {all : Array Oper} {K : (Nat -> PV) -> List Ob -> Prop} {H : List Ob} {T : Nat -> PV} {o : Oper}
def Hq{c:Cx}:∀(vs:List Value),ay c (List.replicate vs.length .any) vs
 | []=>aF.2 rfl
 | v::vs=>by
  rw[List.length_cons,List.replicate_succ]
  exact ai.2 ⟨by unfold Rep;trivial,Hq vs⟩
def xA {f : FuncId} {fn : Func} {x : Operand} {ats ps : Array TypeId} {t e : TypeId} {d : TD} {m : Nat} (ho : o.op = .call { callee := .value (.func f), args := #[x], argTypes := ats }) (hf : P.funcs[f]? = some fn) (hname : (fn.name == "runtime.NumGoroutine") = false)
  (hb:fn.body.isNone=true) (hn:Extern.findNext fn=none) (he:Extern.find fn=some (Extern.BytealgMakeNoZero.makeNoZero ps #[t])) (ft:ao P t d) (hd:d.sh=.slice e) (hx:opv T x=.val (.int .i64 (m:Int))) (hm:m<=281474976710656) :
  bL P B o T H (.arw H.length 0 m) (H++[.cells (List.replicate m .any) e]):=by
 intro σ w a s h
 have k1:=h x (by simp[ho,Op.operands,Call.operands])
 rw[hx]at k1
 unfold Rep at k1
 obtain⟨cs,hr,hle,_⟩:=Lib.run_makeNoZero (P:=P) w ps t e (ft.slice hd) m hm
 have gr:be w (w.drew.drew.alloc (.cells cs e)):=((be.drew w).trans (be.drew _)).trans (be.alloc _ _)
 have hheap:(w.drew.drew.alloc (.cells cs e)).heap[w.heap.size]?=some (Obj.cells cs.toList.toArray e (0,0)):=by
  show(w.heap.push _)[w.heap.size]?=_;simp
 obtain⟨s',st⟩:=eR s gr (.cells (List.replicate m .any) e) (some w.heap.size) (fun b hb=>by cases hb;exact Nat.le_refl _) (by
  refine⟨w.heap.size,cs.toList,(0,0),bw _ _ _,hheap,.inl rfl,cs.toList.take m,cs.toList.drop m,(List.take_append_drop _ _).symm,?_⟩
  have:=Hq (c:=cx B (H++[.cells (List.replicate m .any) e]) (ext σ H.length (some w.heap.size)) (w.drew.drew.alloc (.cells cs e))) (cs.toList.take m)
  rwa [List.length_take,Nat.min_eq_left (by simpa using hle)]at this)
 refine⟨.slice (some ⟨w.heap.size,0,none⟩) m cs.size,_,_,.inl ?_,?_,s',st⟩
 ·unfold execOp
  simp only[ho,resolve,Act.eval,Deferred.ofValue,invoke,Sem.run_bind,Sem.run_pure,Result.andThen_ok]
  rw[run_callFunc_extern hf hname hb hn he]
  simp[k1,hr]
 unfold Rep
 exact⟨by simp[cx],w.heap.size,_,bw _ _ _,hle,rfl⟩
def my{t e:TypeId}{d de:TD}{x y z:Operand}{id m:Nat}(f:ao P t d)(hd:d.sh=.slice e)(fe:ao P e de)(ho:o.op=.slice t x none (some y) (some z))(hx:opv T x=.arw id 0 m)
  (h2:kV T (some y) m m) (h3:kV T (some z) m m):bL P B o T H (.arr id 0 m m) H :=
 aO fun σ w a s' h=>by
  have k1:=h x (by simp[ho,Op.operands])
  rw[hx]at k1
  unfold Rep at k1
  obtain⟨hN,b,cap,hb,hle,hv⟩:=k1
  have h3':kV T (some z) cap m:=h3
  have kb:=nv (P:=P) (w:=w) (a:=a) (n:=m) (cap:=cap) (b:=true) (m:=m) (mx:=some z) (hi:=some y) (lo:=none) (l:=0) (c:=cx B H σ w) (fun q hq=>h q (by
   rcases hq with hq|hq|hq
   ·cases hq
   ·cases hq;simp[ho,Op.operands]
   cases hq;simp[ho,Op.operands])) rfl h2 h3' (by simp) (by omega) (Nat.le_refl _) (by omega) hle
  refine⟨.slice (some ⟨b,0,none⟩) m m,?_,by unfold Rep;exact⟨hN,b,hb,rfl⟩⟩
  simp only[Option.map_some,Option.map_none]at kb
  simp[execOp,ho,hv,Instr.sliceAt,run_underlying (f.slice hd),Instr.slice,kb,fe.sizeOf]
  intro _;simp[Addr.add]
def ry{t tx e:TypeId}{d de:TD}{x y:Operand}{id off n cap off2 m cap2:Nat}{xs:List PV}{et:TypeId}(f:ao P t d)(hd:d.sh=.slice e)(fe:ao P e de)(ho:o.op=.call {callee:=.builtin .copy,args:=#[x,y],argTypes:=#[t,tx]})
  (hx:opv T x=.arr id off n cap) (hi:H[id]?=some (.cells xs et)) (hy:opv T y=.arr id off2 m cap2) (hok:∀z∈(xs.drop off2).take (min m n*de.size),okC z=true) (hfit:off+n*de.size<=xs.length) (hfit2:off2+m*de.size<=xs.length) :
  bL P B o T H (.val (.int .i64 (min m n:Nat))) (H.set id (.cells (cr xs off ((xs.drop off2).take (min m n*de.size))) et)):=by
 intro σ w a s' h
 have k1:=h x (by simp[ho,Op.operands,Call.operands])
 have k2:=h y (by simp[ho,Op.operands,Call.operands])
 rw[hx]at k1
 rw[hy]at k2
 unfold Rep at k1 k2
 obtain⟨hN,b,hb,hv⟩:=k1
 obtain⟨_,b2,hb2,hv2⟩:=k2
 obtain⟨b',ws,fr,hb',hg,hfr,hwp⟩:=s'.holds id _ hi
 simp only[cx]at hb hb' hg hb2
 rw[hb]at hb' hb2
 cases hb'
 cases hb2
 have hmn:min m n*de.size<=m*de.size:=Nat.mul_le_mul_right _ (Nat.min_le_left _ _)
 have hmn2:min m n*de.size<=n*de.size:=Nat.mul_le_mul_right _ (Nat.min_le_right _ _)
 have hwsl:=hwp.le
 generalize hvs:(ws.drop off2).take (min m n*de.size)=vs
 have hyl:((xs.drop off2).take (min m n*de.size)).length=min m n*de.size:=by rw[List.length_take,List.length_drop];omega
 have hrl:ay (cx B H σ w) ((xs.drop off2).take (min m n*de.size)) vs:=by
  rw[<-hvs];exact(hwp.drop off2).take (by rw[List.length_drop];omega)
 have htl:vs.length=min m n*de.size:=by rw[ay.length hrl,hyl]
 have hfc:(Builtin.firstCells de.size (min m n) (a.eval y)).run P w=.ok vs.toArray w:=by
  rw[hv2]
  refine run_firstCells_some w de.size (min m n) ⟨b,off2,none⟩ m cap2 _ htl (fun j u hj=>?_)
  rw[Addr.add_lit,d9 hg]
  rw[<-hvs,List.getElem?_take]at hj
  split at hj
  ·rw[List.getElem?_drop]at hj
   simpa using hj
  cases hj
 have hst:=lI P b off et fr vs 0 ws.toArray w hg (by simpa using hfr) (by rw[Nat.add_zero,htl,List.size_toArray];omega) (s5 hok hrl)
 simp only[Nat.add_zero]at hst
 obtain⟨s2,st⟩:=lm s' (ys:=cr xs off ((xs.drop off2).take (min m n*de.size))) hi hb hg hfr (us:=ws.take off++vs++ws.drop (off+vs.length)) (by
  simp only[List.length_append,List.length_drop,htl]
  rw[List.length_take];omega) (by
  unfold cr
  rw[hyl,htl]
  obtain⟨p,q,hpq,hd⟩:=hwp.drop (off+min m n*de.size)
  exact⟨ws.take off++vs++p,q,by rw[hpq];simp,((hwp.take (by omega)).append hrl).append hd⟩)
 refine⟨.int .i64 (min m n:Nat),_,σ,.inl (je ho ?_),av _ _,s2,st⟩
 have hlen:(Builtin.lenOf (a.eval y)).run P w=.ok m w:=by rw[hv2];rfl
 have hcp:(Builtin.copy_ #[t,tx] o.type #[a.eval x,a.eval y]).run P w=.ok (.int .i64 (min m n:Nat)) (w.setRow b (ws.take off++vs++ws.drop (off+vs.length)).toArray):=by
  have e1:Nat.min m n=min m n:=rfl
  simp only[Builtin.copy_,hv,List.getElem?_toArray,List.getElem?_cons_zero,List.getElem?_cons_succ,Sem.run_bind,run_underlying (f.slice hd),Result.andThen_ok,hlen,fe.sizeOf,e1,hfc,hst,goInt,Sem.run_pure]
 simp only[builtin,List.map_toArray,List.map_cons,List.map_nil,Sem.run_bind,hcp,Result.andThen_ok,Sem.run_pure]
def DN{t e:TypeId}{d de:TD}{x y:Operand}{k k':IntKind}{m:Int}(f:ao P t d)(hd:d.sh=.slice e)(fe:ao P e de)(ho:o.op=.makeSlice t x y)(hx:opv T x=.val (.int k m))(hy:opv T y=.val (.int k' m))(h0:0<=m)(hb:(de.bytes:Int)*m<=281474976710656)(h63:m<=9223372036854775807):
  bL P B o T H (.seq m.toNat (fg m.toNat de) .clip) H:=by
 intro σ w a s h
 have k1:=h x (by simp[ho,Op.operands])
 have k2:=h y (by simp[ho,Op.operands])
 rw[hx]at k1
 rw[hy]at k2
 unfold Rep at k1 k2
 obtain⟨i,z,hi,hsz,hby,hz,hzr⟩:=fe.info
 have hr:=run_make (P:=P) w t e i z (f.slice hd) hi hz k k' m m h0 (Int.le_refl _) (by rw[hby];exact hb) h63
 rw[hsz]at hr
 obtain⟨s',st⟩:=gu s (be.alloc w (.cells (madeCells z.cells (m.toNat*de.size)) e))
 refine⟨_,_,σ,.inl (by simp[execOp,ho,k1,k2,hr];rfl),?_,s',st⟩
 unfold Rep
 refine⟨_,m.toNat,(madeCells z.cells (m.toNat*de.size)).toList,rfl,Nat.le_refl _,(fun h=>by cases h),ay.mono st.le (vW fe m.toNat z hzr _),fun b hb=>?_,rfl⟩
 cases hb
 refine .inl ⟨rfl,fun j u hj=>⟨?_,?_⟩⟩
 ·show(w.alloc (.cells (madeCells z.cells (m.toNat*de.size)) e)).cell? ⟨w.heap.size,0+j,none⟩=_
  rw[nR _ _ _ _ _ _ rfl,Nat.zero_add]
  rw[<-Array.getElem?_toList];exact hj
 rintro(h'|⟨i',oi,h3,h4,h5⟩)
 ·exact absurd (s.base _ _ h') (by simp)
 have hl:oi.live=true:=by cases oi<;>first|rfl|cases h5
 have:=(s.holds i' oi h3).lt hl h4
 simp[cx]at this
def Sf{σ:Nat->Option Nat}{w:World}{a:Act}(g:nP B n T H σ w a){d q k:Nat}{xs:List PV}(hT:T d=.seq q xs .clip)(hl:xs.length=q*k):
  nP B n (upd d (.seq q xs (.own H.length k)) T) (H++[.free (q*k)]) (ext σ H.length none) w a/\dU B H σ w (H++[.free (q*k)]) (ext σ H.length none) w:=by
 obtain⟨s',st⟩:=eR g.sim (be.refl w) (.free (q*k)) none (fun b hb=>by cases hb) (fun b hb=>by simp only[cx]at hb;rw[bw]at hb;cases hb)
 refine⟨⟨s',fun i=>?_,g.size,g.defers⟩,st⟩
 by_cases hi:i=d
 ·subst hi
  rw[eZ]
  have h0:=g.rep i
  rw[hT]at h0
  obtain⟨ad,cap,vs,hv,hle,hnil,hrl,hlies,hk⟩:=gc h0
  have hcap:cap=q:=hk
  unfold Rep
  exact⟨ad,cap,vs,hv,hle,hnil,ay.mono st.le hrl,fun b hb=>(hlies b hb).imp (·.mono st.le) id,by simp[cx],hl,.inl hcap⟩
 rw[dt _ _ _ _ hi];exact(g.rep i).mono st.le
def wo{l:List Oper}(d q k:Nat){xs:List PV}(hT:T d=.seq q xs .clip)(hl:xs.length=q*k)(h1:WO P B n all l (upd d (.seq q xs (.own H.length k)) T) (H++[.free (q*k)]) K):WO P B n all l T H K:=by
 intro hall σ w a g
 obtain⟨g',st⟩:=Sf g hT hl
 exact fQ (fun _ _ _ h=>gM st (fun _ _ _ h=>h) h) _ _ _ (h1 hall _ w a g')
end
open Go.RowKit
section
variable {P : Program} {B : Nat -> Nat -> Prop} {n : Nat} {md : Region.Mode} {ops : Array Oper} {cl : Nat -> Nat}
def YU(P:Program)(B:Nat->Nat->Prop)(ops:Array Oper)(o:Oper)(T:Nat->PV)(H:List Ob)(x:PV)(H':List Ob):Prop :=
 (bs ops T o=some true/\(bL P B o T H x H'\/lW P B o T H x H'))\/(bs ops T o=some false/\x=.val undef/\H'=H)
def Rk(H H2:List Ob):Prop:=∀xs e,H[0]?=some (Ob.cells xs e)->∃ys,H2[0]?=some (Ob.cells ys e)/\ys.take 27=xs.take 27
def Rk.refl(H:List Ob):Rk H H:=fun xs e h=>⟨xs,h,rfl⟩
def smB(b:Nat)(H H2:List Ob):Prop:=match Nat.blt b 900 with
 | true=>H2[b]?=H[b]?
 | false=>Rk H H2
def inB(b:Nat)(H:List Ob):Prop:=match Nat.blt b 900 with
 | true=>b<H.length
 | false=>True
def chB(b:Nat)(H H2:List Ob):Prop:=match Nat.blt b 900 with
 | true=>∃ob E,H2=H.set b ob++E
 | false=>Rk H H2
def Rk.trans{H H2 H3:List Ob}(h:Rk H H2)(g:Rk H2 H3):Rk H H3:=fun xs e q=>by
 obtain⟨ys,h1,h2⟩:=h xs e q
 obtain⟨zs,h3,h4⟩:=g ys e h1
 exact⟨zs,h3,h4.trans h2⟩
def smB.trans{b:Nat}{H H2 H3:List Ob}(h:smB b H H2)(g:smB b H2 H3):smB b H H3:=by
 unfold smB at *
 generalize Nat.blt b 900=q at h g ⊢
 cases q with
 | true=>exact Eq.trans g h
 | false=>exact Rk.trans h g
def smB.rf(b:Nat)(H:List Ob):smB b H H:=by
 unfold smB
 cases Nat.blt b 900 with
 | true=>rfl
 | false=>exact Rk.refl H
def smB.app{b:Nat}{H:List Ob}(h:inB b H)(E:List Ob):smB b H (H++E)/\inB b (H++E):=by
 unfold smB inB at *
 generalize Nat.blt b 900=q at h ⊢
 cases q with
 | true =>
  have h:b<H.length:=h
  exact⟨List.getElem?_append_left h,by show b<(H++E).length;simp;omega⟩
 | false =>
  refine⟨fun xs e q=>⟨xs,?_,rfl⟩,trivial⟩
  rw[List.getElem?_append_left (cL q)];exact q
def FU(P:Program)(B:Nat->Nat->Prop)(ops:Array Oper)(c:Nat)(o:Oper)(T:Nat->PV)(H:List Ob)(x:PV)(H':List Ob):Prop :=
 match c with
 | 0=>H'=H/\∀H2,YU P B ops o T H2 x H2
 | 1=>H'=H/\∀E,YU P B ops o T (H++E) x (H++E)
 | 2=>∃E,H'=H++E
 | 3=>True
 | c+4=>match Nat.beq (c%2) 0 with
  | true=>H'=H/\inB (c/2) H/\∀H2:List Ob,smB (c/2) H H2->YU P B ops o T H2 x H2
  | false=>chB (c/2) H H'
def rdB(c:Nat):Bool:=Nat.ble 4 c&&Nat.beq (c%2) 0
def wrB(c:Nat):Bool:=Nat.ble 4 c&&Nat.beq (c%2) 1
def blk(c:Nat):Nat:=(c-4)/2
def yn(a b:Nat):Bool:=Nat.beq a 0||Nat.beq b 0||(Nat.beq a 1&&Nat.ble b 2)||(rdB a&&(Nat.ble b 2||rdB b||(wrB b&&(match Nat.blt (blk a) 900&&Nat.blt (blk b) 900 with|true=>!Nat.beq (blk a) (blk b)|false=>Nat.beq (blk a) (blk b)))))
def YU.congr{o:Oper}{T T':Nat->PV}{H H':List Ob}{x:PV}(h:∀t∈o.looksAt ops,T' t=T t)(y:YU P B ops o T H x H'):YU P B ops o T' H x H':=by
 have hw:bs ops T' o=bs ops T o:=by
  unfold bs
  cases hg:o.guard with
  | none=>rfl
  | some q =>
   obtain⟨g,b⟩:=q
   simp only
   cases hd:(ops[g]?).bind (·.dst)with
   | none=>rfl
   | some d=>simp only;rw[h d (wX hg hd)]
 have ho:∀z∈o.op.operands.toList,opv T' z=opv T z:=fun z hz=>Cl fun t ht=>h t (FY (by rw[<-ht];exact hz))
 rcases y with ⟨h1,h2|h2⟩|⟨h1,h2⟩
 ·exact .inl ⟨by rw[hw];exact h1,.inl fun σ w a s k=>h2 σ w a s (fun z hz=>by rw[<-ho z hz];exact k z hz)⟩
 ·exact .inl ⟨by rw[hw];exact h1,.inr fun σ w a s k=>h2 σ w a s (fun z hz=>by rw[<-ho z hz];exact k z hz)⟩
 exact .inr ⟨by rw[hw];exact h1,h2⟩
def FU.congr{c:Nat}{o:Oper}{T T':Nat->PV}{H H':List Ob}{x:PV}(h:∀t∈o.looksAt ops,T' t=T t)(y:FU P B ops c o T H x H'):FU P B ops c o T' H x H':=by
 match c,y with
 | 0,y=>exact⟨y.1,fun H2=>(y.2 H2).congr h⟩
 | 1,y=>exact⟨y.1,fun E=>(y.2 E).congr h⟩
 | 2,y=>exact y
 | 3,_=>trivial
 | c+4,y =>
  simp only[FU]at y ⊢
  split at y
  ·exact⟨y.1,y.2.1,fun H2 h2=>(y.2.2 H2 h2).congr h⟩
  exact y
def FU.rd{c:Nat}{o:Oper}{T:Nat->PV}{H H':List Ob}{x:PV}(hc:rdB c=true)(f:FU P B ops c o T H x H'):H'=H/\inB (blk c) H/\∀H2:List Ob,smB (blk c) H H2->YU P B ops o T H2 x H2:=by
 simp only[rdB,Bool.and_eq_true,Nat.ble_eq,Nat.beq_eq]at hc
 obtain⟨d,rfl⟩:∃d,c=d+4:=⟨c-4,by omega⟩
 have hd:Nat.beq (d%2) 0=true:=by rw[Nat.beq_eq];omega
 simp only[FU,hd]at f
 exact f
def FU.of_rd{c:Nat}{o:Oper}{T:Nat->PV}{H H':List Ob}{x:PV}(hc:rdB c=true)(f:H'=H/\inB (blk c) H/\∀H2:List Ob,smB (blk c) H H2->YU P B ops o T H2 x H2):FU P B ops c o T H x H':=by
 simp only[rdB,Bool.and_eq_true,Nat.ble_eq,Nat.beq_eq]at hc
 obtain⟨d,rfl⟩:∃d,c=d+4:=⟨c-4,by omega⟩
 have hd:Nat.beq (d%2) 0=true:=by rw[Nat.beq_eq];omega
 simp only[FU,hd]
 exact f
def FU.wr{c:Nat}{o:Oper}{T:Nat->PV}{H H':List Ob}{x:PV}(hc:wrB c=true)(f:FU P B ops c o T H x H'):chB (blk c) H H':=by
 simp only[wrB,Bool.and_eq_true,Nat.ble_eq,Nat.beq_eq]at hc
 obtain⟨d,rfl⟩:∃d,c=d+4:=⟨c-4,by omega⟩
 have hd:Nat.beq (d%2) 0=false:=by rw[<-Bool.not_eq_true,Nat.beq_eq];omega
 simp only[FU,hd]at f
 exact f
def FU.of_wr{c:Nat}{o:Oper}{T:Nat->PV}{H H':List Ob}{x:PV}(hc:wrB c=true)(f:chB (blk c) H H'):FU P B ops c o T H x H':=by
 simp only[wrB,Bool.and_eq_true,Nat.ble_eq,Nat.beq_eq]at hc
 obtain⟨d,rfl⟩:∃d,c=d+4:=⟨c-4,by omega⟩
 have hd:Nat.beq (d%2) 0=false:=by rw[<-Bool.not_eq_true,Nat.beq_eq];omega
 simp only[FU,hd]
 exact f
def qU(P:Program)(B:Nat->Nat->Prop)(ops:Array Oper)(cl:Nat->Nat)(i:Nat)(K:(Nat->PV)->List Ob->Prop)(T:Nat->PV)(H:List Ob):Prop :=
 match ops[i]? with
 | none=>K T H
 | some o=>∃x H',YU P B ops o T H x H'/\FU P B ops (cl i) o T H x H'/\K (eK o.dst x T) H'
def H7(P:Program)(B:Nat->Nat->Prop)(md:Region.Mode)(ops:Array Oper)(cl:Nat->Nat)(Q:(Nat->PV)->List Ob->Prop):Nat->Array Bool->(Nat->PV)->List Ob->Prop
 | 0,listed,T,H=>Region.ready md ops listed=[]/\Q T H
 | fuel+1,listed,T,H=>(Region.ready md ops listed=[]->Q T H)/\∀i∈Region.ready md ops listed,qU P B ops cl i (H7 P B md ops cl Q fuel (listed.setIfInBounds i true)) T H
def nN(hall:iH n ops=true){Q':Exit->Act->World->Prop}{Q:(Nat->PV)->List Ob->Prop}{H0:List Ob}{σ0:Nat->Option Nat}{w0:World}(hQ:∀T H σ w a,nP B n T H σ w a->dU B H0 σ0 w0 H σ w->Q T H->Q' .normal a w):
  ∀(fuel:Nat) (listed:Array Bool) (T:Nat->PV) (H:List Ob) (σ:Nat->Option Nat) (w:World) (a:Act),nP B n T H σ w a->dU B H0 σ0 w0 H σ w->H7 P B md ops cl Q fuel listed T H->wpAny P md ops Q' fuel listed a w
 | 0,_,_,_,_,_,_,g,st,h=>⟨h.1,hQ _ _ _ _ _ g st h.2⟩
 | fuel+1,listed,T,H,σ,w,a,g,st,h=>by
  refine⟨fun h0=>hQ _ _ _ _ _ g st (h.1 h0),fun i hi=>?_⟩
  have h1:=h.2 i hi
  unfold qU at h1
  unfold wpOp
  cases ho:ops[i]? with
  | none=>simp only[ho]at h1 ⊢;exact nN hall hQ fuel _ T H σ w a g st h1
  | some o =>
   simp only[ho]at h1 ⊢
   obtain⟨x,H',hy,_,hk⟩:=h1
   have hd:∀j,o.dst=some j->Nat.blt j n=true:=fun j hj=>j3 hall i j (by rw[ho];exact hj)
   have hgd:∀q,bs ops T o=some q->Region.wanted o (yielded ops a.tmps)=q:=fun q hq=>rn (j3 hall) g hq
   rcases hy with ⟨hw,hdo|hdo⟩|⟨hw,rfl,rfl⟩
   ·rw[if_pos (hgd true hw)]
    refine .inl ?_
    obtain⟨v,w',σ',h2,h3,h4,h5⟩:=hdo σ w a g.sim (fun y _=>sM g.rep y)
    have k:=nN hall hQ fuel _ _ _ σ' w' _ (nQ hd g h3 h4 h5) (st.trans h5) hk
    unfold Oper.wp
    rcases h2 with h2|⟨h2,rfl⟩
    ·rw[h2];exact k
    rw[h2];exact k
   ·rw[if_pos (hgd true hw)]
    refine .inl ?_
    obtain⟨f,args,h2,hc⟩:=hdo σ w a g.sim (fun y _=>sM g.rep y)
    unfold Oper.wp
    rw[h2]
    refine Calls.mono hc ?_
    rintro e w' ⟨v,σ',rfl,h3,h4,h5⟩
    exact nN hall hQ fuel _ _ _ σ' w' _ (nQ hd g h3 h4 h5) (st.trans h5) hk
   rw[if_neg (by rw[hgd false hw];simp)]
   exact nN hall hQ fuel _ _ _ σ w _ (nQ hd g (av _ _) g.sim (dU.refl _ _ _ _)) st hk
def ar2{ci cj:Nat}{oi oj:Oper}{T:Nat->PV}{H Hi Hj:List Ob}{x y:PV}(hc:yn ci cj=true)(h1:∀t∈oj.looksAt ops,eK oi.dst x T t=T t)(h2:∀t∈oi.looksAt ops,eK oj.dst y T t=T t)
  (yi:YU P B ops oi T H x Hi) (fi:FU P B ops ci oi T H x Hi) (yj:YU P B ops oj (eK oi.dst x T) Hi y Hj) (fj:FU P B ops cj oj (eK oi.dst x T) Hi y Hj) :
  ∃H',YU P B ops oj T H y H'/\FU P B ops cj oj T H y H'/\YU P B ops oi (eK oj.dst y T) H' x Hj/\FU P B ops ci oi (eK oj.dst y T) H' x Hj:=by
 have b1:∀t∈oj.looksAt ops,T t=eK oi.dst x T t:=fun t ht=>(h1 t ht).symm
 have yj':=yj.congr b1
 have fj':=fj.congr b1
 simp only[yn,Bool.or_eq_true,Bool.and_eq_true,Nat.beq_eq,Nat.ble_eq]at hc
 rcases hc with ((rfl|rfl)|⟨rfl,hj⟩)|⟨hr,hj⟩
 ·obtain⟨rfl,hl⟩:=fi
  exact⟨Hj,yj',fj',(hl Hj).congr h2,rfl,fun H2=>(hl H2).congr h2⟩
 ·obtain⟨rfl,hl⟩:=fj'
  exact⟨H,hl H,⟨rfl,hl⟩,yi.congr h2,fi.congr h2⟩
 ·obtain⟨rfl,hl⟩:=fi
  have:∃E,Hj=Hi++E:=by
   match cj,hj,fj' with
   | 0,_,fj'=>exact⟨[],by rw[fj'.1];simp⟩
   | 1,_,fj'=>exact⟨[],by rw[fj'.1];simp⟩
   | 2,_,fj'=>exact fj'
   | c+3,hj,_=>omega
  obtain⟨E,rfl⟩:=this
  exact⟨Hi++E,yj',fj',(hl E).congr h2,rfl,fun E2=>by rw[List.append_assoc];exact(hl (E++E2)).congr h2⟩
 obtain⟨rfl,hlt,hl⟩:=fi.rd hr
 have key:smB (blk ci) Hi Hj/\inB (blk ci) Hj:=by
  rcases hj with (hj|hj)|⟨hj,hne⟩
  ·have:∃E,Hj=Hi++E:=by
    match cj,hj,fj' with
    | 0,_,fj'=>exact⟨[],by rw[fj'.1];simp⟩
    | 1,_,fj'=>exact⟨[],by rw[fj'.1];simp⟩
    | 2,_,fj'=>exact fj'
    | c+3,hj,_=>omega
   obtain⟨E,rfl⟩:=this
   exact smB.app hlt E
  ·obtain⟨rfl,_⟩:=fj'.rd hj
   exact⟨.rf _ _,hlt⟩
  have w:=fj'.wr hj
  cases q:Nat.blt (blk ci) 900&&Nat.blt (blk cj) 900 with
  | true =>
   rw[q]at hne
   rw[Bool.and_eq_true]at q
   unfold chB at w
   rw[q.2]at w
   unfold inB at hlt ⊢
   unfold smB
   rw[q.1]at hlt
   rw[q.1]
   obtain⟨ob,E,rfl⟩:=w
   refine⟨?_,by simp;exact Nat.lt_of_lt_of_le hlt (Nat.le_add_right _ _)⟩
   show(Hi.set (blk cj) ob++E)[blk ci]?=Hi[blk ci]?
   rw[List.getElem?_append_left (by simpa using hlt)]
   refine List.getElem?_set_ne ?_
   intro h;rw[h]at hne;simp at hne
  | false =>
   rw[q]at hne
   have e:blk ci=blk cj:=Nat.eq_of_beq_eq_true hne
   have q2:Nat.blt (blk ci) 900=false:=by rw[<-e,Bool.and_self]at q;exact q
   unfold chB at w
   rw[<-e,q2]at w
   unfold smB inB
   rw[q2]
   exact⟨w,trivial⟩
 exact⟨Hj,yj',fj',(hl Hj key.1).congr h2,FU.of_rd hr ⟨rfl,key.2,fun H2 h3=>(hl H2 (key.1.trans h3)).congr h2⟩⟩
def WU(P:Program)(B:Nat->Nat->Prop)(n:Nat)(ops:Array Oper)(cl:Nat->Nat):List Nat->(Nat->PV)->List Ob->((Nat->PV)->List Ob->Prop)->Prop
 | [],T,H,K=>K T H
 | i::l,T,H,K=>∃o,ops[i]?=some o/\∃x H',YU P B ops o T H x H'/\FU P B ops (cl i) o T H x H'/\WU P B n ops cl l (eK o.dst x T) H' K
def ar4(l:List Nat)(i:Nat):Nat:=l.getD i 3
variable {T : Nat -> PV} {H : List Ob} {Q : Exit -> (Nat -> PV) -> List Ob -> Prop}
variable {o : Oper} {l : List Nat} {i : Nat} {K : (Nat -> PV) -> List Ob -> Prop} {x : PV} {H' : List Ob} {G : List (Nat × TD)} {p : Prop} {d : Option Tmp}
def ap(h:K T H):WU P B n ops cl [] T H K:=h
def fN(h0:ops[i]?=some o)(hc:cl i=0)(hd:nfD n o.dst=some d)(hw:bs ops T o=some true)(h:∀H2,bL P B o T H2 x H2)(k:WU P B n ops cl l (eK d x T) H K):WU P B n ops cl (i::l) T H K :=
 ⟨o,h0,x,H,.inl ⟨hw,.inl (h H)⟩,by rw[hc];exact⟨rfl,fun H2=>.inl ⟨hw,.inl (h H2)⟩⟩,(iI hd).1▸k⟩
def Xc(h0:ops[i]?=some o)(hc:cl i=0)(hd:nfD n o.dst=some d)(hw:bs ops T o=some true)(h:∀H2,lW P B o T H2 x H2)(k:WU P B n ops cl l (eK d x T) H K):WU P B n ops cl (i::l) T H K :=
 ⟨o,h0,x,H,.inl ⟨hw,.inr (h H)⟩,by rw[hc];exact⟨rfl,fun H2=>.inl ⟨hw,.inr (h H2)⟩⟩,(iI hd).1▸k⟩
def Xe(hG:eJ P G=true)(h0:ops[i]?=some o)(hc:cl i=0)(hd:nfD n o.dst=some d)(hw:bs ops T o=some true)(h:∀H2,evS G T H2 o.type o.op=some (x,H2,p))(hp:p)(k:WU P B n ops cl l (eK d x T) H K):WU P B n ops cl (i::l) T H K :=
 fN h0 hc hd hw (fun H2=>mD hG rfl (Du (h H2)) hp) k
def Xi{y:PV}(hG:eJ P G=true)(h0:ops[i]?=some o)(hc:cl i=0)(hd:nfD n o.dst=some d)(hw:bs ops T o=some true)(h:∀H2,evS G T H2 o.type o.op=some (x,H2,p))(hp:p)(hi:Imp x y)(k:WU P B n ops cl l (eK d y T) H K):WU P B n ops cl (i::l) T H K :=
 fN h0 hc hd hw (fun H2=>(mD hG rfl (Du (h H2)) hp).imp hi) k
def VS(h0:ops[i]?=some o)(hc:Nat.ble (cl i) 3=true)(hd:nfD n o.dst=some d)(hw:bs ops T o=some false)(k:WU P B n ops cl l (eK d (.val undef) T) H K):WU P B n ops cl (i::l) T H K:=by
 refine⟨o,h0,_,H,.inr ⟨hw,rfl,rfl⟩,?_,(iI hd).1▸k⟩
 generalize cl i=q at hc
 match q,hc with
 | 0,_=>exact⟨rfl,fun H2=>.inr ⟨hw,rfl,rfl⟩⟩
 | 1,_=>exact⟨rfl,fun E=>.inr ⟨hw,rfl,rfl⟩⟩
 | 2,_=>exact⟨[],by simp⟩
 | 3,_=>trivial
 | c+4,hc=>rw[Nat.ble_eq]at hc;omega
def Xf(hG:eJ P G=true)(h0:ops[i]?=some o)(hc:cl i=1)(hd:nfD n o.dst=some d)(hw:bs ops T o=some true)(h:∀E,evS G T (H++E) o.type o.op=some (x,H++E,p))(hp:p)(k:WU P B n ops cl l (eK d x T) H K):WU P B n ops cl (i::l) T H K :=
 ⟨o,h0,x,H,.inl ⟨hw,.inl (by have:=mD (P:=P) (B:=B) (o:=o) hG rfl (Du (h [])) hp;rwa [List.append_nil]at this)⟩,by rw[hc];exact⟨rfl,fun E=>.inl ⟨hw,.inl (mD hG rfl (Du (h E)) hp)⟩⟩,(iI hd).1▸k⟩
def mj{E:List Ob}(hG:eJ P G=true)(h0:ops[i]?=some o)(hc:cl i=2)(hd:nfD n o.dst=some d)(hw:bs ops T o=some true)(h:evN G T H o.type o.op=some (x,H',p))(hp:p)(hH:H'=H++E)(k:WU P B n ops cl l (eK d x T) H' K):WU P B n ops cl (i::l) T H K :=
 ⟨o,h0,x,H',.inl ⟨hw,.inl (mD hG rfl (yT h) hp)⟩,by rw[hc];exact⟨E,hH⟩,(iI hd).1▸k⟩
def ct(hG:eJ P G=true)(h0:ops[i]?=some o)(hc:cl i=3)(hd:nfD n o.dst=some d)(hw:bs ops T o=some true)(h:evN G T H o.type o.op=some (x,H',p))(hp:p)(k:WU P B n ops cl l (eK d x T) H' K):WU P B n ops cl (i::l) T H K :=
 ⟨o,h0,x,H',.inl ⟨hw,.inl (mD hG rfl (yT h) hp)⟩,by rw[hc];trivial,(iI hd).1▸k⟩
def kM(h0:ops[i]?=some o)(hc:cl i=3)(hd:nfD n o.dst=some d)(hw:bs ops T o=some true)(h:bL P B o T H x H')(k:WU P B n ops cl l (eK d x T) H' K):WU P B n ops cl (i::l) T H K :=
 ⟨o,h0,x,H',.inl ⟨hw,.inl h⟩,by rw[hc];trivial,(iI hd).1▸k⟩
def uR(h0:ops[i]?=some o)(hc:cl i=3)(hd:nfD n o.dst=some d)(hw:bs ops T o=some true)(h:lW P B o T H x H')(k:WU P B n ops cl l (eK d x T) H' K):WU P B n ops cl (i::l) T H K :=
 ⟨o,h0,x,H',.inl ⟨hw,.inr h⟩,by rw[hc];trivial,(iI hd).1▸k⟩
def i5(d:Nat){b:Bool}(hT:T d=.val (.bool b))(h1:b=true->WU P B n ops cl l (upd d (.val (.bool true)) T) H K)(h2:b=false->WU P B n ops cl l (upd d (.val (.bool false)) T) H K):WU P B n ops cl l T H K:=by
 have e:∀q,b=q->upd d (.val (.bool q)) T=T:=by
  rintro q rfl
  funext i
  by_cases hi:i=d
  ·subst hi;rw[eZ,hT]
  rw[dt _ _ _ _ hi]
 cases hb:b with
 | true=>have:=h1 hb;rwa [e true hb]at this
 | false=>have:=h2 hb;rwa [e false hb]at this
def C7(d:Nat){b:Bool}(hT:T d=.val (.bool b))(hb:b=true)(h1:WU P B n ops cl l (upd d (.val (.bool true)) T) H K):WU P B n ops cl l T H K :=
 i5 d hT (fun _=>h1) (fun h=>by rw[hb]at h;cases h)
def GA(d:Nat){b:Bool}(hT:T d=.val (.bool b))(hb:b=false)(h1:WU P B n ops cl l (upd d (.val (.bool false)) T) H K):WU P B n ops cl l T H K :=
 i5 d hT (fun h=>by rw[hb]at h;cases h) (fun _=>h1)
def Xa(d:Nat){x y:PV}(hT:T d=x)(hxy:x=y)(h1:WU P B n ops cl l (upd d y T) H K):WU P B n ops cl l T H K:=by
 have e:upd d y T=T:=by
  funext i
  by_cases hi:i=d
  ·subst hi;rw[eZ,hT,hxy]
  rw[dt _ _ _ _ hi]
 rwa [e]at h1
def L6{H':List Ob}(hH:H'=H)(h1:WU P B n ops cl l T H' K):WU P B n ops cl l T H K:=by subst hH;exact h1
def PZ(b:Nat){ob:Ob}(h0:ops[i]?=some o)(hc:cl i=4+2*b)(hd:nfD n o.dst=some d)(hw:bs ops T o=some true)(hb:H[b]?=some ob)(h:∀H2:List Ob,H2[b]?=some ob->bL P B o T H2 x H2)(k:WU P B n ops cl l (eK d x T) H K)(h9:Nat.blt b 900=true:=by exact rfl):WU P B n ops cl (i::l) T H K:=by
 have hk:blk (4+2*b)=b:=by unfold blk;omega
 have hs:∀H2,smB b H H2->H2[b]?=H[b]?:=fun H2 q=>by unfold smB at q;rw[h9]at q;exact q
 have hi:inB b H:=by unfold inB;rw[h9];exact cL hb
 exact⟨o,h0,x,H,.inl ⟨hw,.inl (h H hb)⟩,by rw[hc];exact FU.of_rd (by simp only[rdB,Bool.and_eq_true,Nat.ble_eq,Nat.beq_eq];omega) ⟨rfl,by rw[hk];exact hi,fun H2 h2=>.inl ⟨hw,.inl (h H2 (by rw[hk]at h2;exact(hs H2 h2).trans hb))⟩⟩,(iI hd).1▸k⟩
def dK(b:Nat){ob:Ob}(hG:eJ P G=true)(h0:ops[i]?=some o)(hc:cl i=5+2*b)(hd:nfD n o.dst=some d)(hw:bs ops T o=some true)(h:evN G T H o.type o.op=some (x,H',p))(hp:p)(hH:H'=H.set b ob)(k:WU P B n ops cl l (eK d x T) H' K)(h9:Nat.blt b 900=true:=by exact rfl):WU P B n ops cl (i::l) T H K:=by
 have hk:blk (5+2*b)=b:=by unfold blk;omega
 exact⟨o,h0,x,H',.inl ⟨hw,.inl (mD hG rfl (yT h) hp)⟩,by rw[hc];exact FU.of_wr (by simp only[wrB,Bool.and_eq_true,Nat.ble_eq,Nat.beq_eq];omega) (by rw[hk];unfold chB;rw[h9];exact⟨ob,[],by rw[List.append_nil];exact hH⟩),(iI hd).1▸k⟩
def iA{E:List Ob}(h0:ops[i]?=some o)(hc:cl i=2)(hd:nfD n o.dst=some d)(hw:bs ops T o=some true)(h:lW P B o T H x (H++E))(k:WU P B n ops cl l (eK d x T) (H++E) K):WU P B n ops cl (i::l) T H K :=
 ⟨o,h0,x,H++E,.inl ⟨hw,.inr h⟩,by rw[hc];exact⟨E,rfl⟩,(iI hd).1▸k⟩
def ZH(b:Nat){ob:Ob}(h0:ops[i]?=some o)(hc:cl i=5+2*b)(hd:nfD n o.dst=some d)(hw:bs ops T o=some true)(h:lW P B o T H x H')(hH:H'=H.set b ob)(k:WU P B n ops cl l (eK d x T) H' K)(h9:Nat.blt b 900=true:=by exact rfl):WU P B n ops cl (i::l) T H K:=by
 have hk:blk (5+2*b)=b:=by unfold blk;omega
 exact⟨o,h0,x,H',.inl ⟨hw,.inr h⟩,by rw[hc];exact FU.of_wr (by simp only[wrB,Bool.and_eq_true,Nat.ble_eq,Nat.beq_eq];omega) (by rw[hk];unfold chB;rw[h9];exact⟨ob,[],by rw[List.append_nil];exact hH⟩),(iI hd).1▸k⟩
def Sb{t:TypeId}{td:TD}{y:Operand}{off:Nat}{xs:List PV}{e:TypeId}(f:ao P t td)(ha:td.agg=false)(ho:o.op=.load t y)(hy:opv T y=.ptr 0 off)(hi:H[0]?=some (.cells xs e))(hr:(xs.take 27)[off]?=some x)
  (h0:ops[i]?=some o) (hc:cl i=1804) (hd:nfD n o.dst=some d) (hw:bs ops T o=some true) (k:WU P B n ops cl l (eK d x T) H K):WU P B n ops cl (i::l) T H K:=by
 have key:∀H2,Rk H H2->YU P B ops o T H2 x H2:=fun H2 h2=>by
  obtain⟨ys,h3,h4⟩:=h2 xs e hi
  refine .inl ⟨hw,.inl (co f ho hy h3 ?_)⟩
  unfold kh;rw[ha]
  rw[<-h4,List.getElem?_take]at hr
  split at hr
  ·exact hr
  cases hr
 exact⟨o,h0,x,H,key H (Rk.refl H),by rw[hc];exact⟨rfl,trivial,key⟩,(iI hd).1▸k⟩
def RS(h0:ops[i]?=some o)(hc:cl i=1805)(hd:nfD n o.dst=some d)(hw:bs ops T o=some true)(h:lW P B o T H x H')(hr:Rk H H')(k:WU P B n ops cl l (eK d x T) H' K):WU P B n ops cl (i::l) T H K :=
 ⟨o,h0,x,H',.inl ⟨hw,.inr h⟩,by rw[hc];exact(show chB 900 H H' from hr),(iI hd).1▸k⟩
end
section
variable {P : Program} {B : Nat -> Nat -> Prop} {n : Nat} {ops : Array Oper} {cl : Nat -> Nat} {md : Region.Mode}
def Hh{Q:(Nat->PV)->List Ob->Prop}{i:Nat}{oi:Oper}{x:PV}(hi:ops[i]?=some oi)(D:List Nat)(hDi:i∈D)(hD:∀j∈D,j≠i->∃oj e,ops[j]?=some oj/\e∈oj.after/\Region.binds md e=true/\e.on∈D):∀(fuel:Nat) (listed:Array Bool) (T:Nat->PV) (H Hi:List Ob),
  (∀j∈D,listed.getD j true=false) ->
  (∀j oj,ops[j]?=some oj->j∉D->listed.getD j true=false->oi.apart ops oj=true/\yn (cl i) (cl j)=true) ->
  i∈Region.ready md ops listed->YU P B ops oi T H x Hi->FU P B ops (cl i) oi T H x Hi->H7 P B md ops cl Q fuel (listed.setIfInBounds i true) (eK oi.dst x T) Hi->H7 P B md ops cl Q (fuel+1) listed T H:=by
 intro fuel
 have self:∀(fuel:Nat) (listed:Array Bool) (T:Nat->PV) (H Hi:List Ob),YU P B ops oi T H x Hi->FU P B ops (cl i) oi T H x Hi->H7 P B md ops cl Q fuel (listed.setIfInBounds i true) (eK oi.dst x T) Hi->qU P B ops cl i (H7 P B md ops cl Q fuel (listed.setIfInBounds i true)) T H:=by
  intro fuel listed T H Hi hy hf h
  unfold qU
  simp only[hi]
  exact⟨x,Hi,hy,hf,h⟩
 induction fuel with
 | zero =>
  intro listed T H Hi _ _ hr hy hf h
  refine⟨fun h0=>(by rw[h0]at hr;cases hr),fun j hj=>?_⟩
  by_cases hji:j=i
  ·subst hji;exact self 0 listed T H Hi hy hf h
  have:=ready_mono hj hji
  rw[h.1]at this
  cases this
 | succ fuel ih =>
  intro listed T H Hi hun0 hfree hr hy hf h
  refine⟨fun h0=>(by rw[h0]at hr;cases hr),fun j hj=>?_⟩
  by_cases hji:j=i
  ·subst hji;exact self (fuel+1) listed T H Hi hy hf h
  have h1:=h.2 j (ready_mono hj hji)
  obtain⟨hjun,oj,hoj,hall⟩:=mem_ready.1 hj
  have hnot:j∉D:=fun hjD=>by
   obtain⟨oj2,e,k1,k2,k3,k4⟩:=hD j hjD hji
   rw[hoj]at k1
   obtain rfl:=Option.some.inj k1
   have a1:=hall e k2 k3
   have a0:=hun0 e.on k4
   rcases Nat.lt_or_ge e.on listed.size with h'|h'
   ·simp[h']at a0 a1;rw[a0]at a1;cases a1
   simp[Array.getElem?_eq_none h']at a1
  obtain⟨hap,hcp⟩:=hfree j oj hoj hnot hjun
  obtain⟨l1,l2,l3⟩:=FB hap
  unfold qU at h1 ⊢
  simp only[hoj]at h1 ⊢
  obtain⟨y,Hj,hyj,hfj,hk⟩:=h1
  obtain⟨H',k1,k2,k3,k4⟩:=ar2 hcp (fun t ht=>BQ (l1 t ht)) (fun t ht=>BQ (l2 t ht)) hy hf hyj hfj
  refine⟨y,H',k1,k2,ih (listed.setIfInBounds j true) _ H' Hj (fun k hk=>?_) (fun k ok hk hki hun=>?_) (ready_mono hr (Ne.symm hji)) k3 k4 ?_⟩
  ·rw[getD_set_ne true (by rintro rfl;exact hnot hk)];exact hun0 k hk
  ·refine hfree k ok hk hki ?_
   by_cases hjk:j=k
   ·subst hjk;exact hjun
   rw[getD_set_ne true hjk]at hun;exact hun
  rw[Array.setIfInBounds_comm _ _ hji,Mz _ _ _ l3]
  exact hk
def Rt(md:Region.Mode)(ops:Array Oper):Nat->List Nat->List Nat
 | 0,D=>D
 | k+1,D=>Rt md ops k (D++((ops.toList.zipIdx.filter fun q=>!D.contains q.2&&(q.1.after.any fun e=>Region.binds md e&&D.contains e.on)).map (·.2)))
def X5(md:Region.Mode)(ops:Array Oper)(cl:Nat->Nat)(listed:Array Bool)(i:Nat)(oi:Oper)(D:List Nat):Bool :=
 D.contains i&&(D.all fun j=>Nat.beq j i||(match ops[j]? with|some oj=>oj.after.any fun e=>Region.binds md e&&D.contains e.on|none=>false))&&(D.all fun j=>!listed.getD j true) &&
  ops.toList.zipIdx.all fun q=>D.contains q.2||listed.getD q.2 true||(oi.apart ops q.1&&yn (cl i) (cl q.2))
def Ri(md:Region.Mode)(ops:Array Oper)(cl:Nat->Nat):List Nat->Array Bool->Bool
 | [],listed=>(Region.ready md ops listed).isEmpty
 | i::l,listed=>(Region.ready md ops listed).contains i&&(match ops[i]? with|some oi=>X5 md ops cl listed i oi (Rt md ops 6 [i])|none=>false)&&Ri md ops cl l (listed.setIfInBounds i true)
def BM{Q:(Nat->PV)->List Ob->Prop}:∀(l:List Nat) (listed:Array Bool) (T:Nat->PV) (H:List Ob),Ri md ops cl l listed=true->WU P B n ops cl l T H Q->H7 P B md ops cl Q l.length listed T H
 | [],listed,T,H,hB,h=>⟨by simpa[Ri]using hB,h⟩
 | i::l,listed,T,H,hB,h=>by
  simp only[Ri,Bool.and_eq_true]at hB
  obtain⟨⟨hr,hf⟩,hB'⟩:=hB
  obtain⟨o,ho,x,H',hy,hfu,hK⟩:=h
  rw[ho]at hf
  simp only[X5,Bool.and_eq_true]at hf
  obtain⟨⟨⟨f1,f2⟩,f3⟩,f4⟩:=hf
  refine Hh ho (Rt md ops 6 [i]) (by simpa using f1) (fun j hj hji=>?_) l.length listed T H H' (fun j hj=>?_) (fun j oj hj hjD hun=>?_) (by simpa using hr) hy hfu (BM l _ _ _ hB' hK)
  ·have:=List.all_eq_true.1 f2 j hj
   rw[Bool.or_eq_true,Nat.beq_eq]at this
   rcases this with h|h
   ·exact absurd h hji
   cases hoj:ops[j]? with
   | none=>rw[hoj]at h;cases h
   | some oj =>
    rw[hoj]at h
    obtain⟨e,he,h3⟩:=Array.any_eq_true'.1 h
    rw[Bool.and_eq_true]at h3
    exact⟨oj,e,rfl,he,h3.1,by simpa using h3.2⟩
  ·have:=List.all_eq_true.1 f3 j hj
   simpa using this
  have h1:=List.all_eq_true.1 f4 (oj,j) (U8 (by rw[Array.getElem?_toList];exact hj))
  simp only[Bool.or_eq_true,Bool.and_eq_true]at h1
  rcases h1 with (h1|h1)|h1
  ·exact absurd (by simpa using h1) hjD
  ·rw[hun]at h1;cases h1
  exact h1
def Yh(md:Region.Mode)(ops:Array Oper)(cl:List Nat)(ord:List Nat):Bool:=Nat.beq ord.length ops.size&&Ri md ops (ar4 cl) ord (Array.replicate ops.size false)
variable {T : Nat -> PV} {H : List Ob} {Q : Exit -> (Nat -> PV) -> List Ob -> Prop}
def am{id:Nat}(cl ord:List Nat)(hm:P.follows .mixedOrders=true)(hall:iH n ops=true)(hB:Yh .any ops cl ord=true)(h:WU P B n ops (ar4 cl) ord T H (fun T' H'=>Q .normal T' H')):W P B n (.region id ops true) T H Q:=by
 intro σ w a g
 simp only[Yh,Bool.and_eq_true,Nat.beq_eq]at hB
 refine wp_region_any hm ?_
 have hd:be w {w with drawn:=w.drawn+1}:=be.drew w
 obtain⟨s',st⟩:=gu g.sim hd
 have hA:=BM (P:=P) (B:=B) (n:=n) (md:=.any) ord (Array.replicate ops.size false) T H hB.2 h
 rw[hB.1]at hA
 exact nN (P:=P) (md:=.any) hall (H0:=H) (σ0:=σ) (w0:=w) (Q':=Np B n H σ w Q) (fun T' H' σ' w' a' g' st' hq=>⟨T',H',σ',hq,g',st'⟩) ops.size _ T H σ _ a ⟨s',fun i=>(g.rep i).mono st.le,g.size,g.defers⟩ st hA
end
def dnL:(∀(p:Prop) [Decidable p],(decide p=true)=p)/\(∀(p:Prop) [Decidable p],(decide p=false)=¬p)/\(∀b:Bool,((!b)=true)=(b=false))/\(∀b:Bool,((!b)=false)=(b=true)) /\
  (∀a b:Bool,((a&&b)=true)=(a=true/\b=true))/\(∀a b:Bool,((a||b)=true)=(a=true\/b=true))/\(∀a b:Bool,((a&&b)=false)=(a=false\/b=false))/\(∀a b:Bool,((a||b)=false)=(a=false/\b=false)) /\
  (∀b:Bool,(¬(b=true))=(b=false))/\(∀(α:Type) [BEq α] [LawfulBEq α] (a b:α),((a==b)=true)=(a=b))/\(∀(α:Type) [BEq α] [LawfulBEq α] (a b:α),((a==b)=false)=(a≠b)) /\
  (∀(α:Type) [BEq α] [LawfulBEq α] (a b:α),((a != b)=true)=(a≠b))/\(∀(α:Type) (a b:α),(a≠b)=¬(a=b))/\(∀(α:Type) [BEq α] [LawfulBEq α] (a b:α),((a != b)=false)=(a=b))/\((false=true)=False)/\((true=false)=False) /\
  (∀p:Prop,(False↔p)=¬p)/\(∀p:Prop,(True↔p)=p)/\(∀p:Prop,(p↔False)=¬p)/\(∀p:Prop,(p↔True)=p):=by
 refine⟨?_,?_,?_,?_,?_,?_,?_,?_,?_,?_,?_,?_,?_,?_,?_,?_,?_,?_,?_,?_⟩<;>intros<;>first|(simp;done)|(rw[Bool.and_eq_false_iff];done)
open Go.RowKit
abbrev i_:PV:=.val (.int .i64 0)
def nF:TD:=⟨1,8,[.val .nilFunc],.other⟩
def tys:List (Nat×TD):=[
 (1,nF),(2,⟨1,8,[i_],.int .i64⟩),
 (3,⟨1,8,[i_],.int .i64⟩),
 (4,⟨1,1,[.val (.bool false)],.bool⟩),
 (5,⟨1,1,[.val (.int .u8 0)],.int .u8⟩),
 (6,⟨1,1,[.val (.int .u8 0)],.int .u8⟩),
 (7,⟨4,24,[i_,i_,.val (.bool false),.val (.int .u8 0)],.struct [(0,1,false),(1,1,false),(2,1,false),(3,1,false)]⟩),
 (8,⟨4,24,[i_,i_,.val (.bool false),.val (.int .u8 0)],.struct [(0,1,false),(1,1,false),(2,1,false),(3,1,false)]⟩),
 (9,⟨1,16,[.val (.string ⟨#[]⟩)],.str⟩),
 (10,⟨1,16,[.val (.string ⟨#[]⟩)],.str⟩),
 (11,⟨1,16,[.val (.string ⟨#[]⟩)],.str⟩),
 (12,⟨1,8,[.val (.int .u64 0)],.int .u64⟩),
 (13,⟨2,24,[.val (.string ⟨#[]⟩),.val (.int .u64 0)],.struct [(0,1,false),(1,1,false)]⟩),
 (14,⟨2,24,[.val (.string ⟨#[]⟩),.val (.int .u64 0)],.struct [(0,1,false),(1,1,false)]⟩),
 (15,⟨1,8,[.val (.pointer none)],.other⟩),(16,⟨1,8,[.val (.pointer none)],.other⟩),(17,⟨1,8,[.val (.pointer none)],.other⟩),(18,⟨1,8,[.val (.pointer none)],.struct [(0,1,false)]⟩),
 (19,⟨1,8,[.val (.pointer none)],.struct [(0,1,false)]⟩),
 (20,⟨1,16,[.val .nilIface],.other⟩),(21,⟨1,4,[.val (.int .i32 0)],.int .i32⟩),
 (22,⟨1,24,[.seq 0 [] .clip],.slice 5⟩),
 (23,nF),(24,⟨5,40,[i_,i_,i_,i_,i_],.struct [(0,1,false),(1,1,false),(2,1,false),(3,1,false),(4,1,false)]⟩),
 (25,⟨5,40,[i_,i_,i_,i_,i_],.struct [(0,1,false),(1,1,false),(2,1,false),(3,1,false),(4,1,false)]⟩),
 (26,⟨1,24,[.seq 0 [] .clip],.slice 120⟩),
 (27,⟨2,48,[.seq 0 [] .clip,.seq 0 [] .clip],.struct [(0,1,false),(1,1,false)]⟩),
 (28,⟨2,48,[.seq 0 [] .clip,.seq 0 [] .clip],.struct [(0,1,false),(1,1,false)]⟩),
 (29,⟨1,24,[.seq 0 [] .clip],.slice 3⟩),
 (30,⟨1,24,[.seq 0 [] .clip],.slice 163⟩),
 (31,⟨1,24,[.seq 0 [] .clip],.slice 61⟩),
 (32,⟨2,32,[.seq 0 [] .clip,.val (.bool false)],.struct [(0,1,false),(1,1,false)]⟩),
 (33,⟨2,32,[.seq 0 [] .clip,.val (.bool false)],.struct [(0,1,false),(1,1,false)]⟩),
 (34,⟨1,24,[.seq 0 [] .clip],.slice 165⟩),
 (35,⟨1,24,[.seq 0 [] .clip],.slice 167⟩),
 (36,⟨23,344,[i_,i_,i_,i_,i_,.seq 0 [] .clip,.seq 0 [] .clip,i_,.seq 0 [] .clip,.seq 0 [] .clip,.seq 0 [] .clip,.seq 0 [] .clip,i_,.seq 0 [] .clip,.seq 0 [] .clip,.val (.bool false),.seq 0 [] .clip,i_,i_,i_,i_,i_,.seq 0 [] .clip],.struct [(0,5,true),(5,2,true),(7,1,false),(8,1,false),(9,1,false),(10,1,false),(11,1,false),(12,1,false),(13,1,false),(14,2,true),(16,1,false),(17,1,false),(18,1,false),(19,1,false),(20,1,false),(21,1,false),(22,1,false)]⟩),
 (37,⟨23,344,[i_,i_,i_,i_,i_,.seq 0 [] .clip,.seq 0 [] .clip,i_,.seq 0 [] .clip,.seq 0 [] .clip,.seq 0 [] .clip,.seq 0 [] .clip,i_,.seq 0 [] .clip,.seq 0 [] .clip,.val (.bool false),.seq 0 [] .clip,i_,i_,i_,i_,i_,.seq 0 [] .clip],.struct [(0,5,true),(5,2,true),(7,1,false),(8,1,false),(9,1,false),(10,1,false),(11,1,false),(12,1,false),(13,1,false),(14,2,true),(16,1,false),(17,1,false),(18,1,false),(19,1,false),(20,1,false),(21,1,false),(22,1,false)]⟩),
 (38,⟨1,24,[.seq 0 [] .clip],.slice 115⟩),
 (39,⟨7,72,[i_,.seq 0 [] .clip,i_,i_,i_,.val (.bool false),i_],.struct [(0,1,false),(1,1,false),(2,1,false),(3,1,false),(4,1,false),(5,1,false),(6,1,false)]⟩),
 (40,⟨7,72,[i_,.seq 0 [] .clip,i_,i_,i_,.val (.bool false),i_],.struct [(0,1,false),(1,1,false),(2,1,false),(3,1,false),(4,1,false),(5,1,false),(6,1,false)]⟩),
 (41,⟨30,416,[i_,i_,i_,i_,i_,.seq 0 [] .clip,.seq 0 [] .clip,i_,.seq 0 [] .clip,.seq 0 [] .clip,.seq 0 [] .clip,.seq 0 [] .clip,i_,.seq 0 [] .clip,.seq 0 [] .clip,.val (.bool false),.seq 0 [] .clip,i_,i_,i_,i_,i_,.seq 0 [] .clip,i_,.seq 0 [] .clip,i_,i_,i_,.val (.bool false),i_],.struct [(0,23,true),(23,7,true)]⟩),
 (42,⟨30,416,[i_,i_,i_,i_,i_,.seq 0 [] .clip,.seq 0 [] .clip,i_,.seq 0 [] .clip,.seq 0 [] .clip,.seq 0 [] .clip,.seq 0 [] .clip,i_,.seq 0 [] .clip,.seq 0 [] .clip,.val (.bool false),.seq 0 [] .clip,i_,i_,i_,i_,i_,.seq 0 [] .clip,i_,.seq 0 [] .clip,i_,i_,i_,.val (.bool false),i_],.struct [(0,23,true),(23,7,true)]⟩),
 (43,nF),(45,nF),(46,⟨1,24,[.seq 0 [] .clip],.slice 9⟩),
 (47,⟨1,8,[i_],.int .i64⟩),
 (49,nF),(50,nF),(51,nF),(52,nF),(53,nF),(54,nF),(56,nF),(57,nF),(59,nF),(60,⟨3,32,[.val (.string ⟨#[]⟩),i_,i_],.struct [(0,1,false),(1,1,false),(2,1,false)]⟩),
 (61,⟨3,32,[.val (.string ⟨#[]⟩),i_,i_],.struct [(0,1,false),(1,1,false),(2,1,false)]⟩),
 (63,nF),(64,nF),(65,nF),(66,nF),(67,nF),(69,nF),(71,nF),(72,nF),(74,nF),(75,nF),(76,nF),(77,nF),(78,nF),(79,nF),(80,nF),(81,nF),(82,nF),(83,nF),(84,nF),(85,⟨1,8,[.val (.pointer none)],.other⟩),(86,⟨1,16,[.val .nilIface],.other⟩),(87,⟨1,16,[.val .nilIface],.other⟩),(88,⟨34,464,[i_,i_,i_,i_,i_,.seq 0 [] .clip,.seq 0 [] .clip,i_,.seq 0 [] .clip,.seq 0 [] .clip,.seq 0 [] .clip,.seq 0 [] .clip,i_,.seq 0 [] .clip,.seq 0 [] .clip,.val (.bool false),.seq 0 [] .clip,i_,i_,i_,i_,i_,.seq 0 [] .clip,i_,.seq 0 [] .clip,i_,i_,i_,.val (.bool false),i_,.val (.string ⟨#[]⟩),i_,i_,.val .nilIface],.struct [(0,30,true),(30,1,false),(31,1,false),(32,1,false),(33,1,false)]⟩),
 (89,⟨34,464,[i_,i_,i_,i_,i_,.seq 0 [] .clip,.seq 0 [] .clip,i_,.seq 0 [] .clip,.seq 0 [] .clip,.seq 0 [] .clip,.seq 0 [] .clip,i_,.seq 0 [] .clip,.seq 0 [] .clip,.val (.bool false),.seq 0 [] .clip,i_,i_,i_,i_,i_,.seq 0 [] .clip,i_,.seq 0 [] .clip,i_,i_,i_,.val (.bool false),i_,.val (.string ⟨#[]⟩),i_,i_,.val .nilIface],.struct [(0,30,true),(30,1,false),(31,1,false),(32,1,false),(33,1,false)]⟩),
 (91,nF),(93,nF),(94,nF),(95,nF),(96,nF),(97,nF),(98,nF),(99,nF),(101,nF),(102,⟨1,8,[.val (.pointer none)],.other⟩),(103,⟨1,8,[i_],.struct [(0,1,false)]⟩),
 (104,⟨1,8,[i_],.struct [(0,1,false)]⟩),
 (105,⟨31,424,[i_,i_,i_,i_,i_,.seq 0 [] .clip,.seq 0 [] .clip,i_,.seq 0 [] .clip,.seq 0 [] .clip,.seq 0 [] .clip,.seq 0 [] .clip,i_,.seq 0 [] .clip,.seq 0 [] .clip,.val (.bool false),.seq 0 [] .clip,i_,i_,i_,i_,i_,.seq 0 [] .clip,i_,.seq 0 [] .clip,i_,i_,i_,.val (.bool false),i_,i_],.struct [(0,30,true),(30,1,true)]⟩),
 (106,⟨31,424,[i_,i_,i_,i_,i_,.seq 0 [] .clip,.seq 0 [] .clip,i_,.seq 0 [] .clip,.seq 0 [] .clip,.seq 0 [] .clip,.seq 0 [] .clip,i_,.seq 0 [] .clip,.seq 0 [] .clip,.val (.bool false),.seq 0 [] .clip,i_,i_,i_,i_,i_,.seq 0 [] .clip,i_,.seq 0 [] .clip,i_,i_,i_,.val (.bool false),i_,i_],.struct [(0,30,true),(30,1,true)]⟩),
 (108,nF),(109,nF),(110,nF),(111,nF),(112,nF),(113,nF),(114,⟨3,40,[i_,i_,.seq 0 [] .clip],.struct [(0,1,false),(1,1,false),(2,1,false)]⟩),
 (115,⟨3,40,[i_,i_,.seq 0 [] .clip],.struct [(0,1,false),(1,1,false),(2,1,false)]⟩),
 (116,nF),(118,nF),(119,⟨2,32,[i_,.seq 0 [] .clip],.struct [(0,1,false),(1,1,false)]⟩),
 (120,⟨2,32,[i_,.seq 0 [] .clip],.struct [(0,1,false),(1,1,false)]⟩),
 (121,⟨1,8,[.val (.int .u64 0)],.int .u64⟩),
 (122,nF),(123,nF),(124,nF),(125,nF),(126,nF),(127,nF),(128,nF),(129,nF),(130,nF),(132,nF),(134,nF),(135,nF),(136,nF),(137,nF),(139,nF),(140,⟨1,8,[i_],.struct [(0,1,false)]⟩),
 (141,⟨1,8,[i_],.struct [(0,1,false)]⟩),
 (142,nF),(143,⟨1,8,[.val (.pointer none)],.other⟩),(144,⟨27,376,[i_,i_,i_,i_,i_,.seq 0 [] .clip,.seq 0 [] .clip,i_,.seq 0 [] .clip,.seq 0 [] .clip,.seq 0 [] .clip,.seq 0 [] .clip,i_,.seq 0 [] .clip,.seq 0 [] .clip,.val (.bool false),.seq 0 [] .clip,i_,i_,i_,i_,i_,.seq 0 [] .clip,i_,i_,.val (.bool false),i_],.struct [(0,23,true),(23,1,false),(24,1,false),(25,1,false),(26,1,false)]⟩),
 (145,⟨27,376,[i_,i_,i_,i_,i_,.seq 0 [] .clip,.seq 0 [] .clip,i_,.seq 0 [] .clip,.seq 0 [] .clip,.seq 0 [] .clip,.seq 0 [] .clip,i_,.seq 0 [] .clip,.seq 0 [] .clip,.val (.bool false),.seq 0 [] .clip,i_,i_,i_,i_,i_,.seq 0 [] .clip,i_,i_,.val (.bool false),i_],.struct [(0,23,true),(23,1,false),(24,1,false),(25,1,false),(26,1,false)]⟩),
 (146,nF),(148,nF),(150,nF),(152,nF),(153,nF),(155,nF),(157,nF),(158,nF),(160,nF),(161,nF),(162,⟨3,24,[i_,i_,i_],.struct [(0,1,false),(1,1,false),(2,1,false)]⟩),
 (163,⟨3,24,[i_,i_,i_],.struct [(0,1,false),(1,1,false),(2,1,false)]⟩),
 (164,⟨6,48,[i_,i_,i_,i_,i_,i_],.struct [(0,1,false),(1,1,false),(2,1,false),(3,1,false),(4,1,false),(5,1,false)]⟩),
 (165,⟨6,48,[i_,i_,i_,i_,i_,i_],.struct [(0,1,false),(1,1,false),(2,1,false),(3,1,false),(4,1,false),(5,1,false)]⟩),
 (166,⟨4,32,[i_,i_,i_,.val (.bool false)],.struct [(0,1,false),(1,1,false),(2,1,false),(3,1,false)]⟩),
 (167,⟨4,32,[i_,i_,i_,.val (.bool false)],.struct [(0,1,false),(1,1,false),(2,1,false),(3,1,false)]⟩),
 (168,nF),(169,nF),(170,nF),(172,⟨1,8,[.val (.map none)],.other⟩),(173,nF),(174,⟨25,376,[i_,i_,i_,i_,i_,.seq 0 [] .clip,.seq 0 [] .clip,i_,.seq 0 [] .clip,.seq 0 [] .clip,.seq 0 [] .clip,.seq 0 [] .clip,i_,.seq 0 [] .clip,.seq 0 [] .clip,.val (.bool false),.seq 0 [] .clip,i_,i_,i_,i_,i_,.seq 0 [] .clip,.seq 0 [] .clip,i_],.struct [(0,23,true),(23,1,false),(24,1,false)]⟩),
 (175,⟨25,376,[i_,i_,i_,i_,i_,.seq 0 [] .clip,.seq 0 [] .clip,i_,.seq 0 [] .clip,.seq 0 [] .clip,.seq 0 [] .clip,.seq 0 [] .clip,i_,.seq 0 [] .clip,.seq 0 [] .clip,.val (.bool false),.seq 0 [] .clip,i_,i_,i_,i_,i_,.seq 0 [] .clip,.seq 0 [] .clip,i_],.struct [(0,23,true),(23,1,false),(24,1,false)]⟩),
 (176,nF),(178,nF),(180,nF),(181,⟨1,8,[.val (.pointer none)],.other⟩),(182,⟨1,8,[.val (.int .u64 0)],.int .u64⟩),
 (183,⟨3,24,[.val (.pointer none),.val (.pointer none),.val (.int .u64 0)],.struct [(0,1,false),(1,1,false),(2,1,false)]⟩),
 (184,⟨3,24,[.val (.pointer none),.val (.pointer none),.val (.int .u64 0)],.struct [(0,1,false),(1,1,false),(2,1,false)]⟩),
 (185,nF),(186,⟨1,16,[.val .nilIface],.other⟩),(187,⟨1,16,[.val .nilIface],.other⟩),(188,nF),(189,⟨1,1,[.val (.int .u8 0)],.int .u8⟩),
 (190,nF),(191,nF),(192,nF),(193,nF),(194,nF),(195,nF),(196,⟨28,392,[i_,i_,i_,i_,i_,.seq 0 [] .clip,.seq 0 [] .clip,i_,.seq 0 [] .clip,.seq 0 [] .clip,.seq 0 [] .clip,.seq 0 [] .clip,i_,.seq 0 [] .clip,.seq 0 [] .clip,.val (.bool false),.seq 0 [] .clip,i_,i_,i_,i_,i_,.seq 0 [] .clip,i_,i_,.val (.bool false),i_,.val .nilIface],.struct [(0,27,true),(27,1,false)]⟩),
 (197,⟨28,392,[i_,i_,i_,i_,i_,.seq 0 [] .clip,.seq 0 [] .clip,i_,.seq 0 [] .clip,.seq 0 [] .clip,.seq 0 [] .clip,.seq 0 [] .clip,i_,.seq 0 [] .clip,.seq 0 [] .clip,.val (.bool false),.seq 0 [] .clip,i_,i_,i_,i_,i_,.seq 0 [] .clip,i_,i_,.val (.bool false),i_,.val .nilIface],.struct [(0,27,true),(27,1,false)]⟩),
 (198,⟨2,24,[i_,.val .nilIface],.struct [(0,1,false),(1,1,false)]⟩),
 (199,⟨2,24,[i_,.val .nilIface],.struct [(0,1,false),(1,1,false)]⟩),
 (200,⟨1,8,[i_],.struct [(0,1,false)]⟩),
 (201,⟨1,8,[i_],.struct [(0,1,false)]⟩),
 (202,nF),(203,⟨1,8,[.val (.pointer none)],.other⟩),(205,nF),(206,nF),(207,nF),(208,nF),(209,nF),(210,⟨1,8,[.val (.pointer none)],.other⟩),(211,nF),(212,⟨1,8,[.val (.pointer none)],.other⟩),(213,nF),(215,nF),(216,nF),(217,⟨1,8,[.val (.pointer none)],.other⟩),(218,nF),(219,nF),(220,⟨1,8,[.val (.pointer none)],.struct [(0,1,false)]⟩),
 (221,⟨1,8,[.val (.pointer none)],.struct [(0,1,false)]⟩),
 (222,⟨1,8,[.val (.pointer none)],.other⟩),(223,nF),(224,nF),(225,nF),(226,⟨1,16,[.val .nilIface],.other⟩),(228,nF),(229,⟨1,16,[.val .nilIface],.other⟩),(230,nF),(231,⟨1,16,[.val .nilIface],.other⟩),(232,⟨1,24,[.seq 0 [] .clip],.slice 87⟩),
 (233,nF),(234,nF),(235,nF),(236,nF),(237,⟨1,8,[.val (.pointer none)],.other⟩),(238,nF),(239,nF),(240,nF),(241,nF),(242,nF),(243,nF),(244,⟨8,8,[.val (.int .u8 0),.val (.int .u8 0),.val (.int .u8 0),.val (.int .u8 0),.val (.int .u8 0),.val (.int .u8 0),.val (.int .u8 0),.val (.int .u8 0)],.array 8 5⟩),
 (245,nF),(246,nF),(247,nF),(248,nF),(250,nF),(251,nF),(252,nF),(253,nF),(254,nF),(255,nF),(256,nF),(258,⟨1,8,[.val (.map none)],.other⟩),(259,nF),(260,nF),(261,nF),(262,nF),(264,nF),(265,nF),(266,⟨2,16,[i_,.val .nilFunc],.struct [(0,1,false),(1,1,false)]⟩),
 (267,⟨2,16,[i_,.val .nilFunc],.struct [(0,1,false),(1,1,false)]⟩),
 (268,nF),(269,⟨1,8,[.val (.pointer none)],.other⟩),(270,nF),(271,nF),(272,⟨1,16,[.val .nilIface],.other⟩),(274,nF),(275,⟨3,56,[.seq 0 [] .clip,.seq 0 [] .clip,i_],.struct [(0,2,true),(2,1,false)]⟩),
 (276,⟨3,56,[.seq 0 [] .clip,.seq 0 [] .clip,i_],.struct [(0,2,true),(2,1,false)]⟩),
 (277,nF),(279,nF),(280,nF),(281,nF),(282,nF),(283,nF),(285,nF),(286,nF),(287,nF),(288,nF),(289,nF),(290,nF),(291,⟨2,24,[i_,.val (.string ⟨#[]⟩)],.struct [(0,1,false),(1,1,false)]⟩),
 (292,⟨2,24,[i_,.val (.string ⟨#[]⟩)],.struct [(0,1,false),(1,1,false)]⟩),
 (294,⟨1,8,[.val (.map none)],.other⟩),(295,nF),(296,nF),(298,nF),(299,nF),(300,nF),(301,⟨1,8,[.val (.map none)],.other⟩),(302,nF),(303,⟨5,40,[.val (.map none),.val (.map none),.val (.map none),.val (.map none),.val (.map none)],.array 5 301⟩),
 (305,⟨1,24,[.seq 0 [] .clip],.slice 29⟩),
 (306,nF),(307,nF),(309,nF),(310,nF),(312,nF),(313,nF),(314,nF),(315,nF),(316,nF),(317,nF),(319,nF),(320,nF),(321,nF),(322,⟨1,8,[.val (.int .u64 0)],.int .u64⟩),
 (323,nF),(325,nF),(326,nF),(327,nF),(328,nF),(329,nF),(330,nF),(331,nF),(332,nF),(333,nF),(334,nF),(335,nF),(336,nF),(337,nF),(338,nF),(339,nF),(340,nF),(341,nF),(343,nF),(344,nF),(345,nF),(346,nF),(347,nF),(349,nF),(350,nF),(352,nF),(353,nF),(354,nF),(355,nF),(356,nF),(357,nF),(359,nF),(360,nF),(361,nF),(362,nF),(364,nF),(365,nF),(366,nF),(368,nF),(369,⟨1,8,[.val (.pointer none)],.other⟩),(370,⟨2,32,[.val (.pointer none),.seq 0 [] .clip],.struct [(0,1,false),(1,1,false)]⟩),
 (371,⟨2,32,[.val (.pointer none),.seq 0 [] .clip],.struct [(0,1,false),(1,1,false)]⟩),
 (373,nF),(374,nF),(375,nF),(376,⟨1,8,[.val (.map none)],.other⟩),(377,nF),(378,nF),(379,⟨1,4,[.val (.int .u32 0)],.int .u32⟩),
 (381,nF),(382,nF),(383,⟨1,8,[.val (.pointer none)],.other⟩),(384,⟨4,40,[.val (.pointer none),.val (.pointer none),.val (.pointer none),.val (.string ⟨#[]⟩)],.struct [(0,1,false),(1,1,false),(2,1,false),(3,1,false)]⟩),
 (385,⟨4,40,[.val (.pointer none),.val (.pointer none),.val (.pointer none),.val (.string ⟨#[]⟩)],.struct [(0,1,false),(1,1,false),(2,1,false),(3,1,false)]⟩),
 (389,nF),(390,⟨1,1,[.val (.int .u8 0)],.int .u8⟩),
 (391,nF),(392,⟨1,4,[.val (.int .i32 0)],.int .i32⟩),
 (393,⟨1,4,[.val (.int .i32 0)],.int .i32⟩),
 (394,⟨11,48,[.val (.int .u64 0),.val (.int .u64 0),.val (.int .u32 0),.val (.int .u8 0),.val (.int .u8 0),.val (.int .u8 0),.val (.int .u8 0),.val .nilFunc,.val (.pointer none),.val (.int .i32 0),.val (.int .i32 0)],.struct [(0,1,false),(1,1,false),(2,1,false),(3,1,false),(4,1,false),(5,1,false),(6,1,false),(7,1,false),(8,1,false),(9,1,false),(10,1,false)]⟩),
 (395,⟨11,48,[.val (.int .u64 0),.val (.int .u64 0),.val (.int .u32 0),.val (.int .u8 0),.val (.int .u8 0),.val (.int .u8 0),.val (.int .u8 0),.val .nilFunc,.val (.pointer none),.val (.int .i32 0),.val (.int .i32 0)],.struct [(0,1,false),(1,1,false),(2,1,false),(3,1,false),(4,1,false),(5,1,false),(6,1,false),(7,1,false),(8,1,false),(9,1,false),(10,1,false)]⟩),
 (396,nF),(397,nF),(398,⟨2,24,[.val (.string ⟨#[]⟩),.val (.int .u8 0)],.struct [(0,1,false),(1,1,false)]⟩),
 (399,⟨2,24,[.val (.string ⟨#[]⟩),.val (.int .u8 0)],.struct [(0,1,false),(1,1,false)]⟩),
 (400,⟨1,16,[.val (.string ⟨#[]⟩)],.struct [(0,1,false)]⟩),
 (401,⟨1,16,[.val (.string ⟨#[]⟩)],.struct [(0,1,false)]⟩),
 (402,⟨1,8,[.val (.pointer none)],.other⟩),(403,nF),(404,⟨1,2,[.val (.int .u16 0)],.int .u16⟩),
 (405,⟨5,16,[.val (.int .i32 0),.val (.int .u16 0),.val (.int .u16 0),.val (.int .u32 0),.val (.int .u32 0)],.struct [(0,1,false),(1,1,false),(2,1,false),(3,1,false),(4,1,false)]⟩),
 (406,⟨5,16,[.val (.int .i32 0),.val (.int .u16 0),.val (.int .u16 0),.val (.int .u32 0),.val (.int .u32 0)],.struct [(0,1,false),(1,1,false),(2,1,false),(3,1,false),(4,1,false)]⟩),
 (407,⟨1,24,[.seq 0 [] .clip],.slice 410⟩),
 (408,⟨1,4,[.val (.int .i32 0)],.int .i32⟩),
 (409,⟨4,16,[.val (.int .i32 0),.val (.int .i32 0),.val (.int .i32 0),.val (.int .i32 0)],.struct [(0,1,false),(1,1,false),(2,1,false),(3,1,false)]⟩),
 (410,⟨4,16,[.val (.int .i32 0),.val (.int .i32 0),.val (.int .i32 0),.val (.int .i32 0)],.struct [(0,1,false),(1,1,false),(2,1,false),(3,1,false)]⟩),
 (411,⟨1,8,[.val (.pointer none)],.other⟩),(412,⟨1,8,[.val .nilFunc],.other⟩)]
def tG:eJ prog tys=true:=by kernel_rfl
def mG:prog.follows .mixedOrders=true:=by kernel_rfl
section
variable {B : Nat -> Nat -> Prop} {n : Nat} {all ops : Array Oper} {cl : Nat -> Nat} {i : Nat} {li : List Nat} {T : Nat -> PV} {H H' : List Ob} {K : (Nat -> PV) -> List Ob -> Prop} {Q : Exit -> (Nat -> PV) -> List Ob -> Prop} {l : List Oper} {o : Oper} {x : PV} {d : Option Tmp} {p : Prop}
def z1(k:WO prog B n all l (eK d x T) H' K)(hw:bs all T o=some true:=by exact rfl)(hd:nfD n o.dst=some d:=by exact rfl)(h:evN tys T H o.type o.op=some (x,H',True):=by exact rfl):WO prog B n all (o::l) T H K :=
 We tG hw hd h trivial k
def z2(k:WO prog B n all l (eK d x T) H' K)(hw:bs all T o=some true:=by exact rfl)(hd:nfD n o.dst=some d:=by exact rfl)(h:evN tys T H o.type o.op=some (x,H',p):=by exact rfl)(q:p):WO prog B n all (o::l) T H K :=
 We tG hw hd h q k
def z6(k:WO prog B n all l (eK d (.val undef) T) H K)(hd:nfD n o.dst=some d:=by exact rfl)(hw:bs all T o=some false:=by exact rfl):WO prog B n all (o::l) T H K :=
 Wk hd hw k
def z8{id:Nat}{y:Code}(h:WO prog B n l.toArray l T H (fun T' H'=>pz (fun T2 H2=>W prog B n y T2 H2 Q) Q .normal T' H'))(hall:iH n l.toArray=true:=by exact rfl):W prog B n ((Code.region id l.toArray false).seq y) T H Q :=
 Ws (aa hall h)
def z3(k:WU prog B n ops cl li (eK d x T) H K)(h0:ops[i]?=some o:=by exact rfl)(hc:cl i=0:=by exact rfl)(hd:nfD n o.dst=some d:=by exact rfl)(hw:bs ops T o=some true:=by exact rfl)(h:∀H2,evS tys T H2 o.type o.op=some (x,H2,True):=by exact fun _=>rfl):WU prog B n ops cl (i::li) T H K :=
 Xe tG h0 hc hd hw h trivial k
def z9i{l0:List Int}{i0:Nat}(k:WU prog B n ops cl li (eK d (.row (au (l0.getD i0 0))) T) H K)(h0:ops[i]?=some o:=by exact rfl)(hc:cl i=0:=by exact rfl)(hd:nfD n o.dst=some d:=by exact rfl)(hw:bs ops T o=some true:=by exact rfl)(h:∀H2,evS tys T H2 o.type o.op=some (.row ((l0.flatMap au).drop ((i0:Int).toNat*1)),H2,p):=by exact fun _=>rfl)(hp:p:=by omega)(hi:i0<l0.length:=by(simp only[dnL]at *;omega)):WU prog B n ops cl (i::li) T H K :=
 Xi tG h0 hc hd hw h hp (iN au 1 (fun _=>rfl) 0 hi) k
def zc {f : FuncId} {fn : Func} {args : Array Operand} {ats : Array TypeId} {res : PV} (ho : o.op = .call { callee := .value (.func f), args := args, argTypes := ats }) (hf : prog.funcs[f]? = some fn) (h : HC prog f (args.toList.map fun y => wk (opv T y)) H res H') (k : WO prog B n all l (eK d res T) H' K) (hd : nfD n o.dst = some d := by exact rfl) (hw : bs all T o = some true := by exact rfl) (hb : fn.body.isNone = false := by exact rfl) (hn : (fn.name == "runtime.NumGoroutine") = false := by exact rfl) : WO prog B n all (o :: l) T H K :=
 Wc hd hw (dC ho hf hb hn h) k
def zq{a b:Str}(dd:Nat)(k:WO prog B n all l (upd dd (.val (.bool (decide (a=b)))) T) H K)(hT:T dd=PV.val (.bool (oU ⟨a.toArray⟩ ⟨b.toArray⟩)):=by exact rfl):WO prog B n all l T H K :=
 Wa dd hT (LR a b) k
def z4(k:WU prog B n ops cl li (eK d x T) H K)(h0:ops[i]?=some o:=by exact rfl)(hc:cl i=0:=by exact rfl)(hd:nfD n o.dst=some d:=by exact rfl)(hw:bs ops T o=some true:=by exact rfl)(h:∀H2,evS tys T H2 o.type o.op=some (x,H2,p):=by exact fun _=>rfl)(q:p):WU prog B n ops cl (i::li) T H K :=
 Xe tG h0 hc hd hw h q k
def z5(k:WU prog B n ops cl li (eK d x T) H K)(h0:ops[i]?=some o:=by exact rfl)(hc:cl i=1:=by exact rfl)(hd:nfD n o.dst=some d:=by exact rfl)(hw:bs ops T o=some true:=by exact rfl)(h:∀E,evS tys T (H++E) o.type o.op=some (x,H++E,True):=by exact fun _=>rfl):WU prog B n ops cl (i::li) T H K :=
 Xf tG h0 hc hd hw h trivial k
def z7(k:WU prog B n ops cl li (eK d (.val undef) T) H K)(h0:ops[i]?=some o:=by exact rfl)(hc:Nat.ble (cl i) 3=true:=by exact rfl)(hd:nfD n o.dst=some d:=by exact rfl)(hw:bs ops T o=some false:=by exact rfl):WU prog B n ops cl (i::li) T H K :=
 VS h0 hc hd hw k
def z0{id:Nat}{y:Code}{Q2:Exit->(Nat->PV)->List Ob->Prop}(h:WO prog B n l.toArray l T H (fun T' H'=>pz (fun T2 H2=>W prog B n y T2 H2 Q) Q .normal T' H'))(hall:iH n l.toArray=true:=by exact rfl):WO prog B n all [] T H (fun T' H'=>pz (fun T2 H2=>W prog B n ((Code.region id l.toArray false).seq y) T2 H2 Q) Q2 .normal T' H') :=
 Wn (Ws (aa hall h))
def zR{rs:List ResultVar}{res:PV}(e:x=res)(hq:Bz tys rs res .ret T H->Q .ret T H:=by exact id)(h:Bl tys T H rs=some x:=by exact rfl):W prog B n .ret T H Q :=
 Wq (hq (lP h e))
def oF{q:Prop}[Decidable q](h:decide q=false):¬q:=of_decide_eq_false h
def oT{q:Prop}[Decidable q](h:decide q=true):q:=of_decide_eq_true h
def zE(all:Array Oper)(n:Nat)(T:Nat->PV)(H:List Ob)(o:Oper)(T':Nat->PV)(H':List Ob):Prop:=bs all T o=some true/\∃d x,nfD n o.dst=some d/\evN tys T H o.type o.op=some (x,H',True)/\T'=eK d x T
variable {o1 o2 o3 o4 o5 : Oper} {T1 T2 T3 T4 T5 : Nat -> PV} {H1 H2 H3 H4 H5 : List Ob} {id : Nat} {y : Code} {A : Array Oper}
def zF{T':Nat->PV}(e:zE all n T H o T' H')(k:WO prog B n all l T' H' K):WO prog B n all (o::l) T H K:=by
 obtain⟨w,_,_,d,h,rfl⟩:=e
 exact z1 k w d h
def zs1(k:K T1 H1)(e1:zE all n T H o1 T1 H1:=by exact⟨rfl,_,_,rfl,rfl,rfl⟩):WO prog B n all (o1::[]) T H K:=zF e1 (Wn k)
def zp1(k:WO prog B n A l T1 H1 (fun T' H'=>pz (fun T2 H2=>W prog B n y T2 H2 Q) Q .normal T' H'))(hA:A=(o1::l).toArray:=by exact rfl)(hall:iH n A=true:=by exact rfl)(e1:zE A n T H o1 T1 H1:=by exact⟨rfl,_,_,rfl,rfl,rfl⟩):W prog B n ((Code.region id A false).seq y) T H Q:=by
 subst hA;exact z8 (zF e1 (k)) hall
def zu1(k:W prog B n y T1 H1 Q)(hA:A=(o1::[]).toArray:=by exact rfl)(hall:iH n A=true:=by exact rfl)(e1:zE A n T H o1 T1 H1:=by exact⟨rfl,_,_,rfl,rfl,rfl⟩):W prog B n ((Code.region id A false).seq y) T H Q:=by
 subst hA;exact z8 (zF e1 (Wn k)) hall
def zy2(k:WO prog B n all l T2 H2 K)(e1:zE all n T H o1 T1 H1:=by exact⟨rfl,_,_,rfl,rfl,rfl⟩)(e2:zE all n T1 H1 o2 T2 H2:=by exact⟨rfl,_,_,rfl,rfl,rfl⟩):WO prog B n all (o1::o2::l) T H K:=zF e1 (zF e2 (k))
def zs2(k:K T2 H2)(e1:zE all n T H o1 T1 H1:=by exact⟨rfl,_,_,rfl,rfl,rfl⟩)(e2:zE all n T1 H1 o2 T2 H2:=by exact⟨rfl,_,_,rfl,rfl,rfl⟩):WO prog B n all (o1::o2::[]) T H K:=zF e1 (zF e2 (Wn k))
def zp2(k:WO prog B n A l T2 H2 (fun T' H'=>pz (fun T2 H2=>W prog B n y T2 H2 Q) Q .normal T' H'))(hA:A=(o1::o2::l).toArray:=by exact rfl)(hall:iH n A=true:=by exact rfl)(e1:zE A n T H o1 T1 H1:=by exact⟨rfl,_,_,rfl,rfl,rfl⟩)(e2:zE A n T1 H1 o2 T2 H2:=by exact⟨rfl,_,_,rfl,rfl,rfl⟩):W prog B n ((Code.region id A false).seq y) T H Q:=by
 subst hA;exact z8 (zF e1 (zF e2 (k))) hall
def zu2(k:W prog B n y T2 H2 Q)(hA:A=(o1::o2::[]).toArray:=by exact rfl)(hall:iH n A=true:=by exact rfl)(e1:zE A n T H o1 T1 H1:=by exact⟨rfl,_,_,rfl,rfl,rfl⟩)(e2:zE A n T1 H1 o2 T2 H2:=by exact⟨rfl,_,_,rfl,rfl,rfl⟩):W prog B n ((Code.region id A false).seq y) T H Q:=by
 subst hA;exact z8 (zF e1 (zF e2 (Wn k))) hall
def zy3(k:WO prog B n all l T3 H3 K)(e1:zE all n T H o1 T1 H1:=by exact⟨rfl,_,_,rfl,rfl,rfl⟩)(e2:zE all n T1 H1 o2 T2 H2:=by exact⟨rfl,_,_,rfl,rfl,rfl⟩)(e3:zE all n T2 H2 o3 T3 H3:=by exact⟨rfl,_,_,rfl,rfl,rfl⟩):WO prog B n all (o1::o2::o3::l) T H K:=zF e1 (zF e2 (zF e3 (k)))
def zs3(k:K T3 H3)(e1:zE all n T H o1 T1 H1:=by exact⟨rfl,_,_,rfl,rfl,rfl⟩)(e2:zE all n T1 H1 o2 T2 H2:=by exact⟨rfl,_,_,rfl,rfl,rfl⟩)(e3:zE all n T2 H2 o3 T3 H3:=by exact⟨rfl,_,_,rfl,rfl,rfl⟩):WO prog B n all (o1::o2::o3::[]) T H K:=zF e1 (zF e2 (zF e3 (Wn k)))
def zp3(k:WO prog B n A l T3 H3 (fun T' H'=>pz (fun T2 H2=>W prog B n y T2 H2 Q) Q .normal T' H'))(hA:A=(o1::o2::o3::l).toArray:=by exact rfl)(hall:iH n A=true:=by exact rfl)(e1:zE A n T H o1 T1 H1:=by exact⟨rfl,_,_,rfl,rfl,rfl⟩)(e2:zE A n T1 H1 o2 T2 H2:=by exact⟨rfl,_,_,rfl,rfl,rfl⟩)(e3:zE A n T2 H2 o3 T3 H3:=by exact⟨rfl,_,_,rfl,rfl,rfl⟩):W prog B n ((Code.region id A false).seq y) T H Q:=by
 subst hA;exact z8 (zF e1 (zF e2 (zF e3 (k)))) hall
def zu3(k:W prog B n y T3 H3 Q)(hA:A=(o1::o2::o3::[]).toArray:=by exact rfl)(hall:iH n A=true:=by exact rfl)(e1:zE A n T H o1 T1 H1:=by exact⟨rfl,_,_,rfl,rfl,rfl⟩)(e2:zE A n T1 H1 o2 T2 H2:=by exact⟨rfl,_,_,rfl,rfl,rfl⟩)(e3:zE A n T2 H2 o3 T3 H3:=by exact⟨rfl,_,_,rfl,rfl,rfl⟩):W prog B n ((Code.region id A false).seq y) T H Q:=by
 subst hA;exact z8 (zF e1 (zF e2 (zF e3 (Wn k)))) hall
def zy4(k:WO prog B n all l T4 H4 K)(e1:zE all n T H o1 T1 H1:=by exact⟨rfl,_,_,rfl,rfl,rfl⟩)(e2:zE all n T1 H1 o2 T2 H2:=by exact⟨rfl,_,_,rfl,rfl,rfl⟩)(e3:zE all n T2 H2 o3 T3 H3:=by exact⟨rfl,_,_,rfl,rfl,rfl⟩)(e4:zE all n T3 H3 o4 T4 H4:=by exact⟨rfl,_,_,rfl,rfl,rfl⟩):WO prog B n all (o1::o2::o3::o4::l) T H K:=zF e1 (zF e2 (zF e3 (zF e4 (k))))
def zs4(k:K T4 H4)(e1:zE all n T H o1 T1 H1:=by exact⟨rfl,_,_,rfl,rfl,rfl⟩)(e2:zE all n T1 H1 o2 T2 H2:=by exact⟨rfl,_,_,rfl,rfl,rfl⟩)(e3:zE all n T2 H2 o3 T3 H3:=by exact⟨rfl,_,_,rfl,rfl,rfl⟩)(e4:zE all n T3 H3 o4 T4 H4:=by exact⟨rfl,_,_,rfl,rfl,rfl⟩):WO prog B n all (o1::o2::o3::o4::[]) T H K:=zF e1 (zF e2 (zF e3 (zF e4 (Wn k))))
def zp4(k:WO prog B n A l T4 H4 (fun T' H'=>pz (fun T2 H2=>W prog B n y T2 H2 Q) Q .normal T' H'))(hA:A=(o1::o2::o3::o4::l).toArray:=by exact rfl)(hall:iH n A=true:=by exact rfl)(e1:zE A n T H o1 T1 H1:=by exact⟨rfl,_,_,rfl,rfl,rfl⟩)(e2:zE A n T1 H1 o2 T2 H2:=by exact⟨rfl,_,_,rfl,rfl,rfl⟩)(e3:zE A n T2 H2 o3 T3 H3:=by exact⟨rfl,_,_,rfl,rfl,rfl⟩)(e4:zE A n T3 H3 o4 T4 H4:=by exact⟨rfl,_,_,rfl,rfl,rfl⟩):W prog B n ((Code.region id A false).seq y) T H Q:=by
 subst hA;exact z8 (zF e1 (zF e2 (zF e3 (zF e4 (k))))) hall
def zu4(k:W prog B n y T4 H4 Q)(hA:A=(o1::o2::o3::o4::[]).toArray:=by exact rfl)(hall:iH n A=true:=by exact rfl)(e1:zE A n T H o1 T1 H1:=by exact⟨rfl,_,_,rfl,rfl,rfl⟩)(e2:zE A n T1 H1 o2 T2 H2:=by exact⟨rfl,_,_,rfl,rfl,rfl⟩)(e3:zE A n T2 H2 o3 T3 H3:=by exact⟨rfl,_,_,rfl,rfl,rfl⟩)(e4:zE A n T3 H3 o4 T4 H4:=by exact⟨rfl,_,_,rfl,rfl,rfl⟩):W prog B n ((Code.region id A false).seq y) T H Q:=by
 subst hA;exact z8 (zF e1 (zF e2 (zF e3 (zF e4 (Wn k))))) hall
def zy5(k:WO prog B n all l T5 H5 K)(e1:zE all n T H o1 T1 H1:=by exact⟨rfl,_,_,rfl,rfl,rfl⟩)(e2:zE all n T1 H1 o2 T2 H2:=by exact⟨rfl,_,_,rfl,rfl,rfl⟩)(e3:zE all n T2 H2 o3 T3 H3:=by exact⟨rfl,_,_,rfl,rfl,rfl⟩)(e4:zE all n T3 H3 o4 T4 H4:=by exact⟨rfl,_,_,rfl,rfl,rfl⟩)(e5:zE all n T4 H4 o5 T5 H5:=by exact⟨rfl,_,_,rfl,rfl,rfl⟩):WO prog B n all (o1::o2::o3::o4::o5::l) T H K:=zF e1 (zF e2 (zF e3 (zF e4 (zF e5 (k)))))
def zs5(k:K T5 H5)(e1:zE all n T H o1 T1 H1:=by exact⟨rfl,_,_,rfl,rfl,rfl⟩)(e2:zE all n T1 H1 o2 T2 H2:=by exact⟨rfl,_,_,rfl,rfl,rfl⟩)(e3:zE all n T2 H2 o3 T3 H3:=by exact⟨rfl,_,_,rfl,rfl,rfl⟩)(e4:zE all n T3 H3 o4 T4 H4:=by exact⟨rfl,_,_,rfl,rfl,rfl⟩)(e5:zE all n T4 H4 o5 T5 H5:=by exact⟨rfl,_,_,rfl,rfl,rfl⟩):WO prog B n all (o1::o2::o3::o4::o5::[]) T H K:=zF e1 (zF e2 (zF e3 (zF e4 (zF e5 (Wn k)))))
def zp5(k:WO prog B n A l T5 H5 (fun T' H'=>pz (fun T2 H2=>W prog B n y T2 H2 Q) Q .normal T' H'))(hA:A=(o1::o2::o3::o4::o5::l).toArray:=by exact rfl)(hall:iH n A=true:=by exact rfl)(e1:zE A n T H o1 T1 H1:=by exact⟨rfl,_,_,rfl,rfl,rfl⟩)(e2:zE A n T1 H1 o2 T2 H2:=by exact⟨rfl,_,_,rfl,rfl,rfl⟩)(e3:zE A n T2 H2 o3 T3 H3:=by exact⟨rfl,_,_,rfl,rfl,rfl⟩)(e4:zE A n T3 H3 o4 T4 H4:=by exact⟨rfl,_,_,rfl,rfl,rfl⟩)(e5:zE A n T4 H4 o5 T5 H5:=by exact⟨rfl,_,_,rfl,rfl,rfl⟩):W prog B n ((Code.region id A false).seq y) T H Q:=by
 subst hA;exact z8 (zF e1 (zF e2 (zF e3 (zF e4 (zF e5 (k)))))) hall
def zu5(k:W prog B n y T5 H5 Q)(hA:A=(o1::o2::o3::o4::o5::[]).toArray:=by exact rfl)(hall:iH n A=true:=by exact rfl)(e1:zE A n T H o1 T1 H1:=by exact⟨rfl,_,_,rfl,rfl,rfl⟩)(e2:zE A n T1 H1 o2 T2 H2:=by exact⟨rfl,_,_,rfl,rfl,rfl⟩)(e3:zE A n T2 H2 o3 T3 H3:=by exact⟨rfl,_,_,rfl,rfl,rfl⟩)(e4:zE A n T3 H3 o4 T4 H4:=by exact⟨rfl,_,_,rfl,rfl,rfl⟩)(e5:zE A n T4 H4 o5 T5 H5:=by exact⟨rfl,_,_,rfl,rfl,rfl⟩):W prog B n ((Code.region id A false).seq y) T H Q:=by
 subst hA;exact z8 (zF e1 (zF e2 (zF e3 (zF e4 (zF e5 (Wn k)))))) hall
def zD{l:List Oper}{d:Option Tmp}{t:TypeId}{m k x:Operand}{j:Nat}{ks:List fv}{xs:List PV}(e:TypeId)(key:fv)(h:WO prog B n all l (eK d (.val undef) T) (H.set j (.smap (ks++[key]) (xs++[opv T x]))) K)(hd:nfD n o.dst=some d:=by exact rfl)(hw:bs all T o=some true:=by exact rfl)(ho:o.op=.insert t m k x:=by exact rfl)(hm:opv T m=.mapv j:=by exact rfl)(hi:H[j]?=some (.smap ks xs):=by exact rfl)(hk:opv T k=Fe key:=by exact rfl)(ht:Gm prog t e key=true:=by kernel_rfl)(hn:(ks.all key.like&&!(ks.contains key))=true:=by kernel_rfl):WO prog B n all (o::l) T H K :=
 Wd hd hw (dI ht ho hm hi hk hn) h
def zY{f:FuncId}{fn:Func}{c:Code}{args:List PV}{res:PV}{rs:List ResultVar}(hf:prog.funcs[f]?=some fn)(h:∀B,W prog B fn.ntmps c (Bc args) [] (Bz tys rs res))(hb:fn.body=some c:=by exact rfl)(hr:fn.results=rs.toArray:=by exact rfl)(hn0:Nat.ble args.length fn.ntmps=true:=by exact rfl)(ha:aG args:=by simp)(hres:aQ res:=by simp):af prog f args res :=
 bv tG hf hb hr hn0 ha hres h
def zM{f:FuncId}{fn:Func}{c:Code}{rest:List PV}{res:PV}{rs:List ResultVar}{off:Nat}{xs ys:List PV}{e:TypeId}(hf:prog.funcs[f]?=some fn)(h:∀B,W prog B fn.ntmps c (Bc (.ptr 0 off::rest)) [.cells xs e] (HU tys rs res ys e))(hb:fn.body=some c:=by exact rfl)(hr:fn.results=rs.toArray:=by exact rfl)(hn0:Nat.ble (rest.length+1) fn.ntmps=true:=by exact rfl)(ha:aG rest:=by simp)(hres:aQ res:=by simp)(hxs:aG xs:=by simp)(hys:aG ys:=by simp)(H:List Ob)(i:Nat)(hi:H[i]?=some (.cells xs e)):HC prog f (.ptr i off::rest) H res (H.set i (.cells ys e)) :=
 jb tG hf hb hr hn0 ha hres hxs hys h H i hi
end
open Go.RowKit
structure nj where
 mem:Int
 data:Int
 ret:Int
 words:Int
 out:Int
 deriving DecidableEq,Inhabited
def Ht(x:nj):List PV:=[i64 x.mem,i64 x.data,i64 x.ret,i64 x.words,i64 x.out]
@[simp] theorem zZ (x : nj) : aG (Ht x) := by simp [Ht]
def Km(x:nj):PV:=.agg (Ht x)
@[simp] theorem Zh (x : nj) : aQ (Km x) := by unfold Km aQ; exact zZ x
@[simp] theorem ZB (l : List nj) : aQ (sq Ht l) := gl zZ l
structure oL where
 place:Int
 old:List UInt8
 deriving DecidableEq,Inhabited
def jX(x:oL):List PV:=[i64 x.place,sq ar x.old]
@[simp] theorem xd (x : oL) : aG (jX x) := by simp [jX]
@[simp] theorem YD (l : List oL) : aQ (sq jX l) := gl xd l
structure bf where
 b:List UInt8
 old:List oL
 deriving DecidableEq,Inhabited
def yC(x:bf):List PV:=[sq ar x.b,sq jX x.old]
@[simp] theorem Cc (x : bf) : aG (yC x) := by simp [yC]
def gH(x:bf):PV:=.agg (yC x)
@[simp] theorem ak1 (x : bf) : aQ (gH x) := by unfold gH aQ; exact Cc x
@[simp] theorem ak6 (l : List bf) : aQ (sq yC l) := gl Cc l
structure dL where
 b:List UInt8
 on:Bool
 deriving DecidableEq,Inhabited
def tV(x:dL):List PV:=[sq ar x.b,boo x.on]
@[simp] theorem BL (x : dL) : aG (tV x) := by simp [tV]
def xK(x:dL):PV:=.agg (tV x)
@[simp] theorem al0 (x : dL) : aQ (xK x) := by unfold xK aQ; exact BL x
@[simp] theorem ak3 (l : List dL) : aQ (sq tV l) := gl BL l
structure aL where
 name:Str
 xt:Int
 flags:Int
 deriving DecidableEq,Inhabited
def bP(x:aL):List PV:=[str x.name,i64 x.xt,i64 x.flags]
@[simp] theorem yV (x : aL) : aG (bP x) := by simp [bP]
def xu(x:aL):PV:=.agg (bP x)
@[simp] theorem Y3 (x : aL) : aQ (xu x) := by unfold xu aQ; exact yV x
@[simp] theorem ah0 (l : List aL) : aQ (sq bP l) := gl yV l
structure ja where
 d:Int
 r:Int
 ip:Int
 deriving DecidableEq,Inhabited
def jc(x:ja):List PV:=[i64 x.d,i64 x.r,i64 x.ip]
@[simp] theorem Ge (x : ja) : aG (jc x) := by simp [jc]
@[simp] theorem Yt (l : List ja) : aQ (sq jc l) := gl Ge l
structure u4 where
 kind:Int
 arg:Int
 hand:Int
 rank:Int
 delay:Int
 id:Int
 deriving DecidableEq,Inhabited
def vk(x:u4):List PV:=[i64 x.kind,i64 x.arg,i64 x.hand,i64 x.rank,i64 x.delay,i64 x.id]
@[simp] theorem B3 (x : u4) : aG (vk x) := by simp [vk]
@[simp] theorem aj5 (l : List u4) : aQ (sq vk l) := gl B3 l
structure rF where
 xt:Int
 fuel:Int
 strikes:Int
 out:Bool
 deriving DecidableEq,Inhabited
def sd(x:rF):List PV:=[i64 x.xt,i64 x.fuel,i64 x.strikes,boo x.out]
@[simp] theorem Id (x : rF) : aG (sd x) := by simp [sd]
@[simp] theorem Z2 (l : List rF) : aQ (sq sd l) := gl Id l
structure VVm where
 conf:nj
 mem:bf
 here:Int
 d:List Int
 r:List Int
 f:List ja
 dict:List aL
 last:Int
 out:List UInt8
 pic:dL
 req:List u4
 free:Int
 next:Int
 arg:Int
 self:Int
 now:Int
 hand:List rF
 deriving DecidableEq,Inhabited
def cVm(x:VVm):List PV:=[i64 x.conf.mem,i64 x.conf.data,i64 x.conf.ret,i64 x.conf.words,i64 x.conf.out,sq ar x.mem.b,sq jX x.mem.old,i64 x.here,sq au x.d,sq au x.r,sq jc x.f,sq bP x.dict,i64 x.last,sq ar x.out,sq ar x.pic.b,boo x.pic.on,sq vk x.req,i64 x.free,i64 x.next,i64 x.arg,i64 x.self,i64 x.now,sq sd x.hand]
@[simp] theorem Ff (x : VVm) : aG (cVm x) := by simp [cVm]
def eVm(x:VVm):PV:=.agg (cVm x)
@[simp] theorem au6 (x : VVm) : aQ (eVm x) := by unfold eVm aQ; exact Ff x
@[simp] theorem ax9 (l : List VVm) : aQ (sq cVm l) := gl Ff l
def gY(x y:PV):PV:=.tup [x,y]
def jC(x y z:PV):PV:=.tup [x,y,z]
def Ow(x y z u:PV):PV:=.tup [x,y,z,u]
@[simp] theorem ak0 {x y : PV} : aQ (gY x y) ↔ aQ x /\ aQ y := by simp [gY]
@[simp] theorem aj2 {x y z : PV} : aQ (jC x y z) ↔ aQ x /\ aQ y /\ aQ z := by simp [jC]
@[simp] theorem ak2 {x y z u : PV} : aQ (Ow x y z u) ↔ aQ x /\ aQ y /\ aQ z /\ aQ u := by simp [Ow]
end Go.Proofs.YtjcminooghmpeaaGreatDoor
namespace Go.Proofs.YtjcminooghmpeaaGreatDoor
def aq:List Str:=[[40,101,120,105,116,41],[40,108,105,116,41],[40,98,114,97,110,99,104,41],[40,48,98,114,97,110,99,104,41],[40,100,111,41],[40,63,100,111,41],[40,108,111,111,112,41],[40,43,108,111,111,112,41],[40,104,97,108,116,41],[40,99,97,117,103,104,116,41],[40,100,111,101,115,41],[40,115,116,114,41],[69,88,69,67,85,84,69],[67,65,84,67,72],[84,72,82,79,87],[73],[74],[85,78,76,79,79,80],[62,82],[82,62],[82,64],[50,62,82],[50,82,62],[68,85,80],[68,82,79,80],[83,87,65,80],[79,86,69,82],[82,79,84],[45,82,79,84],[78,73,80],[84,85,67,75],[63,68,85,80],[50,68,85,80],[50,68,82,79,80],[50,83,87,65,80],[50,79,86,69,82],[80,73,67,75],[82,79,76,76],[68,69,80,84,72],[43],[45],[42],[47],[77,79,68],[65,78,68],[79,82],[88,79,82],[76,83,72,73,70,84],[82,83,72,73,70,84],[77,73,78],[77,65,88],[61],[60,62],[60],[62],[60,61],[62,61],[85,60],[85,62],[78,69,71,65,84,69],[65,66,83],[73,78,86,69,82,84],[49,43],[49,45],[50,42],[50,47],[48,61],[48,60],[48,60,62],[48,62],[67,69,76,76,83],[67,69,76,76,43],[65,76,73,71,78,69,68],[47,77,79,68],[42,47],[42,47,77,79,68],[85,77,42],[85,77,47,77,79,68],[77,42],[83,77,47,82,69,77],[70,77,47,77,79,68],[83,62,68],[87,73,84,72,73,78],[64],[33],[43,33],[67,64],[67,33],[50,64],[50,33],[70,73,76,76],[77,79,86,69],[67,79,85,78,84],[72,69,82,69],[65,76,76,79,84],[44],[67,44],[65,76,73,71,78],[66,65,83,69],[83,84,65,84,69],[84,82,85,69],[70,65,76,83,69],[66,76],[68,69,67,73,77,65,76],[72,69,88],[69,77,73,84],[67,82],[83,80,65,67,69],[83,80,65,67,69,83],[84,89,80,69],[46],[85,46],[60,35],[35],[35,83],[72,79,76,68],[83,73,71,78],[35,62],[62,66,79,68,89],[65,66,79,82,84],[80,79,83,84],[65,70,84,69,82],[69,86,69,82,89],[67,65,78,67,69,76],[65,82,71],[83,69,76,70],[78,79,87],[83,69,84,45,83,84,65,84,69],[65,84,45,83,84,65,84,69],[71,69,84,45,83,84,65,84,69]]
def bG:List Str:=[[58],[59],[67,82,69,65,84,69],[68,79,69,83,62],[86,65,82,73,65,66,76,69],[67,79,78,83,84,65,78,84],[73,77,77,69,68,73,65,84,69],[39],[91,39,93],[67,72,65,82],[91,67,72,65,82,93],[76,73,84,69,82,65,76],[80,79,83,84,80,79,78,69],[82,69,67,85,82,83,69],[73,70],[69,76,83,69],[84,72,69,78],[66,69,71,73,78],[87,72,73,76,69],[82,69,80,69,65,84],[85,78,84,73,76],[65,71,65,73,78],[68,79],[63,68,79],[76,79,79,80],[43,76,79,79,80],[76,69,65,86,69],[83,34],[46,34],[40],[92],[91],[93],[70,79,82,71,69,84],[77,65,67,72,73,78,69],[79,78,58],[69,88,73,84]]
def lf:aq.length=130:=by decide +kernel
def ij:bG.length=37:=by decide +kernel
theorem zI9{x y:Int}(h:x=y):PV.val (Value.int .i64 x)=PV.val (Value.int .i64 y):=by rw[h]
end Go.Proofs.YtjcminooghmpeaaGreatDoor
namespace Go.Proofs
open Go.Shelf
def Tryz.lays134_ren:Go.Shelf.Ren:=⟨fun|134=>387|129=>392|n=>n,fun|53=>121|3=>3|4=>4|46=>322|5=>5|9=>9|n=>n,fun|n=>n⟩
def Tryz.lays134:Go.Proofs.Lays.n134 prog Tryz.lays134_ren:={
 mixed:=by kernel_rfl
 f129:=func392.trans (congrArg some (by kernel_rfl))
 f134:=func387.trans (congrArg some (by kernel_rfl))
 t3:=underlying3
 a3:=Tryz.isAgg3
 z3:=Tryz.sizeOf3
 v3:=Tryz.zeroValue3
 t4:=underlying4
 a4:=Tryz.isAgg4
 z4:=Tryz.sizeOf4
 v4:=Tryz.zeroValue4
 t5:=underlying5
 a5:=Tryz.isAgg5
 z5:=Tryz.sizeOf5
 v5:=Tryz.zeroValue5
 t9:=underlying9
 a9:=Tryz.isAgg9
 z9:=Tryz.sizeOf9
 v9:=Tryz.zeroValue9
 t46:=underlying322
 a46:=Tryz.isAgg322
 z46:=Tryz.sizeOf322
 v46:=Tryz.zeroValue322
 t53:=underlying121
 a53:=Tryz.isAgg121
 z53:=Tryz.sizeOf121
 v53:=Tryz.zeroValue121}
def Tryz.bits_LeadingZeros64(x:Int)(w:World)(h0:0<=x)(h1:x<=18446744073709551615):
  Calls prog 387 #[.int .u64 x] w fun e w'=>e=.returned (.int .i64 (64-(Lib.bitLen x.toNat:Int)))/\w'=w:=Any.bits_LeadingZeros64 Tryz.lays134 x w h0 h1
def Tryz.lays137_ren:Go.Shelf.Ren:=⟨fun|137=>262|217=>355|266=>385|n=>n,fun|9=>9|5=>5|3=>3|n=>n,fun|n=>n⟩
def Tryz.lays137:Go.Proofs.Lays.n137 prog Tryz.lays137_ren:={
 mixed:=by kernel_rfl
 f137:=func262.trans (congrArg some (by kernel_rfl))
 f217:=func355.trans (congrArg some (by kernel_rfl))
 f266:=func385.trans (congrArg some (by kernel_rfl))
 t3:=underlying3
 a3:=Tryz.isAgg3
 z3:=Tryz.sizeOf3
 v3:=Tryz.zeroValue3
 t5:=underlying5
 a5:=Tryz.isAgg5
 z5:=Tryz.sizeOf5
 v5:=Tryz.zeroValue5
 t9:=underlying9
 a9:=Tryz.isAgg9
 z9:=Tryz.sizeOf9
 v9:=Tryz.zeroValue9}
open Go.RowKit in
def Tryz.strings_IndexByte(s:ByteArray)(c:Int)(w:World):
  Calls prog 262 #[.string s,.int .u8 c] w fun e w'=>e=.returned (.int .i64 (Lib.indexByte s.data.toList c.toNat.toUInt8))/\w'=w:=Any.strings_IndexByte Tryz.lays137 s c w
def Tryz.lays103_ren:Go.Shelf.Ren:=⟨fun|103=>76|210=>103|206=>152|n=>n,fun|9=>9|4=>4|24=>133|3=>3|n=>n,fun|n=>n⟩
def Tryz.lays103:Go.Proofs.Lays.n103 prog Tryz.lays103_ren:={
 mixed:=by kernel_rfl
 f103:=func76.trans (congrArg some (by kernel_rfl))
 f206:=func152.trans (congrArg some (by kernel_rfl))
 f210:=func103.trans (congrArg some (by kernel_rfl))
 t3:=underlying3
 a3:=Tryz.isAgg3
 z3:=Tryz.sizeOf3
 v3:=Tryz.zeroValue3
 t4:=underlying4
 a4:=Tryz.isAgg4
 z4:=Tryz.sizeOf4
 v4:=Tryz.zeroValue4
 t9:=underlying9
 a9:=Tryz.isAgg9
 z9:=Tryz.sizeOf9
 v9:=Tryz.zeroValue9
 t24:=underlying133
 a24:=Tryz.isAgg133
 z24:=Tryz.sizeOf133
 v24:=Tryz.zeroValue133}
open Go.RowKit in
def Tryz.strings_CutPrefix(s p:ByteArray)(w:World):
  Calls prog 76 #[.string s,.string p] w fun e w'=>e=.returned (.tuple #[.string ⟨(Lib.trimPrefix s.data.toList p.data.toList).toArray⟩,.bool (Lib.hasPrefix s.data.toList p.data.toList)])/\w'=w:=Any.strings_CutPrefix Tryz.lays103 s p w
def Tryz.lays264_ren:Go.Shelf.Ren:=⟨fun|264=>365|n=>n,fun|53=>121|46=>322|n=>n,fun|n=>n⟩
def Tryz.lays264:Go.Proofs.Lays.n264 prog Tryz.lays264_ren:={
 mixed:=by kernel_rfl
 f264:=func365.trans (congrArg some (by kernel_rfl))
 t46:=underlying322
 a46:=Tryz.isAgg322
 z46:=Tryz.sizeOf322
 v46:=Tryz.zeroValue322
 t53:=underlying121
 a53:=Tryz.isAgg121
 z53:=Tryz.sizeOf121
 v53:=Tryz.zeroValue121}
open Go.RowKit Go.Lib in
def Tryz.bits_Mul64(x y:Nat)(hx:x<18446744073709551616)(hy:y<18446744073709551616)(w:World):
  Calls prog 365 #[.int .u64 x,.int .u64 y] w fun e w'=>e=.returned (.tuple #[.int .u64 ((x*y/18446744073709551616:Nat):Int),.int .u64 ((x*y%18446744073709551616:Nat):Int)])/\w'=w:=Any.bits_Mul64 Tryz.lays264 x y hx hy w
def Tryz.lays212_ren:Go.Shelf.Ren:=⟨fun|212=>373|263=>389|264=>365|n=>n,fun|46=>322|51=>379|146=>380|53=>121|148=>363|n=>n,fun|n=>n⟩
def Tryz.lays212:Go.Proofs.Lays.n212 prog Tryz.lays212_ren:={
 mixed:=by kernel_rfl
 f212:=func373.trans (congrArg some (by kernel_rfl))
 f263:=func389.trans (congrArg some (by kernel_rfl))
 f264:=func365.trans (congrArg some (by kernel_rfl))
 t46:=underlying322
 a46:=Tryz.isAgg322
 z46:=Tryz.sizeOf322
 v46:=Tryz.zeroValue322
 t51:=underlying379
 a51:=Tryz.isAgg379
 z51:=Tryz.sizeOf379
 v51:=Tryz.zeroValue379
 t53:=underlying121
 a53:=Tryz.isAgg121
 z53:=Tryz.sizeOf121
 v53:=Tryz.zeroValue121
 t146:=underlying380
 a146:=Tryz.isAgg380
 z146:=Tryz.sizeOf380
 v146:=Tryz.zeroValue380
 t148:=underlying363
 a148:=Tryz.isAgg363
 z148:=Tryz.sizeOf363
 v148:=Tryz.zeroValue363}
open Go.RowKit Go.Lib in
def Tryz.bits_Mul(x y:Nat)(hx:x<18446744073709551616)(hy:y<18446744073709551616)(w:World):
  Calls prog 373 #[.int .u64 x,.int .u64 y] w fun e w'=>e=.returned (.tuple #[.int .u64 ((x*y/18446744073709551616:Nat):Int),.int .u64 ((x*y%18446744073709551616:Nat):Int)])/\w'=w:=Any.bits_Mul Tryz.lays212 x y hx hy w
def Tryz.lays105_ren:Go.Shelf.Ren:=⟨fun|105=>330|212=>373|99=>374|165=>375|166=>376|170=>377|169=>378|263=>389|264=>365|206=>152|240=>390|241=>391|276=>393|277=>388|n=>n,fun|9=>9|3=>3|4=>4|20=>20|0=>0|46=>322|109=>367|5=>5|72=>371|76=>372|51=>379|146=>380|53=>121|148=>363|70=>369|37=>22|75=>87|127=>212|164=>181|80=>261|n=>n,fun|n=>n⟩
def Tryz.lays105:Go.Proofs.Lays.n105 prog Tryz.lays105_ren:={
 mixed:=by kernel_rfl
 f99:=func374.trans (congrArg some (by kernel_rfl))
 f105:=func330.trans (congrArg some (by kernel_rfl))
 f165:=func375.trans (congrArg some (by kernel_rfl))
 f166:=func376.trans (congrArg some (by kernel_rfl))
 f169:=func378.trans (congrArg some (by kernel_rfl))
 f170:=func377.trans (congrArg some (by kernel_rfl))
 f206:=func152.trans (congrArg some (by kernel_rfl))
 f212:=func373.trans (congrArg some (by kernel_rfl))
 f240:=func390.trans (congrArg some (by kernel_rfl))
 f241:=func391.trans (congrArg some (by kernel_rfl))
 f263:=func389.trans (congrArg some (by kernel_rfl))
 f264:=func365.trans (congrArg some (by kernel_rfl))
 f276:=func393.trans (congrArg some (by kernel_rfl))
 f277:=func388.trans (congrArg some (by kernel_rfl))
 t0:=underlying0
 a0:=Tryz.isAgg0
 z0:=Tryz.sizeOf0
 v0:=Tryz.zeroValue0
 t3:=underlying3
 a3:=Tryz.isAgg3
 z3:=Tryz.sizeOf3
 v3:=Tryz.zeroValue3
 t4:=underlying4
 a4:=Tryz.isAgg4
 z4:=Tryz.sizeOf4
 v4:=Tryz.zeroValue4
 t5:=underlying5
 a5:=Tryz.isAgg5
 z5:=Tryz.sizeOf5
 v5:=Tryz.zeroValue5
 t9:=underlying9
 a9:=Tryz.isAgg9
 z9:=Tryz.sizeOf9
 v9:=Tryz.zeroValue9
 t20:=underlying20
 a20:=Tryz.isAgg20
 z20:=Tryz.sizeOf20
 v20:=Tryz.zeroValue20
 t37:=underlying22
 a37:=Tryz.isAgg22
 z37:=Tryz.sizeOf22
 v37:=Tryz.zeroValue22
 t46:=underlying322
 a46:=Tryz.isAgg322
 z46:=Tryz.sizeOf322
 v46:=Tryz.zeroValue322
 t51:=underlying379
 a51:=Tryz.isAgg379
 z51:=Tryz.sizeOf379
 v51:=Tryz.zeroValue379
 t53:=underlying121
 a53:=Tryz.isAgg121
 z53:=Tryz.sizeOf121
 v53:=Tryz.zeroValue121
 t70:=underlying369
 a70:=Tryz.isAgg369
 z70:=Tryz.sizeOf369
 v70:=Tryz.zeroValue369
 t72:=underlying371
 a72:=Tryz.isAgg371
 z72:=Tryz.sizeOf371
 v72:=Tryz.zeroValue371
 t75:=underlying87
 a75:=Tryz.isAgg87
 z75:=Tryz.sizeOf87
 v75:=Tryz.zeroValue87
 t76:=underlying372
 a76:=Tryz.isAgg372
 z76:=Tryz.sizeOf372
 v76:=Tryz.zeroValue372
 t109:=underlying367
 a109:=Tryz.isAgg367
 z109:=Tryz.sizeOf367
 v109:=Tryz.zeroValue367
 t127:=underlying212
 a127:=Tryz.isAgg212
 z127:=Tryz.sizeOf212
 v127:=Tryz.zeroValue212
 t146:=underlying380
 a146:=Tryz.isAgg380
 z146:=Tryz.sizeOf380
 v146:=Tryz.zeroValue380
 t148:=underlying363
 a148:=Tryz.isAgg363
 z148:=Tryz.sizeOf363
 v148:=Tryz.zeroValue363
 t164:=underlying181
 a164:=Tryz.isAgg181
 z164:=Tryz.sizeOf181
 v164:=Tryz.zeroValue181}
def Tryz.Builder_Extra_105:Builder.Extra prog Tryz.lays105_ren:={
 sizeBuilder:=by kernel_rfl
 liesBuilder:=by kernel_rfl
 t5:=underlying5
 a5:=Tryz.isAgg5
 z5:=Tryz.sizeOf5
 v5:=Tryz.zeroValue5
 infoByte:=by kernel_rfl
 cellsByte:=by kernel_rfl
 sizeByte:=by kernel_rfl
 neB5:=by decide}
open Go.RowKit Go.Lib in
def Tryz.strings_Repeat(s:ByteArray)(c:Nat)(w:World)(hc:c<=9223372036854775807)(hlen:s.size*c<=140737488355328):
  Calls prog 330 #[.string s,.int .i64 c] w fun e w'=>e=.returned (.string ⟨(Lib.repeatL s.data.toList c).toArray⟩)/\Below w.heap.size w w':=Any.strings_Repeat Tryz.lays105 Tryz.Builder_Extra_105 s c w hc hlen
def Tryz.laysSlE041_f201_ren:Go.Shelf.Ren:=⟨fun|41=>201|n=>n,fun|22=>29|23=>3|4=>4|n=>n,fun|n=>n⟩
def Tryz.laysSlE041_f201:Go.Proofs.SlLaysE0.n41 prog Tryz.laysSlE041_f201_ren:={
 mixed:=by kernel_rfl
 f41:=⟨Tryz.f201.name,by decide,func201.trans (congrArg some (by kernel_rfl))⟩
 t4:=underlying4
 a4:=Tryz.isAgg4
 z4:=Tryz.sizeOf4
 v4:=Tryz.zeroValue4
 t22:=underlying29
 a22:=Tryz.isAgg29
 z22:=Tryz.sizeOf29
 v22:=Tryz.zeroValue29}
open Go.RowKit Go.Lib in
def Tryz.slices_Clone_nil(n c:Nat)(w:World):
  Calls prog 201 #[.slice none n c] w fun e w'=>e=.returned (.slice none 0 0)/\w'=w:=AnyE.slices_Clone_nil Tryz.laysSlE041_f201 n c w
end Go.Proofs
