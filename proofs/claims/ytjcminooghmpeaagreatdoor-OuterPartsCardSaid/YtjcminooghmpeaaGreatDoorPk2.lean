import Derived.Carry
import Derived.Laws.Externs
import Derived.Lib.MakeNoZero
import Derived.LoopN
import Derived.Test.YtjcminooghmpeaaGreatDoorPk1
set_option linter.all false
set_option maxRecDepth 100000
set_option maxHeartbeats 40000000
open Go.Proofs.Tryz
namespace Go.Proofs.YtjcminooghmpeaaGreatDoor
open Go.RowKit
def St:List (Nat×PV)->Nat->PV
 | [],_=>.any
 | (i,x)::l,j=>match Nat.beq j i with
  | true=>x
  | false=>St l j
def nm(b:Nat)(is:List Nat)(t:Nat):Nat:=match Nat.blt t b with
 | true=>t
 | false=>is.getD (t-b) 0
def Au(b:Nat)(is:List Nat):PV->PV
 | .ptr i off=>.ptr (nm b is i) off
 | x=>x
def J3(b:Nat)(is:List Nat):PV->PV
 | .ptr i off=>.ptr (nm b is i) off
 | .arr i off n cap=>.arr (nm b is i) off n cap
 | .arw i off n=>.arw (nm b is i) off n
 | .seq n xs (.own t k)=>.seq n xs (.own (nm b is t) k)
 | .fn f a c=>.fn f (a.map (Au b is)) (c.map (Au b is))
 | x=>x
def NL1(N:Nat):PV->Prop
 | .ptr i _=>i<N
 | x=>aR x
def qI(N:Nat):List PV->Prop
 | []=>True
 | x::xs=>NL1 N x/\qI N xs
def NL(N:Nat):PV->Prop
 | .ptr i _=>i<N
 | .arr i _ _ _=>i<N
 | .arw i _ _=>i<N
 | .seq _ xs (.own t _)=>t<N/\aF xs
 | .fn _ a c=>qI N a/\qI N c
 | x=>aR x
def NLs(N:Nat):List (Nat×PV)->Prop
 | []=>True
 | (_,x)::l=>NL N x/\NLs N l
def NLo(b:Nat):List Ob->Prop
 | []=>True
 | .cells xs _::l=>qI b xs/\NLo b l
 | .smap _ xs::l=>qI b xs/\NLo b l
 | _::l=>NLo b l
def mY:List Ob->List Ob->Prop
 | _,[]=>True
 | [],_::_=>False
 | o::H,o'::Hb=>(o'=o\/o'=.dead)/\mY H Hb
def ReX(H:List Ob):List Nat->List Ob->Prop
 | [],[]=>True
 | k::is,o::Hx=>H[k]?=some o/\ReX H is Hx
 | _,_=>False
def wA(Hb:List Ob)(b:Nat):List Nat->Prop
 | []=>True
 | k::is=>(b<=k\/Hb[k]?=some .dead)/\wA Hb b is
def KA(b:Nat)(is:List Nat)(T:Nat->PV):List (Nat×PV)->Prop
 | []=>True
 | (i,x)::l=>Imp (T i) (J3 b is x)/\KA b is T l
def reσ(b:Nat)(is:List Nat)(σ:Nat->Option Nat):Nat->Option Nat:=fun i=>match Nat.blt i b with
 | true=>σ i
 | false=>match is[i-b]? with
  | some k=>σ k
  | none=>none
structure Re (H Hb Hx:List Ob) (is:List Nat):Prop where
 base:mY H Hb
 extra:ReX H is Hx
 nodup:is.Nodup
 moved:wA Hb Hb.length is
 cont:NLo Hb.length (Hb++Hx)
section
variable {P : Program} {B : Nat -> Nat -> Prop} {T : Nat -> PV} {H Hb Hx : List Ob} {is : List Nat} {σ : Nat -> Option Nat} {w : World}
def mY.get:∀{H Hb:List Ob} (_:mY H Hb) {i:Nat} {o:Ob},Hb[i]?=some o->H[i]?=some o\/o=.dead
 | _,[],_,i,o,h=>by simp at h
 | [],_::_,r,_,_,_=>r.elim
 | x::H,y::Hb,r,0,o,h=>by
  simp at h;subst h
  rcases r.1 with h|h
  ·exact .inl (by simp[h])
  exact .inr h
 | x::H,y::Hb,r,i+1,o,h=>by simpa using mY.get r.2 (by simpa using h)
def mY.le:∀{H Hb:List Ob} (_:mY H Hb),Hb.length<=H.length
 | _,[],_=>by simp
 | [],_::_,r=>r.elim
 | x::H,y::Hb,r=>by simpa using mY.le r.2
def ReX.len:∀{is:List Nat} {Hx:List Ob} (_:ReX H is Hx),Hx.length=is.length
 | [],[],_=>rfl
 | k::is,o::Hx,r=>by simpa using ReX.len r.2
 | [],_::_,r=>r.elim
 | _::_,[],r=>r.elim
def ReX.get:∀{is:List Nat} {Hx:List Ob} (_:ReX H is Hx) {j:Nat} {o:Ob},Hx[j]?=some o->∃k,is[j]?=some k/\H[k]?=some o
 | [],[],_,j,o,h=>by simp at h
 | k::is,x::Hx,r,0,o,h=>by simp at h;subst h;exact⟨k,rfl,r.1⟩
 | k::is,x::Hx,r,j+1,o,h=>by simpa using ReX.get r.2 (by simpa using h)
 | [],_::_,r,_,_,_=>r.elim
 | _::_,[],r,_,_,_=>r.elim
def wA.get:∀{is:List Nat} {b:Nat} (_:wA Hb b is) {k:Nat},k∈is->b<=k\/Hb[k]?=some .dead
 | [],_,_,k,h=>by simp at h
 | x::is,b,r,k,h=>by
  rcases List.mem_cons.1 h with rfl|h
  ·exact r.1
  exact wA.get r.2 h
def EE{b i:Nat}(h:i<b):reσ b is σ i=σ i:=by unfold reσ;rw[show Nat.blt i b=true from by rw[Nat.blt_eq];exact h]
def TU{b j:Nat}:reσ b is σ (b+j)=match is[j]? with|some k=>σ k|none=>none:=by
 unfold reσ
 rw[show Nat.blt (b+j) b=false from by rw[<-Bool.not_eq_true,Nat.blt_eq];omega]
 simp
def rn(r:Re H Hb Hx is){i:Nat}{o:Ob}(h:(Hb++Hx)[i]?=some o)(hl:o.live=true):
  ∃k,H[k]?=some o/\reσ Hb.length is σ i=σ k/\((i<Hb.length/\k=i)\/∃j,i=Hb.length+j/\is[j]?=some k):=by
 rcases Nat.lt_or_ge i Hb.length with h1|h1
 ·rw[List.getElem?_append_left h1]at h
  rcases r.base.get h with h2|rfl
  ·exact⟨i,h2,EE h1,.inl ⟨h1,rfl⟩⟩
  cases hl
 obtain⟨j,rfl⟩:∃j,i=Hb.length+j:=⟨i-Hb.length,by omega⟩
 rw[List.getElem?_append_right h1,Nat.add_sub_cancel_left]at h
 obtain⟨k,h2,h3⟩:=r.extra.get h
 exact⟨k,h3,by rw[TU,h2],.inr ⟨j,rfl,h2⟩⟩
def aF4(r:Re H Hb Hx is){b' off:Nat}(h:kM (reσ Hb.length is σ) (Hb++Hx) b' off):kM σ H b' off:=by
 obtain⟨i,oi,h1,h2,h3⟩:=h
 have hl:oi.live=true:=by cases oi<;>first|rfl|cases h3
 obtain⟨k,h4,h5,_⟩:=rn (σ:=σ) r h1 hl
 exact⟨k,oi,h4,by rw[<-h5];exact h2,h3⟩
def ur(r:Re H Hb Hx is):∀b' off,(cx B (Hb++Hx) (reσ Hb.length is σ) w).Wr b' off->(cx B H σ w).Wr b' off
 | _,_,.inl h=>.inl h
 | _,_,.inr h=>.inr (aF4 r h)
def za(r:Re H Hb Hx is){i:Nat}(hi:i<(Hb++Hx).length):reσ Hb.length is σ i=σ (nm Hb.length is i):=by
 unfold nm
 rcases Nat.lt_or_ge i Hb.length with h1|h1
 ·rw[EE h1,show Nat.blt i Hb.length=true from by rw[Nat.blt_eq];exact h1]
 obtain⟨j,rfl⟩:∃j,i=Hb.length+j:=⟨i-Hb.length,by omega⟩
 rw[TU,show Nat.blt (Hb.length+j) Hb.length=false from by rw[<-Bool.not_eq_true,Nat.blt_eq];omega]
 have hj:j<is.length:=by rw[List.length_append,r.extra.len]at hi;omega
 simp[List.getD,hj]
def Ub(r:Re H Hb Hx is){x:PV}{v:Value}(hn:NL (Hb++Hx).length x)(h:Rep (cx B H σ w) (J3 Hb.length is x) v):Rep (cx B (Hb++Hx) (reσ Hb.length is σ) w) x v:=by
 have flat:∀{x v},aR x->Rep (cx B H σ w) x v->Rep (cx B (Hb++Hx) (reσ Hb.length is σ) w) x v:=fun hf hr=>oI (c:=cx B H σ w) (c':=cx B (Hb++Hx) (reσ Hb.length is σ) w) rfl (ur r) hf hr
 have ptr:∀{i off v},i<(Hb++Hx).length->Rep (cx B H σ w) (.ptr (nm Hb.length is i) off) v->Rep (cx B (Hb++Hx) (reσ Hb.length is σ) w) (.ptr i off) v:=by
  intro i off v hi hr
  unfold Rep at hr ⊢
  obtain⟨_,b,h1,h2⟩:=hr
  exact⟨hi,b,(za r hi).trans h1,h2⟩
 have one:∀{x v},NL1 (Hb++Hx).length x->Rep (cx B H σ w) (Au Hb.length is x) v->Rep (cx B (Hb++Hx) (reσ Hb.length is σ) w) x v:=by
  intro x v h1 h2
  cases x<;>first|exact ptr h1 h2|exact flat h1 h2
 have oneL:∀{xs:List PV} {vs:List Value},qI (Hb++Hx).length xs->au (cx B H σ w) (xs.map (Au Hb.length is)) vs->au (cx B (Hb++Hx) (reσ Hb.length is σ) w) xs vs:=by
  intro xs
  induction xs with
  | nil=>intro vs _ h2;rw[List.map_nil,aG]at h2;exact aG.2 h2
  | cons x xs ih =>
   intro vs h1 h2
   cases vs with
   | nil=>rw[List.map_cons]at h2;unfold au at h2;obtain⟨u,us,h3,_⟩:=h2;cases h3
   | cons v vs=>rw[List.map_cons,af]at h2;exact af.2 ⟨one h1.1 h2.1,ih h1.2 h2.2⟩
 cases x with
 | ptr i off=>exact ptr hn h
 | arr i off n cap =>
  unfold J3 Rep at h
  unfold Rep
  obtain⟨_,b,h1,h2⟩:=h
  exact⟨hn,b,(za r hn).trans h1,h2⟩
 | arw i off n =>
  unfold J3 Rep at h
  unfold Rep
  obtain⟨_,b,cap,h1,h2⟩:=h
  exact⟨hn,b,cap,(za r hn).trans h1,h2⟩
 | seq n xs s =>
  cases s with
  | own t k =>
   unfold J3 Rep at h
   unfold Rep
   obtain⟨a,cap,vs,h1,h2,h3,h4,h5,h6,h7,h8⟩:=h
   refine⟨a,cap,vs,h1,h2,h3,dv (c:=cx B H σ w) (c':=cx B (Hb++Hx) (reσ Hb.length is σ) w) rfl (ur r) hn.2 h4,fun b hb=>(h5 b hb).imp (fun hl=>⟨hl.1,fun j u hj=>⟨(hl.2 j u hj).1,fun hw=>(hl.2 j u hj).2 (ur r _ _ hw)⟩⟩) id,hn.1,h7,?_⟩
   rcases h8 with h8|⟨b,cs,e,h9,h10,h11⟩
   ·exact .inl h8
   exact .inr ⟨b,cs,e,(za r hn.1).trans h9,h10,h11⟩
  | any=>exact flat hn h
  | clip=>exact flat hn h
 | fn f a c =>
  unfold J3 Rep at h
  unfold Rep
  obtain⟨fs,cs,h1,h2,h3⟩:=h
  exact⟨fs,cs,h1,oneL hn.1 h2,oneL hn.2 h3⟩
 | _=>exact flat hn h
def qq:∀{l:List Ob} {b:Nat} (_:NLo b l) {i:Nat} {xs:List PV} {e:TypeId},l[i]?=some (.cells xs e)->qI b xs
 | [],_,_,i,xs,e,h=>by simp at h
 | o::l,b,hn,0,xs,e,h=>by simp at h;subst h;exact hn.1
 | .cells _ _::l,b,hn,i+1,xs,e,h=>qq (l:=l) hn.2 (by simpa using h)
 | .smap _ _::l,b,hn,i+1,xs,e,h=>qq (l:=l) hn.2 (by simpa using h)
 | .iter _ _::l,b,hn,i+1,xs,e,h=>qq (l:=l) hn (by simpa using h)
 | .free _::l,b,hn,i+1,xs,e,h=>qq (l:=l) hn (by simpa using h)
 | .dead::l,b,hn,i+1,xs,e,h=>qq (l:=l) hn (by simpa using h)
 | .glob _ _::l,b,hn,i+1,xs,e,h=>qq (l:=l) hn (by simpa using h)
def od:∀{l:List Ob} {b:Nat} (_:NLo b l) {i:Nat} {ks:List fX} {xs:List PV},l[i]?=some (.smap ks xs)->qI b xs
 | [],_,_,i,xs,e,h=>by simp at h
 | o::l,b,hn,0,xs,e,h=>by simp at h;subst h;exact hn.1
 | .cells _ _::l,b,hn,i+1,xs,e,h=>od (l:=l) hn.2 (by simpa using h)
 | .smap _ _::l,b,hn,i+1,xs,e,h=>od (l:=l) hn.2 (by simpa using h)
 | .iter _ _::l,b,hn,i+1,xs,e,h=>od (l:=l) hn (by simpa using h)
 | .free _::l,b,hn,i+1,xs,e,h=>od (l:=l) hn (by simpa using h)
 | .dead::l,b,hn,i+1,xs,e,h=>od (l:=l) hn (by simpa using h)
 | .glob _ _::l,b,hn,i+1,xs,e,h=>od (l:=l) hn (by simpa using h)
def D8{b:Nat}:∀{xs:List PV},qI b xs->xs.map (Au b is)=xs
 | [],_=>rfl
 | x::xs,h=>by
  rw[List.map_cons,D8 h.2]
  congr 1
  have h1:=h.1
  cases x<;>first|rfl|skip
  simp only[NL1]at h1
  simp only[Au,nm]
  rw[show Nat.blt _ b=true from by rw[Nat.blt_eq];exact h1]
def Nu(r:Re H Hb Hx is){xs:List PV}{vs:List Value}(hn:qI Hb.length xs)(h:au (cx B H σ w) xs vs):au (cx B (Hb++Hx) (reσ Hb.length is σ) w) xs vs:=by
 have h1:=D8 (is:=is) hn
 have h2:au (cx B H σ w) (xs.map (Au Hb.length is)) vs:=by rw[h1];exact h
 clear h h1
 induction xs generalizing vs with
 | nil=>rw[List.map_nil,aG]at h2;exact aG.2 h2
 | cons x xs ih =>
  cases vs with
  | nil=>rw[List.map_cons]at h2;unfold au at h2;obtain⟨u,us,h3,_⟩:=h2;cases h3
  | cons v vs =>
   rw[List.map_cons,af]at h2
   refine af.2 ⟨?_,ih hn.2 h2.2⟩
   have hx:=hn.1
   cases x<;>first
    | (refine Ub (x:=.ptr _ _) r ?_ h2.1;show _<_;simp only[NL1]at hx;rw[List.length_append];omega)
    | exact oI (c:=cx B H σ w) (c':=cx B (Hb++Hx) (reσ Hb.length is σ) w) rfl (ur r) hx h2.1
def Ln(r:Re H Hb Hx is)(s:Sim B H σ w):Sim B (Hb++Hx) (reσ Hb.length is σ) w:=by
 refine⟨?_,?_,s.base,?_⟩
 ·intro i j b oi oj h1 h2 l1 l2 e1 e2
  obtain⟨k,g1,g2,g3⟩:=rn (σ:=σ) r h1 l1
  obtain⟨k',g1',g2',g3'⟩:=rn (σ:=σ) r h2 l2
  have hk:=s.inj k k' b oi oj g1 g1' l1 l2 (g2▸e1) (g2'▸e2)
  subst hk
  rcases g3 with ⟨g3,rfl⟩|⟨q,rfl,g3⟩<;>rcases g3' with ⟨g3',rfl⟩|⟨q',rfl,g3'⟩
  ·rfl
  ·rcases r.moved.get (List.mem_of_getElem? g3')with g4|g4
   ·omega
   rw[List.getElem?_append_left g3]at h1;rw[h1]at g4;cases g4;cases l1
  ·rcases r.moved.get (List.mem_of_getElem? g3)with g4|g4
   ·omega
   rw[List.getElem?_append_left g3']at h2;rw[h2]at g4;cases g4;cases l2
  have:q=q':=by
   have hq:=(List.getElem?_eq_some_iff.1 g3).1
   exact(List.getElem?_inj hq r.nodup).1 (g3.trans g3'.symm)
  rw[this]
 ·intro i b oi h1 l1 e1 off
  obtain⟨k,g1,g2,_⟩:=rn (σ:=σ) r h1 l1
  exact s.sep k b oi g1 l1 (g2▸e1) off
 intro i oi h1
 cases oi with
 | dead=>trivial
 | glob g u =>
  have key:∃k:Nat,H[k]?=some (Ob.glob g u):=by
   rcases Nat.lt_or_ge i Hb.length with h2|h2
   ·rw[List.getElem?_append_left h2]at h1
    rcases r.base.get h1 with h3|h3
    ·exact⟨i,h3⟩
    cases h3
   rw[List.getElem?_append_right h2]at h1
   obtain⟨k,_,h3⟩:=r.extra.get h1
   exact⟨k,h3⟩
  obtain⟨k,hk⟩:=key
  obtain⟨q1,q2⟩:=s.holds k _ hk
  exact⟨q1,fun q=>q2 (ur r _ _ q)⟩
 | cells xs e =>
  obtain⟨k,g1,g2,_⟩:=rn (σ:=σ) r h1 rfl
  obtain⟨b,vs,fr,h3,h4,h5,p,q,hpq,h6⟩:=s.holds k _ g1
  exact⟨b,vs,fr,g2.trans h3,h4,h5,p,q,hpq,Nu r (qq r.cont h1) h6⟩
 | iter s2 pos =>
  obtain⟨k,g1,g2,_⟩:=rn (σ:=σ) r h1 rfl
  obtain⟨b,h3,h4⟩:=s.holds k _ g1
  exact⟨b,g2.trans h3,h4⟩
 | smap ks ms =>
  obtain⟨k,g1,g2,_⟩:=rn (σ:=σ) r h1 rfl
  obtain⟨b,es,clk,h3,h4,h5,h6⟩:=s.holds k _ g1
  exact⟨b,es,clk,g2.trans h3,h4,h5,Nu r (od r.cont h1) h6⟩
 | free m =>
  obtain⟨k,g1,g2,_⟩:=rn (σ:=σ) r h1 rfl
  intro b hb
  exact s.holds k _ g1 b (by show σ k=some b;rw[<-g2];exact hb)
def Es{H0:List Ob}{σ0:Nat->Option Nat}{w0:World}(r:Re H Hb Hx is)(hb:H0.length=Hb.length)(st:eH B H0 σ0 w0 H σ w):eH B H0 σ0 w0 (Hb++Hx) (reσ Hb.length is σ) w:=by
 refine⟨⟨by simp[cx];omega,fun i hi=>?_,fun b off u h1 h2=>?_,fun b es clk h1 h2=>?_,st.le.shape⟩,st.os,st.tape,st.output,st.size,fun i oi b h1 h2 h3=>?_,st.block⟩
 ·simp only[cx]at hi ⊢
  rw[EE (by omega)]
  exact st.le.σ i hi
 ·have:=st.le.cell b off u h1 h2
  exact⟨this.1,fun h=>this.2 (ur r _ _ h)⟩
 ·have:=st.le.mapo b es clk h1 h2
  exact⟨this.1,fun h=>this.2 (ur r _ _ h)⟩
 obtain⟨k,g1,g2,_⟩:=rn (σ:=σ) r h1 h2
 exact st.new k oi b g1 h2 (g2▸h3)
def Ep(r:Re H Hb Hx is){a:Act}(h:Zu (cx B H σ w) T a):∀{l:List (Nat×PV)},KA Hb.length is T l->NLs (Hb++Hx).length l->Zu (cx B (Hb++Hx) (reσ Hb.length is σ) w) (St l) a
 | [],_,_=>fun i=>by unfold St Rep;trivial
 | (i,x)::l,hs,hn=>fun j=>by
  unfold St
  by_cases hj:j=i
  ·subst hj
   rw[show Nat.beq j j=true from Nat.beq_refl j]
   exact Ub r hn.1 (hs.1 _ _ (h j))
  rw[show Nat.beq j i=false from by rw[<-Bool.not_eq_true,Nat.beq_eq];exact hj]
  exact Ep r h hs.2 hn.2 j
variable {n : Nat} {Q : Exit -> (Nat -> PV) -> List Ob -> Prop}
structure Yg (b:Nat) (L:List (Nat×PV)) (Hb Hx:List Ob) (T:Nat->PV) (H:List Ob) (is:List Nat):Prop where
 len:b=Hb.length
 re:Re H Hb Hx is
 sub:KA Hb.length is T L
 low:NLs (Hb++Hx).length L
def UZ[D:DL]{Hb Hx:List Ob}{b:Nat}{σ:Nat->Option Nat}{l:List Deferred}{is:List Nat}(hb:b=Hb.length)(hk:D.k<=b)(h:D.cur σ l):D.k<=(Hb++Hx).length/\D.cur (reσ Hb.length is σ) l :=
 ⟨by rw[List.length_append];omega,D.ccur (fun i hi=>EE (by omega)) h⟩
def dJ[DL]{α:Type}{c:Code}(L:α->List (Nat×PV))(Hb Hx:α->List Ob)(Inv:α->Prop)(μ:α->Nat)(s0:α)(i0:Inv s0)(is0:List Nat)(h0:Yg H.length (L s0) (Hb s0) (Hx s0) T H is0)
  (round:∀s,Inv s->W P B n c (St (L s)) (Hb s++Hx s) (qj (fun T' H'=>∃s' is,Inv s'/\μ s'<μ s/\Yg H.length (L s') (Hb s') (Hx s') T' H' is) Q)):W P B n (.loop c) T H Q:=by
 intro σ w a g
 have st0:eH B H σ w (Hb s0++Hx s0) (reσ (Hb s0).length is0 σ) w:=Es h0.re h0.len (eH.refl B H σ w)
 refine KL (fun m a' w'=>∃s σ',Inv s/\μ s=m/\mO B n (St (L s)) (Hb s++Hx s) σ' w' a'/\eH B H σ w (Hb s++Hx s) σ' w') ?_ (μ s0) a w ⟨s0,_,i0,rfl,⟨Ln h0.re g.sim,Ep h0.re g.rep h0.sub h0.low,g.size,UZ h0.len g.defers.1 g.defers.2⟩,st0⟩
 rintro m a' w' ⟨s,σ',hi,rfl,hg,hst⟩
 refine wp_mono (round s hi σ' w' a' hg) ?_
 rintro e a2 w2 ⟨T2,H2,σ2,k1,k2,k3⟩
 have k4:=hst.trans k3
 cases e with
 | normal =>
  obtain⟨s',is,h1,h2,h3⟩:=k1
  exact⟨μ s',h2,s',_,h1,rfl,⟨Ln h3.re k2.sim,Ep h3.re k2.rep h3.sub h3.low,k2.size,UZ h3.len g.defers.1 k2.defers.2⟩,Es h3.re h3.len k4⟩
 | exit id=>exact⟨T2,H2,σ2,k1,k2,k4⟩
 | goto l=>exact⟨T2,H2,σ2,k1,k2,k4⟩
 | ret=>exact⟨T2,H2,σ2,k1,k2,k4⟩
 | panic c=>exact⟨T2,H2,σ2,k1,k2,k4⟩
 | outgrown=>exact⟨T2,H2,σ2,k1,k2,k4⟩
def Lm:mY H []:=by cases H<;>exact trivial
def rB{o o':Ob}(h:o'=o\/o'=.dead)(k:mY H Hb):mY (o::H) (o'::Hb):=⟨h,k⟩
def Z8:ReX H [] []:=trivial
def rX{k:Nat}{o:Ob}(h:H[k]?=some o)(r:ReX H is Hx):ReX H (k::is) (o::Hx):=⟨h,r⟩
def O0{b:Nat}:wA Hb b []:=trivial
def mC{b k:Nat}(h:b<=k\/Hb[k]?=some .dead)(r:wA Hb b is):wA Hb b (k::is):=⟨h,r⟩
def MK{b:Nat}:NLo b []:=trivial
def OX{b:Nat}{xs:List PV}{e:TypeId}{l:List Ob}(h:qI b xs)(k:NLo b l):NLo b (.cells xs e::l):=⟨h,k⟩
def TN{b:Nat}{ks:List fX}{xs:List PV}{l:List Ob}(h:qI b xs)(k:NLo b l):NLo b (.smap ks xs::l):=⟨h,k⟩
def nO{b m:Nat}{l:List Ob}(k:NLo b l):NLo b (.free m::l):=k
def Sb{b:Nat}{l:List Ob}(k:NLo b l):NLo b (.dead::l):=k
def gc{b:Nat}:KA b is T []:=trivial
def eU{b i:Nat}{x:PV}{l:List (Nat×PV)}(h:Imp (T i) (J3 b is x))(k:KA b is T l):KA b is T ((i,x)::l):=⟨h,k⟩
def YT{N:Nat}:NLs N []:=trivial
def TC{N i:Nat}{x:PV}{l:List (Nat×PV)}(h:NL N x)(k:NLs N l):NLs N ((i,x)::l):=⟨h,k⟩
def dK{b:Nat}{L:List (Nat×PV)}(sub:KA Hb.length is T L:=by repeat (first|exact gc|refine eU (by first|exact cP rfl|exact oU _ _ _|exact cP (congrArg i64 (by first|(rw[bU];unfold wrap64;omega)|omega|(simp;done)))) ?_))(len:b=Hb.length:=by exact rfl)
  (base:mY H Hb:=by repeat (first|exact Lm|refine rB (.inl rfl) ?_|refine rB (.inr rfl) ?_)) (extra:ReX H is Hx:=by repeat (first|exact Z8|refine rX rfl ?_|refine rX (by refine congrArg (fun q=>some (Ob.free q)) ?_;simp<;>omega) ?_)) (nodup:is.Nodup:=by decide)
  (moved:wA Hb Hb.length is:=by repeat (first|exact O0|refine mC (.inl (Nat.le_of_ble_eq_true rfl)) ?_|refine mC (.inr rfl) ?_))
  (cont:NLo Hb.length (Hb++Hx):=by repeat (first|exact MK|exact nO MK|refine OX (by first|(refine nN ?_;simp;done)|(refine nN (bs ?_ _);intro x;simp;done)|(simp[qI,NL1];done)) ?_|refine nO ?_|refine Sb ?_|refine Vd ?_|refine TN (by first|(refine nN ?_;simp;done)|(refine nN (bs ?_ _);intro x;simp;done)|(simp[qI,NL1];done)) ?_))
  (low:NLs (Hb++Hx).length L:=by repeat (first|exact YT|refine TC (by first|(refine Xd ?_;simp;done)|(show _<_;first|decide|(simp;done))|(refine⟨?_,bs ?_ _⟩<;>first|decide|(intro x;simp;done)|(simp;done))|(refine⟨?_,?_⟩<;>first|decide|(simp;done))|(simp[NL,qI,NL1];done)) ?_)):Yg b L Hb Hx T H is :=
 ⟨len,⟨base,extra,nodup,moved,cont⟩,sub,low⟩
def Jq{N:Nat}{x:PV}(h:aR x):NL1 N x:=by cases x<;>first|exact h|(unfold aR at h;exact h.elim)
def Xd{N:Nat}{x:PV}(h:aR x):NL N x:=by
 cases x<;>first|exact h|skip
 ·unfold aR at h;exact h.elim
 ·rename_i n xs s
  cases s<;>first|exact h|(unfold aR at h;rcases h.2 with h|h<;>cases h)
 ·unfold aR at h;exact h.elim
 ·rename_i f a b
  unfold aR at h
  have one:∀l:List PV,aF l->qI N l:=by
   intro l
   induction l with
   | nil=>intro _;exact trivial
   | cons x l ih=>intro hl;unfold aF at hl;exact⟨Jq hl.1,ih hl.2⟩
  exact⟨one _ h.1,one _ h.2⟩
 unfold aR at h;exact h.elim
def nN{N:Nat}:∀{l:List PV},aF l->qI N l
 | [],_=>trivial
 | x::l,h=>by unfold aF at h;exact⟨Jq h.1,nN h.2⟩
def bs{α:Type}{enc:α->List PV}(h:∀x,aF (enc x))(l:List α):aF (l.flatMap enc):=by
 have:=gQ h l
 unfold sq at this
 unfold aR at this
 exact this.1
def SD[DL]{x y:Code}(L:List (Nat×PV))(Hb Hx:List Ob)(hx:W P B n x T H (qj (fun T1 H1=>∃is,Yg H.length L Hb Hx T1 H1 is) Q))(hy:W P B n y (St L) (Hb++Hx) Q):W P B n (x.seq y) T H Q:=by
 intro σ w a g
 refine wp_seq (wp_mono (hx σ w a g) ?_)
 rintro e a' w' ⟨T',H',σ',h1,h2,h3⟩
 cases e with
 | normal =>
  obtain⟨is,hf⟩:=h1
  exact wp_mono (hy _ w' a' ⟨Ln hf.re h2.sim,Ep hf.re h2.rep hf.sub hf.low,h2.size,UZ hf.len g.defers.1 h2.defers.2⟩) fun _ _ _ k=>ia (Es hf.re hf.len h3) (fun _ _ _ h=>h) k
 | exit id=>exact⟨T',H',σ',h1,h2,h3⟩
 | goto l=>exact⟨T',H',σ',h1,h2,h3⟩
 | ret=>exact⟨T',H',σ',h1,h2,h3⟩
 | panic c=>exact⟨T',H',σ',h1,h2,h3⟩
 | outgrown=>exact⟨T',H',σ',h1,h2,h3⟩
end
open Go.RowKit
def fX.like:fX->fX->Bool
 | .s _,.s _=>true
 | .n _,.n _=>true
 | _,_=>false
def fX.kind:fX->TypeDesc
 | .s _=>.string
 | .n _=>.int .i64
def GK:fX->PV
 | .s k=>.val (.string ⟨k.toArray⟩)
 | .n i=>.val (.int .i64 i)
def Ie(P:Program)(t e:TypeId)(key:fX):Bool:=match P.underlying t with
 | some (.map k e')=>match P.underlying k,key with
  | some .string,.s _=>Nat.beq e' e
  | some (.int .i64),.n _=>Nat.beq e' e
  | _,_=>false
 | _=>false
def Ax{P:Program}{t e:TypeId}{key:fX}(h:Ie P t e key=true):∃k,P.underlying t=some (.map k e)/\P.underlying k=some key.kind:=by
 unfold Ie at h
 split at h
 ·rename_i k e' h1
  split at h
  ·rename_i h2
   rw[Nat.beq_eq]at h;subst h
   exact⟨k,h1,h2⟩
  ·rename_i h2
   rw[Nat.beq_eq]at h;subst h
   exact⟨k,h1,h2⟩
  cases h
 cases h
def g9:List fX->List PV->fX->PV->PV×Bool
 | k::ks,x::xs,key,z=>if k=key then(x,true)else g9 ks xs key z
 | _,_,_,z=>(z,false)
def Ji{k key:fX}(h:key.like k=true):Instr.sameNow key.kind (oQ key) (oQ k)=some (decide (k=key)):=by
 cases key<;>cases k<;>cases h
 ·rename_i a b
  simp only[fX.kind,oQ,Instr.sameNow,Option.some.injEq,fX.s.injEq]
  by_cases hab:b=a
  ·subst hab
   have:((⟨b.toArray⟩:ByteArray)==⟨b.toArray⟩)=true:=by show(b.toArray==b.toArray)=true;simp
   simp[this]
  have:((⟨a.toArray⟩:ByteArray)==⟨b.toArray⟩)=false:=by
   show(a.toArray==b.toArray)=false
   rw[beq_eq_false_iff_ne]
   intro he
   exact hab (by simpa using he.symm)
  simp[hab,this]
 rename_i a b
 simp only[fX.kind,oQ,Instr.sameNow,if_true,Option.some.injEq,fX.n.injEq]
 by_cases hab:b=a
 ·subst hab;simp
 have:¬a=b:=fun h=>hab h.symm
 simp[hab,this]
def S6(P:Program)(e:TypeId)(agg:Bool):Bool:=match (P.info? e).bind (·.zero)with
 | some (.agg _)=>agg
 | some _=>!agg
 | none=>false
def V3(d:TD):Option PV:=match d.agg with
 | true=>some (.agg d.zero)
 | false=>d.zero[0]?
section
variable {P : Program} {B : Nat -> Nat -> Prop} {n : Nat} {o : Oper} {T : Nat -> PV} {H : List Ob} {G : List (Nat × TD)} {all : Array Oper} {K : (Nat -> PV) -> List Ob -> Prop} {Q : Exit -> (Nat -> PV) -> List Ob -> Prop}
def dn{t:TypeId}(ho:o.op=.makeMap t none):bM P B o T H (.mapv H.length) (H++[.smap [] []]):=by
 intro σ w a s h
 have gr:bj w (w.alloc (.map #[] 0)):=bj.alloc _ _
 obtain⟨s',st⟩:=fv s gr (.smap [] []) (some w.heap.size) (fun b hb=>by cases hb;exact Nat.le_refl _) ⟨w.heap.size,#[],0,by simp only[cx];rw[bx],by show(w.heap.push _)[w.heap.size]?=_;simp,rfl,aG.2 rfl⟩
 refine⟨.map (some w.heap.size),_,_,.inl ?_,?_,s',st⟩
 ·simp[execOp,ho,run_makeMap]
 unfold Rep;exact⟨by simp[cx],w.heap.size,by simp only[cx];rw[bx],rfl⟩
def Gq{ks:List fX}{key:fX}:∀{es:List MapEntry} {i:Nat},es.map (·.key)=ks.map oQ->ks.all key.like=true->key∉ks->Instr.findNow key.kind (oQ key) es i=some none:=by
 induction ks with
 | nil=>intro es i h _ _;cases es with
  | nil=>rfl
  | cons e es=>simp at h
 | cons k ks ih =>
  intro es i h hl hn
  cases es with
  | nil=>simp at h
  | cons e es =>
   simp only[List.map_cons,List.cons.injEq]at h
   simp only[List.all_cons,Bool.and_eq_true]at hl
   have h1:Instr.sameNow key.kind (oQ key) e.key=some false:=by
    rw[h.1,Ji hl.1]
    simp only[Option.some.injEq,decide_eq_false_iff_not]
    rintro rfl;exact hn (by simp)
   simp only[Instr.findNow,h1]
   exact ih h.2 hl.2 (fun hk=>hn (List.mem_cons_of_mem _ hk))
def AL{c:Cx}{key:fX}{z:PV}:∀{ks:List fX} {xs:List PV} {es:List MapEntry} {i:Nat},es.map (·.key)=ks.map oQ->ks.all key.like=true->au c xs (es.map (·.val)) ->
  (∃j v,Instr.findNow key.kind (oQ key) es i=some (some (j,v))/\(g9 ks xs key z).2=true/\Rep c (g9 ks xs key z).1 v)\/(Instr.findNow key.kind (oQ key) es i=some none/\g9 ks xs key z=(z,false))
 | [],xs,es,i,h1,_,h2=>by
  cases es with
  | nil=>exact .inr ⟨rfl,by unfold g9;rfl⟩
  | cons e es=>simp at h1
 | k::ks,xs,[],i,h1,_,h2=>by simp at h1
 | k::ks,[],e::es,i,h1,_,h2=>by rw[List.map_cons]at h2;rw[aG]at h2;cases h2
 | k::ks,x::xs,e::es,i,h1,hl,h2=>by
  simp only[List.map_cons,List.cons.injEq]at h1
  simp only[List.all_cons,Bool.and_eq_true]at hl
  rw[List.map_cons,af]at h2
  have hs:Instr.sameNow key.kind (oQ key) e.key=some (decide (k=key)):=by rw[h1.1];exact Ji hl.1
  by_cases hk:k=key
  ·refine .inl ⟨i,e.val,?_,by simp[g9,hk],by simpa[g9,hk]using h2.1⟩
   rw[decide_eq_true hk]at hs
   simp only[Instr.findNow,hs]
  rw[decide_eq_false hk]at hs
  have e1:Instr.findNow key.kind (oQ key) (e::es) i=Instr.findNow key.kind (oQ key) es (i+1):=by
   simp only[Instr.findNow,hs]
  rw[e1]
  simp only[g9,if_neg hk]
  exact AL h1.2 hl.2 h2.2
def Cr(n:Nat)(key:fX){kt:TypeId}(h:P.underlying kt=some key.kind)(b:Bool)(w:World):(Instr.checkKey b (n+1) kt (oQ key)).run P w=.ok () w:=by
 cases key<;>simp[Instr.checkKey,run_underlying h,fX.kind,oQ]
def qH(key:fX){kt:TypeId}(h:P.underlying kt=some key.kind)(b:Bool)(w:World):(Instr.checkKey b 10000 kt (oQ key)).run P w=.ok () w:=Cr 9999 key h b w
def YB{σ:Nat->Option Nat}{w:World}(s:Sim B H σ w){i b:Nat}{ks ks':List fX}{xs xs':List PV}(hi:H[i]?=some (.smap ks xs))(hb:σ i=some b){es es':Array MapEntry}{clk clk':Nat}(hv:w.heap[b]?=some (Obj.map es clk))
  (hk:es'.toList.map (·.key)=ks'.map oQ) (hr:au (cx B H σ w) xs' (es'.toList.map (·.val))) :
  Sim B (H.set i (.smap ks' xs')) σ {w with heap:=w.heap.setIfInBounds b (.map es' clk')}/\eH B H σ w (H.set i (.smap ks' xs')) σ {w with heap:=w.heap.setIfInBounds b (.map es' clk')}:=by
 have hlen:=cM hi
 have hbl:=(Array.getElem?_eq_some_iff.1 hv).1
 have other:∀x,x≠b->(w.heap.setIfInBounds b (.map es' clk'))[x]?=w.heap[x]?:=fun x hx=>Array.getElem?_setIfInBounds_ne (Ne.symm hx)
 have same:(w.heap.setIfInBounds b (.map es' clk'))[b]?=some (.map es' clk'):=by simp[hbl]
 have get:∀j o,(H.set i (.smap ks' xs'))[j]?=some o->(j=i/\o=.smap ks' xs')\/(j≠i/\H[j]?=some o):=fun j o h=>y4 hlen h
 have own:∀x off,kM σ (H.set i (.smap ks' xs')) x off->kM σ H x off:=by
  rintro x off ⟨j,o,h1,h2,h3⟩
  rcases get j o h1 with ⟨rfl,rfl⟩|⟨_,h4⟩
  ·exact⟨j,_,hi,h2,trivial⟩
  exact⟨j,o,h4,h2,h3⟩
 have wr:∀off,kM σ H b off:=fun off=>⟨i,_,hi,hb,trivial⟩
 have le:(cx B H σ w).Le (cx B (H.set i (.smap ks' xs')) σ {w with heap:=w.heap.setIfInBounds b (.map es' clk')}):=by
  refine⟨by simp[cx],fun _ _=>rfl,fun x off u h1 h2=>⟨?_,fun h=>h1 (h.imp id (own x off))⟩,fun x e2 c2 h1 h2=>⟨?_,fun h=>h1 (h.imp id (own x 0))⟩,fun x cs t fr h1=>⟨cs,?_,rfl⟩⟩
  ·have hx:x≠b:=fun hx=>h1 (.inr (hx▸wr off))
   exact(World.cell?_of_block (w:=w) (w':={w with heap:=w.heap.setIfInBounds b (.map es' clk')}) (a:=⟨x,off,none⟩) (other x hx)).trans h2
  ·have hx:x≠b:=fun hx=>h1 (.inr (hx▸wr 0))
   exact(other x hx).trans h2
  have hx:x≠b:=by rintro rfl;simp only[cx]at h1;rw[hv]at h1;cases h1
  exact(other x hx).trans h1
 refine⟨⟨?_,?_,fun x off h=>by simpa using s.base x off h,?_⟩,⟨le,rfl,rfl,rfl,by simp,?_,?_⟩⟩
 ·intro j k x oj ok h1 h2 l1 l2 e1 e2
  rcases get j oj h1 with ⟨rfl,rfl⟩|⟨_,h3⟩<;>rcases get k ok h2 with ⟨rfl,rfl⟩|⟨_,h4⟩
  ·rfl
  ·exact s.inj _ _ x _ _ hi h4 rfl l2 e1 e2
  ·exact s.inj _ _ x _ _ h3 hi l1 rfl e1 e2
  exact s.inj _ _ x _ _ h3 h4 l1 l2 e1 e2
 ·intro j x oj h1 l1 e1 off
  rcases get j oj h1 with ⟨rfl,rfl⟩|⟨_,h3⟩
  ·exact s.sep _ x _ hi rfl e1 off
  exact s.sep _ x _ h3 l1 e1 off
 ·intro j oj h1
  rcases get j oj h1 with ⟨rfl,rfl⟩|⟨hj,h3⟩
  ·exact⟨b,es',clk',hb,same,hk,au.mono le hr⟩
  have k:=s.holds j oj h3
  cases oj with
  | cells zs t =>
   obtain⟨x,ws,fr',h5,h6,hf,h7⟩:=k
   have hx:x≠b:=fun hx=>hj (s.inj j i b _ _ h3 hi rfl rfl (hx▸h5) hb)
   exact⟨x,ws,fr',h5,(other x hx).trans h6,hf,h7.mono le⟩
  | iter s2 pos =>
   obtain⟨x,h5,h6⟩:=k
   have hx:x≠b:=fun hx=>hj (s.inj j i b _ _ h3 hi rfl rfl (hx▸h5) hb)
   exact⟨x,h5,(other x hx).trans h6⟩
  | smap ks2 ms =>
   obtain⟨x,e2,c2,h5,h6,h7,h8⟩:=k
   have hx:x≠b:=fun hx=>hj (s.inj j i b _ _ h3 hi rfl rfl (hx▸h5) hb)
   exact⟨x,e2,c2,h5,(other x hx).trans h6,h7,au.mono le h8⟩
  | free m =>
   intro x hx
   obtain⟨cs,t,h5,h6⟩:=k x hx
   have hne:x≠b:=fun h=>hj (s.inj j i b _ _ h3 hi rfl rfl (h▸hx) hb)
   exact⟨cs,t,(other x hne).trans h5,h6⟩
  | dead=>trivial
  | glob g u=>obtain⟨q1,q2⟩:=k;exact le.cell g 0 u q2 q1
 ·intro j oj x h1 h2 h3
  rcases get j oj h1 with ⟨rfl,rfl⟩|⟨_,h4⟩
  ·exact .inr ⟨_,_,hi,rfl,h3⟩
  exact .inr ⟨j,oj,h4,h2,h3⟩
 intro x hx hn
 exact other x (fun h=>hn i _ hi rfl (h▸hb))
def dI{t e:TypeId}{m k x:Operand}{i:Nat}{ks:List fX}{xs:List PV}{key:fX}(ht:Ie P t e key=true)(ho:o.op=.insert t m k x)(hm:opv T m=.mapv i)(hi:H[i]?=some (.smap ks xs))(hk:opv T k=GK key)(hn:(ks.all key.like&&!(ks.contains key))=true):
  bM P B o T H (.val undef) (H.set i (.smap (ks++[key]) (xs++[opv T x]))):=by
 intro σ w a s h
 obtain⟨kt,h1,h2⟩:=Ax ht
 have k1:=h m (by simp[ho,Op.operands])
 have k2:=h k (by simp[ho,Op.operands])
 have k3:=h x (by simp[ho,Op.operands])
 rw[hm]at k1
 rw[hk]at k2
 unfold Rep at k1
 have k2:a.eval k=oQ key:=by cases key<;>(unfold GK Rep at k2;exact k2)
 obtain⟨_,b,hb,hv⟩:=k1
 obtain⟨b',es,clk,hb',hg,hks,hxs⟩:=s.holds i _ hi
 simp only[cx]at hb hb' hg
 rw[hb]at hb'
 cases hb'
 simp only[Bool.and_eq_true,Bool.not_eq_true',List.contains_eq_mem,decide_eq_false_iff_not]at hn
 have hf:=Gq (i:=0) hks hn.1 hn.2
 obtain⟨s',st⟩:=YB s (es':=es.push {key:=oQ key,val:=a.eval x,born:=clk}) (clk':=clk+1) hi hb hg (ks':=ks++[key]) (xs':=xs++[opv T x]) (by simp[hks]) (by
  rw[Array.toList_push,List.map_append]
  exact hxs.append (af.2 ⟨k3,aG.2 rfl⟩))
 refine⟨undef,_,σ,.inr ⟨?_,rfl⟩,ar _ _,s',st⟩
 simp only[execOp,ho,hv,k2]
 simp[Instr.mapUpdate,run_underlying h1,qH key h2,run_underlying h2,Instr.findKey,hf,getObj,setObj,Sem.run,hg]
def bc{t e:TypeId}{de:TD}{m k:Operand}{b:Bool}{ks:List fX}{xs:List PV}{key:fX}{z y:PV}{q:Bool}(ht:Ie P t e key=true)(fe:ap P e de)(hzo:S6 P e de.agg=true)(hz:V3 de=some z)(ho:o.op=.lookup t m k b)(hm:opv T m=.smap ks xs)(hk:opv T k=GK key)(hkl:ks.all key.like=true)(hl:g9 ks xs key z=(y,q)):
  bM P B o T H (match b with|true=>.tup [y,.val (.bool q)]|false=>y) H :=
 aM fun σ w a s h=>by
  obtain⟨kt,h1,h2⟩:=Ax ht
  have k1:=h m (by simp[ho,Op.operands])
  have k2:=h k (by simp[ho,Op.operands])
  rw[hm]at k1
  rw[hk]at k2
  unfold Rep at k1
  have k2:a.eval k=oQ key:=by cases key<;>(unfold GK Rep at k2;exact k2)
  obtain⟨r,es,clk,hv,hg,_,hks,hxs⟩:=k1
  simp only[cx]at hg
  obtain⟨i,zv,hi,_,_,hzv,hzr⟩:=fe.info
  have zrep:Rep (cx B H σ w) z zv:=by
   have hz1:=hzr (cx B H σ w)
   have hz2:(P.info? e).bind (·.zero)=some zv:=by rw[hi];exact hzv
   unfold S6 at hzo
   rw[hz2]at hzo
   unfold V3 at hz
   cases hag:de.agg with
   | true =>
    rw[hag]at hz hzo
    simp only[Option.some.injEq]at hz
    subst hz
    cases zv<;>first|(simp at hzo;done)|skip
    rename_i cs
    unfold Rep
    exact⟨cs.toList,by simp,by simpa[Value.cells]using hz1⟩
   | false =>
    rw[hag]at hz hzo
    simp only at hz
    cases zv<;>first|(simp at hzo;done)|(
     simp only[Value.cells]at hz1
     obtain⟨u,hu,hr⟩:=hz1.get hz
     simp only[List.getElem?_cons_zero,Option.some.injEq]at hu
     subst hu
     exact hr)
  have fin:∀v,Rep (cx B H σ w) y v->Rep (cx B H σ w) (match b with|true=>.tup [y,.val (.bool q)]|false=>y) (if b then .tuple #[v,.bool q]else v):=by
   intro v hv
   cases b with
   | true=>show Rep _ (.tup _) _;unfold Rep;exact⟨[v,.bool q],rfl,af.2 ⟨hv,af.2 ⟨ar _ _,aG.2 rfl⟩⟩⟩
   | false=>exact hv
  rcases AL (i:=0) (z:=z) (key:=key) hks hkl hxs with ⟨j,v,h3,h4,h5⟩|⟨h3,h4⟩
  ·rw[hl]at h4 h5
   simp only at h4 h5
   subst h4
   refine⟨_,?_,fin v h5⟩
   simp only[execOp,ho,hv,k2]
   simp[Instr.lookup,run_underlying h1,qH key h2,run_underlying h2,Instr.findKey,h3,getObj,Sem.run,hg]
  rw[hl]at h4
  cases h4
  refine⟨_,?_,fin zv zrep⟩
  simp only[execOp,ho,hv,k2]
  simp[Instr.lookup,run_underlying h1,qH key h2,run_underlying h2,Instr.findKey,h3,getObj,Sem.run,hg,zeroValue,typeInfo,hi,hzv]
def E9[DL]{σ:Nat->Option Nat}{w:World}{a:Act}(g:mO B n T H σ w a){d i:Nat}{xs:List PV}{e:TypeId}(hT:T d=.ptr i 0)(hi:H[i]?=some (.cells xs e)):
  mO B n (upd d (.row xs) T) (H.set i .dead) σ w a/\eH B H σ w (H.set i .dead) σ w:=by
 obtain⟨s',st⟩:=lY g.sim hi
 refine⟨⟨s',fun j=>?_,g.size,mn st g.defers⟩,st⟩
 by_cases hj:j=d
 ·subst hj
  rw[fJ]
  have h1:=g.rep j
  rw[hT]at h1
  unfold Rep at h1
  obtain⟨_,b,hb,hv⟩:=h1
  obtain⟨b',vs,fr,hb',hg,_,p,q,rfl,hp⟩:=g.sim.holds i _ hi
  simp only[cx]at hb hb' hg
  rw[hb]at hb'
  cases hb'
  rw[hv]
  unfold Rep
  refine⟨_,p,rfl,au.mono st.le hp,rfl,fun j' u hu=>⟨?_,?_⟩⟩
  ·show w.cell? ⟨b,0+j',none⟩=some u
   rw[Nat.zero_add,fa hg];exact v6 hu
  rintro(h2|⟨k,ok,h2,h3,h4⟩)
  ·exact g.sim.sep i b _ hi rfl hb _ h2
  have hlk:ok.live=true:=by cases ok<;>first|rfl|cases h4
  by_cases hki:k=i
  ·subst hki
   rw[List.getElem?_set_self (cM hi)]at h2;cases h2;cases h4
  rw[List.getElem?_set_ne (Ne.symm hki)]at h2
  exact hki (g.sim.inj k i b _ _ h2 hi hlk rfl h3 hb)
 rw[dG _ _ _ _ hj];exact(g.rep j).mono st.le
def E1[DL]{σ:Nat->Option Nat}{w:World}{a:Act}(g:mO B n T H σ w a){d i:Nat}{ks:List fX}{xs:List PV}(hT:T d=.mapv i)(hi:H[i]?=some (.smap ks xs)):
  mO B n (upd d (.smap ks xs) T) (H.set i .dead) σ w a/\eH B H σ w (H.set i .dead) σ w:=by
 obtain⟨s',st⟩:=lY g.sim hi
 refine⟨⟨s',fun j=>?_,g.size,mn st g.defers⟩,st⟩
 by_cases hj:j=d
 ·subst hj
  rw[fJ]
  have h1:=g.rep j
  rw[hT]at h1
  unfold Rep at h1
  obtain⟨_,b,hb,hv⟩:=h1
  obtain⟨b',es,clk,hb',hg,hk,hp⟩:=g.sim.holds i _ hi
  simp only[cx]at hb hb' hg
  rw[hb]at hb'
  cases hb'
  rw[hv]
  unfold Rep
  refine⟨b,es,clk,rfl,hg,?_,hk,au.mono st.le hp⟩
  rintro(h2|⟨k,ok,h2,h3,h4⟩)
  ·exact g.sim.sep i b _ hi rfl hb _ h2
  have hlk:ok.live=true:=by cases ok<;>first|rfl|cases h4
  by_cases hki:k=i
  ·subst hki
   rw[List.getElem?_set_self (cM hi)]at h2;cases h2;cases h4
  rw[List.getElem?_set_ne (Ne.symm hki)]at h2
  exact hki (g.sim.inj k i b _ _ h2 hi hlk rfl h3 hb)
 rw[dG _ _ _ _ hj];exact(g.rep j).mono st.le
def bT[DL]{l:List Oper}(d i:Nat){xs:List PV}{e:TypeId}{H':List Ob}(hT:T d=.ptr i 0)(hi:H[i]?=some (.cells xs e))(hH:nfH (H.set i .dead)=some H')(h1:WO P B n all l (upd d (.row xs) T) H' K):WO P B n all l T H K:=by
 rw[sK hH]at h1
 intro hall σ w a g
 obtain⟨g',st⟩:=E9 g hT hi
 exact gi (fun _ _ _ h=>ia st (fun _ _ _ h=>h) h) _ _ _ (h1 hall σ w a g')
def eV[DL]{l:List Oper}(d i:Nat){ks:List fX}{xs:List PV}{H':List Ob}(hT:T d=.mapv i)(hi:H[i]?=some (.smap ks xs))(hH:nfH (H.set i .dead)=some H')(h1:WO P B n all l (upd d (.smap ks xs) T) H' K):WO P B n all l T H K:=by
 rw[sK hH]at h1
 intro hall σ w a g
 obtain⟨g',st⟩:=E1 g hT hi
 exact gi (fun _ _ _ h=>ia st (fun _ _ _ h=>h) h) _ _ _ (h1 hall σ w a g')
def WR[D:DL](P:Program)(B:Nat->Nat->Prop)(n:Nat)(c:Code)(Q:Exit->(Nat->PV)->List Ob->Prop):Nat->(Nat->PV)->List Ob->Prop
 | 0,_,_=>False
 | m+1,T,H=>W P B n c T H (qj (fun T' H'=>WR P B n c Q m T' H') Q)
def If[DL]{c:Code}{H0:List Ob}{σ0:Nat->Option Nat}{w0:World}:∀(m:Nat) {T:Nat->PV} {H:List Ob} {σ:Nat->Option Nat} {w:World} {a:Act},WR P B n c Q m T H->mO B n T H σ w a->eH B H0 σ0 w0 H σ w->Code.rounds P c (Pe B n H0 σ0 w0 Q) m a w
 | 0,_,_,_,_,_,h,_,_=>h.elim
 | m+1,T,H,σ,w,a,h,g,st=>by
  rw[rounds_succ]
  refine wp_mono (h σ w a g) ?_
  rintro e a' w' ⟨T',H',σ',h1,h2,h3⟩
  cases e with
  | normal=>exact If m h1 h2 (st.trans h3)
  | exit id=>exact⟨T',H',σ',h1,h2,st.trans h3⟩
  | goto l=>exact⟨T',H',σ',h1,h2,st.trans h3⟩
  | ret=>exact⟨T',H',σ',h1,h2,st.trans h3⟩
  | panic ch=>exact⟨T',H',σ',h1,h2,st.trans h3⟩
  | outgrown=>exact⟨T',H',σ',h1,h2,st.trans h3⟩
def j3[DL]{c:Code}(m:Nat)(h:WR P B n c Q m T H):W P B n (.loop c) T H Q:=fun σ w a g=>wp_loop_rounds m (If m h g (eH.refl _ _ _ _))
def oo(P:Program)(f:FuncId)(args:List PV)(H:List Ob)(res:PV)(H':List Ob):Prop :=
 (∃ fn, P.funcs[f]? = some fn ∧ fn.body.isNone = false ∧ (fn.name == "runtime.NumGoroutine") = false) ∧ HC P f args H res H'
def fq{f:FuncId}{x:Operand}{first cap:List PV}{args:Array Operand}{ats:Array TypeId}{res:PV}{H':List Ob}(ho:o.op=.call {callee:=.value x,args:=args,argTypes:=ats})(hx:opv T x=.fn (.func f) first cap)
  (h:oo P f (first++(args.toList.map fun y=>wk (opv T y))++cap) H res H'):ly P B o T H res H':=by
 obtain⟨⟨fn,h1,h2,h3⟩,h4⟩:=h
 exact ey ho hx h1 h2 h3 h4
end
open Go.RowKit
section
variable {P : Program} {B : Nat -> Nat -> Prop} {n : Nat} {H : List Ob} {md : Region.Mode} {ops : Array Oper} {k : Nat}
def Xz{α:Type}{l:List α}{j:Nat}{x:α}(h:l[j]?=some x):(x,j)∈l.zipIdx:=by
 rw[List.mem_zipIdx_iff_getElem?];exact h
variable {T : Nat -> PV} {Q : Exit -> (Nat -> PV) -> List Ob -> Prop}
end
section
variable {P : Program} {B : Nat -> Nat -> Prop} {n : Nat} {all : Array Oper} {K : (Nat -> PV) -> List Ob -> Prop} {H : List Ob} {T : Nat -> PV} {o : Oper}
def wE[DL]{l:List Oper}{d:Option Tmp}{t yt:TypeId}{td:TD}{e:Nat}{x:Operand}{q:Nat}{xs:List PV}{s:SK}(f:ap P t td)(htd:td.sh=.slice e)(hd:nfD n o.dst=some d)(hw:bf all T o=some true)(ho:o.op=.binOp .eql t x (.const (.slice none 0 0)) yt)(hx:opv T x=.seq q xs s)
  (k:∀b,(b=true->q=0/\xs=[])->WO P B n all l (d8 d (.val (.bool b)) T) H K):WO P B n all (o::l) T H K:=by
 obtain⟨rfl,hd0⟩:=iD hd
 intro hall σ w a g
 have k1:=tu g.rep x
 rw[hx]at k1
 obtain⟨ad,cap,vs,hv,hle,hnil,hrl,hlies,hk⟩:=gJ k1
 have hb:ad.isNone=true->q=0/\xs=[]:=fun h=>by
  have h1:=hnil (by simpa using h)
  exact⟨h1.1,List.eq_nil_of_length_eq_zero (by rw[<-au.length hrl,h1.2.2];rfl)⟩
 have hr:(execOp a.eval o).run P w=.ok (.value (.bool ad.isNone)) w:=by
  have hc:a.eval (.const (.slice none 0 0))=.slice none 0 0:=rfl
  have hq:(Op.equal t (.slice ad q cap) (.slice none 0 0)).run P w=.ok ad.isNone w:=by
   unfold Op.equal
   cases hm:Op.maxDepth with
   | zero=>exact absurd hm (by decide)
   | succ m=>cases ad<;>simp[Op.equalIn,run_underlying (f.slice htd)]
  simp[execOp,ho,hv,hc,eqGuard,binOp,hq]
 simp only[wpL]
 rw[if_pos (rY (kI hall) g hw)]
 unfold Oper.wp
 rw[hr]
 exact k _ hb hall σ w _ (oE (vY hd0) g (ar _ _) g.sim (eH.refl _ _ _ _))
def yL{α:Type}(enc:α->List PV){l:List α}{s:SK}:PV.seq (0+l.length) ([]++l.flatMap enc) s=.seq l.length (l.flatMap enc) s:=by simp
def sqc{α:Type}(enc:α->List PV)(l:List α):PV:=.seq l.length (l.flatMap enc) .clip
def lG{α:Type}{enc:α->List PV}(h:∀x,aF (enc x))(l:List α):aR (sqc enc l):=by
 have:=gQ h l
 unfold sq aR at this
 unfold sqc aR
 exact⟨this.1,.inr rfl⟩
def aH1{α:Type}{enc:α->List PV}{l:List α}(h:l.length=0/\l.flatMap enc=[]):PV.seq 0 [] .any=sq enc l:=by
 have:l=[]:=List.eq_nil_of_length_eq_zero h.1
 subst this;rfl
def pc{i off m cap:Nat}(h:m<=cap):Imp (.arr i off m cap) (.arw i off m):=by
 intro c v hr
 unfold Rep at hr ⊢
 obtain⟨h1,b,h2,h3⟩:=hr
 exact⟨h1,b,cap,h2,h,h3⟩
def o0{t tx e:TypeId}{d de dx:TD}{x y:Operand}{q m:Nat}{xs ys:List PV}(f:ap P t d)(hd:d.sh=.slice e)(fe:ap P e de)(fx:ap P tx dx)
  (ho:o.op=.call {callee:=.builtin .append,args:=#[x,y],argTypes:=#[t,tx]}) (hx:opv T x=.seq q xs .clip) (ht:GJ dx (opv T y)) (hy:CC de.size (opv T y) m ys) (hl:xs.length=q*de.size)
  (hb:(q+m)*de.bytes<=140737488355328) (h63:q+m<=9223372036854775807) (hm:0<m) :
  bM P B o T H (.arw H.length 0 (q+m)) (H++[.cells (xs++ys) e]):=by
 intro σ w a s h
 have k1:=h x (by simp[ho,Op.operands,Call.operands])
 have k2:=h y (by simp[ho,Op.operands,Call.operands])
 rw[hx]at k1
 obtain⟨ad,cap,vs,hv,hle,hnil,hrl,hlies,hk⟩:=gJ k1
 have hcap:cap=q:=hk
 subst hcap
 obtain⟨news,hnr,hsrc⟩:=Fv fx ht hy k2
 obtain⟨i,z,hi,hsz,hby,hz,hzr⟩:=fe.info
 rw[<-hsz]at hsrc
 have hsrc':Src P i.size tx (a.eval y) m news w:=hsrc
 have hvl:vs.length=cap*i.size:=by rw[au.length hrl,hsz];exact hl
 have hr:=Af (P:=P) (w:=w) t tx o.type e i z (f.slice hd) hi hz ad cap cap vs hvl (fun h0=>(hnil h0).1) (fun b hb j v hj=>by
  have hl2:=(hlies b hb).resolve_right (by rintro⟨_,h3⟩;rw[h3]at hj;simp at hj)
  rw[gY hl2,Addr.add_lit];exact(hl2.2 j v hj).1) _ m news hsrc' (by omega) (by rw[hby];exact hb) h63
 have gr:bj w (w.drew.alloc (.cells ((vs++news).toArray++Builtin.zeroCells z.cells (grownCap w (cap+m) cap e-(cap+m))) e)):=(bj.drew w).trans (bj.alloc _ _)
 have hheap:(w.drew.alloc (.cells ((vs++news).toArray++Builtin.zeroCells z.cells (grownCap w (cap+m) cap e-(cap+m))) e)).heap[w.heap.size]?=some (Obj.cells ((vs++news)++(Builtin.zeroCells z.cells (grownCap w (cap+m) cap e-(cap+m))).toList).toArray e (0,0)):=by
  show(w.heap.push _)[w.heap.size]?=_;simp
 obtain⟨s0,st0⟩:=gU s gr
 obtain⟨s',st⟩:=fv s gr (.cells (xs++ys) e) (some w.heap.size) (fun b hb=>by cases hb;exact Nat.le_refl _) (by
  refine⟨w.heap.size,_,(0,0),bx _ _ _,hheap,.inl rfl,?_⟩
  refine⟨vs++news,_,rfl,?_⟩
  refine au.mono ?_ (hrl.append hnr)
  refine⟨by simp[cx],fun i hi=>bY hi,fun b off u h1 h2=>⟨gr.cell h2,fun h=>?_⟩,fun b es clk h1 h2=>⟨(gr.block b (Array.getElem?_eq_some_iff.1 h2).1).trans h2,fun h=>h.elim (fun h=>h1 (.inl h)) (fun⟨i,oi,h3,h4,h5⟩=>(fI h3).elim (fun⟨h6,h7⟩=>h1 (.inr ⟨i,oi,h7,by rw[bY h6]at h4;exact h4,h5⟩)) (fun⟨h6,_⟩=>by subst h6;rw[bx]at h4;cases h4;have:=(Array.getElem?_eq_some_iff.1 h2).1;simp[cx]at this))⟩,fun b cs e' fr h1=>⟨cs,(gr.block b (Array.getElem?_eq_some_iff.1 h1).1).trans h1,rfl⟩⟩
  rcases h with h|⟨i,oi,h3,h4,h5⟩
  ·exact h1 (.inl h)
  rcases fI h3 with ⟨h6,h7⟩|⟨rfl,rfl⟩
  ·rw[bY h6]at h4;exact h1 (.inr ⟨i,oi,h7,h4,h5⟩)
  rw[bx]at h4;cases h4
  have:=World.block_lt_of_cell? w ⟨w.heap.size,off,none⟩ h2
  simp at this)
 refine⟨_,_,_,.inl (nU ho hv hr),?_,s',st⟩
 unfold Rep
 exact⟨by simp[cx],w.heap.size,_,bx _ _ _,grownCap_ge w (cap+m) cap e,rfl⟩
end
@[simp] theorem LE : aR (.seq 0 [] .clip) := by unfold aR; exact ⟨trivial, .inr rfl⟩
def bsL{α:Type}(enc:α->List PV)(l:List α){n:Nat}{xs:List PV}(h:xs=l.flatMap enc)(hn:n=l.length):PV.seq n xs .clip=.seq l.length (l.flatMap enc) .clip:=by rw[h,hn]
def fU:∀{a b:List PV},aF a->aF b->aF (a++b)
 | [],_,_,h=>h
 | _::_,_,h,k=>by unfold aF at h;exact⟨h.1,fU h.2 k⟩
section
variable {P : Program} {H : List Ob} {T : Nat -> PV}
def oq{G:List (Nat×TD)}{rs:List ResultVar}{x res:PV}(h:pQ G T H rs=some x)(h2:x=res):zr G rs res .ret T H:=by
 subst h2;exact⟨_,h,Imp.refl _⟩
end
open Go.RowKit
section
variable {P : Program} {B : Nat -> Nat -> Prop} {n : Nat} {all : Array Oper} {K : (Nat -> PV) -> List Ob -> Prop} {H : List Ob} {T : Nat -> PV} {o : Oper}
def Jj{c:Cx}:∀(vs:List Value),au c (List.replicate vs.length .any) vs
 | []=>aG.2 rfl
 | v::vs=>by
  rw[List.length_cons,List.replicate_succ]
  exact af.2 ⟨by unfold Rep;trivial,Jj vs⟩
def yw {f : FuncId} {fn : Func} {x : Operand} {ats ps : Array TypeId} {t e : TypeId} {d : TD} {m : Nat} (ho : o.op = .call { callee := .value (.func f), args := #[x], argTypes := ats }) (hf : P.funcs[f]? = some fn) (hname : (fn.name == "runtime.NumGoroutine") = false)
  (hb:fn.body.isNone=true) (hn:Extern.findNext fn=none) (he:Extern.find fn=some (Extern.BytealgMakeNoZero.makeNoZero ps #[t])) (ft:ap P t d) (hd:d.sh=.slice e) (hx:opv T x=.val (.int .i64 (m:Int))) (hm:m<=281474976710656) :
  bM P B o T H (.arw H.length 0 m) (H++[.cells (List.replicate m .any) e]):=by
 intro σ w a s h
 have k1:=h x (by simp[ho,Op.operands,Call.operands])
 rw[hx]at k1
 unfold Rep at k1
 obtain⟨cs,hr,hle,_⟩:=Lib.run_makeNoZero (P:=P) w ps t e (ft.slice hd) m hm
 have gr:bj w (w.drew.drew.alloc (.cells cs e)):=((bj.drew w).trans (bj.drew _)).trans (bj.alloc _ _)
 have hheap:(w.drew.drew.alloc (.cells cs e)).heap[w.heap.size]?=some (Obj.cells cs.toList.toArray e (0,0)):=by
  show(w.heap.push _)[w.heap.size]?=_;simp
 obtain⟨s',st⟩:=fv s gr (.cells (List.replicate m .any) e) (some w.heap.size) (fun b hb=>by cases hb;exact Nat.le_refl _) (by
  refine⟨w.heap.size,cs.toList,(0,0),bx _ _ _,hheap,.inl rfl,cs.toList.take m,cs.toList.drop m,(List.take_append_drop _ _).symm,?_⟩
  have:=Jj (c:=cx B (H++[.cells (List.replicate m .any) e]) (ext σ H.length (some w.heap.size)) (w.drew.drew.alloc (.cells cs e))) (cs.toList.take m)
  rwa [List.length_take,Nat.min_eq_left (by simpa using hle)]at this)
 refine⟨.slice (some ⟨w.heap.size,0,none⟩) m cs.size,_,_,.inl ?_,?_,s',st⟩
 ·unfold execOp
  simp only[ho,resolve,Act.eval,Deferred.ofValue,invoke,Sem.run_bind,Sem.run_pure,Result.andThen_ok]
  rw[run_callFunc_extern hf hname hb hn he]
  simp[k1,hr]
 unfold Rep
 exact⟨by simp[cx],w.heap.size,_,bx _ _ _,hle,rfl⟩
def ni{t e:TypeId}{d de:TD}{x y z:Operand}{id m:Nat}(f:ap P t d)(hd:d.sh=.slice e)(fe:ap P e de)(ho:o.op=.slice t x none (some y) (some z))(hx:opv T x=.arw id 0 m)
  (h2:lJ T (some y) m m) (h3:lJ T (some z) m m):bM P B o T H (.arr id 0 m m) H :=
 aM fun σ w a s' h=>by
  have k1:=h x (by simp[ho,Op.operands])
  rw[hx]at k1
  unfold Rep at k1
  obtain⟨hN,b,cap,hb,hle,hv⟩:=k1
  have h3':lJ T (some z) cap m:=h3
  have kb:=oe (P:=P) (w:=w) (a:=a) (n:=m) (cap:=cap) (b:=true) (m:=m) (mx:=some z) (hi:=some y) (lo:=none) (l:=0) (c:=cx B H σ w) (fun q hq=>h q (by
   rcases hq with hq|hq|hq
   ·cases hq
   ·cases hq;simp[ho,Op.operands]
   cases hq;simp[ho,Op.operands])) rfl h2 h3' (by simp) (by omega) (Nat.le_refl _) (by omega) hle
  refine⟨.slice (some ⟨b,0,none⟩) m m,?_,by unfold Rep;exact⟨hN,b,hb,rfl⟩⟩
  simp only[Option.map_some,Option.map_none]at kb
  simp[execOp,ho,hv,Instr.sliceAt,run_underlying (f.slice hd),Instr.slice,kb,fe.sizeOf]
  intro _;simp[Addr.add]
def r9{t tx e:TypeId}{d de:TD}{x y:Operand}{id off n cap off2 m cap2:Nat}{xs:List PV}{et:TypeId}(f:ap P t d)(hd:d.sh=.slice e)(fe:ap P e de)(ho:o.op=.call {callee:=.builtin .copy,args:=#[x,y],argTypes:=#[t,tx]})
  (hx:opv T x=.arr id off n cap) (hi:H[id]?=some (.cells xs et)) (hy:opv T y=.arr id off2 m cap2) (hok:∀z∈(xs.drop off2).take (min m n*de.size),okC z=true) (hfit:off+n*de.size<=xs.length) (hfit2:off2+m*de.size<=xs.length) :
  bM P B o T H (.val (.int .i64 (min m n:Nat))) (H.set id (.cells (cy xs off ((xs.drop off2).take (min m n*de.size))) et)):=by
 intro σ w a s' h
 have k1:=h x (by simp[ho,Op.operands,Call.operands])
 have k2:=h y (by simp[ho,Op.operands,Call.operands])
 rw[hx]at k1
 rw[hy]at k2
 unfold Rep at k1 k2
 obtain⟨hN,b,hb,hv⟩:=k1
 obtain⟨_,b2,hb2,hv2⟩:=k2
 obtain⟨b',ws,fr,hb',hg,hfr,hwp⟩:=s'.holds id _ hi
 simp only[cx]at hb hb' hg hb2
 rw[hb]at hb' hb2
 cases hb'
 cases hb2
 have hmn:min m n*de.size<=m*de.size:=Nat.mul_le_mul_right _ (Nat.min_le_left _ _)
 have hmn2:min m n*de.size<=n*de.size:=Nat.mul_le_mul_right _ (Nat.min_le_right _ _)
 have hwsl:=hwp.le
 generalize hvs:(ws.drop off2).take (min m n*de.size)=vs
 have hyl:((xs.drop off2).take (min m n*de.size)).length=min m n*de.size:=by rw[List.length_take,List.length_drop];omega
 have hrl:au (cx B H σ w) ((xs.drop off2).take (min m n*de.size)) vs:=by
  rw[<-hvs];exact(hwp.drop off2).take (by rw[List.length_drop];omega)
 have htl:vs.length=min m n*de.size:=by rw[au.length hrl,hyl]
 have hfc:(Builtin.firstCells de.size (min m n) (a.eval y)).run P w=.ok vs.toArray w:=by
  rw[hv2]
  refine run_firstCells_some w de.size (min m n) ⟨b,off2,none⟩ m cap2 _ htl (fun j u hj=>?_)
  rw[Addr.add_lit,fa hg]
  rw[<-hvs,List.getElem?_take]at hj
  split at hj
  ·rw[List.getElem?_drop]at hj
   simpa using hj
  cases hj
 have hst:=my P b off et fr vs 0 ws.toArray w hg (by simpa using hfr) (by rw[Nat.add_zero,htl,List.size_toArray];omega) (tJ hok hrl)
 simp only[Nat.add_zero]at hst
 obtain⟨s2,st⟩:=lV s' (ys:=cy xs off ((xs.drop off2).take (min m n*de.size))) hi hb hg hfr (us:=ws.take off++vs++ws.drop (off+vs.length)) (by
  simp only[List.length_append,List.length_drop,htl]
  rw[List.length_take];omega) (by
  unfold cy
  rw[hyl,htl]
  obtain⟨p,q,hpq,hd⟩:=hwp.drop (off+min m n*de.size)
  exact⟨ws.take off++vs++p,q,by rw[hpq];simp,((hwp.take (by omega)).append hrl).append hd⟩)
 refine⟨.int .i64 (min m n:Nat),_,σ,.inl (jv ho ?_),ar _ _,s2,st⟩
 have hlen:(Builtin.lenOf (a.eval y)).run P w=.ok m w:=by rw[hv2];rfl
 have hcp:(Builtin.copy_ #[t,tx] o.type #[a.eval x,a.eval y]).run P w=.ok (.int .i64 (min m n:Nat)) (w.setRow b (ws.take off++vs++ws.drop (off+vs.length)).toArray):=by
  have e1:Nat.min m n=min m n:=rfl
  simp only[Builtin.copy_,hv,List.getElem?_toArray,List.getElem?_cons_zero,List.getElem?_cons_succ,Sem.run_bind,run_underlying (f.slice hd),Result.andThen_ok,hlen,fe.sizeOf,e1,hfc,hst,goInt,Sem.run_pure]
 simp only[builtin,List.map_toArray,List.map_cons,List.map_nil,Sem.run_bind,hcp,Result.andThen_ok,Sem.run_pure]
def E8{t e:TypeId}{d de:TD}{x y:Operand}{k k':IntKind}{m:Int}(f:ap P t d)(hd:d.sh=.slice e)(fe:ap P e de)(ho:o.op=.makeSlice t x y)(hx:opv T x=.val (.int k m))(hy:opv T y=.val (.int k' m))(h0:0<=m)(hb:(de.bytes:Int)*m<=281474976710656)(h63:m<=9223372036854775807):
  bM P B o T H (.seq m.toNat (fP m.toNat de) .clip) H:=by
 intro σ w a s h
 have k1:=h x (by simp[ho,Op.operands])
 have k2:=h y (by simp[ho,Op.operands])
 rw[hx]at k1
 rw[hy]at k2
 unfold Rep at k1 k2
 obtain⟨i,z,hi,hsz,hby,hz,hzr⟩:=fe.info
 have hr:=run_make (P:=P) w t e i z (f.slice hd) hi hz k k' m m h0 (Int.le_refl _) (by rw[hby];exact hb) h63
 rw[hsz]at hr
 obtain⟨s',st⟩:=gU s (bj.alloc w (.cells (madeCells z.cells (m.toNat*de.size)) e))
 refine⟨_,_,σ,.inl (by simp[execOp,ho,k1,k2,hr];rfl),?_,s',st⟩
 unfold Rep
 refine⟨_,m.toNat,(madeCells z.cells (m.toNat*de.size)).toList,rfl,Nat.le_refl _,(fun h=>by cases h),au.mono st.le (wT fe m.toNat z hzr _),fun b hb=>?_,rfl⟩
 cases hb
 refine .inl ⟨rfl,fun j u hj=>⟨?_,?_⟩⟩
 ·show(w.alloc (.cells (madeCells z.cells (m.toNat*de.size)) e)).cell? ⟨w.heap.size,0+j,none⟩=_
  rw[oG _ _ _ _ _ _ rfl,Nat.zero_add]
  rw[<-Array.getElem?_toList];exact hj
 rintro(h'|⟨i',oi,h3,h4,h5⟩)
 ·exact absurd (s.base _ _ h') (by simp)
 have hl:oi.live=true:=by cases oi<;>first|rfl|cases h5
 have:=(s.holds i' oi h3).lt hl h4
 simp[cx]at this
def Uk[DL]{σ:Nat->Option Nat}{w:World}{a:Act}(g:mO B n T H σ w a){d q k:Nat}{xs:List PV}(hT:T d=.seq q xs .clip)(hl:xs.length=q*k):
  mO B n (upd d (.seq q xs (.own H.length k)) T) (H++[.free (q*k)]) (ext σ H.length none) w a/\eH B H σ w (H++[.free (q*k)]) (ext σ H.length none) w:=by
 obtain⟨s',st⟩:=fv g.sim (bj.refl w) (.free (q*k)) none (fun b hb=>by cases hb) (fun b hb=>by simp only[cx]at hb;rw[bx]at hb;cases hb)
 refine⟨⟨s',fun i=>?_,g.size,mn st g.defers⟩,st⟩
 by_cases hi:i=d
 ·subst hi
  rw[fJ]
  have h0:=g.rep i
  rw[hT]at h0
  obtain⟨ad,cap,vs,hv,hle,hnil,hrl,hlies,hk⟩:=gJ h0
  have hcap:cap=q:=hk
  unfold Rep
  exact⟨ad,cap,vs,hv,hle,hnil,au.mono st.le hrl,fun b hb=>(hlies b hb).imp (·.mono st.le) id,by simp[cx],hl,.inl hcap⟩
 rw[dG _ _ _ _ hi];exact(g.rep i).mono st.le
def Fc[DL]{l:List Oper}(d q k:Nat){xs:List PV}(hT:T d=.seq q xs .clip)(hl:xs.length=q*k)(h1:WO P B n all l (upd d (.seq q xs (.own H.length k)) T) (H++[.free (q*k)]) K):WO P B n all l T H K:=by
 intro hall σ w a g
 obtain⟨g',st⟩:=Uk g hT hl
 exact gi (fun _ _ _ h=>ia st (fun _ _ _ h=>h) h) _ _ _ (h1 hall _ w a g')
end
open Go.RowKit
section
variable {P : Program} {B : Nat -> Nat -> Prop} {n : Nat} {md : Region.Mode} {ops : Array Oper} {cl : Nat -> Nat}
def YU(P:Program)(B:Nat->Nat->Prop)(ops:Array Oper)(o:Oper)(T:Nat->PV)(H:List Ob)(x:PV)(H':List Ob):Prop :=
 (bf ops T o=some true/\(bM P B o T H x H'\/ly P B o T H x H'))\/(bf ops T o=some false/\x=.val undef/\H'=H)
def Rk(H H2:List Ob):Prop:=∀xs e,H[0]?=some (Ob.cells xs e)->∃ys,H2[0]?=some (Ob.cells ys e)/\ys.take 27=xs.take 27
def Rk.refl(H:List Ob):Rk H H:=fun xs e h=>⟨xs,h,rfl⟩
def smB(b:Nat)(H H2:List Ob):Prop:=match Nat.blt b 900 with
 | true=>H2[b]?=H[b]?
 | false=>Rk H H2
def inB(b:Nat)(H:List Ob):Prop:=match Nat.blt b 900 with
 | true=>b<H.length
 | false=>True
def chB(b:Nat)(H H2:List Ob):Prop:=match Nat.blt b 900 with
 | true=>∃ob E,H2=H.set b ob++E
 | false=>Rk H H2
def Rk.trans{H H2 H3:List Ob}(h:Rk H H2)(g:Rk H2 H3):Rk H H3:=fun xs e q=>by
 obtain⟨ys,h1,h2⟩:=h xs e q
 obtain⟨zs,h3,h4⟩:=g ys e h1
 exact⟨zs,h3,h4.trans h2⟩
def smB.trans{b:Nat}{H H2 H3:List Ob}(h:smB b H H2)(g:smB b H2 H3):smB b H H3:=by
 unfold smB at *
 generalize Nat.blt b 900=q at h g ⊢
 cases q with
 | true=>exact Eq.trans g h
 | false=>exact Rk.trans h g
def smB.rf(b:Nat)(H:List Ob):smB b H H:=by
 unfold smB
 cases Nat.blt b 900 with
 | true=>rfl
 | false=>exact Rk.refl H
def smB.app{b:Nat}{H:List Ob}(h:inB b H)(E:List Ob):smB b H (H++E)/\inB b (H++E):=by
 unfold smB inB at *
 generalize Nat.blt b 900=q at h ⊢
 cases q with
 | true =>
  have h:b<H.length:=h
  exact⟨List.getElem?_append_left h,by show b<(H++E).length;simp;omega⟩
 | false =>
  refine⟨fun xs e q=>⟨xs,?_,rfl⟩,trivial⟩
  rw[List.getElem?_append_left (cM q)];exact q
def FU(P:Program)(B:Nat->Nat->Prop)(ops:Array Oper)(c:Nat)(o:Oper)(T:Nat->PV)(H:List Ob)(x:PV)(H':List Ob):Prop :=
 match c with
 | 0=>H'=H/\∀H2,YU P B ops o T H2 x H2
 | 1=>H'=H/\∀E,YU P B ops o T (H++E) x (H++E)
 | 2=>∃E,H'=H++E
 | 3=>True
 | c+4=>match Nat.beq (c%2) 0 with
  | true=>H'=H/\inB (c/2) H/\∀H2:List Ob,smB (c/2) H H2->YU P B ops o T H2 x H2
  | false=>chB (c/2) H H'
def rdB(c:Nat):Bool:=Nat.ble 4 c&&Nat.beq (c%2) 0
def wrB(c:Nat):Bool:=Nat.ble 4 c&&Nat.beq (c%2) 1
def blk(c:Nat):Nat:=(c-4)/2
def zh(a b:Nat):Bool:=Nat.beq a 0||Nat.beq b 0||(Nat.beq a 1&&Nat.ble b 2)||(rdB a&&(Nat.ble b 2||rdB b||(wrB b&&(match Nat.blt (blk a) 900&&Nat.blt (blk b) 900 with|true=>!Nat.beq (blk a) (blk b)|false=>Nat.beq (blk a) (blk b)))))
def YU.congr{o:Oper}{T T':Nat->PV}{H H':List Ob}{x:PV}(h:∀t∈o.looksAt ops,T' t=T t)(y:YU P B ops o T H x H'):YU P B ops o T' H x H':=by
 have hw:bf ops T' o=bf ops T o:=by
  unfold bf
  cases hg:o.guard with
  | none=>rfl
  | some q =>
   obtain⟨g,b⟩:=q
   simp only
   cases hd:(ops[g]?).bind (·.dst)with
   | none=>rfl
   | some d=>simp only;rw[h d (xN hg hd)]
 have ho:∀z∈o.op.operands.toList,opv T' z=opv T z:=fun z hz=>Dq fun t ht=>h t (HJ (by rw[<-ht];exact hz))
 rcases y with ⟨h1,h2|h2⟩|⟨h1,h2⟩
 ·exact .inl ⟨by rw[hw];exact h1,.inl fun σ w a s k=>h2 σ w a s (fun z hz=>by rw[<-ho z hz];exact k z hz)⟩
 ·exact .inl ⟨by rw[hw];exact h1,.inr fun σ w a s k=>h2 σ w a s (fun z hz=>by rw[<-ho z hz];exact k z hz)⟩
 exact .inr ⟨by rw[hw];exact h1,h2⟩
def FU.congr{c:Nat}{o:Oper}{T T':Nat->PV}{H H':List Ob}{x:PV}(h:∀t∈o.looksAt ops,T' t=T t)(y:FU P B ops c o T H x H'):FU P B ops c o T' H x H':=by
 match c,y with
 | 0,y=>exact⟨y.1,fun H2=>(y.2 H2).congr h⟩
 | 1,y=>exact⟨y.1,fun E=>(y.2 E).congr h⟩
 | 2,y=>exact y
 | 3,_=>trivial
 | c+4,y =>
  simp only[FU]at y ⊢
  split at y
  ·exact⟨y.1,y.2.1,fun H2 h2=>(y.2.2 H2 h2).congr h⟩
  exact y
def FU.rd{c:Nat}{o:Oper}{T:Nat->PV}{H H':List Ob}{x:PV}(hc:rdB c=true)(f:FU P B ops c o T H x H'):H'=H/\inB (blk c) H/\∀H2:List Ob,smB (blk c) H H2->YU P B ops o T H2 x H2:=by
 simp only[rdB,Bool.and_eq_true,Nat.ble_eq,Nat.beq_eq]at hc
 obtain⟨d,rfl⟩:∃d,c=d+4:=⟨c-4,by omega⟩
 have hd:Nat.beq (d%2) 0=true:=by rw[Nat.beq_eq];omega
 simp only[FU,hd]at f
 exact f
def FU.of_rd{c:Nat}{o:Oper}{T:Nat->PV}{H H':List Ob}{x:PV}(hc:rdB c=true)(f:H'=H/\inB (blk c) H/\∀H2:List Ob,smB (blk c) H H2->YU P B ops o T H2 x H2):FU P B ops c o T H x H':=by
 simp only[rdB,Bool.and_eq_true,Nat.ble_eq,Nat.beq_eq]at hc
 obtain⟨d,rfl⟩:∃d,c=d+4:=⟨c-4,by omega⟩
 have hd:Nat.beq (d%2) 0=true:=by rw[Nat.beq_eq];omega
 simp only[FU,hd]
 exact f
def FU.wr{c:Nat}{o:Oper}{T:Nat->PV}{H H':List Ob}{x:PV}(hc:wrB c=true)(f:FU P B ops c o T H x H'):chB (blk c) H H':=by
 simp only[wrB,Bool.and_eq_true,Nat.ble_eq,Nat.beq_eq]at hc
 obtain⟨d,rfl⟩:∃d,c=d+4:=⟨c-4,by omega⟩
 have hd:Nat.beq (d%2) 0=false:=by rw[<-Bool.not_eq_true,Nat.beq_eq];omega
 simp only[FU,hd]at f
 exact f
def FU.of_wr{c:Nat}{o:Oper}{T:Nat->PV}{H H':List Ob}{x:PV}(hc:wrB c=true)(f:chB (blk c) H H'):FU P B ops c o T H x H':=by
 simp only[wrB,Bool.and_eq_true,Nat.ble_eq,Nat.beq_eq]at hc
 obtain⟨d,rfl⟩:∃d,c=d+4:=⟨c-4,by omega⟩
 have hd:Nat.beq (d%2) 0=false:=by rw[<-Bool.not_eq_true,Nat.beq_eq];omega
 simp only[FU,hd]
 exact f
def qU(P:Program)(B:Nat->Nat->Prop)(ops:Array Oper)(cl:Nat->Nat)(i:Nat)(K:(Nat->PV)->List Ob->Prop)(T:Nat->PV)(H:List Ob):Prop :=
 match ops[i]? with
 | none=>K T H
 | some o=>∃x H',YU P B ops o T H x H'/\FU P B ops (cl i) o T H x H'/\K (d8 o.dst x T) H'
def JK(P:Program)(B:Nat->Nat->Prop)(md:Region.Mode)(ops:Array Oper)(cl:Nat->Nat)(Q:(Nat->PV)->List Ob->Prop):Nat->Array Bool->(Nat->PV)->List Ob->Prop
 | 0,listed,T,H=>Region.ready md ops listed=[]/\Q T H
 | fuel+1,listed,T,H=>(Region.ready md ops listed=[]->Q T H)/\∀i∈Region.ready md ops listed,qU P B ops cl i (JK P B md ops cl Q fuel (listed.setIfInBounds i true)) T H
def oD[DL](hall:iv n ops=true){Q':Exit->Act->World->Prop}{Q:(Nat->PV)->List Ob->Prop}{H0:List Ob}{σ0:Nat->Option Nat}{w0:World}(hQ:∀T H σ w a,mO B n T H σ w a->eH B H0 σ0 w0 H σ w->Q T H->Q' .normal a w):
  ∀(fuel:Nat) (listed:Array Bool) (T:Nat->PV) (H:List Ob) (σ:Nat->Option Nat) (w:World) (a:Act),mO B n T H σ w a->eH B H0 σ0 w0 H σ w->JK P B md ops cl Q fuel listed T H->wpAny P md ops Q' fuel listed a w
 | 0,_,_,_,_,_,_,g,st,h=>⟨h.1,hQ _ _ _ _ _ g st h.2⟩
 | fuel+1,listed,T,H,σ,w,a,g,st,h=>by
  refine⟨fun h0=>hQ _ _ _ _ _ g st (h.1 h0),fun i hi=>?_⟩
  have h1:=h.2 i hi
  unfold qU at h1
  unfold wpOp
  cases ho:ops[i]? with
  | none=>simp only[ho]at h1 ⊢;exact oD hall hQ fuel _ T H σ w a g st h1
  | some o =>
   simp only[ho]at h1 ⊢
   obtain⟨x,H',hy,_,hk⟩:=h1
   have hd:∀j,o.dst=some j->Nat.blt j n=true:=fun j hj=>kI hall i j (by rw[ho];exact hj)
   have hgd:∀q,bf ops T o=some q->Region.wanted o (yielded ops a.tmps)=q:=fun q hq=>rY (kI hall) g hq
   rcases hy with ⟨hw,hdo|hdo⟩|⟨hw,rfl,rfl⟩
   ·rw[if_pos (hgd true hw)]
    refine .inl ?_
    obtain⟨v,w',σ',h2,h3,h4,h5⟩:=hdo σ w a g.sim (fun y _=>tu g.rep y)
    have k:=oD hall hQ fuel _ _ _ σ' w' _ (oE hd g h3 h4 h5) (st.trans h5) hk
    unfold Oper.wp
    rcases h2 with h2|⟨h2,rfl⟩
    ·rw[h2];exact k
    rw[h2];exact k
   ·rw[if_pos (hgd true hw)]
    refine .inl ?_
    obtain⟨f,args,h2,hc⟩:=hdo σ w a g.sim (fun y _=>tu g.rep y)
    unfold Oper.wp
    rw[h2]
    refine Calls.mono hc ?_
    rintro e w' ⟨v,σ',rfl,h3,h4,h5⟩
    exact oD hall hQ fuel _ _ _ σ' w' _ (oE hd g h3 h4 h5) (st.trans h5) hk
   rw[if_neg (by rw[hgd false hw];simp)]
   exact oD hall hQ fuel _ _ _ σ w _ (oE hd g (ar _ _) g.sim (eH.refl _ _ _ _)) st hk
def aG1{ci cj:Nat}{oi oj:Oper}{T:Nat->PV}{H Hi Hj:List Ob}{x y:PV}(hc:zh ci cj=true)(h1:∀t∈oj.looksAt ops,d8 oi.dst x T t=T t)(h2:∀t∈oi.looksAt ops,d8 oj.dst y T t=T t)
  (yi:YU P B ops oi T H x Hi) (fi:FU P B ops ci oi T H x Hi) (yj:YU P B ops oj (d8 oi.dst x T) Hi y Hj) (fj:FU P B ops cj oj (d8 oi.dst x T) Hi y Hj) :
  ∃H',YU P B ops oj T H y H'/\FU P B ops cj oj T H y H'/\YU P B ops oi (d8 oj.dst y T) H' x Hj/\FU P B ops ci oi (d8 oj.dst y T) H' x Hj:=by
 have b1:∀t∈oj.looksAt ops,T t=d8 oi.dst x T t:=fun t ht=>(h1 t ht).symm
 have yj':=yj.congr b1
 have fj':=fj.congr b1
 simp only[zh,Bool.or_eq_true,Bool.and_eq_true,Nat.beq_eq,Nat.ble_eq]at hc
 rcases hc with ((rfl|rfl)|⟨rfl,hj⟩)|⟨hr,hj⟩
 ·obtain⟨rfl,hl⟩:=fi
  exact⟨Hj,yj',fj',(hl Hj).congr h2,rfl,fun H2=>(hl H2).congr h2⟩
 ·obtain⟨rfl,hl⟩:=fj'
  exact⟨H,hl H,⟨rfl,hl⟩,yi.congr h2,fi.congr h2⟩
 ·obtain⟨rfl,hl⟩:=fi
  have:∃E,Hj=Hi++E:=by
   match cj,hj,fj' with
   | 0,_,fj'=>exact⟨[],by rw[fj'.1];simp⟩
   | 1,_,fj'=>exact⟨[],by rw[fj'.1];simp⟩
   | 2,_,fj'=>exact fj'
   | c+3,hj,_=>omega
  obtain⟨E,rfl⟩:=this
  exact⟨Hi++E,yj',fj',(hl E).congr h2,rfl,fun E2=>by rw[List.append_assoc];exact(hl (E++E2)).congr h2⟩
 obtain⟨rfl,hlt,hl⟩:=fi.rd hr
 have key:smB (blk ci) Hi Hj/\inB (blk ci) Hj:=by
  rcases hj with (hj|hj)|⟨hj,hne⟩
  ·have:∃E,Hj=Hi++E:=by
    match cj,hj,fj' with
    | 0,_,fj'=>exact⟨[],by rw[fj'.1];simp⟩
    | 1,_,fj'=>exact⟨[],by rw[fj'.1];simp⟩
    | 2,_,fj'=>exact fj'
    | c+3,hj,_=>omega
   obtain⟨E,rfl⟩:=this
   exact smB.app hlt E
  ·obtain⟨rfl,_⟩:=fj'.rd hj
   exact⟨.rf _ _,hlt⟩
  have w:=fj'.wr hj
  cases q:Nat.blt (blk ci) 900&&Nat.blt (blk cj) 900 with
  | true =>
   rw[q]at hne
   rw[Bool.and_eq_true]at q
   unfold chB at w
   rw[q.2]at w
   unfold inB at hlt ⊢
   unfold smB
   rw[q.1]at hlt
   rw[q.1]
   obtain⟨ob,E,rfl⟩:=w
   refine⟨?_,by simp;exact Nat.lt_of_lt_of_le hlt (Nat.le_add_right _ _)⟩
   show(Hi.set (blk cj) ob++E)[blk ci]?=Hi[blk ci]?
   rw[List.getElem?_append_left (by simpa using hlt)]
   refine List.getElem?_set_ne ?_
   intro h;rw[h]at hne;simp at hne
  | false =>
   rw[q]at hne
   have e:blk ci=blk cj:=Nat.eq_of_beq_eq_true hne
   have q2:Nat.blt (blk ci) 900=false:=by rw[<-e,Bool.and_self]at q;exact q
   unfold chB at w
   rw[<-e,q2]at w
   unfold smB inB
   rw[q2]
   exact⟨w,trivial⟩
 exact⟨Hj,yj',fj',(hl Hj key.1).congr h2,FU.of_rd hr ⟨rfl,key.2,fun H2 h3=>(hl H2 (key.1.trans h3)).congr h2⟩⟩
def WU[D:DL](P:Program)(B:Nat->Nat->Prop)(n:Nat)(ops:Array Oper)(cl:Nat->Nat):List Nat->(Nat->PV)->List Ob->((Nat->PV)->List Ob->Prop)->Prop
 | [],T,H,K=>K T H
 | i::l,T,H,K=>∃o,ops[i]?=some o/\∃x H',YU P B ops o T H x H'/\FU P B ops (cl i) o T H x H'/\WU P B n ops cl l (d8 o.dst x T) H' K
def an2(l:List Nat)(i:Nat):Nat:=l.getD i 3
variable {T : Nat -> PV} {H : List Ob} {Q : Exit -> (Nat -> PV) -> List Ob -> Prop}
variable {o : Oper} {l : List Nat} {i : Nat} {K : (Nat -> PV) -> List Ob -> Prop} {x : PV} {H' : List Ob} {G : List (Nat × TD)} {p : Prop} {d : Option Tmp}
def fS[DL](h:K T H):WU P B n ops cl [] T H K:=h
def ew[DL](h0:ops[i]?=some o)(hc:cl i=0)(hd:nfD n o.dst=some d)(hw:bf ops T o=some true)(h:∀H2,bM P B o T H2 x H2)(k:WU P B n ops cl l (d8 d x T) H K):WU P B n ops cl (i::l) T H K :=
 ⟨o,h0,x,H,.inl ⟨hw,.inl (h H)⟩,by rw[hc];exact⟨rfl,fun H2=>.inl ⟨hw,.inl (h H2)⟩⟩,(iD hd).1▸k⟩
def Xc[DL](h0:ops[i]?=some o)(hc:cl i=0)(hd:nfD n o.dst=some d)(hw:bf ops T o=some true)(h:∀H2,ly P B o T H2 x H2)(k:WU P B n ops cl l (d8 d x T) H K):WU P B n ops cl (i::l) T H K :=
 ⟨o,h0,x,H,.inl ⟨hw,.inr (h H)⟩,by rw[hc];exact⟨rfl,fun H2=>.inl ⟨hw,.inr (h H2)⟩⟩,(iD hd).1▸k⟩
def Xe[DL](hG:fh P G=true)(h0:ops[i]?=some o)(hc:cl i=0)(hd:nfD n o.dst=some d)(hw:bf ops T o=some true)(h:∀H2,evS G T H2 o.type o.op=some (x,H2,p))(hp:p)(k:WU P B n ops cl l (d8 d x T) H K):WU P B n ops cl (i::l) T H K :=
 ew h0 hc hd hw (fun H2=>nk hG rfl (EJ (h H2)) hp) k
def Xi[DL]{y:PV}(hG:fh P G=true)(h0:ops[i]?=some o)(hc:cl i=0)(hd:nfD n o.dst=some d)(hw:bf ops T o=some true)(h:∀H2,evS G T H2 o.type o.op=some (x,H2,p))(hp:p)(hi:Imp x y)(k:WU P B n ops cl l (d8 d y T) H K):WU P B n ops cl (i::l) T H K :=
 ew h0 hc hd hw (fun H2=>(nk hG rfl (EJ (h H2)) hp).imp hi) k
def Yr[DL](h0:ops[i]?=some o)(hc:Nat.ble (cl i) 3=true)(hd:nfD n o.dst=some d)(hw:bf ops T o=some false)(k:WU P B n ops cl l (d8 d (.val undef) T) H K):WU P B n ops cl (i::l) T H K:=by
 refine⟨o,h0,_,H,.inr ⟨hw,rfl,rfl⟩,?_,(iD hd).1▸k⟩
 generalize cl i=q at hc
 match q,hc with
 | 0,_=>exact⟨rfl,fun H2=>.inr ⟨hw,rfl,rfl⟩⟩
 | 1,_=>exact⟨rfl,fun E=>.inr ⟨hw,rfl,rfl⟩⟩
 | 2,_=>exact⟨[],by simp⟩
 | 3,_=>trivial
 | c+4,hc=>rw[Nat.ble_eq]at hc;omega
def Xf[DL](hG:fh P G=true)(h0:ops[i]?=some o)(hc:cl i=1)(hd:nfD n o.dst=some d)(hw:bf ops T o=some true)(h:∀E,evS G T (H++E) o.type o.op=some (x,H++E,p))(hp:p)(k:WU P B n ops cl l (d8 d x T) H K):WU P B n ops cl (i::l) T H K :=
 ⟨o,h0,x,H,.inl ⟨hw,.inl (by have:=nk (P:=P) (B:=B) (o:=o) hG rfl (EJ (h [])) hp;rwa [List.append_nil]at this)⟩,by rw[hc];exact⟨rfl,fun E=>.inl ⟨hw,.inl (nk hG rfl (EJ (h E)) hp)⟩⟩,(iD hd).1▸k⟩
def lE[DL]{E:List Ob}(hG:fh P G=true)(h0:ops[i]?=some o)(hc:cl i=2)(hd:nfD n o.dst=some d)(hw:bf ops T o=some true)(h:evN G T H o.type o.op=some (x,H',p))(hp:p)(hH:H'=H++E)(k:WU P B n ops cl l (d8 d x T) H' K):WU P B n ops cl (i::l) T H K :=
 ⟨o,h0,x,H',.inl ⟨hw,.inl (nk hG rfl (Aj h) hp)⟩,by rw[hc];exact⟨E,hH⟩,(iD hd).1▸k⟩
def cr[DL](hG:fh P G=true)(h0:ops[i]?=some o)(hc:cl i=3)(hd:nfD n o.dst=some d)(hw:bf ops T o=some true)(h:evN G T H o.type o.op=some (x,H',p))(hp:p)(k:WU P B n ops cl l (d8 d x T) H' K):WU P B n ops cl (i::l) T H K :=
 ⟨o,h0,x,H',.inl ⟨hw,.inl (nk hG rfl (Aj h) hp)⟩,by rw[hc];trivial,(iD hd).1▸k⟩
def lD[DL](h0:ops[i]?=some o)(hc:cl i=3)(hd:nfD n o.dst=some d)(hw:bf ops T o=some true)(h:bM P B o T H x H')(k:WU P B n ops cl l (d8 d x T) H' K):WU P B n ops cl (i::l) T H K :=
 ⟨o,h0,x,H',.inl ⟨hw,.inl h⟩,by rw[hc];trivial,(iD hd).1▸k⟩
def vx[DL](h0:ops[i]?=some o)(hc:cl i=3)(hd:nfD n o.dst=some d)(hw:bf ops T o=some true)(h:ly P B o T H x H')(k:WU P B n ops cl l (d8 d x T) H' K):WU P B n ops cl (i::l) T H K :=
 ⟨o,h0,x,H',.inl ⟨hw,.inr h⟩,by rw[hc];trivial,(iD hd).1▸k⟩
def gI[DL](d:Nat){b:Bool}(hT:T d=.val (.bool b))(h1:b=true->WU P B n ops cl l (upd d (.val (.bool true)) T) H K)(h2:b=false->WU P B n ops cl l (upd d (.val (.bool false)) T) H K):WU P B n ops cl l T H K:=by
 have e:∀q,b=q->upd d (.val (.bool q)) T=T:=by
  rintro q rfl
  funext i
  by_cases hi:i=d
  ·subst hi;rw[fJ,hT]
  rw[dG _ _ _ _ hi]
 cases hb:b with
 | true=>have:=h1 hb;rwa [e true hb]at this
 | false=>have:=h2 hb;rwa [e false hb]at this
def WB[DL](d:Nat){b:Bool}(hT:T d=.val (.bool b))(hb:b=true)(h1:WU P B n ops cl l (upd d (.val (.bool true)) T) H K):WU P B n ops cl l T H K :=
 gI d hT (fun _=>h1) (fun h=>by rw[hb]at h;cases h)
def Ba[DL](d:Nat){b:Bool}(hT:T d=.val (.bool b))(hb:b=false)(h1:WU P B n ops cl l (upd d (.val (.bool false)) T) H K):WU P B n ops cl l T H K :=
 gI d hT (fun h=>by rw[hb]at h;cases h) (fun _=>h1)
def Xa[DL](d:Nat){x y:PV}(hT:T d=x)(hxy:x=y)(h1:WU P B n ops cl l (upd d y T) H K):WU P B n ops cl l T H K:=by
 have e:upd d y T=T:=by
  funext i
  by_cases hi:i=d
  ·subst hi;rw[fJ,hT,hxy]
  rw[dG _ _ _ _ hi]
 rwa [e]at h1
def NQ[DL]{H':List Ob}(hH:H'=H)(h1:WU P B n ops cl l T H' K):WU P B n ops cl l T H K:=by subst hH;exact h1
def RK[DL](b:Nat){ob:Ob}(h0:ops[i]?=some o)(hc:cl i=4+2*b)(hd:nfD n o.dst=some d)(hw:bf ops T o=some true)(hb:H[b]?=some ob)(h:∀H2:List Ob,H2[b]?=some ob->bM P B o T H2 x H2)(k:WU P B n ops cl l (d8 d x T) H K)(h9:Nat.blt b 900=true:=by exact rfl):WU P B n ops cl (i::l) T H K:=by
 have hk:blk (4+2*b)=b:=by unfold blk;omega
 have hs:∀H2,smB b H H2->H2[b]?=H[b]?:=fun H2 q=>by unfold smB at q;rw[h9]at q;exact q
 have hi:inB b H:=by unfold inB;rw[h9];exact cM hb
 exact⟨o,h0,x,H,.inl ⟨hw,.inl (h H hb)⟩,by rw[hc];exact FU.of_rd (by simp only[rdB,Bool.and_eq_true,Nat.ble_eq,Nat.beq_eq];omega) ⟨rfl,by rw[hk];exact hi,fun H2 h2=>.inl ⟨hw,.inl (h H2 (by rw[hk]at h2;exact(hs H2 h2).trans hb))⟩⟩,(iD hd).1▸k⟩
def dW[DL](b:Nat){ob:Ob}(hG:fh P G=true)(h0:ops[i]?=some o)(hc:cl i=5+2*b)(hd:nfD n o.dst=some d)(hw:bf ops T o=some true)(h:evN G T H o.type o.op=some (x,H',p))(hp:p)(hH:H'=H.set b ob)(k:WU P B n ops cl l (d8 d x T) H' K)(h9:Nat.blt b 900=true:=by exact rfl):WU P B n ops cl (i::l) T H K:=by
 have hk:blk (5+2*b)=b:=by unfold blk;omega
 exact⟨o,h0,x,H',.inl ⟨hw,.inl (nk hG rfl (Aj h) hp)⟩,by rw[hc];exact FU.of_wr (by simp only[wrB,Bool.and_eq_true,Nat.ble_eq,Nat.beq_eq];omega) (by rw[hk];unfold chB;rw[h9];exact⟨ob,[],by rw[List.append_nil];exact hH⟩),(iD hd).1▸k⟩
def iV[DL]{E:List Ob}(h0:ops[i]?=some o)(hc:cl i=2)(hd:nfD n o.dst=some d)(hw:bf ops T o=some true)(h:ly P B o T H x (H++E))(k:WU P B n ops cl l (d8 d x T) (H++E) K):WU P B n ops cl (i::l) T H K :=
 ⟨o,h0,x,H++E,.inl ⟨hw,.inr h⟩,by rw[hc];exact⟨E,rfl⟩,(iD hd).1▸k⟩
def ak4[DL](b:Nat){ob:Ob}(h0:ops[i]?=some o)(hc:cl i=5+2*b)(hd:nfD n o.dst=some d)(hw:bf ops T o=some true)(h:ly P B o T H x H')(hH:H'=H.set b ob)(k:WU P B n ops cl l (d8 d x T) H' K)(h9:Nat.blt b 900=true:=by exact rfl):WU P B n ops cl (i::l) T H K:=by
 have hk:blk (5+2*b)=b:=by unfold blk;omega
 exact⟨o,h0,x,H',.inl ⟨hw,.inr h⟩,by rw[hc];exact FU.of_wr (by simp only[wrB,Bool.and_eq_true,Nat.ble_eq,Nat.beq_eq];omega) (by rw[hk];unfold chB;rw[h9];exact⟨ob,[],by rw[List.append_nil];exact hH⟩),(iD hd).1▸k⟩
def Ug[DL]{t:TypeId}{td:TD}{y:Operand}{off:Nat}{xs:List PV}{e:TypeId}(f:ap P t td)(ha:td.agg=false)(ho:o.op=.load t y)(hy:opv T y=.ptr 0 off)(hi:H[0]?=some (.cells xs e))(hr:(xs.take 27)[off]?=some x)
  (h0:ops[i]?=some o) (hc:cl i=1804) (hd:nfD n o.dst=some d) (hw:bf ops T o=some true) (k:WU P B n ops cl l (d8 d x T) H K):WU P B n ops cl (i::l) T H K:=by
 have key:∀H2,Rk H H2->YU P B ops o T H2 x H2:=fun H2 h2=>by
  obtain⟨ys,h3,h4⟩:=h2 xs e hi
  refine .inl ⟨hw,.inl (cq f ho hy h3 ?_)⟩
  unfold kY;rw[ha]
  rw[<-h4,List.getElem?_take]at hr
  split at hr
  ·exact hr
  cases hr
 exact⟨o,h0,x,H,key H (Rk.refl H),by rw[hc];exact⟨rfl,trivial,key⟩,(iD hd).1▸k⟩
def TT[DL](h0:ops[i]?=some o)(hc:cl i=1805)(hd:nfD n o.dst=some d)(hw:bf ops T o=some true)(h:ly P B o T H x H')(hr:Rk H H')(k:WU P B n ops cl l (d8 d x T) H' K):WU P B n ops cl (i::l) T H K :=
 ⟨o,h0,x,H',.inl ⟨hw,.inr h⟩,by rw[hc];exact(show chB 900 H H' from hr),(iD hd).1▸k⟩
end
section
variable {P : Program} {B : Nat -> Nat -> Prop} {n : Nat} {ops : Array Oper} {cl : Nat -> Nat} {md : Region.Mode}
def I9{Q:(Nat->PV)->List Ob->Prop}{i:Nat}{oi:Oper}{x:PV}(hi:ops[i]?=some oi)(D:List Nat)(hDi:i∈D)(hD:∀j∈D,j≠i->∃oj e,ops[j]?=some oj/\e∈oj.after/\Region.binds md e=true/\e.on∈D):∀(fuel:Nat) (listed:Array Bool) (T:Nat->PV) (H Hi:List Ob),
  (∀j∈D,listed.getD j true=false) ->
  (∀j oj,ops[j]?=some oj->j∉D->listed.getD j true=false->oi.apart ops oj=true/\zh (cl i) (cl j)=true) ->
  i∈Region.ready md ops listed->YU P B ops oi T H x Hi->FU P B ops (cl i) oi T H x Hi->JK P B md ops cl Q fuel (listed.setIfInBounds i true) (d8 oi.dst x T) Hi->JK P B md ops cl Q (fuel+1) listed T H:=by
 intro fuel
 have self:∀(fuel:Nat) (listed:Array Bool) (T:Nat->PV) (H Hi:List Ob),YU P B ops oi T H x Hi->FU P B ops (cl i) oi T H x Hi->JK P B md ops cl Q fuel (listed.setIfInBounds i true) (d8 oi.dst x T) Hi->qU P B ops cl i (JK P B md ops cl Q fuel (listed.setIfInBounds i true)) T H:=by
  intro fuel listed T H Hi hy hf h
  unfold qU
  simp only[hi]
  exact⟨x,Hi,hy,hf,h⟩
 induction fuel with
 | zero =>
  intro listed T H Hi _ _ hr hy hf h
  refine⟨fun h0=>(by rw[h0]at hr;cases hr),fun j hj=>?_⟩
  by_cases hji:j=i
  ·subst hji;exact self 0 listed T H Hi hy hf h
  have:=ready_mono hj hji
  rw[h.1]at this
  cases this
 | succ fuel ih =>
  intro listed T H Hi hun0 hfree hr hy hf h
  refine⟨fun h0=>(by rw[h0]at hr;cases hr),fun j hj=>?_⟩
  by_cases hji:j=i
  ·subst hji;exact self (fuel+1) listed T H Hi hy hf h
  have h1:=h.2 j (ready_mono hj hji)
  obtain⟨hjun,oj,hoj,hall⟩:=mem_ready.1 hj
  have hnot:j∉D:=fun hjD=>by
   obtain⟨oj2,e,k1,k2,k3,k4⟩:=hD j hjD hji
   rw[hoj]at k1
   obtain rfl:=Option.some.inj k1
   have a1:=hall e k2 k3
   have a0:=hun0 e.on k4
   rcases Nat.lt_or_ge e.on listed.size with h'|h'
   ·simp[h']at a0 a1;rw[a0]at a1;cases a1
   simp[Array.getElem?_eq_none h']at a1
  obtain⟨hap,hcp⟩:=hfree j oj hoj hnot hjun
  obtain⟨l1,l2,l3⟩:=He hap
  unfold qU at h1 ⊢
  simp only[hoj]at h1 ⊢
  obtain⟨y,Hj,hyj,hfj,hk⟩:=h1
  obtain⟨H',k1,k2,k3,k4⟩:=aG1 hcp (fun t ht=>CR (l1 t ht)) (fun t ht=>CR (l2 t ht)) hy hf hyj hfj
  refine⟨y,H',k1,k2,ih (listed.setIfInBounds j true) _ H' Hj (fun k hk=>?_) (fun k ok hk hki hun=>?_) (ready_mono hr (Ne.symm hji)) k3 k4 ?_⟩
  ·rw[getD_set_ne true (by rintro rfl;exact hnot hk)];exact hun0 k hk
  ·refine hfree k ok hk hki ?_
   by_cases hjk:j=k
   ·subst hjk;exact hjun
   rw[getD_set_ne true hjk]at hun;exact hun
  rw[Array.setIfInBounds_comm _ _ hji,Ol _ _ _ l3]
  exact hk
def Tq(md:Region.Mode)(ops:Array Oper):Nat->List Nat->List Nat
 | 0,D=>D
 | k+1,D=>Tq md ops k (D++((ops.toList.zipIdx.filter fun q=>!D.contains q.2&&(q.1.after.any fun e=>Region.binds md e&&D.contains e.on)).map (·.2)))
def aa3(md:Region.Mode)(ops:Array Oper)(cl:Nat->Nat)(listed:Array Bool)(i:Nat)(oi:Oper)(D:List Nat):Bool :=
 D.contains i&&(D.all fun j=>Nat.beq j i||(match ops[j]? with|some oj=>oj.after.any fun e=>Region.binds md e&&D.contains e.on|none=>false))&&(D.all fun j=>!listed.getD j true) &&
  ops.toList.zipIdx.all fun q=>D.contains q.2||listed.getD q.2 true||(oi.apart ops q.1&&zh (cl i) (cl q.2))
def Te(md:Region.Mode)(ops:Array Oper)(cl:Nat->Nat):List Nat->Array Bool->Bool
 | [],listed=>(Region.ready md ops listed).isEmpty
 | i::l,listed=>(Region.ready md ops listed).contains i&&(match ops[i]? with|some oi=>aa3 md ops cl listed i oi (Tq md ops 6 [i])|none=>false)&&Te md ops cl l (listed.setIfInBounds i true)
def CO[DL]{Q:(Nat->PV)->List Ob->Prop}:∀(l:List Nat) (listed:Array Bool) (T:Nat->PV) (H:List Ob),Te md ops cl l listed=true->WU P B n ops cl l T H Q->JK P B md ops cl Q l.length listed T H
 | [],listed,T,H,hB,h=>⟨by simpa[Te]using hB,h⟩
 | i::l,listed,T,H,hB,h=>by
  simp only[Te,Bool.and_eq_true]at hB
  obtain⟨⟨hr,hf⟩,hB'⟩:=hB
  obtain⟨o,ho,x,H',hy,hfu,hK⟩:=h
  rw[ho]at hf
  simp only[aa3,Bool.and_eq_true]at hf
  obtain⟨⟨⟨f1,f2⟩,f3⟩,f4⟩:=hf
  refine I9 ho (Tq md ops 6 [i]) (by simpa using f1) (fun j hj hji=>?_) l.length listed T H H' (fun j hj=>?_) (fun j oj hj hjD hun=>?_) (by simpa using hr) hy hfu (CO l _ _ _ hB' hK)
  ·have:=List.all_eq_true.1 f2 j hj
   rw[Bool.or_eq_true,Nat.beq_eq]at this
   rcases this with h|h
   ·exact absurd h hji
   cases hoj:ops[j]? with
   | none=>rw[hoj]at h;cases h
   | some oj =>
    rw[hoj]at h
    obtain⟨e,he,h3⟩:=Array.any_eq_true'.1 h
    rw[Bool.and_eq_true]at h3
    exact⟨oj,e,rfl,he,h3.1,by simpa using h3.2⟩
  ·have:=List.all_eq_true.1 f3 j hj
   simpa using this
  have h1:=List.all_eq_true.1 f4 (oj,j) (Xz (by rw[Array.getElem?_toList];exact hj))
  simp only[Bool.or_eq_true,Bool.and_eq_true]at h1
  rcases h1 with (h1|h1)|h1
  ·exact absurd (by simpa using h1) hjD
  ·rw[hun]at h1;cases h1
  exact h1
def Tw(md:Region.Mode)(ops:Array Oper)(cl:List Nat)(ord:List Nat):Bool:=Nat.beq ord.length ops.size&&Te md ops (an2 cl) ord (Array.replicate ops.size false)
variable {T : Nat -> PV} {H : List Ob} {Q : Exit -> (Nat -> PV) -> List Ob -> Prop}
def lg[DL]{id:Nat}(cl ord:List Nat)(hm:P.follows .mixedOrders=true)(hall:iv n ops=true)(hB:Tw .any ops cl ord=true)(h:WU P B n ops (an2 cl) ord T H (fun T' H'=>Q .normal T' H')):W P B n (.region id ops true) T H Q:=by
 intro σ w a g
 simp only[Tw,Bool.and_eq_true,Nat.beq_eq]at hB
 refine wp_region_any hm ?_
 have hd:bj w {w with drawn:=w.drawn+1}:=bj.drew w
 obtain⟨s',st⟩:=gU g.sim hd
 have hA:=CO (P:=P) (B:=B) (n:=n) (md:=.any) ord (Array.replicate ops.size false) T H hB.2 h
 rw[hB.1]at hA
 exact oD (P:=P) (md:=.any) hall (H0:=H) (σ0:=σ) (w0:=w) (Q':=Pe B n H σ w Q) (fun T' H' σ' w' a' g' st' hq=>⟨T',H',σ',hq,g',st'⟩) ops.size _ T H σ _ a ⟨s',fun i=>(g.rep i).mono st.le,g.size,g.defers⟩ st hA
end
def dnL:(∀(p:Prop) [Decidable p],(decide p=true)=p)/\(∀(p:Prop) [Decidable p],(decide p=false)=¬p)/\(∀b:Bool,((!b)=true)=(b=false))/\(∀b:Bool,((!b)=false)=(b=true)) /\
  (∀a b:Bool,((a&&b)=true)=(a=true/\b=true))/\(∀a b:Bool,((a||b)=true)=(a=true\/b=true))/\(∀a b:Bool,((a&&b)=false)=(a=false\/b=false))/\(∀a b:Bool,((a||b)=false)=(a=false/\b=false)) /\
  (∀b:Bool,(¬(b=true))=(b=false))/\(∀(α:Type) [BEq α] [LawfulBEq α] (a b:α),((a==b)=true)=(a=b))/\(∀(α:Type) [BEq α] [LawfulBEq α] (a b:α),((a==b)=false)=(a≠b)) /\
  (∀(α:Type) [BEq α] [LawfulBEq α] (a b:α),((a != b)=true)=(a≠b))/\(∀(α:Type) (a b:α),(a≠b)=¬(a=b))/\(∀(α:Type) [BEq α] [LawfulBEq α] (a b:α),((a != b)=false)=(a=b))/\((false=true)=False)/\((true=false)=False) /\
  (∀p:Prop,(False↔p)=¬p)/\(∀p:Prop,(True↔p)=p)/\(∀p:Prop,(p↔False)=¬p)/\(∀p:Prop,(p↔True)=p):=by
 refine⟨?_,?_,?_,?_,?_,?_,?_,?_,?_,?_,?_,?_,?_,?_,?_,?_,?_,?_,?_,?_⟩<;>intros<;>first|(simp;done)|(rw[Bool.and_eq_false_iff];done)
open Go.RowKit
abbrev i_:PV:=.val (.int .i64 0)
def nF:TD:=⟨1,8,[.val .nilFunc],.other⟩
def tys:List (Nat×TD):=[
 (1,nF),(2,⟨1,8,[i_],.int .i64⟩),
 (3,⟨1,8,[i_],.int .i64⟩),
 (4,⟨1,1,[.val (.bool false)],.bool⟩),
 (5,⟨1,1,[.val (.int .u8 0)],.int .u8⟩),
 (6,⟨1,1,[.val (.int .u8 0)],.int .u8⟩),
 (7,⟨4,24,[i_,i_,.val (.bool false),.val (.int .u8 0)],.struct [(0,1,false),(1,1,false),(2,1,false),(3,1,false)]⟩),
 (8,⟨4,24,[i_,i_,.val (.bool false),.val (.int .u8 0)],.struct [(0,1,false),(1,1,false),(2,1,false),(3,1,false)]⟩),
 (9,⟨1,16,[.val (.string ⟨#[]⟩)],.str⟩),
 (10,⟨1,16,[.val (.string ⟨#[]⟩)],.str⟩),
 (11,⟨1,16,[.val (.string ⟨#[]⟩)],.str⟩),
 (12,⟨1,8,[.val (.int .u64 0)],.int .u64⟩),
 (13,⟨2,24,[.val (.string ⟨#[]⟩),.val (.int .u64 0)],.struct [(0,1,false),(1,1,false)]⟩),
 (14,⟨2,24,[.val (.string ⟨#[]⟩),.val (.int .u64 0)],.struct [(0,1,false),(1,1,false)]⟩),
 (15,⟨1,8,[.val (.pointer none)],.other⟩),(16,⟨1,8,[.val (.pointer none)],.other⟩),(17,⟨1,8,[.val (.pointer none)],.other⟩),(18,⟨1,8,[.val (.pointer none)],.struct [(0,1,false)]⟩),
 (19,⟨1,8,[.val (.pointer none)],.struct [(0,1,false)]⟩),
 (20,⟨1,16,[.val .nilIface],.other⟩),(21,⟨1,4,[.val (.int .i32 0)],.int .i32⟩),
 (22,⟨1,24,[.seq 0 [] .clip],.slice 5⟩),
 (23,nF),(24,⟨5,40,[i_,i_,i_,i_,i_],.struct [(0,1,false),(1,1,false),(2,1,false),(3,1,false),(4,1,false)]⟩),
 (25,⟨5,40,[i_,i_,i_,i_,i_],.struct [(0,1,false),(1,1,false),(2,1,false),(3,1,false),(4,1,false)]⟩),
 (26,⟨1,24,[.seq 0 [] .clip],.slice 120⟩),
 (27,⟨2,48,[.seq 0 [] .clip,.seq 0 [] .clip],.struct [(0,1,false),(1,1,false)]⟩),
 (28,⟨2,48,[.seq 0 [] .clip,.seq 0 [] .clip],.struct [(0,1,false),(1,1,false)]⟩),
 (29,⟨1,24,[.seq 0 [] .clip],.slice 3⟩),
 (30,⟨1,24,[.seq 0 [] .clip],.slice 163⟩),
 (31,⟨1,24,[.seq 0 [] .clip],.slice 61⟩),
 (32,⟨2,32,[.seq 0 [] .clip,.val (.bool false)],.struct [(0,1,false),(1,1,false)]⟩),
 (33,⟨2,32,[.seq 0 [] .clip,.val (.bool false)],.struct [(0,1,false),(1,1,false)]⟩),
 (34,⟨1,24,[.seq 0 [] .clip],.slice 165⟩),
 (35,⟨1,24,[.seq 0 [] .clip],.slice 167⟩),
 (36,⟨23,344,[i_,i_,i_,i_,i_,.seq 0 [] .clip,.seq 0 [] .clip,i_,.seq 0 [] .clip,.seq 0 [] .clip,.seq 0 [] .clip,.seq 0 [] .clip,i_,.seq 0 [] .clip,.seq 0 [] .clip,.val (.bool false),.seq 0 [] .clip,i_,i_,i_,i_,i_,.seq 0 [] .clip],.struct [(0,5,true),(5,2,true),(7,1,false),(8,1,false),(9,1,false),(10,1,false),(11,1,false),(12,1,false),(13,1,false),(14,2,true),(16,1,false),(17,1,false),(18,1,false),(19,1,false),(20,1,false),(21,1,false),(22,1,false)]⟩),
 (37,⟨23,344,[i_,i_,i_,i_,i_,.seq 0 [] .clip,.seq 0 [] .clip,i_,.seq 0 [] .clip,.seq 0 [] .clip,.seq 0 [] .clip,.seq 0 [] .clip,i_,.seq 0 [] .clip,.seq 0 [] .clip,.val (.bool false),.seq 0 [] .clip,i_,i_,i_,i_,i_,.seq 0 [] .clip],.struct [(0,5,true),(5,2,true),(7,1,false),(8,1,false),(9,1,false),(10,1,false),(11,1,false),(12,1,false),(13,1,false),(14,2,true),(16,1,false),(17,1,false),(18,1,false),(19,1,false),(20,1,false),(21,1,false),(22,1,false)]⟩),
 (38,⟨1,24,[.seq 0 [] .clip],.slice 115⟩),
 (39,⟨7,72,[i_,.seq 0 [] .clip,i_,i_,i_,.val (.bool false),i_],.struct [(0,1,false),(1,1,false),(2,1,false),(3,1,false),(4,1,false),(5,1,false),(6,1,false)]⟩),
 (40,⟨7,72,[i_,.seq 0 [] .clip,i_,i_,i_,.val (.bool false),i_],.struct [(0,1,false),(1,1,false),(2,1,false),(3,1,false),(4,1,false),(5,1,false),(6,1,false)]⟩),
 (41,⟨30,416,[i_,i_,i_,i_,i_,.seq 0 [] .clip,.seq 0 [] .clip,i_,.seq 0 [] .clip,.seq 0 [] .clip,.seq 0 [] .clip,.seq 0 [] .clip,i_,.seq 0 [] .clip,.seq 0 [] .clip,.val (.bool false),.seq 0 [] .clip,i_,i_,i_,i_,i_,.seq 0 [] .clip,i_,.seq 0 [] .clip,i_,i_,i_,.val (.bool false),i_],.struct [(0,23,true),(23,7,true)]⟩),
 (42,⟨30,416,[i_,i_,i_,i_,i_,.seq 0 [] .clip,.seq 0 [] .clip,i_,.seq 0 [] .clip,.seq 0 [] .clip,.seq 0 [] .clip,.seq 0 [] .clip,i_,.seq 0 [] .clip,.seq 0 [] .clip,.val (.bool false),.seq 0 [] .clip,i_,i_,i_,i_,i_,.seq 0 [] .clip,i_,.seq 0 [] .clip,i_,i_,i_,.val (.bool false),i_],.struct [(0,23,true),(23,7,true)]⟩),
 (43,nF),(45,nF),(46,⟨1,24,[.seq 0 [] .clip],.slice 9⟩),
 (47,⟨1,8,[i_],.int .i64⟩),
 (49,nF),(50,nF),(51,nF),(52,nF),(53,nF),(54,nF),(56,nF),(57,nF),(59,nF),(60,⟨3,32,[.val (.string ⟨#[]⟩),i_,i_],.struct [(0,1,false),(1,1,false),(2,1,false)]⟩),
 (61,⟨3,32,[.val (.string ⟨#[]⟩),i_,i_],.struct [(0,1,false),(1,1,false),(2,1,false)]⟩),
 (63,nF),(64,nF),(65,nF),(66,nF),(67,nF),(69,nF),(71,nF),(72,nF),(74,nF),(75,nF),(76,nF),(77,nF),(78,nF),(79,nF),(80,nF),(81,nF),(82,nF),(83,nF),(84,nF),(85,⟨1,8,[.val (.pointer none)],.other⟩),(86,⟨1,16,[.val .nilIface],.other⟩),(87,⟨1,16,[.val .nilIface],.other⟩),(88,⟨34,464,[i_,i_,i_,i_,i_,.seq 0 [] .clip,.seq 0 [] .clip,i_,.seq 0 [] .clip,.seq 0 [] .clip,.seq 0 [] .clip,.seq 0 [] .clip,i_,.seq 0 [] .clip,.seq 0 [] .clip,.val (.bool false),.seq 0 [] .clip,i_,i_,i_,i_,i_,.seq 0 [] .clip,i_,.seq 0 [] .clip,i_,i_,i_,.val (.bool false),i_,.val (.string ⟨#[]⟩),i_,i_,.val .nilIface],.struct [(0,30,true),(30,1,false),(31,1,false),(32,1,false),(33,1,false)]⟩),
 (89,⟨34,464,[i_,i_,i_,i_,i_,.seq 0 [] .clip,.seq 0 [] .clip,i_,.seq 0 [] .clip,.seq 0 [] .clip,.seq 0 [] .clip,.seq 0 [] .clip,i_,.seq 0 [] .clip,.seq 0 [] .clip,.val (.bool false),.seq 0 [] .clip,i_,i_,i_,i_,i_,.seq 0 [] .clip,i_,.seq 0 [] .clip,i_,i_,i_,.val (.bool false),i_,.val (.string ⟨#[]⟩),i_,i_,.val .nilIface],.struct [(0,30,true),(30,1,false),(31,1,false),(32,1,false),(33,1,false)]⟩),
 (91,nF),(93,nF),(94,nF),(95,nF),(96,nF),(97,nF),(98,nF),(99,nF),(101,nF),(102,⟨1,8,[.val (.pointer none)],.other⟩),(103,⟨1,8,[i_],.struct [(0,1,false)]⟩),
 (104,⟨1,8,[i_],.struct [(0,1,false)]⟩),
 (105,⟨31,424,[i_,i_,i_,i_,i_,.seq 0 [] .clip,.seq 0 [] .clip,i_,.seq 0 [] .clip,.seq 0 [] .clip,.seq 0 [] .clip,.seq 0 [] .clip,i_,.seq 0 [] .clip,.seq 0 [] .clip,.val (.bool false),.seq 0 [] .clip,i_,i_,i_,i_,i_,.seq 0 [] .clip,i_,.seq 0 [] .clip,i_,i_,i_,.val (.bool false),i_,i_],.struct [(0,30,true),(30,1,true)]⟩),
 (106,⟨31,424,[i_,i_,i_,i_,i_,.seq 0 [] .clip,.seq 0 [] .clip,i_,.seq 0 [] .clip,.seq 0 [] .clip,.seq 0 [] .clip,.seq 0 [] .clip,i_,.seq 0 [] .clip,.seq 0 [] .clip,.val (.bool false),.seq 0 [] .clip,i_,i_,i_,i_,i_,.seq 0 [] .clip,i_,.seq 0 [] .clip,i_,i_,i_,.val (.bool false),i_,i_],.struct [(0,30,true),(30,1,true)]⟩),
 (108,nF),(109,nF),(110,nF),(111,nF),(112,nF),(113,nF),(114,⟨3,40,[i_,i_,.seq 0 [] .clip],.struct [(0,1,false),(1,1,false),(2,1,false)]⟩),
 (115,⟨3,40,[i_,i_,.seq 0 [] .clip],.struct [(0,1,false),(1,1,false),(2,1,false)]⟩),
 (116,nF),(118,nF),(119,⟨2,32,[i_,.seq 0 [] .clip],.struct [(0,1,false),(1,1,false)]⟩),
 (120,⟨2,32,[i_,.seq 0 [] .clip],.struct [(0,1,false),(1,1,false)]⟩),
 (121,⟨1,8,[.val (.int .u64 0)],.int .u64⟩),
 (122,nF),(123,nF),(124,nF),(125,nF),(126,nF),(127,nF),(128,nF),(129,nF),(130,nF),(132,nF),(134,nF),(135,nF),(136,nF),(137,nF),(139,nF),(140,⟨1,8,[i_],.struct [(0,1,false)]⟩),
 (141,⟨1,8,[i_],.struct [(0,1,false)]⟩),
 (142,nF),(143,⟨1,8,[.val (.pointer none)],.other⟩),(144,⟨27,376,[i_,i_,i_,i_,i_,.seq 0 [] .clip,.seq 0 [] .clip,i_,.seq 0 [] .clip,.seq 0 [] .clip,.seq 0 [] .clip,.seq 0 [] .clip,i_,.seq 0 [] .clip,.seq 0 [] .clip,.val (.bool false),.seq 0 [] .clip,i_,i_,i_,i_,i_,.seq 0 [] .clip,i_,i_,.val (.bool false),i_],.struct [(0,23,true),(23,1,false),(24,1,false),(25,1,false),(26,1,false)]⟩),
 (145,⟨27,376,[i_,i_,i_,i_,i_,.seq 0 [] .clip,.seq 0 [] .clip,i_,.seq 0 [] .clip,.seq 0 [] .clip,.seq 0 [] .clip,.seq 0 [] .clip,i_,.seq 0 [] .clip,.seq 0 [] .clip,.val (.bool false),.seq 0 [] .clip,i_,i_,i_,i_,i_,.seq 0 [] .clip,i_,i_,.val (.bool false),i_],.struct [(0,23,true),(23,1,false),(24,1,false),(25,1,false),(26,1,false)]⟩),
 (146,nF),(148,nF),(150,nF),(152,nF),(153,nF),(155,nF),(157,nF),(158,nF),(160,nF),(161,nF),(162,⟨3,24,[i_,i_,i_],.struct [(0,1,false),(1,1,false),(2,1,false)]⟩),
 (163,⟨3,24,[i_,i_,i_],.struct [(0,1,false),(1,1,false),(2,1,false)]⟩),
 (164,⟨6,48,[i_,i_,i_,i_,i_,i_],.struct [(0,1,false),(1,1,false),(2,1,false),(3,1,false),(4,1,false),(5,1,false)]⟩),
 (165,⟨6,48,[i_,i_,i_,i_,i_,i_],.struct [(0,1,false),(1,1,false),(2,1,false),(3,1,false),(4,1,false),(5,1,false)]⟩),
 (166,⟨4,32,[i_,i_,i_,.val (.bool false)],.struct [(0,1,false),(1,1,false),(2,1,false),(3,1,false)]⟩),
 (167,⟨4,32,[i_,i_,i_,.val (.bool false)],.struct [(0,1,false),(1,1,false),(2,1,false),(3,1,false)]⟩),
 (168,nF),(169,nF),(170,nF),(172,⟨1,8,[.val (.map none)],.other⟩),(173,nF),(174,⟨25,376,[i_,i_,i_,i_,i_,.seq 0 [] .clip,.seq 0 [] .clip,i_,.seq 0 [] .clip,.seq 0 [] .clip,.seq 0 [] .clip,.seq 0 [] .clip,i_,.seq 0 [] .clip,.seq 0 [] .clip,.val (.bool false),.seq 0 [] .clip,i_,i_,i_,i_,i_,.seq 0 [] .clip,.seq 0 [] .clip,i_],.struct [(0,23,true),(23,1,false),(24,1,false)]⟩),
 (175,⟨25,376,[i_,i_,i_,i_,i_,.seq 0 [] .clip,.seq 0 [] .clip,i_,.seq 0 [] .clip,.seq 0 [] .clip,.seq 0 [] .clip,.seq 0 [] .clip,i_,.seq 0 [] .clip,.seq 0 [] .clip,.val (.bool false),.seq 0 [] .clip,i_,i_,i_,i_,i_,.seq 0 [] .clip,.seq 0 [] .clip,i_],.struct [(0,23,true),(23,1,false),(24,1,false)]⟩),
 (176,nF),(178,nF),(180,nF),(181,⟨1,8,[.val (.pointer none)],.other⟩),(182,⟨1,8,[.val (.int .u64 0)],.int .u64⟩),
 (183,⟨3,24,[.val (.pointer none),.val (.pointer none),.val (.int .u64 0)],.struct [(0,1,false),(1,1,false),(2,1,false)]⟩),
 (184,⟨3,24,[.val (.pointer none),.val (.pointer none),.val (.int .u64 0)],.struct [(0,1,false),(1,1,false),(2,1,false)]⟩),
 (185,nF),(186,⟨1,16,[.val .nilIface],.other⟩),(187,⟨1,16,[.val .nilIface],.other⟩),(188,nF),(189,⟨1,1,[.val (.int .u8 0)],.int .u8⟩),
 (190,nF),(191,nF),(192,nF),(193,nF),(194,nF),(195,nF),(196,⟨28,392,[i_,i_,i_,i_,i_,.seq 0 [] .clip,.seq 0 [] .clip,i_,.seq 0 [] .clip,.seq 0 [] .clip,.seq 0 [] .clip,.seq 0 [] .clip,i_,.seq 0 [] .clip,.seq 0 [] .clip,.val (.bool false),.seq 0 [] .clip,i_,i_,i_,i_,i_,.seq 0 [] .clip,i_,i_,.val (.bool false),i_,.val .nilIface],.struct [(0,27,true),(27,1,false)]⟩),
 (197,⟨28,392,[i_,i_,i_,i_,i_,.seq 0 [] .clip,.seq 0 [] .clip,i_,.seq 0 [] .clip,.seq 0 [] .clip,.seq 0 [] .clip,.seq 0 [] .clip,i_,.seq 0 [] .clip,.seq 0 [] .clip,.val (.bool false),.seq 0 [] .clip,i_,i_,i_,i_,i_,.seq 0 [] .clip,i_,i_,.val (.bool false),i_,.val .nilIface],.struct [(0,27,true),(27,1,false)]⟩),
 (198,⟨2,24,[i_,.val .nilIface],.struct [(0,1,false),(1,1,false)]⟩),
 (199,⟨2,24,[i_,.val .nilIface],.struct [(0,1,false),(1,1,false)]⟩),
 (200,⟨1,8,[i_],.struct [(0,1,false)]⟩),
 (201,⟨1,8,[i_],.struct [(0,1,false)]⟩),
 (202,nF),(203,⟨1,8,[.val (.pointer none)],.other⟩),(205,nF),(206,nF),(207,nF),(208,nF),(209,nF),(210,⟨1,8,[.val (.pointer none)],.other⟩),(211,nF),(212,⟨1,8,[.val (.pointer none)],.other⟩),(213,nF),(215,nF),(216,nF),(217,⟨1,8,[.val (.pointer none)],.other⟩),(218,nF),(219,nF),(220,⟨1,8,[.val (.pointer none)],.struct [(0,1,false)]⟩),
 (221,⟨1,8,[.val (.pointer none)],.struct [(0,1,false)]⟩),
 (222,⟨1,8,[.val (.pointer none)],.other⟩),(223,nF),(224,nF),(225,nF),(226,⟨1,16,[.val .nilIface],.other⟩),(228,nF),(229,⟨1,16,[.val .nilIface],.other⟩),(230,nF),(231,⟨1,16,[.val .nilIface],.other⟩),(232,⟨1,24,[.seq 0 [] .clip],.slice 87⟩),
 (233,nF),(234,nF),(235,nF),(236,nF),(237,⟨1,8,[.val (.pointer none)],.other⟩),(238,nF),(239,nF),(240,nF),(241,nF),(242,nF),(243,nF),(244,⟨8,8,[.val (.int .u8 0),.val (.int .u8 0),.val (.int .u8 0),.val (.int .u8 0),.val (.int .u8 0),.val (.int .u8 0),.val (.int .u8 0),.val (.int .u8 0)],.array 8 5⟩),
 (245,nF),(246,nF),(247,nF),(248,nF),(250,nF),(251,nF),(252,nF),(253,nF),(254,nF),(255,nF),(256,nF),(258,⟨1,8,[.val (.map none)],.other⟩),(259,nF),(260,nF),(261,nF),(262,nF),(264,nF),(265,nF),(266,⟨2,16,[i_,.val .nilFunc],.struct [(0,1,false),(1,1,false)]⟩),
 (267,⟨2,16,[i_,.val .nilFunc],.struct [(0,1,false),(1,1,false)]⟩),
 (268,nF),(269,⟨1,8,[.val (.pointer none)],.other⟩),(270,nF),(271,nF),(272,⟨1,16,[.val .nilIface],.other⟩),(274,nF),(275,⟨3,56,[.seq 0 [] .clip,.seq 0 [] .clip,i_],.struct [(0,2,true),(2,1,false)]⟩),
 (276,⟨3,56,[.seq 0 [] .clip,.seq 0 [] .clip,i_],.struct [(0,2,true),(2,1,false)]⟩),
 (277,nF),(279,nF),(280,nF),(281,nF),(282,nF),(283,nF),(285,nF),(286,nF),(287,nF),(288,nF),(289,nF),(290,nF),(291,⟨2,24,[i_,.val (.string ⟨#[]⟩)],.struct [(0,1,false),(1,1,false)]⟩),
 (292,⟨2,24,[i_,.val (.string ⟨#[]⟩)],.struct [(0,1,false),(1,1,false)]⟩),
 (294,⟨1,8,[.val (.map none)],.other⟩),(295,nF),(296,nF),(298,nF),(299,nF),(300,nF),(301,⟨1,8,[.val (.map none)],.other⟩),(302,nF),(303,⟨5,40,[.val (.map none),.val (.map none),.val (.map none),.val (.map none),.val (.map none)],.array 5 301⟩),
 (305,⟨1,24,[.seq 0 [] .clip],.slice 29⟩),
 (306,nF),(307,nF),(309,nF),(310,nF),(312,nF),(313,nF),(314,nF),(315,nF),(316,nF),(317,nF),(319,nF),(320,nF),(321,nF),(322,⟨1,8,[.val (.int .u64 0)],.int .u64⟩),
 (323,nF),(325,nF),(326,nF),(327,nF),(328,nF),(329,nF),(330,nF),(331,nF),(332,nF),(333,nF),(334,nF),(335,nF),(336,nF),(337,nF),(338,nF),(339,nF),(340,nF),(341,nF),(343,nF),(344,nF),(345,nF),(346,nF),(347,nF),(349,nF),(350,nF),(352,nF),(353,nF),(354,nF),(355,nF),(356,nF),(357,nF),(359,nF),(360,nF),(361,nF),(362,nF),(364,nF),(365,nF),(366,nF),(368,nF),(369,⟨1,8,[.val (.pointer none)],.other⟩),(370,⟨2,32,[.val (.pointer none),.seq 0 [] .clip],.struct [(0,1,false),(1,1,false)]⟩),
 (371,⟨2,32,[.val (.pointer none),.seq 0 [] .clip],.struct [(0,1,false),(1,1,false)]⟩),
 (373,nF),(374,nF),(375,nF),(376,⟨1,8,[.val (.map none)],.other⟩),(377,nF),(378,nF),(379,⟨1,4,[.val (.int .u32 0)],.int .u32⟩),
 (381,nF),(382,nF),(383,⟨1,8,[.val (.pointer none)],.other⟩),(384,⟨4,40,[.val (.pointer none),.val (.pointer none),.val (.pointer none),.val (.string ⟨#[]⟩)],.struct [(0,1,false),(1,1,false),(2,1,false),(3,1,false)]⟩),
 (385,⟨4,40,[.val (.pointer none),.val (.pointer none),.val (.pointer none),.val (.string ⟨#[]⟩)],.struct [(0,1,false),(1,1,false),(2,1,false),(3,1,false)]⟩),
 (389,nF),(390,⟨1,1,[.val (.int .u8 0)],.int .u8⟩),
 (391,nF),(392,⟨1,4,[.val (.int .i32 0)],.int .i32⟩),
 (393,⟨1,4,[.val (.int .i32 0)],.int .i32⟩),
 (394,⟨11,48,[.val (.int .u64 0),.val (.int .u64 0),.val (.int .u32 0),.val (.int .u8 0),.val (.int .u8 0),.val (.int .u8 0),.val (.int .u8 0),.val .nilFunc,.val (.pointer none),.val (.int .i32 0),.val (.int .i32 0)],.struct [(0,1,false),(1,1,false),(2,1,false),(3,1,false),(4,1,false),(5,1,false),(6,1,false),(7,1,false),(8,1,false),(9,1,false),(10,1,false)]⟩),
 (395,⟨11,48,[.val (.int .u64 0),.val (.int .u64 0),.val (.int .u32 0),.val (.int .u8 0),.val (.int .u8 0),.val (.int .u8 0),.val (.int .u8 0),.val .nilFunc,.val (.pointer none),.val (.int .i32 0),.val (.int .i32 0)],.struct [(0,1,false),(1,1,false),(2,1,false),(3,1,false),(4,1,false),(5,1,false),(6,1,false),(7,1,false),(8,1,false),(9,1,false),(10,1,false)]⟩),
 (396,nF),(397,nF),(398,⟨2,24,[.val (.string ⟨#[]⟩),.val (.int .u8 0)],.struct [(0,1,false),(1,1,false)]⟩),
 (399,⟨2,24,[.val (.string ⟨#[]⟩),.val (.int .u8 0)],.struct [(0,1,false),(1,1,false)]⟩),
 (400,⟨1,16,[.val (.string ⟨#[]⟩)],.struct [(0,1,false)]⟩),
 (401,⟨1,16,[.val (.string ⟨#[]⟩)],.struct [(0,1,false)]⟩),
 (402,⟨1,8,[.val (.pointer none)],.other⟩),(403,nF),(404,⟨1,2,[.val (.int .u16 0)],.int .u16⟩),
 (405,⟨5,16,[.val (.int .i32 0),.val (.int .u16 0),.val (.int .u16 0),.val (.int .u32 0),.val (.int .u32 0)],.struct [(0,1,false),(1,1,false),(2,1,false),(3,1,false),(4,1,false)]⟩),
 (406,⟨5,16,[.val (.int .i32 0),.val (.int .u16 0),.val (.int .u16 0),.val (.int .u32 0),.val (.int .u32 0)],.struct [(0,1,false),(1,1,false),(2,1,false),(3,1,false),(4,1,false)]⟩),
 (407,⟨1,24,[.seq 0 [] .clip],.slice 410⟩),
 (408,⟨1,4,[.val (.int .i32 0)],.int .i32⟩),
 (409,⟨4,16,[.val (.int .i32 0),.val (.int .i32 0),.val (.int .i32 0),.val (.int .i32 0)],.struct [(0,1,false),(1,1,false),(2,1,false),(3,1,false)]⟩),
 (410,⟨4,16,[.val (.int .i32 0),.val (.int .i32 0),.val (.int .i32 0),.val (.int .i32 0)],.struct [(0,1,false),(1,1,false),(2,1,false),(3,1,false)]⟩),
 (411,⟨1,8,[.val (.pointer none)],.other⟩),(412,⟨1,8,[.val .nilFunc],.other⟩)]
def tG:fh prog tys=true:=by kernel_rfl
def mG:prog.follows .mixedOrders=true:=by kernel_rfl
section
variable {B : Nat -> Nat -> Prop} {n : Nat} {all ops : Array Oper} {cl : Nat -> Nat} {i : Nat} {li : List Nat} {T : Nat -> PV} {H H' : List Ob} {K : (Nat -> PV) -> List Ob -> Prop} {Q : Exit -> (Nat -> PV) -> List Ob -> Prop} {l : List Oper} {o : Oper} {x : PV} {d : Option Tmp} {p : Prop}
def z1[DL](k:WO prog B n all l (d8 d x T) H' K)(hw:bf all T o=some true:=by exact rfl)(hd:nfD n o.dst=some d:=by exact rfl)(h:evN tys T H o.type o.op=some (x,H',True):=by exact rfl):WO prog B n all (o::l) T H K :=
 We tG hw hd h trivial k
def z2[DL](k:WO prog B n all l (d8 d x T) H' K)(hw:bf all T o=some true:=by exact rfl)(hd:nfD n o.dst=some d:=by exact rfl)(h:evN tys T H o.type o.op=some (x,H',p):=by exact rfl)(q:p):WO prog B n all (o::l) T H K :=
 We tG hw hd h q k
def z6[DL](k:WO prog B n all l (d8 d (.val undef) T) H K)(hd:nfD n o.dst=some d:=by exact rfl)(hw:bf all T o=some false:=by exact rfl):WO prog B n all (o::l) T H K :=
 Wk hd hw k
def z8[DL]{id:Nat}{y:Code}(h:WO prog B n l.toArray l T H (fun T' H'=>qj (fun T2 H2=>W prog B n y T2 H2 Q) Q .normal T' H'))(hall:iv n l.toArray=true:=by exact rfl):W prog B n ((Code.region id l.toArray false).seq y) T H Q :=
 Ws (aI hall h)
def z3[DL](k:WU prog B n ops cl li (d8 d x T) H K)(h0:ops[i]?=some o:=by exact rfl)(hc:cl i=0:=by exact rfl)(hd:nfD n o.dst=some d:=by exact rfl)(hw:bf ops T o=some true:=by exact rfl)(h:∀H2,evS tys T H2 o.type o.op=some (x,H2,True):=by exact fun _=>rfl):WU prog B n ops cl (i::li) T H K :=
 Xe tG h0 hc hd hw h trivial k
def z9i[DL]{l0:List Int}{i0:Nat}(k:WU prog B n ops cl li (d8 d (.row (ao (l0.getD i0 0))) T) H K)(h0:ops[i]?=some o:=by exact rfl)(hc:cl i=0:=by exact rfl)(hd:nfD n o.dst=some d:=by exact rfl)(hw:bf ops T o=some true:=by exact rfl)(h:∀H2,evS tys T H2 o.type o.op=some (.row ((l0.flatMap ao).drop ((i0:Int).toNat*1)),H2,p):=by exact fun _=>rfl)(hp:p:=by omega)(hi:i0<l0.length:=by(simp only[dnL]at *;omega)):WU prog B n ops cl (i::li) T H K :=
 Xi tG h0 hc hd hw h hp (iN ao 1 (fun _=>rfl) 0 hi) k
def zc [DL] {f : FuncId} {fn : Func} {args : Array Operand} {ats : Array TypeId} {res : PV} (ho : o.op = .call { callee := .value (.func f), args := args, argTypes := ats }) (hf : prog.funcs[f]? = some fn) (h : HC prog f (args.toList.map fun y => wk (opv T y)) H res H') (k : WO prog B n all l (d8 d res T) H' K) (hd : nfD n o.dst = some d := by exact rfl) (hw : bf all T o = some true := by exact rfl) (hb : fn.body.isNone = false := by exact rfl) (hn : (fn.name == "runtime.NumGoroutine") = false := by exact rfl) : WO prog B n all (o :: l) T H K :=
 Wc hd hw (dC ho hf hb hn h) k
def zq[DL]{a b:Str}(dd:Nat)(k:WO prog B n all l (upd dd (.val (.bool (decide (a=b)))) T) H K)(hT:T dd=PV.val (.bool (nc ⟨a.toArray⟩ ⟨b.toArray⟩)):=by exact rfl):WO prog B n all l T H K :=
 Wa dd hT (NE a b) k
def z4[DL](k:WU prog B n ops cl li (d8 d x T) H K)(h0:ops[i]?=some o:=by exact rfl)(hc:cl i=0:=by exact rfl)(hd:nfD n o.dst=some d:=by exact rfl)(hw:bf ops T o=some true:=by exact rfl)(h:∀H2,evS tys T H2 o.type o.op=some (x,H2,p):=by exact fun _=>rfl)(q:p):WU prog B n ops cl (i::li) T H K :=
 Xe tG h0 hc hd hw h q k
def z5[DL](k:WU prog B n ops cl li (d8 d x T) H K)(h0:ops[i]?=some o:=by exact rfl)(hc:cl i=1:=by exact rfl)(hd:nfD n o.dst=some d:=by exact rfl)(hw:bf ops T o=some true:=by exact rfl)(h:∀E,evS tys T (H++E) o.type o.op=some (x,H++E,True):=by exact fun _=>rfl):WU prog B n ops cl (i::li) T H K :=
 Xf tG h0 hc hd hw h trivial k
def z7[DL](k:WU prog B n ops cl li (d8 d (.val undef) T) H K)(h0:ops[i]?=some o:=by exact rfl)(hc:Nat.ble (cl i) 3=true:=by exact rfl)(hd:nfD n o.dst=some d:=by exact rfl)(hw:bf ops T o=some false:=by exact rfl):WU prog B n ops cl (i::li) T H K :=
 Yr h0 hc hd hw k
def z0[DL]{id:Nat}{y:Code}{Q2:Exit->(Nat->PV)->List Ob->Prop}(h:WO prog B n l.toArray l T H (fun T' H'=>qj (fun T2 H2=>W prog B n y T2 H2 Q) Q .normal T' H'))(hall:iv n l.toArray=true:=by exact rfl):WO prog B n all [] T H (fun T' H'=>qj (fun T2 H2=>W prog B n ((Code.region id l.toArray false).seq y) T2 H2 Q) Q2 .normal T' H') :=
 Wn (Ws (aI hall h))
def zR[D:DL][DR D]{rs:List ResultVar}{res:PV}(e:x=res)(hq:zr tys rs res .ret T H->Q .ret T H:=by exact id)(h:Cm tys T H rs=some x:=by exact rfl):W prog B n .ret T H Q :=
 Wq (hq (lP h e))
def oF{q:Prop}[Decidable q](h:decide q=false):¬q:=of_decide_eq_false h
def oT{q:Prop}[Decidable q](h:decide q=true):q:=of_decide_eq_true h
def zE(all:Array Oper)(n:Nat)(T:Nat->PV)(H:List Ob)(o:Oper)(T':Nat->PV)(H':List Ob):Prop:=bf all T o=some true/\∃d x,nfD n o.dst=some d/\evN tys T H o.type o.op=some (x,H',True)/\T'=d8 d x T
variable {o1 o2 o3 o4 o5 : Oper} {T1 T2 T3 T4 T5 : Nat -> PV} {H1 H2 H3 H4 H5 : List Ob} {id : Nat} {y : Code} {A : Array Oper}
def zF[DL]{T':Nat->PV}(e:zE all n T H o T' H')(k:WO prog B n all l T' H' K):WO prog B n all (o::l) T H K:=by
 obtain⟨w,_,_,d,h,rfl⟩:=e
 exact z1 k w d h
def zs1[DL](k:K T1 H1)(e1:zE all n T H o1 T1 H1:=by exact⟨rfl,_,_,rfl,rfl,rfl⟩):WO prog B n all (o1::[]) T H K:=zF e1 (Wn k)
def zp1[DL](k:WO prog B n A l T1 H1 (fun T' H'=>qj (fun T2 H2=>W prog B n y T2 H2 Q) Q .normal T' H'))(hA:A=(o1::l).toArray:=by exact rfl)(hall:iv n A=true:=by exact rfl)(e1:zE A n T H o1 T1 H1:=by exact⟨rfl,_,_,rfl,rfl,rfl⟩):W prog B n ((Code.region id A false).seq y) T H Q:=by
 subst hA;exact z8 (zF e1 (k)) hall
def zu1[DL](k:W prog B n y T1 H1 Q)(hA:A=(o1::[]).toArray:=by exact rfl)(hall:iv n A=true:=by exact rfl)(e1:zE A n T H o1 T1 H1:=by exact⟨rfl,_,_,rfl,rfl,rfl⟩):W prog B n ((Code.region id A false).seq y) T H Q:=by
 subst hA;exact z8 (zF e1 (Wn k)) hall
def zy2[DL](k:WO prog B n all l T2 H2 K)(e1:zE all n T H o1 T1 H1:=by exact⟨rfl,_,_,rfl,rfl,rfl⟩)(e2:zE all n T1 H1 o2 T2 H2:=by exact⟨rfl,_,_,rfl,rfl,rfl⟩):WO prog B n all (o1::o2::l) T H K:=zF e1 (zF e2 (k))
def zs2[DL](k:K T2 H2)(e1:zE all n T H o1 T1 H1:=by exact⟨rfl,_,_,rfl,rfl,rfl⟩)(e2:zE all n T1 H1 o2 T2 H2:=by exact⟨rfl,_,_,rfl,rfl,rfl⟩):WO prog B n all (o1::o2::[]) T H K:=zF e1 (zF e2 (Wn k))
def zp2[DL](k:WO prog B n A l T2 H2 (fun T' H'=>qj (fun T2 H2=>W prog B n y T2 H2 Q) Q .normal T' H'))(hA:A=(o1::o2::l).toArray:=by exact rfl)(hall:iv n A=true:=by exact rfl)(e1:zE A n T H o1 T1 H1:=by exact⟨rfl,_,_,rfl,rfl,rfl⟩)(e2:zE A n T1 H1 o2 T2 H2:=by exact⟨rfl,_,_,rfl,rfl,rfl⟩):W prog B n ((Code.region id A false).seq y) T H Q:=by
 subst hA;exact z8 (zF e1 (zF e2 (k))) hall
def zu2[DL](k:W prog B n y T2 H2 Q)(hA:A=(o1::o2::[]).toArray:=by exact rfl)(hall:iv n A=true:=by exact rfl)(e1:zE A n T H o1 T1 H1:=by exact⟨rfl,_,_,rfl,rfl,rfl⟩)(e2:zE A n T1 H1 o2 T2 H2:=by exact⟨rfl,_,_,rfl,rfl,rfl⟩):W prog B n ((Code.region id A false).seq y) T H Q:=by
 subst hA;exact z8 (zF e1 (zF e2 (Wn k))) hall
def zy3[DL](k:WO prog B n all l T3 H3 K)(e1:zE all n T H o1 T1 H1:=by exact⟨rfl,_,_,rfl,rfl,rfl⟩)(e2:zE all n T1 H1 o2 T2 H2:=by exact⟨rfl,_,_,rfl,rfl,rfl⟩)(e3:zE all n T2 H2 o3 T3 H3:=by exact⟨rfl,_,_,rfl,rfl,rfl⟩):WO prog B n all (o1::o2::o3::l) T H K:=zF e1 (zF e2 (zF e3 (k)))
def zs3[DL](k:K T3 H3)(e1:zE all n T H o1 T1 H1:=by exact⟨rfl,_,_,rfl,rfl,rfl⟩)(e2:zE all n T1 H1 o2 T2 H2:=by exact⟨rfl,_,_,rfl,rfl,rfl⟩)(e3:zE all n T2 H2 o3 T3 H3:=by exact⟨rfl,_,_,rfl,rfl,rfl⟩):WO prog B n all (o1::o2::o3::[]) T H K:=zF e1 (zF e2 (zF e3 (Wn k)))
def zp3[DL](k:WO prog B n A l T3 H3 (fun T' H'=>qj (fun T2 H2=>W prog B n y T2 H2 Q) Q .normal T' H'))(hA:A=(o1::o2::o3::l).toArray:=by exact rfl)(hall:iv n A=true:=by exact rfl)(e1:zE A n T H o1 T1 H1:=by exact⟨rfl,_,_,rfl,rfl,rfl⟩)(e2:zE A n T1 H1 o2 T2 H2:=by exact⟨rfl,_,_,rfl,rfl,rfl⟩)(e3:zE A n T2 H2 o3 T3 H3:=by exact⟨rfl,_,_,rfl,rfl,rfl⟩):W prog B n ((Code.region id A false).seq y) T H Q:=by
 subst hA;exact z8 (zF e1 (zF e2 (zF e3 (k)))) hall
def zu3[DL](k:W prog B n y T3 H3 Q)(hA:A=(o1::o2::o3::[]).toArray:=by exact rfl)(hall:iv n A=true:=by exact rfl)(e1:zE A n T H o1 T1 H1:=by exact⟨rfl,_,_,rfl,rfl,rfl⟩)(e2:zE A n T1 H1 o2 T2 H2:=by exact⟨rfl,_,_,rfl,rfl,rfl⟩)(e3:zE A n T2 H2 o3 T3 H3:=by exact⟨rfl,_,_,rfl,rfl,rfl⟩):W prog B n ((Code.region id A false).seq y) T H Q:=by
 subst hA;exact z8 (zF e1 (zF e2 (zF e3 (Wn k)))) hall
def zy4[DL](k:WO prog B n all l T4 H4 K)(e1:zE all n T H o1 T1 H1:=by exact⟨rfl,_,_,rfl,rfl,rfl⟩)(e2:zE all n T1 H1 o2 T2 H2:=by exact⟨rfl,_,_,rfl,rfl,rfl⟩)(e3:zE all n T2 H2 o3 T3 H3:=by exact⟨rfl,_,_,rfl,rfl,rfl⟩)(e4:zE all n T3 H3 o4 T4 H4:=by exact⟨rfl,_,_,rfl,rfl,rfl⟩):WO prog B n all (o1::o2::o3::o4::l) T H K:=zF e1 (zF e2 (zF e3 (zF e4 (k))))
def zs4[DL](k:K T4 H4)(e1:zE all n T H o1 T1 H1:=by exact⟨rfl,_,_,rfl,rfl,rfl⟩)(e2:zE all n T1 H1 o2 T2 H2:=by exact⟨rfl,_,_,rfl,rfl,rfl⟩)(e3:zE all n T2 H2 o3 T3 H3:=by exact⟨rfl,_,_,rfl,rfl,rfl⟩)(e4:zE all n T3 H3 o4 T4 H4:=by exact⟨rfl,_,_,rfl,rfl,rfl⟩):WO prog B n all (o1::o2::o3::o4::[]) T H K:=zF e1 (zF e2 (zF e3 (zF e4 (Wn k))))
def zp4[DL](k:WO prog B n A l T4 H4 (fun T' H'=>qj (fun T2 H2=>W prog B n y T2 H2 Q) Q .normal T' H'))(hA:A=(o1::o2::o3::o4::l).toArray:=by exact rfl)(hall:iv n A=true:=by exact rfl)(e1:zE A n T H o1 T1 H1:=by exact⟨rfl,_,_,rfl,rfl,rfl⟩)(e2:zE A n T1 H1 o2 T2 H2:=by exact⟨rfl,_,_,rfl,rfl,rfl⟩)(e3:zE A n T2 H2 o3 T3 H3:=by exact⟨rfl,_,_,rfl,rfl,rfl⟩)(e4:zE A n T3 H3 o4 T4 H4:=by exact⟨rfl,_,_,rfl,rfl,rfl⟩):W prog B n ((Code.region id A false).seq y) T H Q:=by
 subst hA;exact z8 (zF e1 (zF e2 (zF e3 (zF e4 (k))))) hall
def zu4[DL](k:W prog B n y T4 H4 Q)(hA:A=(o1::o2::o3::o4::[]).toArray:=by exact rfl)(hall:iv n A=true:=by exact rfl)(e1:zE A n T H o1 T1 H1:=by exact⟨rfl,_,_,rfl,rfl,rfl⟩)(e2:zE A n T1 H1 o2 T2 H2:=by exact⟨rfl,_,_,rfl,rfl,rfl⟩)(e3:zE A n T2 H2 o3 T3 H3:=by exact⟨rfl,_,_,rfl,rfl,rfl⟩)(e4:zE A n T3 H3 o4 T4 H4:=by exact⟨rfl,_,_,rfl,rfl,rfl⟩):W prog B n ((Code.region id A false).seq y) T H Q:=by
 subst hA;exact z8 (zF e1 (zF e2 (zF e3 (zF e4 (Wn k))))) hall
def zy5[DL](k:WO prog B n all l T5 H5 K)(e1:zE all n T H o1 T1 H1:=by exact⟨rfl,_,_,rfl,rfl,rfl⟩)(e2:zE all n T1 H1 o2 T2 H2:=by exact⟨rfl,_,_,rfl,rfl,rfl⟩)(e3:zE all n T2 H2 o3 T3 H3:=by exact⟨rfl,_,_,rfl,rfl,rfl⟩)(e4:zE all n T3 H3 o4 T4 H4:=by exact⟨rfl,_,_,rfl,rfl,rfl⟩)(e5:zE all n T4 H4 o5 T5 H5:=by exact⟨rfl,_,_,rfl,rfl,rfl⟩):WO prog B n all (o1::o2::o3::o4::o5::l) T H K:=zF e1 (zF e2 (zF e3 (zF e4 (zF e5 (k)))))
def zs5[DL](k:K T5 H5)(e1:zE all n T H o1 T1 H1:=by exact⟨rfl,_,_,rfl,rfl,rfl⟩)(e2:zE all n T1 H1 o2 T2 H2:=by exact⟨rfl,_,_,rfl,rfl,rfl⟩)(e3:zE all n T2 H2 o3 T3 H3:=by exact⟨rfl,_,_,rfl,rfl,rfl⟩)(e4:zE all n T3 H3 o4 T4 H4:=by exact⟨rfl,_,_,rfl,rfl,rfl⟩)(e5:zE all n T4 H4 o5 T5 H5:=by exact⟨rfl,_,_,rfl,rfl,rfl⟩):WO prog B n all (o1::o2::o3::o4::o5::[]) T H K:=zF e1 (zF e2 (zF e3 (zF e4 (zF e5 (Wn k)))))
def zp5[DL](k:WO prog B n A l T5 H5 (fun T' H'=>qj (fun T2 H2=>W prog B n y T2 H2 Q) Q .normal T' H'))(hA:A=(o1::o2::o3::o4::o5::l).toArray:=by exact rfl)(hall:iv n A=true:=by exact rfl)(e1:zE A n T H o1 T1 H1:=by exact⟨rfl,_,_,rfl,rfl,rfl⟩)(e2:zE A n T1 H1 o2 T2 H2:=by exact⟨rfl,_,_,rfl,rfl,rfl⟩)(e3:zE A n T2 H2 o3 T3 H3:=by exact⟨rfl,_,_,rfl,rfl,rfl⟩)(e4:zE A n T3 H3 o4 T4 H4:=by exact⟨rfl,_,_,rfl,rfl,rfl⟩)(e5:zE A n T4 H4 o5 T5 H5:=by exact⟨rfl,_,_,rfl,rfl,rfl⟩):W prog B n ((Code.region id A false).seq y) T H Q:=by
 subst hA;exact z8 (zF e1 (zF e2 (zF e3 (zF e4 (zF e5 (k)))))) hall
def zu5[DL](k:W prog B n y T5 H5 Q)(hA:A=(o1::o2::o3::o4::o5::[]).toArray:=by exact rfl)(hall:iv n A=true:=by exact rfl)(e1:zE A n T H o1 T1 H1:=by exact⟨rfl,_,_,rfl,rfl,rfl⟩)(e2:zE A n T1 H1 o2 T2 H2:=by exact⟨rfl,_,_,rfl,rfl,rfl⟩)(e3:zE A n T2 H2 o3 T3 H3:=by exact⟨rfl,_,_,rfl,rfl,rfl⟩)(e4:zE A n T3 H3 o4 T4 H4:=by exact⟨rfl,_,_,rfl,rfl,rfl⟩)(e5:zE A n T4 H4 o5 T5 H5:=by exact⟨rfl,_,_,rfl,rfl,rfl⟩):W prog B n ((Code.region id A false).seq y) T H Q:=by
 subst hA;exact z8 (zF e1 (zF e2 (zF e3 (zF e4 (zF e5 (Wn k)))))) hall
def zD[DL]{l:List Oper}{d:Option Tmp}{t:TypeId}{m k x:Operand}{j:Nat}{ks:List fX}{xs:List PV}(e:TypeId)(key:fX)(h:WO prog B n all l (d8 d (.val undef) T) (H.set j (.smap (ks++[key]) (xs++[opv T x]))) K)(hd:nfD n o.dst=some d:=by exact rfl)(hw:bf all T o=some true:=by exact rfl)(ho:o.op=.insert t m k x:=by exact rfl)(hm:opv T m=.mapv j:=by exact rfl)(hi:H[j]?=some (.smap ks xs):=by exact rfl)(hk:opv T k=GK key:=by exact rfl)(ht:Ie prog t e key=true:=by kernel_rfl)(hn:(ks.all key.like&&!(ks.contains key))=true:=by kernel_rfl):WO prog B n all (o::l) T H K :=
 Wd hd hw (dI ht ho hm hi hk hn) h
def zY{f:FuncId}{fn:Func}{c:Code}{args:List PV}{res:PV}{rs:List ResultVar}(hf:prog.funcs[f]?=some fn)(h:∀B,W prog B fn.ntmps c (yE args) [] (zr tys rs res))(hb:fn.body=some c:=by exact rfl)(hr:fn.results=rs.toArray:=by exact rfl)(hn0:Nat.ble args.length fn.ntmps=true:=by exact rfl)(ha:aF args:=by simp)(hres:aR res:=by simp):ab prog f args res :=
 bw tG hf hb hr hn0 ha hres h
def zM{f:FuncId}{fn:Func}{c:Code}{rest:List PV}{res:PV}{rs:List ResultVar}{off:Nat}{xs ys:List PV}{e:TypeId}(hf:prog.funcs[f]?=some fn)(h:∀B,W prog B fn.ntmps c (yE (.ptr 0 off::rest)) [.cells xs e] (GC tys rs res ys e))(hb:fn.body=some c:=by exact rfl)(hr:fn.results=rs.toArray:=by exact rfl)(hn0:Nat.ble (rest.length+1) fn.ntmps=true:=by exact rfl)(ha:aF rest:=by simp)(hres:aR res:=by simp)(hxs:aF xs:=by simp)(hys:aF ys:=by simp)(H:List Ob)(i:Nat)(hi:H[i]?=some (.cells xs e)):HC prog f (.ptr i off::rest) H res (H.set i (.cells ys e)) :=
 jt tG hf hb hr hn0 ha hres hxs hys h H i hi
def zd{G' G:Prop}(k:G') (h:G'->G:=by
 intro k
 repeat (first|refine z1 ?_|refine z8 ?_|refine Wn ?_|refine aI rfl ?_|refine Ws ?_|refine Wj ?_|refine z6 ?_|refine z3 ?_|refine z5 ?_|refine z7 ?_|refine fS ?_|refine Wl ?_|refine zR ?_)
 exact k):G:=h k
variable {G' G1 G2 : Prop}
def zC [DL] {f : FuncId} {fn : Func} {args : Array Operand} {ats : Array TypeId} {res : PV} (ho : o.op = .call { callee := .value (.func f), args := args, argTypes := ats }) (hf : prog.funcs[f]? = some fn) (h : HC prog f (args.toList.map fun y => wk (opv T y)) H res H') (k : G') (hd : nfD n o.dst = some d := by exact rfl) (hw : bf all T o = some true := by exact rfl) (hb : fn.body.isNone = false := by exact rfl) (hn : (fn.name == "runtime.NumGoroutine") = false := by exact rfl) (dr : G' → WO prog B n all l (d8 d res T) H' K := by exact fun k => zd k) : WO prog B n all (o :: l) T H K :=
 zc ho hf h (dr k) hd hw hb hn
def zA[DL]{x y:PV}(dd:Nat)(hT:T dd=x)(hxy:x=y)(k:G')(dr:G'->WO prog B n all l (upd dd y T) H K:=by exact fun k=>zd k):WO prog B n all l T H K :=
 Wa dd hT hxy (dr k)
def zO[DL]{x y:PV}(dd:Nat)(hT:T dd=x)(hxy:x=y)(k:G')(dr:G'->WU prog B n ops cl li (upd dd y T) H K:=by exact fun k=>zd k):WU prog B n ops cl li T H K :=
 Xa dd hT hxy (dr k)
def zQ[DL]{a b:Str}(dd:Nat)(k:G')(hT:T dd=PV.val (.bool (nc ⟨a.toArray⟩ ⟨b.toArray⟩)):=by exact rfl)(dr:G'->WO prog B n all l (upd dd (.val (.bool (decide (a=b)))) T) H K:=by exact fun k=>zd k):WO prog B n all l T H K :=
 zq dd (dr k) hT
def zB[DL]{b:Bool}(dd:Nat)(h1:b=true->G1)(h2:b=false->G2)(hT:T dd=.val (.bool b):=by exact rfl)(d1:G1->WO prog B n all l (upd dd (.val (.bool true)) T) H K:=by exact fun k=>zd k)(d2:G2->WO prog B n all l (upd dd (.val (.bool false)) T) H K:=by exact fun k=>zd k):WO prog B n all l T H K :=
 Wb dd hT (fun e=>d1 (h1 e)) (fun e=>d2 (h2 e))
def zI[DL]{c:Operand}{x y:Code}{t:Bool}(h1:t=true->G1)(h2:t=false->G2)(hc:opv T c=.val (.bool t):=by exact rfl)(d1:G1->W prog B n x T H Q:=by exact fun k=>zd k)(d2:G2->W prog B n y T H Q:=by exact fun k=>zd k):W prog B n (.cond c x y) T H Q :=
 Wi hc (fun e=>d1 (h1 e)) (fun e=>d2 (h2 e))
def zX[DL](hd:nfD n o.dst=some d)(hw:bf all T o=some true)(h:bM prog B o T H x H')(k:G')(dr:G'->WO prog B n all l (d8 d x T) H' K:=by exact fun k=>zd k):WO prog B n all (o::l) T H K :=
 Wd hd hw h (dr k)
def zG[DL](hd:nfD n o.dst=some d)(hw:bf all T o=some true)(h:ly prog B o T H x H')(k:G')(dr:G'->WO prog B n all l (d8 d x T) H' K:=by exact fun k=>zd k):WO prog B n all (o::l) T H K :=
 Wc hd hw h (dr k)
def zP[DL](k:G')(hw:bf all T o=some true:=by exact rfl)(hd:nfD n o.dst=some d:=by exact rfl)(h:evN tys T H o.type o.op=some (x,H',p):=by exact rfl)(dr:G'->WO prog B n all l (d8 d x T) H' K:=by exact fun k=>zd k)(q:p):WO prog B n all (o::l) T H K :=
 z2 (dr k) hw hd h q
def zJ[DL]{α:Type}{L:List α}{i0:Nat}(enc:α->List PV)(w:Nat)(d0:α)(k:G')(hd:nfD n o.dst=some d:=by exact rfl)(hw:bf all T o=some true:=by exact rfl)(h:evN tys T H o.type o.op=some (.row ((L.flatMap enc).drop ((i0:Int).toNat*w)),H',p):=by exact rfl)(hp:p:=by omega)(hk:∀x,(enc x).length=w:=by exact fun _=>rfl)(hi:i0<L.length:=by(try simp only[dnL]at *);omega)(dr:G'->WO prog B n all l (d8 d (.row (enc (L.getD i0 d0))) T) H' K:=by exact fun k=>zd k):WO prog B n all (o::l) T H K :=
 Wv tG hd hw h hp (iN enc w hk d0 hi) (dr k)
def zK[DL]{α:Type}{L:List α}{i0:Nat}(enc:α->List PV)(w:Nat)(d0:α)(k:G')(h0:ops[i]?=some o:=by exact rfl)(hc:cl i=0:=by exact rfl)(hd:nfD n o.dst=some d:=by exact rfl)(hw:bf ops T o=some true:=by exact rfl)(h:∀H2,evS tys T H2 o.type o.op=some (.row ((L.flatMap enc).drop ((i0:Int).toNat*w)),H2,p):=by exact fun _=>rfl)(hp:p:=by omega)(hk:∀x,(enc x).length=w:=by exact fun _=>rfl)(hi:i0<L.length:=by(try simp only[dnL]at *);omega)(dr:G'->WU prog B n ops cl li (d8 d (.row (enc (L.getD i0 d0))) T) H K:=by exact fun k=>zd k):WU prog B n ops cl (i::li) T H K :=
 Xi tG h0 hc hd hw h hp (iN enc w hk d0 hi) (dr k)
def zW[DL]{id:Nat}(c ord:List Nat)(k:G')(hall:iv n ops=true:=by exact rfl)(hB:Tw .any ops c ord=true:=by kernel_rfl)(dr:G'->WU prog B n ops (an2 c) ord T H (fun T' H'=>Q .normal T' H'):=by exact fun k=>zd k):W prog B n (.region id ops true) T H Q :=
 lg c ord mG hall hB (dr k)
def zH{f:FuncId}{fn:Func}{c:Code}{args:List PV}{res:PV}{rs:List ResultVar}{D:(Nat->Nat->Prop)->Prop}(hf:prog.funcs[f]?=some fn)(k:∀B,D B)(hb:fn.body=some c:=by exact rfl)(hr:fn.results=rs.toArray:=by exact rfl)(hn0:Nat.ble args.length fn.ntmps=true:=by exact rfl)(ha:aF args:=by simp)(hres:aR res:=by simp)(dr:∀B,D B->W prog B fn.ntmps c (yE args) [] (zr tys rs res):=by exact fun _ k=>zd k):ab prog f args res :=
 zY hf (fun B=>dr B (k B)) hb hr hn0 ha hres
def zL{f:FuncId}{fn:Func}{c:Code}{rest:List PV}{res:PV}{rs:List ResultVar}{off:Nat}{xs ys:List PV}{e:TypeId}{D:(Nat->Nat->Prop)->Prop}(hf:prog.funcs[f]?=some fn)(k:∀B,D B)(hb:fn.body=some c:=by exact rfl)(hr:fn.results=rs.toArray:=by exact rfl)(hn0:Nat.ble (rest.length+1) fn.ntmps=true:=by exact rfl)(ha:aF rest:=by simp)(hres:aR res:=by simp)(hxs:aF xs:=by simp)(hys:aF ys:=by simp)(dr:∀B,D B->W prog B fn.ntmps c (yE (.ptr 0 off::rest)) [.cells xs e] (GC tys rs res ys e):=by exact fun _ k=>zd k)(H:List Ob)(i:Nat)(hi:H[i]?=some (.cells xs e)):HC prog f (.ptr i off::rest) H res (H.set i (.cells ys e)) :=
 zM hf (fun B=>dr B (k B)) hb hr hn0 ha hres hxs hys H i hi
end
open Go.RowKit
structure lI where
 mem:Int
 data:Int
 ret:Int
 words:Int
 out:Int
 deriving DecidableEq,Inhabited
def Jp(x:lI):List PV:=[i64 x.mem,i64 x.data,i64 x.ret,i64 x.words,i64 x.out]
@[simp] theorem Bg (x : lI) : aF (Jp x) := by simp [Jp]
def Ma(x:lI):PV:=.agg (Jp x)
@[simp] theorem ah9 (x : lI) : aR (Ma x) := by unfold Ma aR; exact Bg x
@[simp] theorem aj9 (l : List lI) : aR (sq Jp l) := gQ Bg l
structure rG where
 place:Int
 old:List UInt8
 deriving DecidableEq,Inhabited
def jX(x:rG):List PV:=[i64 x.place,sq aH x.old]
@[simp] theorem ya (x : rG) : aF (jX x) := by simp [jX]
@[simp] theorem ae1 (l : List rG) : aR (sq jX l) := gQ ya l
structure bh where
 b:List UInt8
 old:List rG
 deriving DecidableEq,Inhabited
def GF(x:bh):List PV:=[sq aH x.b,sq jX x.old]
@[simp] theorem Df (x : bh) : aF (GF x) := by simp [GF]
def jj(x:bh):PV:=.agg (GF x)
@[simp] theorem ay8 (x : bh) : aR (jj x) := by unfold jj aR; exact Df x
@[simp] theorem az3 (l : List bh) : aR (sq GF l) := gQ Df l
structure dV where
 b:List UInt8
 on:Bool
 deriving DecidableEq,Inhabited
def ut(x:dV):List PV:=[sq aH x.b,boo x.on]
@[simp] theorem CN (x : dV) : aF (ut x) := by simp [ut]
def wt(x:dV):PV:=.agg (ut x)
@[simp] theorem az7 (x : dV) : aR (wt x) := by unfold wt aR; exact CN x
@[simp] theorem az0 (l : List dV) : aR (sq ut l) := gQ CN l
structure aP where
 name:Str
 xt:Int
 flags:Int
 deriving DecidableEq,Inhabited
def cn(x:aP):List PV:=[str x.name,i64 x.xt,i64 x.flags]
@[simp] theorem Al (x : aP) : aF (cn x) := by simp [cn]
def yq(x:aP):PV:=.agg (cn x)
@[simp] theorem ag6 (x : aP) : aR (yq x) := by unfold yq aR; exact Al x
@[simp] theorem av6 (l : List aP) : aR (sq cn l) := gQ Al l
structure ig where
 d:Int
 r:Int
 ip:Int
 deriving DecidableEq,Inhabited
def eW(x:ig):List PV:=[i64 x.d,i64 x.r,i64 x.ip]
@[simp] theorem H7 (x : ig) : aF (eW x) := by simp [eW]
@[simp] theorem ac9 (l : List ig) : aR (sq eW l) := gQ H7 l
structure rQ where
 kind:Int
 arg:Int
 hand:Int
 rank:Int
 delay:Int
 id:Int
 deriving DecidableEq,Inhabited
def pY(x:rQ):List PV:=[i64 x.kind,i64 x.arg,i64 x.hand,i64 x.rank,i64 x.delay,i64 x.id]
@[simp] theorem C7 (x : rQ) : aF (pY x) := by simp [pY]
@[simp] theorem ay2 (l : List rQ) : aR (sq pY l) := gQ C7 l
structure og where
 xt:Int
 fuel:Int
 strikes:Int
 out:Bool
 deriving DecidableEq,Inhabited
def mP(x:og):List PV:=[i64 x.xt,i64 x.fuel,i64 x.strikes,boo x.out]
@[simp] theorem JP (x : og) : aF (mP x) := by simp [mP]
@[simp] theorem am8 (l : List og) : aR (sq mP l) := gQ JP l
structure VVm where
 conf:lI
 mem:bh
 here:Int
 d:List Int
 r:List Int
 f:List ig
 dict:List aP
 last:Int
 out:List UInt8
 pic:dV
 req:List rQ
 free:Int
 next:Int
 arg:Int
 self:Int
 now:Int
 hand:List og
 deriving DecidableEq,Inhabited
def cVm(x:VVm):List PV:=[i64 x.conf.mem,i64 x.conf.data,i64 x.conf.ret,i64 x.conf.words,i64 x.conf.out,sq aH x.mem.b,sq jX x.mem.old,i64 x.here,sq ao x.d,sq ao x.r,sq eW x.f,sq cn x.dict,i64 x.last,sq aH x.out,sq aH x.pic.b,boo x.pic.on,sq pY x.req,i64 x.free,i64 x.next,i64 x.arg,i64 x.self,i64 x.now,sq mP x.hand]
@[simp] theorem GL (x : VVm) : aF (cVm x) := by simp [cVm]
def eVm(x:VVm):PV:=.agg (cVm x)
@[simp] theorem aJ7 (x : VVm) : aR (eVm x) := by unfold eVm aR; exact GL x
@[simp] theorem aN0 (l : List VVm) : aR (sq cVm l) := gQ GL l
def iy(x y:PV):PV:=.tup [x,y]
def kr(x y z:PV):PV:=.tup [x,y,z]
def Qi(x y z u:PV):PV:=.tup [x,y,z,u]
@[simp] theorem ay7 {x y : PV} : aR (iy x y) ↔ aR x /\ aR y := by simp [iy]
@[simp] theorem ax9 {x y z : PV} : aR (kr x y z) ↔ aR x /\ aR y /\ aR z := by simp [kr]
@[simp] theorem ay9 {x y z u : PV} : aR (Qi x y z u) ↔ aR x /\ aR y /\ aR z /\ aR u := by simp [Qi]
end Go.Proofs.YtjcminooghmpeaaGreatDoor
namespace Go.Proofs.YtjcminooghmpeaaGreatDoor
def aq:List Str:=[[40,101,120,105,116,41],[40,108,105,116,41],[40,98,114,97,110,99,104,41],[40,48,98,114,97,110,99,104,41],[40,100,111,41],[40,63,100,111,41],[40,108,111,111,112,41],[40,43,108,111,111,112,41],[40,104,97,108,116,41],[40,99,97,117,103,104,116,41],[40,100,111,101,115,41],[40,115,116,114,41],[69,88,69,67,85,84,69],[67,65,84,67,72],[84,72,82,79,87],[73],[74],[85,78,76,79,79,80],[62,82],[82,62],[82,64],[50,62,82],[50,82,62],[68,85,80],[68,82,79,80],[83,87,65,80],[79,86,69,82],[82,79,84],[45,82,79,84],[78,73,80],[84,85,67,75],[63,68,85,80],[50,68,85,80],[50,68,82,79,80],[50,83,87,65,80],[50,79,86,69,82],[80,73,67,75],[82,79,76,76],[68,69,80,84,72],[43],[45],[42],[47],[77,79,68],[65,78,68],[79,82],[88,79,82],[76,83,72,73,70,84],[82,83,72,73,70,84],[77,73,78],[77,65,88],[61],[60,62],[60],[62],[60,61],[62,61],[85,60],[85,62],[78,69,71,65,84,69],[65,66,83],[73,78,86,69,82,84],[49,43],[49,45],[50,42],[50,47],[48,61],[48,60],[48,60,62],[48,62],[67,69,76,76,83],[67,69,76,76,43],[65,76,73,71,78,69,68],[47,77,79,68],[42,47],[42,47,77,79,68],[85,77,42],[85,77,47,77,79,68],[77,42],[83,77,47,82,69,77],[70,77,47,77,79,68],[83,62,68],[87,73,84,72,73,78],[64],[33],[43,33],[67,64],[67,33],[50,64],[50,33],[70,73,76,76],[77,79,86,69],[67,79,85,78,84],[72,69,82,69],[65,76,76,79,84],[44],[67,44],[65,76,73,71,78],[66,65,83,69],[83,84,65,84,69],[84,82,85,69],[70,65,76,83,69],[66,76],[68,69,67,73,77,65,76],[72,69,88],[69,77,73,84],[67,82],[83,80,65,67,69],[83,80,65,67,69,83],[84,89,80,69],[46],[85,46],[60,35],[35],[35,83],[72,79,76,68],[83,73,71,78],[35,62],[62,66,79,68,89],[65,66,79,82,84],[80,79,83,84],[65,70,84,69,82],[69,86,69,82,89],[67,65,78,67,69,76],[65,82,71],[83,69,76,70],[78,79,87],[83,69,84,45,83,84,65,84,69],[65,84,45,83,84,65,84,69],[71,69,84,45,83,84,65,84,69]]
def bJ:List Str:=[[58],[59],[67,82,69,65,84,69],[68,79,69,83,62],[86,65,82,73,65,66,76,69],[67,79,78,83,84,65,78,84],[73,77,77,69,68,73,65,84,69],[39],[91,39,93],[67,72,65,82],[91,67,72,65,82,93],[76,73,84,69,82,65,76],[80,79,83,84,80,79,78,69],[82,69,67,85,82,83,69],[73,70],[69,76,83,69],[84,72,69,78],[66,69,71,73,78],[87,72,73,76,69],[82,69,80,69,65,84],[85,78,84,73,76],[65,71,65,73,78],[68,79],[63,68,79],[76,79,79,80],[43,76,79,79,80],[76,69,65,86,69],[83,34],[46,34],[40],[92],[91],[93],[70,79,82,71,69,84],[77,65,67,72,73,78,69],[79,78,58],[69,88,73,84]]
def lS:aq.length=130:=by decide +kernel
def iF:bJ.length=37:=by decide +kernel
end Go.Proofs.YtjcminooghmpeaaGreatDoor
