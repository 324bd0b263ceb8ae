import Derived.ArgAppend
import Derived.Test.YtjcminooghmpeaaGreatDoorPk5
set_option linter.all false
set_option maxRecDepth 100000
set_option maxHeartbeats 40000000
open Go.Proofs.Tryz
namespace Go.Proofs.YtjcminooghmpeaaGreatDoor
open Go.RowKit
namespace V3
section
variable {P : Program} {B : Nat -> Nat -> Prop} {n : Nat} {md : Region.Mode} {ops : Array Oper} {cl : Nat -> Nat}
def uo(P:Program)(B:Nat->Nat->Prop)(ops:Array Oper)(o:Oper)(T:Nat->PV)(H:List Ob)(x:PV)(H':List Ob):Prop :=
 (ar ops T o=some true/\(bK P B o T H x H'\/js P B o T H x H'))\/(ar ops T o=some false/\x=.val undef/\H'=H)
def lQ(P:Program)(B:Nat->Nat->Prop)(ops:Array Oper)(c:Nat)(o:Oper)(T:Nat->PV)(H:List Ob)(x:PV)(H':List Ob):Prop :=
 match c with
 | 0=>H'=H/\∀H2,uo P B ops o T H2 x H2
 | 1=>H'=H/\∀E,uo P B ops o T (H++E) x (H++E)
 | 2=>∃E,H'=H++E
 | 3=>True
 | c+4=>match Nat.beq (c%2) 0 with
  | true=>H'=H/\c/2<H.length/\∀H2:List Ob,H2[c/2]?=H[c/2]?->uo P B ops o T H2 x H2
  | false=>∃ob E,H'=H.set (c/2) ob++E
def AN(c:Nat):Bool:=Nat.ble 4 c&&Nat.beq (c%2) 0
def Dc(c:Nat):Bool:=Nat.ble 4 c&&Nat.beq (c%2) 1
def ml(c:Nat):Nat:=(c-4)/2
def tL(a b:Nat):Bool:=Nat.beq a 0||Nat.beq b 0||(Nat.beq a 1&&Nat.ble b 2)||(AN a&&(Nat.ble b 2||AN b||(Dc b&&!Nat.beq (ml a) (ml b))))
def uo.congr{o:Oper}{T T':Nat->PV}{H H':List Ob}{x:PV}(h:∀t∈o.looksAt ops,T' t=T t)(y:uo P B ops o T H x H'):uo P B ops o T' H x H':=by
 have hw:ar ops T' o=ar ops T o:=by
  unfold ar
  cases hg:o.guard with
  | none=>rfl
  | some q =>
   obtain⟨g,b⟩:=q
   simp only
   cases hd:(ops[g]?).bind (·.dst)with
   | none=>rfl
   | some d=>simp only;rw[h d (oP hg hd)]
 have ho:∀z∈o.op.operands.toList,opv T' z=opv T z:=fun z hz=>tR fun t ht=>h t (v8 (by rw[<-ht];exact hz))
 rcases y with ⟨h1,h2|h2⟩|⟨h1,h2⟩
 ·exact .inl ⟨by rw[hw];exact h1,.inl fun σ w a s k=>h2 σ w a s (fun z hz=>by rw[<-ho z hz];exact k z hz)⟩
 ·exact .inl ⟨by rw[hw];exact h1,.inr fun σ w a s k=>h2 σ w a s (fun z hz=>by rw[<-ho z hz];exact k z hz)⟩
 exact .inr ⟨by rw[hw];exact h1,h2⟩
def lQ.congr{c:Nat}{o:Oper}{T T':Nat->PV}{H H':List Ob}{x:PV}(h:∀t∈o.looksAt ops,T' t=T t)(y:lQ P B ops c o T H x H'):lQ P B ops c o T' H x H':=by
 match c,y with
 | 0,y=>exact⟨y.1,fun H2=>(y.2 H2).congr h⟩
 | 1,y=>exact⟨y.1,fun E=>(y.2 E).congr h⟩
 | 2,y=>exact y
 | 3,_=>trivial
 | c+4,y =>
  simp only[lQ]at y ⊢
  split at y
  ·exact⟨y.1,y.2.1,fun H2 h2=>(y.2.2 H2 h2).congr h⟩
  exact y
def lQ.rd{c:Nat}{o:Oper}{T:Nat->PV}{H H':List Ob}{x:PV}(hc:AN c=true)(f:lQ P B ops c o T H x H'):H'=H/\ml c<H.length/\∀H2:List Ob,H2[ml c]?=H[ml c]?->uo P B ops o T H2 x H2:=by
 simp only[AN,Bool.and_eq_true,Nat.ble_eq,Nat.beq_eq]at hc
 obtain⟨d,rfl⟩:∃d,c=d+4:=⟨c-4,by omega⟩
 have hd:Nat.beq (d%2) 0=true:=by rw[Nat.beq_eq];omega
 simp only[lQ,hd]at f
 exact f
def lQ.of_rd{c:Nat}{o:Oper}{T:Nat->PV}{H H':List Ob}{x:PV}(hc:AN c=true)(f:H'=H/\ml c<H.length/\∀H2:List Ob,H2[ml c]?=H[ml c]?->uo P B ops o T H2 x H2):lQ P B ops c o T H x H':=by
 simp only[AN,Bool.and_eq_true,Nat.ble_eq,Nat.beq_eq]at hc
 obtain⟨d,rfl⟩:∃d,c=d+4:=⟨c-4,by omega⟩
 have hd:Nat.beq (d%2) 0=true:=by rw[Nat.beq_eq];omega
 simp only[lQ,hd]
 exact f
def lQ.wr{c:Nat}{o:Oper}{T:Nat->PV}{H H':List Ob}{x:PV}(hc:Dc c=true)(f:lQ P B ops c o T H x H'):∃ob E,H'=H.set (ml c) ob++E:=by
 simp only[Dc,Bool.and_eq_true,Nat.ble_eq,Nat.beq_eq]at hc
 obtain⟨d,rfl⟩:∃d,c=d+4:=⟨c-4,by omega⟩
 have hd:Nat.beq (d%2) 0=false:=by rw[<-Bool.not_eq_true,Nat.beq_eq];omega
 simp only[lQ,hd]at f
 exact f
def lQ.of_wr{c:Nat}{o:Oper}{T:Nat->PV}{H H':List Ob}{x:PV}(hc:Dc c=true)(f:∃ob E,H'=H.set (ml c) ob++E):lQ P B ops c o T H x H':=by
 simp only[Dc,Bool.and_eq_true,Nat.ble_eq,Nat.beq_eq]at hc
 obtain⟨d,rfl⟩:∃d,c=d+4:=⟨c-4,by omega⟩
 have hd:Nat.beq (d%2) 0=false:=by rw[<-Bool.not_eq_true,Nat.beq_eq];omega
 simp only[lQ,hd]
 exact f
def Rq(P:Program)(B:Nat->Nat->Prop)(ops:Array Oper)(cl:Nat->Nat)(i:Nat)(K:(Nat->PV)->List Ob->Prop)(T:Nat->PV)(H:List Ob):Prop :=
 match ops[i]? with
 | none=>K T H
 | some o=>∃x H',uo P B ops o T H x H'/\lQ P B ops (cl i) o T H x H'/\K (bM o.dst x T) H'
def vo(P:Program)(B:Nat->Nat->Prop)(md:Region.Mode)(ops:Array Oper)(cl:Nat->Nat)(Q:(Nat->PV)->List Ob->Prop):Nat->Array Bool->(Nat->PV)->List Ob->Prop
 | 0,listed,T,H=>Region.ready md ops listed=[]/\Q T H
 | fuel+1,listed,T,H=>(Region.ready md ops listed=[]->Q T H)/\∀i∈Region.ready md ops listed,Rq P B ops cl i (vo P B md ops cl Q fuel (listed.setIfInBounds i true)) T H
def kM(hall:gG n ops=true){Q':Exit->Act->World->Prop}{Q:(Nat->PV)->List Ob->Prop}{H0:List Ob}{σ0:Nat->Option Nat}{w0:World}(hQ:∀T H σ w a,lY B n T H σ w a->dR B H0 σ0 w0 H σ w->Q T H->Q' .normal a w):
  ∀(fuel:Nat) (listed:Array Bool) (T:Nat->PV) (H:List Ob) (σ:Nat->Option Nat) (w:World) (a:Act),lY B n T H σ w a->dR B H0 σ0 w0 H σ w->vo P B md ops cl Q fuel listed T H->wpAny P md ops Q' fuel listed a w
 | 0,_,_,_,_,_,_,g,st,h=>⟨h.1,hQ _ _ _ _ _ g st h.2⟩
 | fuel+1,listed,T,H,σ,w,a,g,st,h=>by
  refine⟨fun h0=>hQ _ _ _ _ _ g st (h.1 h0),fun i hi=>?_⟩
  have h1:=h.2 i hi
  unfold Rq at h1
  unfold wpOp
  cases ho:ops[i]? with
  | none=>simp only[ho]at h1 ⊢;exact kM hall hQ fuel _ T H σ w a g st h1
  | some o =>
   simp only[ho]at h1 ⊢
   obtain⟨x,H',hy,_,hk⟩:=h1
   have hd:∀j,o.dst=some j->Nat.blt j n=true:=fun j hj=>fV hall i j (by rw[ho];exact hj)
   have hgd:∀q,ar ops T o=some q->Region.wanted o (yielded ops a.tmps)=q:=fun q hq=>oe (fV hall) g hq
   rcases hy with ⟨hw,hdo|hdo⟩|⟨hw,rfl,rfl⟩
   ·rw[if_pos (hgd true hw)]
    refine .inl ?_
    obtain⟨v,w',σ',h2,h3,h4,h5⟩:=hdo σ w a g.sim (fun y _=>mb g.rep y)
    have k:=kM hall hQ fuel _ _ _ σ' w' _ (ik hd g h3 h4 h5) (st.trans h5) hk
    unfold Oper.wp
    rcases h2 with h2|⟨h2,rfl⟩
    ·rw[h2];exact k
    rw[h2];exact k
   ·rw[if_pos (hgd true hw)]
    refine .inl ?_
    obtain⟨f,args,h2,hc⟩:=hdo σ w a g.sim (fun y _=>mb g.rep y)
    unfold Oper.wp
    rw[h2]
    refine Calls.mono hc ?_
    rintro e w' ⟨v,σ',rfl,h3,h4,h5⟩
    exact kM hall hQ fuel _ _ _ σ' w' _ (ik hd g h3 h4 h5) (st.trans h5) hk
   rw[if_neg (by rw[hgd false hw];simp)]
   exact kM hall hQ fuel _ _ _ σ w _ (ik hd g (aq _ _) g.sim (dR.refl _ _ _ _)) st hk
def V8{ci cj:Nat}{oi oj:Oper}{T:Nat->PV}{H Hi Hj:List Ob}{x y:PV}(hc:tL ci cj=true)(h1:∀t∈oj.looksAt ops,bM oi.dst x T t=T t)(h2:∀t∈oi.looksAt ops,bM oj.dst y T t=T t)
  (yi:uo P B ops oi T H x Hi) (fi:lQ P B ops ci oi T H x Hi) (yj:uo P B ops oj (bM oi.dst x T) Hi y Hj) (fj:lQ P B ops cj oj (bM oi.dst x T) Hi y Hj) :
  ∃H',uo P B ops oj T H y H'/\lQ P B ops cj oj T H y H'/\uo P B ops oi (bM oj.dst y T) H' x Hj/\lQ P B ops ci oi (bM oj.dst y T) H' x Hj:=by
 have b1:∀t∈oj.looksAt ops,T t=bM oi.dst x T t:=fun t ht=>(h1 t ht).symm
 have yj':=yj.congr b1
 have fj':=fj.congr b1
 simp only[tL,Bool.or_eq_true,Bool.and_eq_true,Nat.beq_eq,Nat.ble_eq]at hc
 rcases hc with ((rfl|rfl)|⟨rfl,hj⟩)|⟨hr,hj⟩
 ·obtain⟨rfl,hl⟩:=fi
  exact⟨Hj,yj',fj',(hl Hj).congr h2,rfl,fun H2=>(hl H2).congr h2⟩
 ·obtain⟨rfl,hl⟩:=fj'
  exact⟨H,hl H,⟨rfl,hl⟩,yi.congr h2,fi.congr h2⟩
 ·obtain⟨rfl,hl⟩:=fi
  have:∃E,Hj=Hi++E:=by
   match cj,hj,fj' with
   | 0,_,fj'=>exact⟨[],by rw[fj'.1];simp⟩
   | 1,_,fj'=>exact⟨[],by rw[fj'.1];simp⟩
   | 2,_,fj'=>exact fj'
   | c+3,hj,_=>omega
  obtain⟨E,rfl⟩:=this
  exact⟨Hi++E,yj',fj',(hl E).congr h2,rfl,fun E2=>by rw[List.append_assoc];exact(hl (E++E2)).congr h2⟩
 obtain⟨rfl,hlt,hl⟩:=fi.rd hr
 have key:Hj[ml ci]?=Hi[ml ci]?/\ml ci<Hj.length:=by
  rcases hj with (hj|hj)|⟨hj,hne⟩
  ·have:∃E,Hj=Hi++E:=by
    match cj,hj,fj' with
    | 0,_,fj'=>exact⟨[],by rw[fj'.1];simp⟩
    | 1,_,fj'=>exact⟨[],by rw[fj'.1];simp⟩
    | 2,_,fj'=>exact fj'
    | c+3,hj,_=>omega
   obtain⟨E,rfl⟩:=this
   exact⟨List.getElem?_append_left hlt,by simp;omega⟩
  ·obtain⟨rfl,_⟩:=fj'.rd hj
   exact⟨rfl,hlt⟩
  obtain⟨ob,E,rfl⟩:=fj'.wr hj
  refine⟨?_,by simp;omega⟩
  rw[List.getElem?_append_left (by simpa using hlt)]
  refine List.getElem?_set_ne ?_
  intro h;rw[h]at hne;simp at hne
 exact⟨Hj,yj',fj',(hl Hj key.1).congr h2,lQ.of_rd hr ⟨rfl,key.2,fun H2 h3=>(hl H2 (h3.trans key.1)).congr h2⟩⟩
def fS(P:Program)(B:Nat->Nat->Prop)(n:Nat)(ops:Array Oper)(cl:Nat->Nat):List Nat->(Nat->PV)->List Ob->((Nat->PV)->List Ob->Prop)->Prop
 | [],T,H,K=>K T H
 | i::l,T,H,K=>∃o,ops[i]?=some o/\∃x H',uo P B ops o T H x H'/\lQ P B ops (cl i) o T H x H'/\fS P B n ops cl l (bM o.dst x T) H' K
def Rx(l:List Nat)(i:Nat):Nat:=l.getD i 3
variable {T : Nat -> PV} {H : List Ob} {Q : Exit -> (Nat -> PV) -> List Ob -> Prop}
variable {o : Oper} {l : List Nat} {i : Nat} {K : (Nat -> PV) -> List Ob -> Prop} {x : PV} {H' : List Ob} {G : List (Nat × TD)} {p : Prop} {d : Option Tmp}
def br(h:K T H):fS P B n ops cl [] T H K:=h
def ka(h0:ops[i]?=some o)(hc:cl i=0)(hd:nfD n o.dst=some d)(hw:ar ops T o=some true)(h:∀H2,bK P B o T H2 x H2)(k:fS P B n ops cl l (bM d x T) H K):fS P B n ops cl (i::l) T H K :=
 ⟨o,h0,x,H,.inl ⟨hw,.inl (h H)⟩,by rw[hc];exact⟨rfl,fun H2=>.inl ⟨hw,.inl (h H2)⟩⟩,(cU hd).1▸k⟩
def cR(h0:ops[i]?=some o)(hc:cl i=0)(hd:nfD n o.dst=some d)(hw:ar ops T o=some true)(h:∀H2,js P B o T H2 x H2)(k:fS P B n ops cl l (bM d x T) H K):fS P B n ops cl (i::l) T H K :=
 ⟨o,h0,x,H,.inl ⟨hw,.inr (h H)⟩,by rw[hc];exact⟨rfl,fun H2=>.inl ⟨hw,.inr (h H2)⟩⟩,(cU hd).1▸k⟩
def Hq(hG:dt P G=true)(h0:ops[i]?=some o)(hc:cl i=0)(hd:nfD n o.dst=some d)(hw:ar ops T o=some true)(h:∀H2,evS G T H2 o.type o.op=some (x,H2,p))(hp:p)(k:fS P B n ops cl l (bM d x T) H K):fS P B n ops cl (i::l) T H K :=
 ka h0 hc hd hw (fun H2=>eH hG rfl (mT (h H2)) hp) k
def uc{y:PV}(hG:dt P G=true)(h0:ops[i]?=some o)(hc:cl i=0)(hd:nfD n o.dst=some d)(hw:ar ops T o=some true)(h:∀H2,evS G T H2 o.type o.op=some (x,H2,p))(hp:p)(hi:Imp x y)(k:fS P B n ops cl l (bM d y T) H K):fS P B n ops cl (i::l) T H K :=
 ka h0 hc hd hw (fun H2=>(eH hG rfl (mT (h H2)) hp).imp hi) k
def OG(h0:ops[i]?=some o)(hc:Nat.ble (cl i) 3=true)(hd:nfD n o.dst=some d)(hw:ar ops T o=some false)(k:fS P B n ops cl l (bM d (.val undef) T) H K):fS P B n ops cl (i::l) T H K:=by
 refine⟨o,h0,_,H,.inr ⟨hw,rfl,rfl⟩,?_,(cU hd).1▸k⟩
 generalize cl i=q at hc
 match q,hc with
 | 0,_=>exact⟨rfl,fun H2=>.inr ⟨hw,rfl,rfl⟩⟩
 | 1,_=>exact⟨rfl,fun E=>.inr ⟨hw,rfl,rfl⟩⟩
 | 2,_=>exact⟨[],by simp⟩
 | 3,_=>trivial
 | c+4,hc=>rw[Nat.ble_eq]at hc;omega
def T7(hG:dt P G=true)(h0:ops[i]?=some o)(hc:cl i=1)(hd:nfD n o.dst=some d)(hw:ar ops T o=some true)(h:∀E,evS G T (H++E) o.type o.op=some (x,H++E,p))(hp:p)(k:fS P B n ops cl l (bM d x T) H K):fS P B n ops cl (i::l) T H K :=
 ⟨o,h0,x,H,.inl ⟨hw,.inl (by have:=eH (P:=P) (B:=B) (o:=o) hG rfl (mT (h [])) hp;rwa [List.append_nil]at this)⟩,by rw[hc];exact⟨rfl,fun E=>.inl ⟨hw,.inl (eH hG rfl (mT (h E)) hp)⟩⟩,(cU hd).1▸k⟩
def sV{E:List Ob}(hG:dt P G=true)(h0:ops[i]?=some o)(hc:cl i=2)(hd:nfD n o.dst=some d)(hw:ar ops T o=some true)(h:evN G T H o.type o.op=some (x,H',p))(hp:p)(hH:H'=H++E)(k:fS P B n ops cl l (bM d x T) H' K):fS P B n ops cl (i::l) T H K :=
 ⟨o,h0,x,H',.inl ⟨hw,.inl (eH hG rfl (pj h) hp)⟩,by rw[hc];exact⟨E,hH⟩,(cU hd).1▸k⟩
def oL(hG:dt P G=true)(h0:ops[i]?=some o)(hc:cl i=3)(hd:nfD n o.dst=some d)(hw:ar ops T o=some true)(h:evN G T H o.type o.op=some (x,H',p))(hp:p)(k:fS P B n ops cl l (bM d x T) H' K):fS P B n ops cl (i::l) T H K :=
 ⟨o,h0,x,H',.inl ⟨hw,.inl (eH hG rfl (pj h) hp)⟩,by rw[hc];trivial,(cU hd).1▸k⟩
def AX(h0:ops[i]?=some o)(hc:cl i=3)(hd:nfD n o.dst=some d)(hw:ar ops T o=some true)(h:bK P B o T H x H')(k:fS P B n ops cl l (bM d x T) H' K):fS P B n ops cl (i::l) T H K :=
 ⟨o,h0,x,H',.inl ⟨hw,.inl h⟩,by rw[hc];trivial,(cU hd).1▸k⟩
def uQ(d:Nat){b:Bool}(hT:T d=.val (.bool b))(h1:b=true->fS P B n ops cl l (upd d (.val (.bool true)) T) H K)(h2:b=false->fS P B n ops cl l (upd d (.val (.bool false)) T) H K):fS P B n ops cl l T H K:=by
 have e:∀q,b=q->upd d (.val (.bool q)) T=T:=by
  rintro q rfl
  funext i
  by_cases hi:i=d
  ·subst hi;rw[dT,hT]
  rw[cJ _ _ _ _ hi]
 cases hb:b with
 | true=>have:=h1 hb;rwa [e true hb]at this
 | false=>have:=h2 hb;rwa [e false hb]at this
def OH(d:Nat){b:Bool}(hT:T d=.val (.bool b))(hb:b=true)(h1:fS P B n ops cl l (upd d (.val (.bool true)) T) H K):fS P B n ops cl l T H K :=
 uQ d hT (fun _=>h1) (fun h=>by rw[hb]at h;cases h)
def K3(d:Nat){b:Bool}(hT:T d=.val (.bool b))(hb:b=false)(h1:fS P B n ops cl l (upd d (.val (.bool false)) T) H K):fS P B n ops cl l T H K :=
 uQ d hT (fun h=>by rw[hb]at h;cases h) (fun _=>h1)
def jD(d:Nat){x y:PV}(hT:T d=x)(hxy:x=y)(h1:fS P B n ops cl l (upd d y T) H K):fS P B n ops cl l T H K:=by
 have e:upd d y T=T:=by
  funext i
  by_cases hi:i=d
  ·subst hi;rw[dT,hT,hxy]
  rw[cJ _ _ _ _ hi]
 rwa [e]at h1
def Ly{H':List Ob}(hH:H'=H)(h1:fS P B n ops cl l T H' K):fS P B n ops cl l T H K:=by subst hH;exact h1
def DR(b:Nat){ob:Ob}(h0:ops[i]?=some o)(hc:cl i=4+2*b)(hd:nfD n o.dst=some d)(hw:ar ops T o=some true)(hb:H[b]?=some ob)(h:∀H2:List Ob,H2[b]?=some ob->bK P B o T H2 x H2)(k:fS P B n ops cl l (bM d x T) H K):fS P B n ops cl (i::l) T H K:=by
 have hk:ml (4+2*b)=b:=by unfold ml;omega
 exact⟨o,h0,x,H,.inl ⟨hw,.inl (h H hb)⟩,by rw[hc];exact lQ.of_rd (by simp only[AN,Bool.and_eq_true,Nat.ble_eq,Nat.beq_eq];omega) ⟨rfl,by rw[hk];exact cX hb,fun H2 h2=>.inl ⟨hw,.inl (h H2 (by rw[hk,hb]at h2;exact h2))⟩⟩,(cU hd).1▸k⟩
def bV(b:Nat){ob:Ob}(hG:dt P G=true)(h0:ops[i]?=some o)(hc:cl i=5+2*b)(hd:nfD n o.dst=some d)(hw:ar ops T o=some true)(h:evN G T H o.type o.op=some (x,H',p))(hp:p)(hH:H'=H.set b ob)(k:fS P B n ops cl l (bM d x T) H' K):fS P B n ops cl (i::l) T H K:=by
 have hk:ml (5+2*b)=b:=by unfold ml;omega
 exact⟨o,h0,x,H',.inl ⟨hw,.inl (eH hG rfl (pj h) hp)⟩,by rw[hc];exact lQ.of_wr (by simp only[Dc,Bool.and_eq_true,Nat.ble_eq,Nat.beq_eq];omega) ⟨ob,[],by rw[hk,List.append_nil];exact hH⟩,(cU hd).1▸k⟩
def gy{E:List Ob}(h0:ops[i]?=some o)(hc:cl i=2)(hd:nfD n o.dst=some d)(hw:ar ops T o=some true)(h:js P B o T H x (H++E))(k:fS P B n ops cl l (bM d x T) (H++E) K):fS P B n ops cl (i::l) T H K :=
 ⟨o,h0,x,H++E,.inl ⟨hw,.inr h⟩,by rw[hc];exact⟨E,rfl⟩,(cU hd).1▸k⟩
end
section
variable {B : Nat -> Nat -> Prop} {n : Nat} {all ops : Array Oper} {cl : Nat -> Nat} {i : Nat} {li : List Nat} {T : Nat -> PV} {H H' : List Ob} {K : (Nat -> PV) -> List Ob -> Prop} {Q : Exit -> (Nat -> PV) -> List Ob -> Prop} {l : List Oper} {o : Oper} {x : PV} {d : Option Tmp} {p : Prop}
def aP(k:fS prog B n ops cl li (bM d x T) H K)(h0:ops[i]?=some o:=by exact rfl)(hc:cl i=0:=by exact rfl)(hd:nfD n o.dst=some d:=by exact rfl)(hw:ar ops T o=some true:=by exact rfl)(h:∀H2,evS tys T H2 o.type o.op=some (x,H2,True):=by exact fun _=>rfl):fS prog B n ops cl (i::li) T H K :=
 Hq tG h0 hc hd hw h trivial k
def Vh(k:fS prog B n ops cl li (bM d x T) H K)(h0:ops[i]?=some o:=by exact rfl)(hc:cl i=0:=by exact rfl)(hd:nfD n o.dst=some d:=by exact rfl)(hw:ar ops T o=some true:=by exact rfl)(h:∀H2,evS tys T H2 o.type o.op=some (x,H2,p):=by exact fun _=>rfl)(q:p):fS prog B n ops cl (i::li) T H K :=
 Hq tG h0 hc hd hw h q k
def i4(k:fS prog B n ops cl li (bM d x T) H K)(h0:ops[i]?=some o:=by exact rfl)(hc:cl i=1:=by exact rfl)(hd:nfD n o.dst=some d:=by exact rfl)(hw:ar ops T o=some true:=by exact rfl)(h:∀E,evS tys T (H++E) o.type o.op=some (x,H++E,True):=by exact fun _=>rfl):fS prog B n ops cl (i::li) T H K :=
 T7 tG h0 hc hd hw h trivial k
def aA4(k:fS prog B n ops cl li (bM d (.val undef) T) H K)(h0:ops[i]?=some o:=by exact rfl)(hc:Nat.ble (cl i) 3=true:=by exact rfl)(hd:nfD n o.dst=some d:=by exact rfl)(hw:ar ops T o=some false:=by exact rfl):fS prog B n ops cl (i::li) T H K :=
 OG h0 hc hd hw k
def zU{t:TypeId}{td:TD}{y:Operand}{off:Nat}{xs:List PV}{e:TypeId}(b:Nat)(k:fS prog B n ops cl li (bM d x T) H K)(h0:ops[i]?=some o:=by exact rfl)(hc:cl i=4+2*b:=by exact rfl)(hd:nfD n o.dst=some d:=by exact rfl)(hw:ar ops T o=some true:=by exact rfl)(ho:o.op=.load t y:=by exact rfl)(hx:opv T y=.ptr b off:=by exact rfl)(hb:H[b]?=some (.cells xs e):=by exact rfl)(hf:ll tys t=some td:=by exact rfl)(hr:kU td xs off=some x:=by exact rfl):fS prog B n ops cl (i::li) T H K :=
 DR b h0 hc hd hw hb (fun _ h2=>bD (lO tG hf) ho hx h2 hr) k
end
section
variable {P : Program} {B : Nat -> Nat -> Prop} {n : Nat} {ops : Array Oper} {cl : Nat -> Nat} {md : Region.Mode}
def BZ{Q:(Nat->PV)->List Ob->Prop}{i:Nat}{oi:Oper}{x:PV}(hi:ops[i]?=some oi)(D:List Nat)(hDi:i∈D)(hD:∀j∈D,j≠i->∃oj e,ops[j]?=some oj/\e∈oj.after/\Region.binds md e=true/\e.on∈D):∀(fuel:Nat) (listed:Array Bool) (T:Nat->PV) (H Hi:List Ob),
  (∀j∈D,listed.getD j true=false) ->
  (∀j oj,ops[j]?=some oj->j∉D->listed.getD j true=false->oi.apart ops oj=true/\tL (cl i) (cl j)=true) ->
  i∈Region.ready md ops listed->uo P B ops oi T H x Hi->lQ P B ops (cl i) oi T H x Hi->vo P B md ops cl Q fuel (listed.setIfInBounds i true) (bM oi.dst x T) Hi->vo P B md ops cl Q (fuel+1) listed T H:=by
 intro fuel
 have self:∀(fuel:Nat) (listed:Array Bool) (T:Nat->PV) (H Hi:List Ob),uo P B ops oi T H x Hi->lQ P B ops (cl i) oi T H x Hi->vo P B md ops cl Q fuel (listed.setIfInBounds i true) (bM oi.dst x T) Hi->Rq P B ops cl i (vo P B md ops cl Q fuel (listed.setIfInBounds i true)) T H:=by
  intro fuel listed T H Hi hy hf h
  unfold Rq
  simp only[hi]
  exact⟨x,Hi,hy,hf,h⟩
 induction fuel with
 | zero =>
  intro listed T H Hi _ _ hr hy hf h
  refine⟨fun h0=>(by rw[h0]at hr;cases hr),fun j hj=>?_⟩
  by_cases hji:j=i
  ·subst hji;exact self 0 listed T H Hi hy hf h
  have:=ready_mono hj hji
  rw[h.1]at this
  cases this
 | succ fuel ih =>
  intro listed T H Hi hun0 hfree hr hy hf h
  refine⟨fun h0=>(by rw[h0]at hr;cases hr),fun j hj=>?_⟩
  by_cases hji:j=i
  ·subst hji;exact self (fuel+1) listed T H Hi hy hf h
  have h1:=h.2 j (ready_mono hj hji)
  obtain⟨hjun,oj,hoj,hall⟩:=mem_ready.1 hj
  have hnot:j∉D:=fun hjD=>by
   obtain⟨oj2,e,k1,k2,k3,k4⟩:=hD j hjD hji
   rw[hoj]at k1
   obtain rfl:=Option.some.inj k1
   have a1:=hall e k2 k3
   have a0:=hun0 e.on k4
   rcases Nat.lt_or_ge e.on listed.size with h'|h'
   ·simp[h']at a0 a1;rw[a0]at a1;cases a1
   simp[Array.getElem?_eq_none h']at a1
  obtain⟨hap,hcp⟩:=hfree j oj hoj hnot hjun
  obtain⟨l1,l2,l3⟩:=sx hap
  unfold Rq at h1 ⊢
  simp only[hoj]at h1 ⊢
  obtain⟨y,Hj,hyj,hfj,hk⟩:=h1
  obtain⟨H',k1,k2,k3,k4⟩:=V8 hcp (fun t ht=>nQ (l1 t ht)) (fun t ht=>nQ (l2 t ht)) hy hf hyj hfj
  refine⟨y,H',k1,k2,ih (listed.setIfInBounds j true) _ H' Hj (fun k hk=>?_) (fun k ok hk hki hun=>?_) (ready_mono hr (Ne.symm hji)) k3 k4 ?_⟩
  ·rw[getD_set_ne true (by rintro rfl;exact hnot hk)];exact hun0 k hk
  ·refine hfree k ok hk hki ?_
   by_cases hjk:j=k
   ·subst hjk;exact hjun
   rw[getD_set_ne true hjk]at hun;exact hun
  rw[Array.setIfInBounds_comm _ _ hji,xi _ _ _ l3]
  exact hk
def Ea(md:Region.Mode)(ops:Array Oper):Nat->List Nat->List Nat
 | 0,D=>D
 | k+1,D=>Ea md ops k (D++((ops.toList.zipIdx.filter fun q=>!D.contains q.2&&(q.1.after.any fun e=>Region.binds md e&&D.contains e.on)).map (·.2)))
def Mt(md:Region.Mode)(ops:Array Oper)(cl:Nat->Nat)(listed:Array Bool)(i:Nat)(oi:Oper)(D:List Nat):Bool :=
 D.contains i&&(D.all fun j=>Nat.beq j i||(match ops[j]? with|some oj=>oj.after.any fun e=>Region.binds md e&&D.contains e.on|none=>false))&&(D.all fun j=>!listed.getD j true) &&
  ops.toList.zipIdx.all fun q=>D.contains q.2||listed.getD q.2 true||(oi.apart ops q.1&&tL (cl i) (cl q.2))
def Bt(md:Region.Mode)(ops:Array Oper)(cl:Nat->Nat):List Nat->Array Bool->Bool
 | [],listed=>(Region.ready md ops listed).isEmpty
 | i::l,listed=>(Region.ready md ops listed).contains i&&(match ops[i]? with|some oi=>Mt md ops cl listed i oi (Ea md ops 6 [i])|none=>false)&&Bt md ops cl l (listed.setIfInBounds i true)
def xU{Q:(Nat->PV)->List Ob->Prop}:∀(l:List Nat) (listed:Array Bool) (T:Nat->PV) (H:List Ob),Bt md ops cl l listed=true->fS P B n ops cl l T H Q->vo P B md ops cl Q l.length listed T H
 | [],listed,T,H,hB,h=>⟨by simpa[Bt]using hB,h⟩
 | i::l,listed,T,H,hB,h=>by
  simp only[Bt,Bool.and_eq_true]at hB
  obtain⟨⟨hr,hf⟩,hB'⟩:=hB
  obtain⟨o,ho,x,H',hy,hfu,hK⟩:=h
  rw[ho]at hf
  simp only[Mt,Bool.and_eq_true]at hf
  obtain⟨⟨⟨f1,f2⟩,f3⟩,f4⟩:=hf
  refine BZ ho (Ea md ops 6 [i]) (by simpa using f1) (fun j hj hji=>?_) l.length listed T H H' (fun j hj=>?_) (fun j oj hj hjD hun=>?_) (by simpa using hr) hy hfu (xU l _ _ _ hB' hK)
  ·have:=List.all_eq_true.1 f2 j hj
   rw[Bool.or_eq_true,Nat.beq_eq]at this
   rcases this with h|h
   ·exact absurd h hji
   cases hoj:ops[j]? with
   | none=>rw[hoj]at h;cases h
   | some oj =>
    rw[hoj]at h
    obtain⟨e,he,h3⟩:=Array.any_eq_true'.1 h
    rw[Bool.and_eq_true]at h3
    exact⟨oj,e,rfl,he,h3.1,by simpa using h3.2⟩
  ·have:=List.all_eq_true.1 f3 j hj
   simpa using this
  have h1:=List.all_eq_true.1 f4 (oj,j) (Eo (by rw[Array.getElem?_toList];exact hj))
  simp only[Bool.or_eq_true,Bool.and_eq_true]at h1
  rcases h1 with (h1|h1)|h1
  ·exact absurd (by simpa using h1) hjD
  ·rw[hun]at h1;cases h1
  exact h1
def LE(md:Region.Mode)(ops:Array Oper)(cl:List Nat)(ord:List Nat):Bool:=Nat.beq ord.length ops.size&&Bt md ops (Rx cl) ord (Array.replicate ops.size false)
variable {T : Nat -> PV} {H : List Ob} {Q : Exit -> (Nat -> PV) -> List Ob -> Prop}
def bb{id:Nat}(cl ord:List Nat)(hm:P.follows .mixedOrders=true)(hall:gG n ops=true)(hB:LE .any ops cl ord=true)(h:fS P B n ops (Rx cl) ord T H (fun T' H'=>Q .normal T' H')):W P B n (.region id ops true) T H Q:=by
 intro σ w a g
 simp only[LE,Bool.and_eq_true,Nat.beq_eq]at hB
 refine wp_region_any hm ?_
 have hd:ba w {w with drawn:=w.drawn+1}:=ba.drew w
 obtain⟨s',st⟩:=gc g.sim hd
 have hA:=xU (P:=P) (B:=B) (n:=n) (md:=.any) ord (Array.replicate ops.size false) T H hB.2 h
 rw[hB.1]at hA
 exact kM (P:=P) (md:=.any) hall (H0:=H) (σ0:=σ) (w0:=w) (Q':=Hd B n H σ w Q) (fun T' H' σ' w' a' g' st' hq=>⟨T',H',σ',hq,g',st'⟩) ops.size _ T H σ _ a ⟨s',fun i=>(g.rep i).mono st.le,g.size,g.defers⟩ st hA
end
end V3
open Go.RowKit
def ui(l:List Str)(s:Str):Nat->Nat->Int
 | 0,_=>-1
 | m+1,k=>if s=l.getD k []then(k:Int)else ui l s m (k+1)
def zt(l:List Str)(s:Str):∀m k,k+m<=1000000->-1<=ui l s m k/\ui l s m k<=1000000
 | 0,k,_=>by unfold ui;omega
 | m+1,k,h=>by
  unfold ui
  split
  ·omega
  exact zt l s m (k+1) (by omega)
def NR{l:List Str}{s:Str}{k:Nat}(hk:k<l.length)(h:¬s=l.getD k []):ui l s (l.length-k) k=ui l s (l.length-(k+1)) (k+1):=by
 rw[show l.length-k=(l.length-(k+1))+1 by omega]
 show(if s=l.getD k []then _ else _)=_
 rw[if_neg h]
def RE{l:List Str}{s:Str}{k:Nat}(hk:k<l.length)(h:s=l.getD k []):ui l s (l.length-k) k=(k:Int):=by
 rw[show l.length-k=(l.length-(k+1))+1 by omega]
 show(if s=l.getD k []then _ else _)=_
 rw[if_pos h]
def tZ(l:List Str)(s:Str)(hl:l.length<=1000000):ab prog 113 [sq gR l,str s] (i64 (ui l s l.length 0)):=by
 refine zY func113 fun B=>?_
 refine zu1 ?_
 refine Ws<|zu3 ?_
 refine Wl ?_
 show W _ _ _ _ _ _ _
 refine gz (fun(k:Nat)=>[(0,sq gR l),(1,str s),(4,i64 0),(7,i64 (l.length:Int)),(8,i64 (k:Int))]) (fun(k:Nat)=>[]) (fun(k:Nat)=>[]) (fun(k:Nat)=>k<=l.length/\ui l s l.length 0=ui l s (l.length-k) k) (fun(k:Nat)=>l.length-k) (0) (by exact⟨Nat.zero_le _,rfl⟩) [] ?_ ?_
 ·exact fM
 intro k hk
 refine zu1 ?_
 refine Ws<|Wi rfl (fun hi1=>?_) (fun hi1=>?_)
 ·have hlt:k<l.length:=by have:=oT hi1;omega
  refine Wj<|Ws<|Wl<|zu2 ?_
  refine zp3 ?_
  refine Wv tG rfl rfl rfl (by omega) (iN gR 1 (fun _=>rfl) [] (by omega)) ?_
  refine zy2 ?_
  refine zq 16 ?_
  refine Wn<|Wi rfl (fun hi2=>?_) (fun hi2=>?_)
  ·have q:s=l.getD k []:=oT hi2
   refine zu2 ?_
   refine zR ?_
   rw[hk.2,RE hlt q];rfl
  have q:¬s=l.getD k []:=oF hi2
  refine Wj<|aa rfl ?_
  refine zs2 ?_
  exact⟨k+1,[],(by exact⟨by omega,hk.2.trans (NR hlt q)⟩),(by omega),fM⟩
 have hge:l.length-k=0:=by have:=oF hi1;omega
 refine bi ?_
 refine zu1 ?_
 refine zR ?_
 rw[hk.2,hge];rfl
def iZ{a k:Str}{ks:List ga}{x:PV}{xs:List PV}{z:PV}:ia (.s a::ks) (x::xs) (.s k) z=if k=a then(x,true)else ia ks xs (.s k) z:=by
 rw[ia]
 by_cases h:k=a
 ·subst h;rw[if_pos rfl,if_pos rfl]
 rw[if_neg (fun e=>h (ga.s.inj e).symm),if_neg h]
def Tt{k:ga}{z:PV}:ia [] [] k z=(z,false):=by unfold ia;rfl
structure VCf where
 kind:Int
 at_:Int
 leaves:List Int
def zCf:VCf:=⟨0,0,[]⟩
def cCf(c:VCf):List PV:=[i64 c.kind,i64 c.at_,sq ap c.leaves]
@[simp] theorem TB (c : VCf) : aw (cCf c) := by simp [cCf]
@[simp] theorem av7 (l : List VCf) : aU (sq cCf l) := gW TB l
structure CW where
 v:VVm
 l:List VCf
 bad:Int
def cCw(w:CW):List PV:=cVm w.v++[sq cCf w.l,i64 w.bad]
@[simp] theorem as7 (w : CW) : aw (cCw w) := by simp [cCw, cVm]
def CW.fail(w:CW)(e:Int):CW:=if w.bad=0 then {w with bad:=e} else w
def cf0{w:CW}{e:Int}(h:w.bad=0):w.fail e={w with bad:=e}:=by unfold CW.fail;rw[if_pos h]
def cf1{w:CW}{e:Int}(h:w.bad≠0):w.fail e=w:=by unfold CW.fail;rw[if_neg h]
def mc(w:CW)(e:Int):∀(H:List Ob) (i:Nat),H[i]?=some (.cells (cCw w) 175)->HC prog 153 (.ptr i 0::[i64 e]) H (.tup []) (H.set i (.cells (cCw (w.fail e)) 175)):=by
 refine zM func153 fun B=>?_
 refine zu5 ?_
 refine Wi rfl (fun hi1=>?_) (fun hi1=>?_)
 ·have h0:w.bad=0:=by simpa using hi1
  refine aa rfl ?_
  refine zs5 ?_
  refine aV rfl rfl ?_ ?_
  ·rfl
  (rw[cf0 h0];rfl)
 have h0:w.bad≠0:=by simpa using hi1
 refine Wj<|aV rfl rfl ?_ ?_
 ·rfl
 (rw[cf1 h0];rfl)
def rp(v:VVm)(n:Int):VVm×Int:=({v with mem:=(cy v.mem v.here n).1,here:=(cy v.mem v.here n).2.1},(cy v.mem v.here n).2.2)
def xd(v:VVm)(n:Int)(hm:da v.mem)(hh:iy v.mem v.here):ab prog 99 [eVm v,i64 n] (tVm (rp v n)):=by
 refine zY func99 fun B=>?_
 refine zu3 ?_
 refine zp5 ?_
 refine zc rfl func127 ((CJ v.mem v.here n hm hh) _) ?_
 refine zy5 ?_
 refine zs3 ?_
 refine zp5 ?_
 refine zs1 ?_
 refine zu4 ?_
 refine zR ?_
 rfl
def iI(w:CW)(n:Int):CW:=if w.bad=0 then {w with v:=(rp w.v n).1,bad:=(rp w.v n).2} else w
def YK{w:CW}{n:Int}(h:w.bad=0):iI w n={w with v:=(rp w.v n).1,bad:=(rp w.v n).2}:=by unfold iI;rw[if_pos h]
def au3{w:CW}{n:Int}(h:w.bad≠0):iI w n=w:=by unfold iI;rw[if_neg h]
def rP(w:CW)(n:Int)(hm:da w.v.mem)(hh:iy w.v.mem w.v.here):∀(H:List Ob) (i:Nat),H[i]?=some (.cells (cCw w) 175)->HC prog 105 (.ptr i 0::[i64 n]) H (i64 w.v.here) (H.set i (.cells (cCw (iI w n)) 175)):=by
 refine zM func105 fun B=>?_
 refine zu1 ?_
 refine zp5 ?_
 refine zs1 ?_
 refine Ws<|zu5 ?_
 refine Wi rfl (fun hi1=>?_) (fun hi1=>?_)
 ·have h0:w.bad=0:=by simpa using hi1
  refine zp5 ?_
  refine zc rfl func99 ((xd w.v n hm hh) _) ?_
  refine zy5 ?_
  refine zs1 ?_
  refine zu5 ?_
  refine aa rfl ?_
  refine zy2 ?_
  refine zc rfl func153 ((mc {w with v:=(rp w.v n).1} (rp w.v n).2) _ _ rfl) ?_
  refine Wn<|zu2 ?_
  refine Wq<|aO rfl rfl ?_ ?_
  ·rfl
  (rw[YK h0,cf0 (by exact h0)];rfl)
 have h0:w.bad≠0:=by simpa using hi1
 refine Wj<|zu2 ?_
 refine Wq<|aO rfl rfl ?_ ?_
 ·rfl
 (rw[au3 h0];rfl)
def rR(name:Str):Int:=32+8*ui ao name ao.length 0
def cL(w:CW)(name:Str):CW:=iI w (rR name)
def nD(w:CW)(name:Str)(hm:da w.v.mem)(hh:iy w.v.mem w.v.here):∀(H:List Ob) (i:Nat),H[i]?=some (.cells (cCw w) 175)->HC prog 104 (.ptr i 0::[str name]) H (.tup []) (H.set i (.cells (cCw (cL w name)) 175)):=by
 have hn:=lI
 have hx:=zt ao name ao.length 0 (by rw[hn];omega)
 have w1:IntKind.i64.wrap (32+IntKind.i64.wrap (8*ui ao name ao.length 0))=rR name:=by unfold rR;rw[gZ (n:=8*_) (by omega) (by omega),gZ (by omega) (by omega)]
 refine zM func104 fun B=>?_
 refine aa rfl ?_
 refine z1 ?_
 refine zc rfl func98 ((oo) _) ?_
 refine z1 ?_
 refine zc rfl func113 ((tZ ao name (by rw[hn];omega)) _) ?_
 refine zy2 ?_
 refine Wa 9 rfl (congrArg (fun z=>PV.val (Value.int .i64 z)) w1) ?_
 refine zc rfl func105 ((rP w (rR name) hm hh) _ _ rfl) ?_
 refine Wn<|aV rfl rfl ?_ ?_
 ·rfl
 rfl
def jO(w:CW)(a:Int):CW:=if w.bad=0 then {w with v:={w.v with mem:=(ay w.v.mem a w.v.here).1},bad:=(ay w.v.mem a w.v.here).2} else w
def jV{w:CW}{a:Int}(h:w.bad=0):jO w a={w with v:={w.v with mem:=(ay w.v.mem a w.v.here).1},bad:=(ay w.v.mem a w.v.here).2}:=by unfold jO;rw[if_pos h]
def jZ{w:CW}{a:Int}(h:w.bad≠0):jO w a=w:=by unfold jO;rw[if_neg h]
def za(w:CW)(a:Int)(hm:da w.v.mem)(ha:ae a):∀(H:List Ob) (i:Nat),H[i]?=some (.cells (cCw w) 175)->HC prog 266 (.ptr i 0::[i64 a]) H (.tup []) (H.set i (.cells (cCw (jO w a)) 175)):=by
 refine zM func266 fun B=>?_
 refine zu5 ?_
 refine Wi rfl (fun hi1=>?_) (fun hi1=>?_)
 ·have h0:w.bad=0:=by simpa using hi1
  refine Ws<|V3.bb [0,0,0,0,1,0,0,0,0,0,1,0,0,0,0,2,3,0] [0,1,2,3,4,5,6,7,8,9,10,11,12,13,14,15,16,17] mG rfl (by kernel_rfl) ?_
  iterate 4 refine V3.aP ?_
  refine V3.i4 ?_
  iterate 5 refine V3.aP ?_
  refine V3.i4 ?_
  refine V3.cR rfl rfl rfl rfl (fun _=>dC rfl func92 rfl rfl ((jG w.v.mem a w.v.here hm ha) _)) ?_
  iterate 3 refine V3.aP ?_
  refine V3.sV tG rfl rfl rfl rfl rfl trivial rfl ?_
  refine V3.oL tG rfl rfl rfl rfl rfl trivial ?_
  refine V3.aP ?_
  refine V3.br ?_
  refine zp5 ?_
  refine zs1 ?_
  refine aa rfl ?_
  refine zy2 ?_
  refine zc rfl func153 ((mc {w with v:={w.v with mem:=(ay w.v.mem a w.v.here).1}} (ay w.v.mem a w.v.here).2) _ _ rfl) ?_
  refine Wn<|aV rfl rfl ?_ ?_
  ·rfl
  (rw[jV h0,cf0 (by exact h0)];rfl)
 have h0:w.bad≠0:=by simpa using hi1
 refine Wj<|aV rfl rfl ?_ ?_
 ·rfl
 (rw[jZ h0];rfl)
def SP(l:List VCf)(hl:l.length<=1000000):ab prog 356 [sq cCf l] (sqc cCf l):=by
 refine bz tG (rs:=[.tmp 2]) func356 rfl rfl rfl (by(simp;done)) (by exact lA (fun x=>by simp) _) (fun B=>?_)
 refine zu1 ?_
 refine zp5 ?_
 refine z2 ?_ (q:=(by(simp_all;done)))
 refine Wa 8 rfl (cM cCf 3 (fun _=>rfl) (by omega)) ?_
 refine zs1 ?_
 refine Wq ?_
 exact ow rfl (by simp[sqc];rfl)
def m8(w:CW)(c:VCf):CW:=if 32<=w.l.length then w.fail (-22)else {w with l:=w.l++[c]}
def rn(w:CW)(c:VCf)(hl:w.l.length<=1000):∀(H:List Ob) (i:Nat),H[i]?=some (.cells (cCw w) 175)->HC prog 264 (.ptr i 0::[.agg (cCf c)]) H (.tup []) (H.set i (.cells (cCw (m8 w c)) 175)):=by
 refine zM func264 fun B=>?_
 refine zu1 ?_
 refine Ws<|zp5 ?_
 refine zs1 ?_
 refine Wi rfl (fun hi1=>?_) (fun hi1=>?_)
 ·have q:32<=w.l.length:=by have:=oT hi1;omega
  refine zp1 ?_
  refine zc rfl func153 ((mc w (-22)) _ _ rfl) ?_
  refine Wn<|Wq<|aO rfl rfl ?_ ?_
  ·rfl
  (rw[m8,if_pos q];rfl)
 have q:¬32<=w.l.length:=by have:=oF hi1;omega
 refine Wj<|V3.bb [0,0,0,0,1,0,1,0,0,0,0,3] [0,1,2,3,4,5,6,7,8,9,10,11] mG rfl (by kernel_rfl) ?_
 iterate 4 refine V3.aP ?_
 refine V3.i4 ?_
 refine V3.cR rfl rfl rfl rfl (fun _=>dC rfl func356 rfl rfl ((SP w.l (by omega)) _)) ?_
 refine V3.i4 ?_
 refine V3.aP ?_
 refine V3.jD 19 rfl ((show _=PV.seq (List.length [c]) (List.flatMap cCf [c]) .clip from rfl)) ?_
 refine V3.ka rfl rfl rfl rfl (fun _=>co (lO tG rfl) rfl (lO tG rfl) (lO tG rfl) rfl rfl (by exact⟨_,rfl⟩) (by exact⟨rfl,rfl,al _ 3 (fun _=>rfl) _,bF _ (fun _=>rfl) _⟩) (by exact al _ 3 (fun _=>rfl) _) (by((simp_all;omega))) (by((simp_all;omega))) (by exact fW (bv (fun x=>by simp) _) (bv (fun x=>by simp) _))) ?_
 refine V3.jD 20 rfl (cz cCf) ?_
 iterate 2 refine V3.aP ?_
 refine V3.oL tG rfl rfl rfl rfl rfl trivial ?_
 refine V3.br ?_
 refine aV rfl rfl ?_ ?_
 ·rfl
 (rw[m8,if_neg q];rfl)
def bk(w:CW)(kind:Int):CW×VCf :=
 if w.l.length=0\/(w.l.getD (w.l.length-1) zCf).kind≠kind then(w.fail (-22),zCf)else({w with l:=w.l.take (w.l.length-1)},w.l.getD (w.l.length-1) zCf)
def ot(w:CW)(kind:Int)(hl:w.l.length<=1000):∀(H:List Ob) (i:Nat),H[i]?=some (.cells (cCw w) 175)->HC prog 265 (.ptr i 0::[i64 kind]) H (.agg (cCf (bk w kind).2)) (H.set i (.cells (cCw (bk w kind).1) 175)):=by
 have w1:w.l.length≠0->IntKind.i64.wrap ((w.l.length:Int)-1)=((w.l.length-1:Nat):Int):=fun h=>by rw[gZ (by omega) (by omega)];omega
 refine zM func265 fun B=>?_
 refine zu1 ?_
 refine zp5 ?_
 refine zs1 ?_
 refine Ws<|zp3 ?_
 refine Wb 14 rfl (fun hg1=>?_) (fun hg1=>?_)
 ·have h0:w.l.length=0:=by have h:(w.l.length:Int)=0:=(by simpa using hg1);omega
  have q:w.l.length=0\/(w.l.getD (w.l.length-1) zCf).kind≠kind:=.inl h0
  iterate 11 refine z6 ?_
  refine zs1 ?_
  refine Wt rfl rfl ?_
  refine zp1 ?_
  refine zc rfl func153 ((mc w (-22)) _ _ rfl) ?_
  refine Wn<|zu2 ?_
  refine Wq<|aO rfl rfl ?_ ?_
  ·(rw[bk,if_pos q];rfl)
  (rw[bk,if_pos q];rfl)
 have h0:w.l.length≠0:=by have h:¬(w.l.length:Int)=0:=(by simpa using hg1);omega
 have w2:=w1 h0
 refine zy5 ?_
 refine z1 ?_
 refine Wa 20 rfl (congrArg (fun z=>PV.val (Value.int .i64 z)) w2) ?_
 refine Wv tG rfl rfl rfl (by omega) (iN cCf 3 (fun _=>rfl) zCf (by omega)) ?_
 refine zs5 ?_
 refine Wi rfl (fun hi1=>?_) (fun hi1=>?_)
 ·have q:w.l.length=0\/(w.l.getD (w.l.length-1) zCf).kind≠kind:=.inr (by simpa using hi1)
  refine zp1 ?_
  refine zc rfl func153 ((mc w (-22)) _ _ rfl) ?_
  refine Wn<|zu2 ?_
  refine Wq<|aO rfl rfl ?_ ?_
  ·(rw[bk,if_pos q];rfl)
  (rw[bk,if_pos q];rfl)
 have q:¬(w.l.length=0\/(w.l.getD (w.l.length-1) zCf).kind≠kind):=by rintro(h|h);exact h0 h;exact h (by simpa using hi1)
 refine Wj<|zp5 ?_
 refine z1 ?_
 refine Wa 35 rfl (congrArg (fun z=>PV.val (Value.int .i64 z)) w2) ?_
 refine Wv tG rfl rfl rfl (by omega) (iN cCf 3 (fun _=>rfl) zCf (by omega)) ?_
 refine zs3 ?_
 refine zp5 ?_
 refine zy2 ?_
 refine Wa 44 rfl (congrArg (fun z=>PV.val (Value.int .i64 z)) w2) ?_
 refine z2 ?_ (q:=(by(simp_all;done)))
 refine Wa 45 rfl (cM cCf 3 (fun _=>rfl) (by omega)) ?_
 refine zs3 ?_
 refine zu2 ?_
 refine Wq<|aO rfl rfl ?_ ?_
 ·(rw[bk,if_neg q];rfl)
 (rw[bk,if_neg q,Int.toNat_natCast];rfl)
def pa(w:CW)(v:VVm)(l:List VCf):VVm×List VCf×Int:=if w.bad≠0 then(v,l,w.bad)else(w.v,w.l,0)
def wR(w:CW)(v:VVm)(l:List VCf):∀(H:List Ob) (i:Nat),H[i]?=some (.cells (cCw w) 175)->HC prog 106 (.ptr i 0::[eVm v,sq cCf l]) H (.tup [eVm (pa w v l).1,sq cCf (pa w v l).2.1,i64 (pa w v l).2.2]) (H.set i (.cells (cCw w) 175)):=by
 refine zM func106 fun B=>?_
 refine zu4 ?_
 refine Ws<|zu5 ?_
 refine Wi rfl (fun hi1=>?_) (fun hi1=>?_)
 ·have q:w.bad≠0:=by simpa using hi1
  refine Ws<|V3.bb [6,0,0,0,0,4,9,0,0] [0,1,2,3,4,5,6,7,8] mG rfl (by kernel_rfl) ?_
  refine V3.zU 1 ?_
  iterate 4 refine V3.aP ?_
  refine V3.zU 0 ?_
  refine V3.bV 2 tG rfl rfl rfl rfl rfl trivial rfl ?_
  iterate 2 refine V3.aP ?_
  refine V3.br ?_
  refine Wq<|aO rfl rfl ?_ ?_
  ·(rw[pa,if_pos q];rfl)
  rfl
 have q:¬w.bad≠0:=by simpa using hi1
 refine Wj<|Ws<|V3.bb [0,0,0,4,0,0,0,4,9,0,0] [0,1,2,3,4,5,6,7,8,9,10] mG rfl (by kernel_rfl) ?_
 iterate 3 refine V3.aP ?_
 refine V3.zU 0 ?_
 iterate 3 refine V3.aP ?_
 refine V3.zU 0 ?_
 refine V3.bV 2 tG rfl rfl rfl rfl rfl trivial rfl ?_
 iterate 2 refine V3.aP ?_
 refine V3.br ?_
 refine Wq<|aO rfl rfl ?_ ?_
 ·(rw[pa,if_neg q];rfl)
 rfl
def Ss(w:World)(size:Nat)(sl:Value)(n:Nat)(xs:List Value):Prop :=
 xs.length=n*size/\∃(a:Option Addr) (cap:Nat),sl=.slice a n cap/\(a=none->n=0/\cap=0)/\n<=cap/\∀b,a=some b->∀(j:Nat) (u:Value),xs[j]?=some u->w.cell? (b.add j)=some u
def wq(w:World)(sl:Value)(xs:List Int):Prop:=Ss w 1 sl xs.length (xs.map (Value.int .u8))/\∀x∈xs,0<=x/\x<256
def Io{w w':World}{size n:Nat}{sl:Value}{xs:List Value}(h:Ss w size sl n xs)(hb:Below w.heap.size w w'):Ss w' size sl n xs:=by
 obtain⟨hl,a,cap,rfl,hn,hc,hx⟩:=h
 refine⟨hl,a,cap,rfl,hn,hc,fun b hb' j u hj=>?_⟩
 have h1:=hx b hb' j u hj
 rw[hb.cell (World.block_lt_of_cell? w (b.add j) h1)]
 exact h1
def BX{w w':World}{sl:Value}{xs:List Int}(h:wq w sl xs)(hb:Below w.heap.size w w'):wq w' sl xs:=⟨Io h.1 hb,h.2⟩
abbrev ZD:=List Int×Bool
def at0(w:World)(v:Value)(p:ZD):Prop:=∃sl,v=.agg #[sl,.bool p.2]/\wq w sl p.1
def Qw(w:World)(sl:Value)(xs:List Int)(h:wq w sl xs)(hl:xs.length<=140737488355328):
  Calls prog 382 #[sl] w fun e w'=>∃v',e=.returned v'/\w'.ownsRow w.heap.size 5 1 v' xs.length (xs.map (Value.int .u8))/\Below w.heap.size w w':=by
 obtain⟨⟨hlen,a,cap,rfl,hn,hc,hx⟩,_⟩:=h
 match a with
 | none =>
  obtain⟨h0,rfl⟩:=hn rfl
  refine(AnyE.slices_Clone_nil Tryz.lClone xs.length 0 w).mono ?_
  rintro e w' ⟨rfl,rfl⟩
  have hx0:xs=[]:=List.eq_nil_of_length_eq_zero h0
  subst hx0
  exact⟨_,rfl,⟨rfl,.inl ⟨rfl,rfl⟩⟩,Below.refl _ _⟩
 | some ad =>
  obtain⟨i0,hi,hz0,hz1,hz2⟩:=info_parts Yy
  have q22:∀(w:World) (a:Option Addr) (n c n' c':Nat),(binOp .eql 22 (.slice a n c) (.slice none n' c')).run prog w=.ok (.bool a.isNone) w:=fun w a n c n' c'=>Lib.run_eql_slice_nil w _ _ a n c n' c' underlying22
  have HX:=Lib.hid (hx ad rfl)
  have HL:=Lib.hid hlen
  clear hx hlen
  go_enter func382,ntmps382
  go_wp2_with (at_builtin;refine wpList_append_own _ rfl _ _ 22 rfl w.heap.size 5 i0 (.int .u8 0) 1 1 underlying22 hi hz0 hz1 hz2 rfl (by decide) _ _ _ rfl (World.ownsRow_made w #[] 0 (Nat.le_refl _) (Nat.zero_le _) (by simp)) ad xs.length cap (xs.map (Value.int .u8)) rfl ?qc1 ?qc2 ?qc3 ?qc4 ?qc5 ?qc6 ?_)
  case qc1=>exact HL.out
  case qc2=>intro j u hj;exact Lib.cell?_alloc_some _ (HX.out j u hj)
  case qc3=>simp[Value.oneCell']
  case qc4=>unfold maxLen;omega
  case qc5=>omega
  case qc6=>simp
  intro v' w1 hown hgrow _
  go_wp2
  go_ret
  refine⟨v',rfl,by simpa using hown,?_⟩
  exact((Below.refl _ w).alloc (Nat.le_refl _) _).grown hgrow (by simp) (by intro k hk;simp[Value.ownBlock]at hk;omega)
def Yu(p:ZD):List UInt8×Int:=if p.2 then((p.1.map (fun n=>UInt8.ofNat n.toNat)).reverse,0)else([],-17)
def TF(xs:List Int):strOfNums xs.reverse=⟨((xs.map (fun n=>UInt8.ofNat n.toNat)).reverse).toArray⟩:=by unfold strOfNums;rw[List.map_reverse]
def ar7(v:Value)(p:ZD)(w:World)(h:at0 w v p)(hl:p.1.length<=140737488355328):Calls prog 345 #[v] w fun e w'=>e=.returned (.tuple #[.string ⟨(Yu p).1.toArray⟩,.int .i64 (Yu p).2])/\Below w.heap.size w w':=by
 obtain⟨sl,rfl,hs⟩:=h
 obtain⟨xs,on⟩:=p
 have b0:=fun o=>(Below.refl w.heap.size w).alloc (Nat.le_refl _) o
 cases on with
 | false =>
  go_enter func345,ntmps345
  go_wp2
  go_ret2
  exact⟨rfl,b0 _⟩
 | true =>
  have hC:=fun o=>Qw (w.alloc o) sl xs (BX hs (b0 o)) hl
  have HC:=Lib.hid hC
  have HL:=Lib.hid hl
  clear hC hs hl
  go_enter func345,ntmps345
  go_wp2_with fail
  refine(HC.out _).mono ?_
  rintro e w1 ⟨v',rfl,hown,hb1⟩
  have c1:=(b0 _).trans (hb1.mono (b0 _).size)
  have hown1:=QJ hown (b0 _).size
  have HR:=Lib.hid (MU w1 _ v' _ xs hown1 (Nat.le_trans HL.out (by omega)))
  clear hown hown1 hb1 b0
  go_wp2_with fail
  refine HR.out.mono ?_
  rintro e w2 ⟨rfl,hown2,hb2⟩
  have c2:=hb2 w c1
  have hcv:=F9 hown2
  rw[TF]at hcv
  clear hown2 hb2 c1 HR
  go_wp2
  go_ret2
  exact⟨rfl,c2⟩
def M0{c:Cx}{l:List UInt8}{v:Value}(h:Rep c (sq aL l) v):wq c.w v (l.map fun b=>(b.toNat:Int)):=by
 unfold sq at h
 obtain⟨ad,cap,vs,hv,hle,hnil,hrl,hlies,hk⟩:=gQ h
 have hvs:vs=(l.map fun b=>(b.toNat:Int)).map (Value.int .u8):=by
  rw[kD]at hrl
  have:((l.map fun b=>(b.toNat:Int)).map kx)=((l.map fun b=>(b.toNat:Int)).map (Value.int .u8)).map PV.val:=by simp only[List.map_map];rfl
  rw[this]at hrl
  exact tB hrl
 refine⟨⟨by simp,ad,cap,by rw[hv];simp,(fun h=>by have:=hnil h;exact⟨by simpa using this.1,this.2.1⟩),by simpa using hle,fun b hb j u hj=>?_⟩,fun x hx=>?_⟩
 ·rw[<-hvs]at hj
  have hL:=(hlies b hb).resolve_right (by rintro⟨_,h3⟩;rw[h3]at hj;simp at hj)
  rw[g9 hL,Addr.add_lit]
  exact(hL.2 j u hj).1
 obtain⟨b,_,rfl⟩:=List.mem_map.1 hx
 have:=b.toNat_lt
 omega
def U9(p:d8)(hp:p.b.length<=1000000):ab prog 345 [yP p] (ng (lJ p)):=by
 intro H B σ w vs s hr
 match vs,hr with
 | [],hr=>unfold au at hr;obtain⟨u,us,h1,_⟩:=hr;cases h1
 | v::v2::vs,hr=>rw[aj]at hr;have:=au.length hr.2;simp at this
 | [v],hr =>
 rw[aj]at hr
 have h1:=hr.1
 unfold yP Rep at h1
 obtain⟨us,rfl,h2⟩:=h1
 match us,h2 with
 | [],h2=>unfold u5 au at h2;obtain⟨u,us,h1,_⟩:=h2;cases h1
 | [a],h2=>have:=au.length h2;simp[u5]at this
 | a::b::d::us,h2=>have:=au.length h2;simp[u5]at this
 | [a,b],h2 =>
 unfold u5 at h2
 rw[aj,aj]at h2
 have h3:=M0 h2.1
 have h4:=h2.2.1
 unfold boo Rep at h4
 subst h4
 have hw:=ar7 (.agg #[a,.bool p.on]) (List.map (fun b:UInt8=>(b.toNat:Int)) p.b,p.on) w ⟨a,rfl,h3⟩ (by simp;omega)
 refine Calls.mono hw ?_
 rintro e w' ⟨rfl,hb⟩
 obtain⟨s',st⟩:=gc s (ba.of_below hb)
 refine⟨_,σ,rfl,?_,s',st⟩
 have e1:Yu (List.map (fun b:UInt8=>(b.toNat:Int)) p.b,p.on)=lJ p:=by
  unfold Yu lJ
  cases p.on with
  | true=>simp[List.map_map,Function.comp_def]
  | false=>rfl
 rw[e1]
 unfold ng iA Rep
 exact⟨[_,_],rfl,aj.2 ⟨by unfold str;exact aq _ _,aj.2 ⟨by unfold i64;exact aq _ _,az.2 rfl⟩⟩⟩
def GG{p:d8}{c:Int}(h:(gX p c).2=0):(gX p c).1.b.length=p.b.length+1/\p.b.length<130:=by
 unfold gX at h ⊢
 split at h
 ·rename_i hc;rw[if_pos hc];simp[hc.2]
 cases h
def vC{q:d8}{lo hi base:Int}(h:(aJ q lo hi base).2.2.2=0):(aJ q lo hi base).1.b.length=q.b.length+1/\q.b.length<130:=by
 unfold aJ at h ⊢
 split at h
 ·cases h
 rename_i hb
 rw[if_neg hb]
 split at h
 ·rename_i h0
  rw[if_pos h0]
  exact GG h0
 rename_i h0;exact absurd h h0
def nJ(q:d8)(lo hi base:Int):rT q lo hi base=if (aJ q lo hi base).2.2.2≠0 then(q,(aJ q lo hi base).2.2.2)else if (aJ q lo hi base).2.1=0/\(aJ q lo hi base).2.2.1=0 then((aJ q lo hi base).1,0)else rT (aJ q lo hi base).1 (aJ q lo hi base).2.1 (aJ q lo hi base).2.2.1 base:=by
 by_cases h:(aJ q lo hi base).2.2.2=0
 ·obtain⟨h1,h2⟩:=vC h
  unfold rT
  rw[h1,show 131-q.b.length=(131-(q.b.length+1))+1 by omega]
  rfl
 rw[if_pos h]
 unfold rT
 cases hn:131-q.b.length with
 | zero=>rfl
 | succ n=>unfold rF;rw[if_pos h]
def Ps:List PV:=[.seq 0 [] .clip,.val (.bool false)]
@[simp] theorem aC7 {n : Nat} : qT n Ps := by unfold Ps; exact ⟨KS, Pp (.bool false), trivial⟩
def Ug(p q:d8)(lo hi base:Int)(hq:q.b.length<=1000000):
  HC prog 381 [.ptr 5 0,.ptr 1 0,.ptr 2 0,.ptr 3 0] [.cells (u5 p) 33,.cells [i64 lo] 3,.cells [i64 hi] 3,.cells [i64 base] 3,.cells Ps 33,.cells (u5 q) 33] (i64 (aJ q lo hi base).2.2.2)
   [.cells (u5 p) 33,.cells [i64 (aJ q lo hi base).2.1] 3,.cells [i64 (aJ q lo hi base).2.2.1] 3,.cells [i64 base] 3,.cells Ps 33,.cells (u5 (aJ q lo hi base).1) 33,.cells (u5 (aJ q lo hi base).1) 33]:=by
 refine mJ tG (rs:=[.tmp 4]) func381 rfl rfl rfl (fun B=>?_)
 refine zu1 ?_
 refine zp4 ?_
 refine zc rfl func339 ((Df q lo hi base hq) _) ?_
 refine zy5 ?_
 refine zs5 ?_
 refine zp5 ?_
 refine zs1 ?_
 refine zu2 ?_
 refine Wq<|AH rfl ?_ ?_
 ·rfl
 rfl
def XW(p:d8)(lo hi base:Int)(hp:p.b.length<=1000000):ab prog 341 [yP p,i64 lo,i64 hi,i64 base] (M9 (uU p lo hi base)):=by
 refine zY func341 fun B=>?_
 refine zp5 ?_
 refine zs1 ?_
 refine zu3 ?_
 refine zu2 ?_
 refine Wl ?_
 show W _ _ _ _ _ _ _
 refine gz (fun(v:d8×Int×Int)=>[(4,.ptr 0 0),(5,.ptr 1 0),(6,.ptr 2 0),(8,.ptr 4 0),(10,.ptr 5 0),(11,.fn (.func 381) [] [.ptr 5 0,.ptr 1 0,.ptr 2 0,.ptr 3 0])]) (fun(v:d8×Int×Int)=>[.cells (u5 p) 33,.cells [i64 v.2.1] 3,.cells [i64 v.2.2] 3,.cells [i64 base] 3,.cells Ps 33,.cells (u5 v.1) 33]) (fun(v:d8×Int×Int)=>[]) (fun(v:d8×Int×Int)=>v.1.b.length<=1000000/\uU p lo hi base=Pn p (rT v.1 v.2.1 v.2.2 base)) (fun(v:d8×Int×Int)=>131-v.1.b.length) ((p,lo,hi)) (by exact⟨hp,rfl⟩) [] ?_ ?_
 ·exact fM
 intro v hv
 refine Wl<|Ws<|zp1 ?_
 refine Wc rfl rfl (ei rfl rfl func381 rfl rfl (Ug p v.1 v.2.1 v.2.2 base hv.1)) ?_
 refine zs1 ?_
 refine zu2 ?_
 refine Wi rfl (fun hi1=>?_) (fun hi1=>?_)
 ·have h0:(aJ v.1 v.2.1 v.2.2 base).2.2.2≠0:=by simpa using hi1
  refine zu4 ?_
  refine zR ?_
  rw[hv.2,nJ,if_pos h0,Pn,if_neg h0];rfl
 have h0:(aJ v.1 v.2.1 v.2.2 base).2.2.2=0:=by simpa using hi1
 have hl:=vC h0
 refine Wj<|zp3 ?_
 refine Wb 23 rfl (fun hg1=>?_) (fun hg1=>?_)
 ·have h1:(aJ v.1 v.2.1 v.2.2 base).2.1=0:=by simpa using hg1
  refine zs3 ?_
  refine Wi rfl (fun hi2=>?_) (fun hi2=>?_)
  ·have h2:(aJ v.1 v.2.1 v.2.2 base).2.1=0/\(aJ v.1 v.2.1 v.2.2 base).2.2.1=0:=by(try simp only[dnL]at *);exact⟨h1,hi2⟩
   refine zu3 ?_
   refine zR ?_
   rw[hv.2,nJ,if_neg (by rw[h0];simp),if_pos h2,Pn,if_pos rfl];rfl
  have h2:¬((aJ v.1 v.2.1 v.2.2 base).2.1=0/\(aJ v.1 v.2.1 v.2.2 base).2.2.1=0):=by rintro⟨q1,q2⟩;(try simp only[dnL]at *);exact hi2 q2
  refine Wj ?_
  exact⟨((aJ v.1 v.2.1 v.2.2 base).1,(aJ v.1 v.2.1 v.2.2 base).2.1,(aJ v.1 v.2.1 v.2.2 base).2.2.1),[],(by exact⟨by show(aJ v.1 v.2.1 v.2.2 base).1.b.length<=_;omega,by rw[hv.2,nJ,if_neg (by rw[h0];simp),if_neg (by exact h2)]⟩),(by show 131-(aJ v.1 v.2.1 v.2.2 base).1.b.length<_;omega),fM⟩
 have h1:¬(aJ v.1 v.2.1 v.2.2 base).2.1=0:=by simpa using hg1
 iterate 2 refine z6 ?_
 refine zs1 ?_
 refine Wf rfl rfl ?_
 refine Wj ?_
 exact⟨((aJ v.1 v.2.1 v.2.2 base).1,(aJ v.1 v.2.1 v.2.2 base).2.1,(aJ v.1 v.2.1 v.2.2 base).2.2.1),[],(by exact⟨by show(aJ v.1 v.2.1 v.2.2 base).1.b.length<=_;omega,by rw[hv.2,nJ,if_neg (by rw[h0];simp),if_neg (by(rintro⟨q1,q2⟩;exact h1 q1))]⟩),(by show 131-(aJ v.1 v.2.1 v.2.2 base).1.b.length<_;omega),fM⟩
@[simp] theorem aC8 {f : Fn} {a b : List PV} : aU (.fn f a b) ↔ aw a /\ aw b := by rw [aU]
@[simp] theorem au7 {a : List PV} : aU (.row a) ↔ aw a := by rw [aU]
abbrev fnP(g:FuncId)(cap:List PV):PV:=.fn (.func g) [] cap
abbrev bp(k:Int)(f:FuncId)(cap:List PV):PV:=.agg [i64 k,fnP f cap]
abbrev ur(g:FuncId)(args:List PV)(res:PV):Prop:=∀H,ou prog g args H res H
def lV(l:List Int):ab prog 245 [sq ap l] (tLv (l,0)):=by
 refine zY func245 fun B=>?_
 refine zu2 ?_
 refine zu3 ?_
 refine zR ?_
 rfl
def Dh(b:Bool):ab prog 292 [boo b] (i64 (fH b)):=by
 refine zY func292 fun B=>?_
 refine zu1 ?_
 refine Ws<|zu1 ?_
 refine Wi rfl (fun hi1=>?_) (fun hi1=>?_)
 ·refine zu1 ?_
  refine zR ?_
  rw[hi1];rfl
 refine Wj<|zu1 ?_
 refine zR ?_
 rw[hi1];rfl
def jJ(k:Int)(g:FuncId)(cap:List PV)(hc:aw cap):ab prog 240 [i64 k,fnP g cap] (bp k 271 [.row [fnP g cap]]):=by
 refine bz tG (rs:=[.cell 4 267]) func240 rfl rfl rfl (by simp[hc]) (by simp[hc]) (fun B=>?_)
 refine zp1 ?_
 refine bR 3 _ rfl rfl rfl ?_
 refine zs1 ?_
 refine zu4 ?_
 refine zR ?_
 rfl
def lM(g:FuncId)(cap:List PV)(v:VVm)(x:List Int)(r:List Int×Int)(hc:aw cap)(hg:ur g ([sq ap x]++cap) (tLv r)):
  ∀(H:List Ob) (i:Nat),H[i]?=some (.cells (cVm v) 37)->HC prog 271 (.ptr i 0::[sq ap x,.row [fnP g cap]]) H (tLv r) (H.set i (.cells (cVm v) 37)):=by
 refine ju tG (rs:=[.tmp 5,.tmp 6]) func271 rfl rfl rfl (by simp[hc]) (by simp[hc]) (by simp[hc]) (by simp[hc]) (fun B=>?_)
 refine zu2 ?_
 refine zp2 ?_
 refine Wc rfl rfl (fp rfl rfl (hg _)) ?_
 refine zs4 ?_
 refine Wq<|aO rfl rfl ?_ ?_
 ·rfl
 rfl
def sY(g:FuncId)(cap:List PV)(hc:aw cap):ab prog 313 [fnP g cap] (bp 0 370 [.row [fnP g cap]]):=by
 refine bz tG (rs:=[.cell 2 267]) func313 rfl rfl rfl (by simp[hc]) (by simp[hc]) (fun B=>?_)
 refine zp1 ?_
 refine bR 1 _ rfl rfl rfl ?_
 refine zs1 ?_
 refine zu3 ?_
 refine zR ?_
 rfl
def nK(g:FuncId)(cap:List PV)(v:VVm)(x:List Int)(n:Int)(hc:aw cap)(hg:ur g ([eVm v]++cap) (i64 n)):
  ∀(H:List Ob) (i:Nat),H[i]?=some (.cells (cVm v) 37)->HC prog 370 (.ptr i 0::[sq ap x,.row [fnP g cap]]) H (tLv ([n],0)) (H.set i (.cells (cVm v) 37)):=by
 refine ju tG (rs:=[.tmp 5,.tmp 6]) func370 rfl rfl rfl (by simp[hc]) (by simp[hc]) (by simp[hc]) (by simp[hc]) (fun B=>?_)
 refine zu2 ?_
 refine Ws<|ax [1,0,0,1,0,0,0,0,0,0,0] [0,1,2,3,4,5,6,7,8,9,10] mG rfl (by kernel_rfl) ?_
 refine z5 ?_
 iterate 2 refine z3 ?_
 refine z5 ?_
 refine Xc rfl rfl rfl rfl (fun _=>fp rfl rfl (hg _)) ?_
 refine z3 ?_
 refine Xa 12 rfl (bsL ap [_] rfl rfl) ?_
 refine Xc rfl rfl rfl rfl (fun _=>dC rfl func245 rfl rfl ((lV [n]) _)) ?_
 iterate 4 refine z3 ?_
 refine aQ ?_
 refine Wq<|aO rfl rfl ?_ ?_
 ·rfl
 rfl
def vt(g:FuncId)(cap:List PV)(hc:aw cap):ab prog 295 [fnP g cap] (bp 1 367 [.row [fnP g cap]]):=by
 refine bz tG (rs:=[.cell 2 267]) func295 rfl rfl rfl (by simp[hc]) (by simp[hc]) (fun B=>?_)
 refine zp1 ?_
 refine bR 1 _ rfl rfl rfl ?_
 refine zs1 ?_
 refine zu3 ?_
 refine zR ?_
 rfl
def xr(g:FuncId)(cap:List PV)(v:VVm)(x:List Int)(r:Int×Int)(hx:1<=x.length)(hc:aw cap)(hg:ur g ([jC v.mem,i64 (xat x 0)]++cap) (ri r)):
  ∀(H:List Ob) (i:Nat),H[i]?=some (.cells (cVm v) 37)->HC prog 367 (.ptr i 0::[sq ap x,.row [fnP g cap]]) H (tLv ([r.1],r.2)) (H.set i (.cells (cVm v) 37)):=by
 refine ju tG (rs:=[.tmp 5,.tmp 6]) func367 rfl rfl rfl (by simp[hc]) (by simp[hc]) (by simp[hc]) (by simp[hc]) (fun B=>?_)
 refine zu2 ?_
 refine Ws<|ax [1,0,0,0,1,0,0,1,0,0,0,0,0,0] [0,1,2,3,4,5,6,7,8,9,10,11,12,13] mG rfl (by kernel_rfl) ?_
 refine z5 ?_
 iterate 3 refine z3 ?_
 refine z5 ?_
 refine z3 ?_
 refine z9i ?_
 refine z5 ?_
 refine Xc rfl rfl rfl rfl (fun _=>fp rfl rfl (hg _)) ?_
 iterate 5 refine z3 ?_
 refine aQ ?_
 refine zp2 ?_
 refine Wa 22 rfl (bsL ap [_] rfl rfl) ?_
 refine zs3 ?_
 refine Wq<|aO rfl rfl ?_ ?_
 ·rfl
 rfl
def lL(k:Int)(g:FuncId)(cap:List PV)(hc:aw cap):ab prog 297 [i64 k,fnP g cap] (bp k 368 [.row [fnP g cap]]):=by
 refine bz tG (rs:=[.cell 4 267]) func297 rfl rfl rfl (by simp[hc]) (by simp[hc]) (fun B=>?_)
 refine zp1 ?_
 refine bR 3 _ rfl rfl rfl ?_
 refine zs1 ?_
 refine zu4 ?_
 refine zR ?_
 rfl
def nX(g:FuncId)(cap:List PV)(v:VVm)(x:List Int)(r:bn×Int)(hc:aw cap)(hg:ur g ([jC v.mem,sq ap x]++cap) (vP r)):
  ∀(H:List Ob) (i:Nat),H[i]?=some (.cells (cVm v) 37)->HC prog 368 (.ptr i 0::[sq ap x,.row [fnP g cap]]) H (tLv ([],r.2)) (H.set i (.cells (cVm (tb v r.1)) 37)):=by
 refine ju tG (rs:=[.tmp 5,.tmp 6]) func368 rfl rfl rfl (by simp[hc]) (by simp[hc]) (by simp[hc]) (by simp[hc]) (fun B=>?_)
 refine zu2 ?_
 refine Ws<|ax [1,0,0,0,1,0,0,0,0,0,2,3,0] [0,1,2,3,4,5,6,7,8,9,10,11,12] mG rfl (by kernel_rfl) ?_
 refine z5 ?_
 iterate 3 refine z3 ?_
 refine z5 ?_
 refine z3 ?_
 refine Xc rfl rfl rfl rfl (fun _=>fp rfl rfl (hg _)) ?_
 iterate 3 refine z3 ?_
 refine vp tG rfl rfl rfl rfl rfl trivial rfl ?_
 refine dH tG rfl rfl rfl rfl rfl trivial ?_
 refine z3 ?_
 refine aQ ?_
 refine zu5 ?_
 refine zu3 ?_
 refine Wq<|aO rfl rfl ?_ ?_
 ·rfl
 rfl
def yW(k:Int)(g:FuncId)(cap:List PV)(hc:aw cap):ab prog 316 [i64 k,fnP g cap] (bp k 371 [.row [fnP g cap]]):=by
 refine bz tG (rs:=[.cell 4 267]) func316 rfl rfl rfl (by simp[hc]) (by simp[hc]) (fun B=>?_)
 refine zp1 ?_
 refine bR 3 _ rfl rfl rfl ?_
 refine zs1 ?_
 refine zu4 ?_
 refine zR ?_
 rfl
def Fj(g:FuncId)(cap:List PV)(v:VVm)(x:List Int)(r:bn×Int×Int)(hc:aw cap)(hg:ur g ([jC v.mem,i64 v.here,sq ap x]++cap) (B4 r)):
  ∀(H:List Ob) (i:Nat),H[i]?=some (.cells (cVm v) 37)->HC prog 371 (.ptr i 0::[sq ap x,.row [fnP g cap]]) H (tLv ([],r.2.2)) (H.set i (.cells (cVm (fg v r).1) 37)):=by
 refine ju tG (rs:=[.tmp 5,.tmp 6]) func371 rfl rfl rfl (by simp[hc]) (by simp[hc]) (by simp[hc]) (by simp[hc]) (fun B=>?_)
 refine zu2 ?_
 refine Ws<|ax [1,0,0,0,1,0,0,0,1,0,0,0,0,0,0,2,3,0,0] [0,1,2,3,4,5,6,7,8,9,10,11,12,13,14,15,16,17,18] mG rfl (by kernel_rfl) ?_
 refine z5 ?_
 iterate 3 refine z3 ?_
 refine z5 ?_
 iterate 3 refine z3 ?_
 refine z5 ?_
 refine z3 ?_
 refine Xc rfl rfl rfl rfl (fun _=>fp rfl rfl (hg _)) ?_
 iterate 4 refine z3 ?_
 refine vp tG rfl rfl rfl rfl rfl trivial rfl ?_
 refine dH tG rfl rfl rfl rfl rfl trivial ?_
 iterate 2 refine z3 ?_
 refine aQ ?_
 refine zp5 ?_
 refine zs5 ?_
 refine zu3 ?_
 refine Wq<|aO rfl rfl ?_ ?_
 ·rfl
 rfl
def wu(k:Int)(g:FuncId)(cap:List PV)(hc:aw cap):ab prog 323 [i64 k,fnP g cap] (bp k 372 [.row [fnP g cap]]):=by
 refine bz tG (rs:=[.cell 4 267]) func323 rfl rfl rfl (by simp[hc]) (by simp[hc]) (fun B=>?_)
 refine zp1 ?_
 refine bR 3 _ rfl rfl rfl ?_
 refine zs1 ?_
 refine zu4 ?_
 refine zR ?_
 rfl
def vg(g:FuncId)(cap:List PV)(v:VVm)(x:List Int)(r:Str×Int)(ho:0<=v.conf.out/\v.conf.out<=1000000)(hl:v.out.length<=1000000)(hr:r.1.length<=140737488355328)(hc:aw cap)(hg:ur g ([eVm v,sq ap x]++cap) (ng r)):
  ∀(H:List Ob) (i:Nat),H[i]?=some (.cells (cVm v) 37)->HC prog 372 (.ptr i 0::[sq ap x,.row [fnP g cap]]) H (tLv (dB v r).2) (H.set i (.cells (cVm (dB v r).1) 37)):=by
 refine ju tG (rs:=[.tmp 5,.tmp 6]) func372 rfl rfl rfl (by simp[hc]) (by simp[hc]) (by simp[hc]) (by simp[hc]) (fun B=>?_)
 refine zu2 ?_
 refine Ws<|ax [1,0,0,1,0,0,0,0,0,0,0] [0,1,2,3,4,5,6,7,8,9,10] mG rfl (by kernel_rfl) ?_
 refine z5 ?_
 iterate 2 refine z3 ?_
 refine z5 ?_
 refine z3 ?_
 refine Xc rfl rfl rfl rfl (fun _=>fp rfl rfl (hg _)) ?_
 iterate 5 refine z3 ?_
 refine aQ ?_
 refine Ws<|zu2 ?_
 refine Wi rfl (fun hi1=>?_) (fun hi1=>?_)
 ·have h0:¬r.2=0:=by simpa using hi1
  refine zu3 ?_
  refine Wq<|aO rfl rfl ?_ ?_
  ·rw[dB,if_neg h0];rfl
  rw[dB,if_neg h0];rfl
 have h0:r.2=0:=by simpa using hi1
 refine Wj<|zp4 ?_
 refine zc rfl func190 ((If v r.1 ho hl hr) _) ?_
 refine zy5 ?_
 refine zs1 ?_
 refine zu4 ?_
 refine zu3 ?_
 refine Wq<|aO rfl rfl ?_ ?_
 ·rw[dB,if_pos h0];rfl
 rw[dB,if_pos h0];rfl
def xL(v:VVm)(hm:v.mem.b.length<=140737488355328):ab prog 325 [eVm v] (i64 (kz v)):=by
 refine zY func325 fun B=>?_
 refine zu2 ?_
 refine zp2 ?_
 refine zc rfl func39 ((gH v.mem 0 hm (by unfold ae;omega)) _) ?_
 refine zs5 ?_
 refine zu2 ?_
 refine zR ?_
 rfl
def DG(g:FuncId)(cap:List PV)(hc:aw cap):ab prog 322 [fnP g cap] (bp 1 372 [.row [fnP 324 [.row [fnP g cap]]]]):=by
 refine bz tG (rs:=[.cell 2 267]) func322 rfl rfl rfl (by simp[hc]) (by simp[hc]) (fun B=>?_)
 refine zp1 ?_
 refine bR 1 _ rfl rfl rfl ?_
 refine zs1 ?_
 refine zp1 ?_
 refine zc rfl func323 ((wu 1 324 [.row [fnP g cap]] (by simp[hc])) _) ?_
 refine zs1 ?_
 refine zR ?_
 rfl
def FZ(g:FuncId)(cap:List PV)(v:VVm)(x:List Int)(r:Str×Int)(hx:1<=x.length)(hm:v.mem.b.length<=140737488355328)(hr:r.1.length<=140737488355328)(hc:aw cap)(hg:ur g ([i64 (xat x 0),i64 (kz v)]++cap) (ng r)):
  ab prog 324 [eVm v,sq ap x,.row [fnP g cap]] (ng (sa r)):=by
 refine bz tG (rs:=[.tmp 5,.tmp 6]) func324 rfl rfl rfl (by simp[hc]) (by simp[hc]) (fun B=>?_)
 refine zu3 ?_
 refine Ws<|ax [1,0,0,1,1,0,0,0,0,0,0,0] [0,1,2,3,4,5,6,7,8,9,10,11] mG rfl (by kernel_rfl) ?_
 refine z5 ?_
 refine z3 ?_
 refine z9i ?_
 iterate 2 refine z5 ?_
 refine Xc rfl rfl rfl rfl (fun _=>dC rfl func325 rfl rfl ((xL v hm) _)) ?_
 refine Xc rfl rfl rfl rfl (fun _=>fp rfl rfl (hg _)) ?_
 iterate 5 refine z3 ?_
 refine aQ ?_
 refine zp1 ?_
 refine z2 ?_ (q:=(by simp only[ew];((simp_all;omega))))
 refine Wa 20 rfl (JL _ _) ?_
 refine zs3 ?_
 refine zR ?_
 rfl
def Mz(s:Str):ab prog 326 [str s] (bp 0 372 [.row [fnP 327 [.row [str s]]]]):=by
 refine zY func326 fun B=>?_
 refine zp1 ?_
 refine bR 1 _ rfl rfl rfl ?_
 refine zs1 ?_
 refine zp1 ?_
 refine zc rfl func323 ((wu 0 327 [.row [str s]] (by simp)) _) ?_
 refine zs1 ?_
 refine zR ?_
 rfl
def Qu(s:Str)(v:VVm)(x:List Int):ab prog 327 [eVm v,sq ap x,.row [str s]] (ng (s,0)):=by
 refine zY func327 fun B=>?_
 refine zu3 ?_
 refine zu3 ?_
 refine zR ?_
 rfl
def So(g:FuncId)(cap:List PV)(hc:aw cap):ab prog 334 [fnP g cap] (bp 1 335 [.row [fnP g cap]]):=by
 refine bz tG (rs:=[.cell 2 267]) func334 rfl rfl rfl (by simp[hc]) (by simp[hc]) (fun B=>?_)
 refine zp1 ?_
 refine bR 1 _ rfl rfl rfl ?_
 refine zs1 ?_
 refine zu3 ?_
 refine zR ?_
 rfl
def Y9(g:FuncId)(cap:List PV)(v:VVm)(x:List Int)(r:d8×Int)(hx:1<=x.length)(hc:aw cap)(hg:ur g ([yP v.pic,i64 (xat x 0)]++cap) (M9 r)):
  ∀(H:List Ob) (i:Nat),H[i]?=some (.cells (cVm v) 37)->HC prog 335 (.ptr i 0::[sq ap x,.row [fnP g cap]]) H (tLv ([],r.2)) (H.set i (.cells (cVm (ut v r.1)) 37)):=by
 refine ju tG (rs:=[.tmp 5,.tmp 6]) func335 rfl rfl rfl (by simp[hc]) (by simp[hc]) (by simp[hc]) (by simp[hc]) (fun B=>?_)
 refine zu2 ?_
 refine Ws<|ax [1,0,0,0,1,0,0,1,0,0,0,0,2,3,0] [0,1,2,3,4,5,6,7,8,9,10,11,12,13,14] mG rfl (by kernel_rfl) ?_
 refine z5 ?_
 iterate 3 refine z3 ?_
 refine z5 ?_
 refine z3 ?_
 refine z9i ?_
 refine z5 ?_
 refine Xc rfl rfl rfl rfl (fun _=>fp rfl rfl (hg _)) ?_
 iterate 3 refine z3 ?_
 refine vp tG rfl rfl rfl rfl rfl trivial rfl ?_
 refine dH tG rfl rfl rfl rfl rfl trivial ?_
 refine z3 ?_
 refine aQ ?_
 refine zu5 ?_
 refine zu3 ?_
 refine Wq<|aO rfl rfl ?_ ?_
 ·rfl
 rfl
def uW(v:VVm)(a n:Int)(hm:da v.mem)(ha:ae a):∀(H:List Ob) (i:Nat),H[i]?=some (.cells (cVm v) 37)->HC prog 311 (.ptr i 0::[i64 a,i64 n]) H (i64 (ay v.mem a n).2) (H.set i (.cells (cVm (tb v (ay v.mem a n).1)) 37)):=by
 refine zM func311 fun B=>?_
 refine zu1 ?_
 refine zp5 ?_
 refine z1 ?_
 refine zc rfl func92 ((jG v.mem a n hm ha) _) ?_
 refine zy5 ?_
 refine zs1 ?_
 refine zu5 ?_
 refine zu2 ?_
 refine Wq<|aO rfl rfl ?_ ?_
 ·rfl
 rfl
def LM(n:Int):ab prog 309 [i64 n] (bp 0 310 [.row [i64 n]]):=by
 refine zY func309 fun B=>?_
 refine zp1 ?_
 refine bR 1 _ rfl rfl rfl ?_
 refine zs1 ?_
 refine zu3 ?_
 refine zR ?_
 rfl
def Tc(v:VVm)(x:List Int)(n:Int)(hm:da v.mem):∀(H:List Ob) (i:Nat),H[i]?=some (.cells (cVm v) 37)->HC prog 310 (.ptr i 0::[sq ap x,.row [i64 n]]) H (tLv (dy v (ay v.mem 0 n)).2) (H.set i (.cells (cVm (dy v (ay v.mem 0 n)).1) 37)):=by
 refine zM func310 fun B=>?_
 refine zu2 ?_
 refine zp2 ?_
 refine zc rfl func311 ((uW v 0 n hm (by unfold ae;omega)) _ _ rfl) ?_
 refine zs2 ?_
 refine Wq<|aO rfl rfl ?_ ?_
 ·rfl
 rfl
def pr(n:Int):ab prog 312 [i64 n] (bp 0 370 [.row [fnP 314 [.row [i64 n]]]]):=by
 refine zY func312 fun B=>?_
 refine zp1 ?_
 refine bR 1 _ rfl rfl rfl ?_
 refine zs1 ?_
 refine zp1 ?_
 refine zc rfl func313 ((sY 314 [.row [i64 n]] (by simp)) _) ?_
 refine zs1 ?_
 refine zR ?_
 rfl
def sS(v:VVm)(n:Int):ab prog 314 [eVm v,.row [i64 n]] (i64 n):=by
 refine zY func314 fun B=>?_
 refine zu2 ?_
 refine zu2 ?_
 refine zR ?_
 rfl
def xX(v:VVm)(s b:Int)(hm:v.mem.b.length<=140737488355328)(hs:ae s):∀(H:List Ob) (i:Nat),H[i]?=some (.cells (cVm v) 37)->HC prog 353 (.ptr i 0::[i64 s,i64 b]) H (i64 (ko v s b)) (H.set i (.cells (cVm v) 37)):=by
 have hb:ae (W64 (b+8)):=by unfold ae W64;rw[bU];unfold wrap64;omega
 refine zM func353 fun B=>?_
 refine zu1 ?_
 refine zp5 ?_
 refine z1 ?_
 refine zc rfl func39 ((gH v.mem _ hm hb) _) ?_
 refine zs5 ?_
 refine Ws<|zp3 ?_
 refine Wb 21 rfl (fun hg1=>?_) (fun hg1=>?_)
 ·have h0:(am v.mem (W64 (b+8))).2=0:=by simpa using hg1
  refine zy3 ?_
  refine Wb 24 rfl (fun hg2=>?_) (fun hg2=>?_)
  ·have h1:s<0:=by simpa using hg2
   iterate 3 refine z6 ?_
   refine zs2 ?_
   refine Wt rfl rfl ?_
   refine zu1 ?_
   refine Wq<|aO rfl rfl ?_ ?_
   ·rw[ko,if_pos h0,if_pos (.inl h1)];rfl
   rfl
  have h1:¬s<0:=by simpa using hg2
  refine zs5 ?_
  refine Wi rfl (fun hi1=>?_) (fun hi1=>?_)
  ·have h2:(am v.mem (W64 (b+8))).1<=s:=by simpa using hi1
   refine zu1 ?_
   refine Wq<|aO rfl rfl ?_ ?_
   ·rw[ko,if_pos h0,if_pos (.inr h2)];rfl
   rfl
  have h2:¬(am v.mem (W64 (b+8))).1<=s:=by simpa using hi1
  refine Wj<|zu2 ?_
  refine Wq<|aO rfl rfl ?_ ?_
  ·rw[ko,if_pos h0,if_neg (by rintro(h|h)<;>contradiction),<-h0];rfl
  rfl
 have h0:¬(am v.mem (W64 (b+8))).2=0:=by simpa using hg1
 iterate 7 refine z6 ?_
 refine zs1 ?_
 refine Wf rfl rfl ?_
 refine Wj<|zu2 ?_
 refine Wq<|aO rfl rfl ?_ ?_
 ·rw[ko,if_neg h0];rfl
 rfl
def Aq{a b:Int}(ha:Fit a)(hb:Fit b):Fit (xD a b).1/\Fit (xD a b).2:=by
 have h:(a*b).natAbs<=9223372036854775808*9223372036854775808:=by rw[Int.natAbs_mul];exact Nat.mul_le_mul (by omega) (by omega)
 refine⟨by show Fit (wrap64 _);unfold wrap64;omega,?_⟩
 show Fit (a*b/18446744073709551616)
 omega
def XOk(k:Nat)(x:List Int):Prop:=k<=x.length/\∀a∈x,ae a
def XOk.fit{k:Nat}{x:List Int}(h:XOk k x)(i:Nat):ae (xat x i):=by
 unfold xat List.getD
 cases hi:x[i]? with
 | none=>simp[ae]
 | some a=>exact h.2 a (List.mem_of_getElem? hi)
def XOk.len{k:Nat}{x:List Int}(h:XOk k x):k<=x.length:=h.1
def Qz(q r e:Int):ab prog 276 [i64 q,i64 r,i64 e] (tLv ([r,q],e)):=by
 refine zY func276 fun B=>?_
 refine zu2 ?_
 refine zp3 ?_
 refine Wa 10 rfl (bsL ap [_,_] rfl rfl) ?_
 refine zs3 ?_
 refine zR ?_
 rfl
def Yg(x:List Int)(hx:XOk 3 x):ab prog 277 [sq ap x] (t3i (zn x)):=by
 have hl:=hx.len
 have hf:=Aq (hx.fit 0) (hx.fit 1)
 refine zY func277 fun B=>?_
 refine zu3 ?_
 refine Ws<|ax [0,0,1,0,0,1,0,0,0,0,0,0] [0,1,2,3,4,5,6,7,8,9,10,11] mG rfl (by kernel_rfl) ?_
 refine z3 ?_
 refine z9i ?_
 refine z5 ?_
 refine z3 ?_
 refine z9i ?_
 refine z5 ?_
 refine Xc rfl rfl rfl rfl (fun _=>dC rfl func278 rfl rfl ((Y4 _ _ (hx.fit 0) (hx.fit 1)) _)) ?_
 iterate 5 refine z3 ?_
 refine aQ ?_
 refine zp3 ?_
 refine Wv tG rfl rfl rfl (by omega) (iN ap 1 (fun _=>rfl) 0 (by(simp only[dnL]at *;omega))) ?_
 refine z1 ?_
 refine zc rfl func279 ((Qv _ _ _ hf.2 (hx.fit 2)) _) ?_
 refine zy5 ?_
 refine zs1 ?_
 refine zR ?_
 rfl
def tj(q r e:Int):ur 276 [i64 q,i64 r,i64 e] (tLv ([r,q],e)):=fun H=>⟨⟨_,func276,rfl,rfl⟩,Qz q r e H⟩
def LX(x:List Int)(hx:XOk 3 x):ur 277 [sq ap x] (t3i (zn x)):=fun H=>⟨⟨_,func277,rfl,rfl⟩,Yg x hx H⟩
abbrev pw:List PV:=[.row [fnP 276 []]]
abbrev Sl:List PV:=[.row [fnP 277 []]]
abbrev Gs:List PV:=[.row [fnP 276 []],.row [fnP 277 []]]
def aG0(x:List Int)(hx:XOk 2 x):ab prog 280 ([sq ap x]++pw) (tLv (bC x)):=by
 have hl:=hx.len
 refine zY func280 fun B=>?_
 refine zu2 ?_
 refine Ws<|ax [1,0,0,1,0,0,1,0,0,0,0,0,0,0,0,0] [0,1,2,3,4,5,6,7,8,9,10,11,12,13,14,15] mG rfl (by kernel_rfl) ?_
 refine z5 ?_
 refine z3 ?_
 refine z9i ?_
 refine z5 ?_
 refine z3 ?_
 refine z9i ?_
 refine z5 ?_
 refine Xc rfl rfl rfl rfl (fun _=>dC rfl func272 rfl rfl ((RF _ _ (hx.fit 1)) _)) ?_
 iterate 3 refine z3 ?_
 refine Xc rfl rfl rfl rfl (fun _=>fp rfl rfl (tj _ _ _ _)) ?_
 iterate 4 refine z3 ?_
 refine aQ ?_
 refine zR ?_
 rfl
def aG7(x:List Int)(hx:XOk 3 x):ab prog 281 ([sq ap x]++Gs) (tLv (bh x)):=by
 refine zY func281 fun B=>?_
 refine zu2 ?_
 refine Ws<|ax [1,1,0,0,0,0,0,0,0,0,0,0] [0,1,2,3,4,5,6,7,8,9,10,11] mG rfl (by kernel_rfl) ?_
 iterate 2 refine z5 ?_
 refine z3 ?_
 refine Xc rfl rfl rfl rfl (fun _=>fp rfl rfl (LX x hx _)) ?_
 iterate 3 refine z3 ?_
 refine Xc rfl rfl rfl rfl (fun _=>fp rfl rfl (tj _ _ _ _)) ?_
 iterate 4 refine z3 ?_
 refine aQ ?_
 refine zR ?_
 rfl
def aF3(x:List Int)(hx:XOk 3 x):ab prog 282 ([sq ap x]++Sl) (tLv (dn x)):=by
 refine zY func282 fun B=>?_
 refine zu2 ?_
 refine zp2 ?_
 refine Wc rfl rfl (fp rfl rfl (LX x hx _)) ?_
 refine zy5 ?_
 refine zs2 ?_
 refine zp2 ?_
 refine Wa 16 rfl (bsL ap [_] rfl rfl) ?_
 refine zs3 ?_
 refine zR ?_
 rfl
def aE2(x:List Int)(hx:XOk 2 x):ab prog 283 [sq ap x] (tLv (pUM x)):=by
 have hl:=hx.len
 refine zY func283 fun B=>?_
 refine zu2 ?_
 refine Ws<|ax [0,0,1,0,0,1,0,0,0,0,0,0] [0,1,2,3,4,5,6,7,8,9,10,11] mG rfl (by kernel_rfl) ?_
 refine z3 ?_
 refine z9i ?_
 refine z5 ?_
 refine z3 ?_
 refine z9i ?_
 refine z5 ?_
 refine Xc rfl rfl rfl rfl (fun _=>dC rfl func284 rfl rfl ((aa9 _ _) _)) ?_
 iterate 5 refine z3 ?_
 refine aQ ?_
 refine zp3 ?_
 refine Wa 18 rfl (bsL ap [_,_] rfl rfl) ?_
 refine zc rfl func245 ((lV _) _) ?_
 refine zs4 ?_
 refine zR ?_
 rfl
def aE6(x:List Int)(hx:XOk 2 x):ab prog 285 [sq ap x] (tLv (pM x)):=by
 have hl:=hx.len
 refine zY func285 fun B=>?_
 refine zu2 ?_
 refine Ws<|ax [0,0,1,0,0,1,0,0,0,0,0,0] [0,1,2,3,4,5,6,7,8,9,10,11] mG rfl (by kernel_rfl) ?_
 refine z3 ?_
 refine z9i ?_
 refine z5 ?_
 refine z3 ?_
 refine z9i ?_
 refine z5 ?_
 refine Xc rfl rfl rfl rfl (fun _=>dC rfl func278 rfl rfl ((Y4 _ _ (hx.fit 0) (hx.fit 1)) _)) ?_
 iterate 5 refine z3 ?_
 refine aQ ?_
 refine zp3 ?_
 refine Wa 18 rfl (bsL ap [_,_] rfl rfl) ?_
 refine zc rfl func245 ((lV _) _) ?_
 refine zs4 ?_
 refine zR ?_
 rfl
def aF5(x:List Int)(hx:XOk 3 x):ab prog 286 ([sq ap x]++pw) (tLv (dk x)):=by
 have hl:=hx.len
 refine zY func286 fun B=>?_
 refine zu2 ?_
 refine Ws<|ax [1,0,0,1,0,0,1,0,0,1,0,0,0,0,0,0,0,0,0] [0,1,2,3,4,5,6,7,8,9,10,11,12,13,14,15,16,17,18] mG rfl (by kernel_rfl) ?_
 refine z5 ?_
 refine z3 ?_
 refine z9i ?_
 refine z5 ?_
 refine z3 ?_
 refine z9i ?_
 refine z5 ?_
 refine z3 ?_
 refine z9i ?_
 refine z5 ?_
 refine Xc rfl rfl rfl rfl (fun _=>dC rfl func287 rfl rfl ((JJ _ _ _) _)) ?_
 iterate 3 refine z3 ?_
 refine Xc rfl rfl rfl rfl (fun _=>fp rfl rfl (tj _ _ _ _)) ?_
 iterate 4 refine z3 ?_
 refine aQ ?_
 refine zR ?_
 rfl
def aH1(x:List Int)(hx:XOk 3 x):ab prog 288 ([sq ap x]++pw) (tLv (dq x)):=by
 have hl:=hx.len
 refine zY func288 fun B=>?_
 refine zu2 ?_
 refine Ws<|ax [1,0,0,1,0,0,1,0,0,1,0,0,0,0,0,0,0,0,0] [0,1,2,3,4,5,6,7,8,9,10,11,12,13,14,15,16,17,18] mG rfl (by kernel_rfl) ?_
 refine z5 ?_
 refine z3 ?_
 refine z9i ?_
 refine z5 ?_
 refine z3 ?_
 refine z9i ?_
 refine z5 ?_
 refine z3 ?_
 refine z9i ?_
 refine z5 ?_
 refine Xc rfl rfl rfl rfl (fun _=>dC rfl func289 rfl rfl ((ad6 _ _ _ (hx.fit 1) (hx.fit 2)) _)) ?_
 iterate 3 refine z3 ?_
 refine Xc rfl rfl rfl rfl (fun _=>fp rfl rfl (tj _ _ _ _)) ?_
 iterate 4 refine z3 ?_
 refine aQ ?_
 refine zR ?_
 rfl
def aB8(x:List Int)(hx:XOk 3 x):ab prog 290 ([sq ap x]++pw) (tLv (dm x)):=by
 have hl:=hx.len
 refine zY func290 fun B=>?_
 refine zu2 ?_
 refine Ws<|ax [1,0,0,1,0,0,1,0,0,1,0,0,0,0,0,0,0,0,0] [0,1,2,3,4,5,6,7,8,9,10,11,12,13,14,15,16,17,18] mG rfl (by kernel_rfl) ?_
 refine z5 ?_
 refine z3 ?_
 refine z9i ?_
 refine z5 ?_
 refine z3 ?_
 refine z9i ?_
 refine z5 ?_
 refine z3 ?_
 refine z9i ?_
 refine z5 ?_
 refine Xc rfl rfl rfl rfl (fun _=>dC rfl func279 rfl rfl ((Qv _ _ _ (hx.fit 1) (hx.fit 2)) _)) ?_
 iterate 3 refine z3 ?_
 refine Xc rfl rfl rfl rfl (fun _=>fp rfl rfl (tj _ _ _ _)) ?_
 iterate 4 refine z3 ?_
 refine aQ ?_
 refine zR ?_
 rfl
def aC5(x:List Int)(hx:XOk 1 x):ab prog 291 [sq ap x] (tLv (pSD x)):=by
 have hl:=hx.len
 refine zY func291 fun B=>?_
 refine zu2 ?_
 refine Ws<|ax [0,0,1,0,0,1,0,0,0,0,0,0,0,0] [0,1,2,3,4,5,6,7,8,9,10,11,12,13] mG rfl (by kernel_rfl) ?_
 refine z3 ?_
 refine z9i ?_
 refine z5 ?_
 refine z3 ?_
 refine z9i ?_
 refine z5 ?_
 refine z3 ?_
 refine Xc rfl rfl rfl rfl (fun _=>dC rfl func292 rfl rfl ((Dh _) _)) ?_
 refine z3 ?_
 refine Xa 12 rfl (bsL ap [_,_] rfl rfl) ?_
 refine Xc rfl rfl rfl rfl (fun _=>dC rfl func245 rfl rfl ((lV _) _)) ?_
 iterate 4 refine z3 ?_
 refine aQ ?_
 refine zR ?_
 rfl
def ay4(x:List Int)(hx:XOk 3 x):ab prog 293 [sq ap x] (tLv (bB x)):=by
 have hl:=hx.len
 refine zY func293 fun B=>?_
 refine zu2 ?_
 refine Ws<|ax [0,0,1,0,0,1,0,0,1,0,0,0,0,0,0,0,0] [0,1,2,3,4,5,6,7,8,9,10,11,12,13,14,15,16] mG rfl (by kernel_rfl) ?_
 refine z3 ?_
 refine z9i ?_
 refine z5 ?_
 refine z3 ?_
 refine z9i ?_
 refine z5 ?_
 refine z3 ?_
 refine z9i ?_
 refine z5 ?_
 refine Xc rfl rfl rfl rfl (fun _=>dC rfl func294 rfl rfl ((K0 _ _ _) _)) ?_
 refine Xc rfl rfl rfl rfl (fun _=>dC rfl func292 rfl rfl ((Dh _) _)) ?_
 refine z3 ?_
 refine Xa 15 rfl (bsL ap [_] rfl rfl) ?_
 refine Xc rfl rfl rfl rfl (fun _=>dC rfl func245 rfl rfl ((lV _) _)) ?_
 iterate 4 refine z3 ?_
 refine aQ ?_
 refine zR ?_
 rfl
def aH7(v:VVm)(x:List Int)(hm:da v.mem)(hx:XOk 2 x):ab prog 298 [jC v.mem,sq ap x] (vP (ay v.mem (xat x 1) (xat x 0))):=by
 have hl:=hx.len
 refine zY func298 fun B=>?_
 refine zu3 ?_
 refine Ws<|ax [1,0,0,1,0,0,1,0,0,0,3,0] [0,1,2,3,4,5,6,7,8,9,10,11] mG rfl (by kernel_rfl) ?_
 refine z5 ?_
 refine z3 ?_
 refine z9i ?_
 refine z5 ?_
 refine z3 ?_
 refine z9i ?_
 refine z5 ?_
 refine Xc rfl rfl rfl rfl (fun _=>dC rfl func92 rfl rfl ((jG _ _ _ hm (hx.fit 1)) _)) ?_
 iterate 2 refine z3 ?_
 refine dH tG rfl rfl rfl rfl rfl trivial ?_
 refine z3 ?_
 refine aQ ?_
 refine zR ?_
 rfl
def aI9(v:VVm)(x:List Int)(hm:da v.mem)(hx:XOk 2 x):ab prog 299 [jC v.mem,sq ap x] (vP (nC v.mem (xat x 1) (xat x 0))):=by
 have hl:=hx.len
 refine zY func299 fun B=>?_
 refine zu3 ?_
 refine Ws<|ax [1,0,0,1,0,0,1,0,0,0,3,0] [0,1,2,3,4,5,6,7,8,9,10,11] mG rfl (by kernel_rfl) ?_
 refine z5 ?_
 refine z3 ?_
 refine z9i ?_
 refine z5 ?_
 refine z3 ?_
 refine z9i ?_
 refine z5 ?_
 refine Xc rfl rfl rfl rfl (fun _=>dC rfl func300 rfl rfl ((BQ _ _ _ hm (hx.fit 1)) _)) ?_
 iterate 2 refine z3 ?_
 refine dH tG rfl rfl rfl rfl rfl trivial ?_
 refine z3 ?_
 refine aQ ?_
 refine zR ?_
 rfl
def gI{m:bn}(hm:da m):m.b.length<=140737488355328:=by have:=hm.b;omega
def aF4(v:VVm)(x:List Int)(hm:da v.mem)(hx:XOk 2 x):ab prog 301 [jC v.mem,sq ap x] (vP (se v x)):=by
 have hl:=hx.len
 refine zY func301 fun B=>?_
 refine zu3 ?_
 refine Ws<|ax [1,0,0,1,0,0,0,0,0,0] [0,1,2,3,4,5,6,7,8,9] mG rfl (by kernel_rfl) ?_
 refine z5 ?_
 refine z3 ?_
 refine z9i ?_
 refine z5 ?_
 refine Xc rfl rfl rfl rfl (fun _=>dC rfl func39 rfl rfl ((gH _ _ (gI hm) (hx.fit 1)) _)) ?_
 iterate 5 refine z3 ?_
 refine aQ ?_
 refine Ws<|zu2 ?_
 refine Wi rfl (fun hi1=>?_) (fun hi1=>?_)
 ·have h0:¬(am v.mem (xat x 1)).2=0:=bne_iff_ne.1 hi1
  refine zu4 ?_
  refine zR ?_
  rw[se,if_neg h0];rfl
 have h0:(am v.mem (xat x 1)).2=0:=bne_eq_false_iff_eq.1 hi1
 refine Wj<|Ws<|ax [1,0,0,1,0,0,0,1,0,0,0,0,3,0] [0,1,2,3,4,5,6,7,8,9,10,11,12,13] mG rfl (by kernel_rfl) ?_
 refine z5 ?_
 refine z3 ?_
 refine z9i ?_
 refine z5 ?_
 iterate 2 refine z3 ?_
 refine z9i ?_
 refine z5 ?_
 refine z3 ?_
 refine Xc rfl rfl rfl rfl (fun _=>dC rfl func92 rfl rfl ((jG _ _ _ hm (hx.fit 1)) _)) ?_
 iterate 2 refine z3 ?_
 refine dH tG rfl rfl rfl rfl rfl trivial ?_
 refine z3 ?_
 refine aQ ?_
 refine zR ?_
 rw[se,if_pos h0];rfl
def qz(n:Int):ae (W64 n):=by unfold ae W64;rw[bU];unfold wrap64;omega
def aI2(v:VVm)(x:List Int)(hm:da v.mem)(hx:XOk 1 x):∀(H:List Ob) (i:Nat),H[i]?=some (.cells (cVm v) 37)->HC prog 302 (.ptr i 0::[sq ap x]) H (tLv (lu v x).2) (H.set i (.cells (cVm (lu v x).1) 37)):=by
 have hl:=hx.len
 refine zM func302 fun B=>?_
 refine zu2 ?_
 refine Ws<|ax [0,0,0,1,0,0,1,0,0,0,0,0,0] [0,1,2,3,4,5,6,7,8,9,10,11,12] mG rfl (by kernel_rfl) ?_
 iterate 3 refine z3 ?_
 refine z5 ?_
 refine z3 ?_
 refine z9i ?_
 refine z5 ?_
 refine Xc rfl rfl rfl rfl (fun _=>dC rfl func39 rfl rfl ((gH _ _ (gI hm) (hx.fit 0)) _)) ?_
 iterate 5 refine z3 ?_
 refine aQ ?_
 refine Ws<|zu2 ?_
 refine Wi rfl (fun hi1=>?_) (fun hi1=>?_)
 ·have h0:¬(am v.mem (xat x 0)).2=0:=bne_iff_ne.1 hi1
  refine zu3 ?_
  refine Wq<|aO rfl rfl ?_ ?_
  ·rw[lu,if_neg h0];rfl
  rw[lu,if_neg h0];rfl
 have h0:(am v.mem (xat x 0)).2=0:=bne_eq_false_iff_eq.1 hi1
 refine Wj<|Ws<|ax [0,0,0,1,0,0,1,0,0,0,0,0,0,0] [0,1,2,3,4,5,6,7,8,9,10,11,12,13] mG rfl (by kernel_rfl) ?_
 iterate 3 refine z3 ?_
 refine z5 ?_
 refine z3 ?_
 refine z9i ?_
 refine z5 ?_
 refine z3 ?_
 refine Xc rfl rfl rfl rfl (fun _=>dC rfl func39 rfl rfl ((gH _ _ (gI hm) (qz _)) _)) ?_
 iterate 5 refine z3 ?_
 refine aQ ?_
 refine zp3 ?_
 refine Wa 37 rfl (bsL ap [_,_] rfl rfl) ?_
 refine zs3 ?_
 refine Wq<|aO rfl rfl ?_ ?_
 ·rw[lu,if_pos h0];rfl
 rw[lu,if_pos h0];rfl
def wn{m:bn}{a n:Int}(h:bt m a n=true):n=0\/(0<n/\0<=a/\a+n<=m.b.length):=by unfold bt at h;exact oT h
def KU{l b:List UInt8}{k:Nat}(h:k+b.length<=l.length):(jN l k b).length=l.length:=by unfold jN;simp only[List.length_append,List.length_take,List.length_drop];omega
def ww(m:bn)(a:Int)(b:List UInt8):(cn m a b).1.b.length=m.b.length:=by
 unfold cn
 split
 ·rename_i h
  split
  ·rfl
  rename_i hb
  have:=List.length_pos_iff.2 hb
  rcases wn h with h|⟨h1,h2,h3⟩
  ·omega
  exact KU (by omega)
 rfl
def wN(m:bn)(a:Int)(b:List UInt8):(cn m a b).1.old.length<=m.old.length+1:=by
 unfold cn
 split
 ·split
  ·exact Nat.le_succ _
  simp
 exact Nat.le_succ _
def Ig{m:bn}(hm:da m)(a:Int)(b:List UInt8)(h:m.old.length+1<=1000000):da (cn m a b).1 :=
 ⟨by rw[ww];exact hm.b,Nat.le_trans (wN m a b) h⟩
def FX{m:bn}(hm:da m)(a n:Int)(h:m.old.length+1<=1000000):da (ay m a n).1:=by
 unfold ay
 split
 ·exact Ig hm _ _ h
 exact hm
def aD6(v:VVm)(x:List Int)(hm:da v.mem)(ho:v.mem.old.length+1<=1000000)(hx:XOk 3 x):ab prog 303 [jC v.mem,sq ap x] (vP (oS v x)):=by
 have hl:=hx.len
 refine zY func303 fun B=>?_
 refine zu3 ?_
 refine Ws<|ax [1,0,0,1,0,0,1,0,0,0,0,3,0] [0,1,2,3,4,5,6,7,8,9,10,11,12] mG rfl (by kernel_rfl) ?_
 refine z5 ?_
 refine z3 ?_
 refine z9i ?_
 refine z5 ?_
 refine z3 ?_
 refine z9i ?_
 refine z5 ?_
 refine Xc rfl rfl rfl rfl (fun _=>dC rfl func92 rfl rfl ((jG _ _ _ hm (hx.fit 2)) _)) ?_
 iterate 3 refine z3 ?_
 refine dH tG rfl rfl rfl rfl rfl trivial ?_
 refine z3 ?_
 refine aQ ?_
 refine Ws<|zu2 ?_
 refine Wi rfl (fun hi1=>?_) (fun hi1=>?_)
 ·have h0:¬(ay v.mem (xat x 2) (xat x 1)).2=0:=bne_iff_ne.1 hi1
  refine zu4 ?_
  refine zR ?_
  rw[oS,if_neg h0];rfl
 have h0:(ay v.mem (xat x 2) (xat x 1)).2=0:=bne_eq_false_iff_eq.1 hi1
 refine Wj<|Ws<|ax [1,0,0,1,0,0,0,1,0,0,0,3,0] [0,1,2,3,4,5,6,7,8,9,10,11,12] mG rfl (by kernel_rfl) ?_
 refine z5 ?_
 refine z3 ?_
 refine z9i ?_
 refine z5 ?_
 iterate 2 refine z3 ?_
 refine z9i ?_
 refine z5 ?_
 refine Xc rfl rfl rfl rfl (fun _=>dC rfl func92 rfl rfl ((jG _ _ _ (FX hm _ _ ho) (qz _)) _)) ?_
 iterate 2 refine z3 ?_
 refine dH tG rfl rfl rfl rfl rfl trivial ?_
 refine z3 ?_
 refine aQ ?_
 refine zR ?_
 rw[oS,if_pos h0];rfl
def aE1(v:VVm)(x:List Int)(hm:da v.mem)(hx:XOk 3 x):ab prog 304 [jC v.mem,sq ap x] (vP (nB v.mem (xat x 0) (xat x 1) (xat x 2))):=by
 have hl:=hx.len
 refine zY func304 fun B=>?_
 refine zu3 ?_
 refine Ws<|ax [1,0,0,1,0,0,1,0,0,1,0,0,0,3,0] [0,1,2,3,4,5,6,7,8,9,10,11,12,13,14] mG rfl (by kernel_rfl) ?_
 refine z5 ?_
 refine z3 ?_
 refine z9i ?_
 refine z5 ?_
 refine z3 ?_
 refine z9i ?_
 refine z5 ?_
 refine z3 ?_
 refine z9i ?_
 refine z5 ?_
 refine Xc rfl rfl rfl rfl (fun _=>dC rfl func305 rfl rfl ((Sm _ _ _ _ hm (hx.fit 0) (hx.fit 1)) _)) ?_
 iterate 2 refine z3 ?_
 refine dH tG rfl rfl rfl rfl rfl trivial ?_
 refine z3 ?_
 refine aQ ?_
 refine zR ?_
 rfl
def aE0(v:VVm)(x:List Int)(hm:da v.mem)(hx:XOk 3 x):ab prog 306 [jC v.mem,sq ap x] (vP (ny v.mem (xat x 0) (xat x 1) (xat x 2))):=by
 have hl:=hx.len
 refine zY func306 fun B=>?_
 refine zu3 ?_
 refine Ws<|ax [1,0,0,1,0,0,1,0,0,1,0,0,0,3,0] [0,1,2,3,4,5,6,7,8,9,10,11,12,13,14] mG rfl (by kernel_rfl) ?_
 refine z5 ?_
 refine z3 ?_
 refine z9i ?_
 refine z5 ?_
 refine z3 ?_
 refine z9i ?_
 refine z5 ?_
 refine z3 ?_
 refine z9i ?_
 refine z5 ?_
 refine Xc rfl rfl rfl rfl (fun _=>dC rfl func307 rfl rfl ((TG _ _ _ _ hm (hx.fit 0) (hx.fit 1) (hx.fit 2)) _)) ?_
 iterate 2 refine z3 ?_
 refine dH tG rfl rfl rfl rfl rfl trivial ?_
 refine z3 ?_
 refine aQ ?_
 refine zR ?_
 rfl
def aF8(v:VVm)(x:List Int)(hm:da v.mem)(hx:XOk 1 x):∀(H:List Ob) (i:Nat),H[i]?=some (.cells (cVm v) 37)->HC prog 308 (.ptr i 0::[sq ap x]) H (tLv (bZ v x).2) (H.set i (.cells (cVm v) 37)):=by
 have hl:=hx.len
 refine zM func308 fun B=>?_
 refine zu2 ?_
 refine Ws<|ax [0,0,0,1,0,0,1,0,0,0,0,0,0] [0,1,2,3,4,5,6,7,8,9,10,11,12] mG rfl (by kernel_rfl) ?_
 iterate 3 refine z3 ?_
 refine z5 ?_
 refine z3 ?_
 refine z9i ?_
 refine z5 ?_
 refine Xc rfl rfl rfl rfl (fun _=>dC rfl func296 rfl rfl ((uw _ _ hm (hx.fit 0)) _)) ?_
 iterate 5 refine z3 ?_
 refine aQ ?_
 refine zp1 ?_
 refine Wv tG rfl rfl rfl (by omega) (iN ap 1 (fun _=>rfl) 0 (by(simp only[dnL]at *;omega))) ?_
 refine zy4 ?_
 refine Wa 24 rfl (bsL ap [_,_] rfl rfl) ?_
 refine zs3 ?_
 refine Wq<|aO rfl rfl ?_ ?_
 ·rfl
 rfl
def aI8(v:VVm):ab prog 315 [eVm v] (i64 v.here):=by
 refine zY func315 fun B=>?_
 refine zu2 ?_
 refine zu3 ?_
 refine zR ?_
 rfl
def aF1(v:VVm)(x:List Int)(hm:da v.mem)(hh:iy v.mem v.here)(hx:XOk 1 x):ab prog 317 [jC v.mem,i64 v.here,sq ap x] (B4 (uM v x)):=by
 have hl:=hx.len
 refine zY func317 fun B=>?_
 refine zu4 ?_
 refine Ws<|ax [1,0,0,0,0,1,0,0,0,0,0,0] [0,1,2,3,4,5,6,7,8,9,10,11] mG rfl (by kernel_rfl) ?_
 refine z5 ?_
 refine Xc rfl rfl rfl rfl (fun _=>dC rfl func218 rfl rfl ((Au) _)) ?_
 iterate 2 refine z3 ?_
 refine z9i ?_
 refine z5 ?_
 refine Xc rfl rfl rfl rfl (fun _=>dC rfl func318 rfl rfl ((Om _ _ _ _ hm hh (by unfold ae;omega) (hx.fit 0)) _)) ?_
 iterate 5 refine z3 ?_
 refine aQ ?_
 refine zp5 ?_
 refine zs1 ?_
 refine zR ?_
 rfl
def aH0(v:VVm)(x:List Int)(hm:da v.mem)(hh:iy v.mem v.here)(hx:XOk 1 x):ab prog 319 [jC v.mem,i64 v.here,sq ap x] (B4 (cy v.mem v.here (xat x 0))):=by
 have hl:=hx.len
 refine zY func319 fun B=>?_
 refine zu4 ?_
 refine Ws<|ax [1,0,0,0,1,0,0,0,0,3,0,0] [0,1,2,3,4,5,6,7,8,9,10,11] mG rfl (by kernel_rfl) ?_
 refine z5 ?_
 iterate 2 refine z3 ?_
 refine z9i ?_
 refine z5 ?_
 refine Xc rfl rfl rfl rfl (fun _=>dC rfl func127 rfl rfl ((CJ _ _ _ hm hh) _)) ?_
 iterate 3 refine z3 ?_
 refine dH tG rfl rfl rfl rfl rfl trivial ?_
 iterate 2 refine z3 ?_
 refine aQ ?_
 refine zR ?_
 rfl
def aJ1(v:VVm)(x:List Int)(hm:da v.mem)(hh:iy v.mem v.here)(hx:XOk 1 x):ab prog 320 [jC v.mem,i64 v.here,sq ap x] (B4 (dg v.mem v.here [loB (xat x 0)])):=by
 have hl:=hx.len
 refine zY func320 fun B=>?_
 refine zu4 ?_
 refine Ws<|ax [1,0,0,0,1,0,0,0,0,0,0,3,0,0] [0,1,2,3,4,5,6,7,8,9,10,11,12,13] mG rfl (by kernel_rfl) ?_
 refine z5 ?_
 iterate 2 refine z3 ?_
 refine z9i ?_
 refine z5 ?_
 refine z3 ?_
 refine Xa 14 rfl (Al _) ?_
 refine z3 ?_
 refine Xa 15 rfl (bsL aL [_] rfl rfl) ?_
 refine Xc rfl rfl rfl rfl (fun _=>dC rfl func174 rfl rfl ((yU _ _ [loB (xat x 0)] hm hh (by simp)) _)) ?_
 iterate 3 refine z3 ?_
 refine dH tG rfl rfl rfl rfl rfl trivial ?_
 iterate 2 refine z3 ?_
 refine aQ ?_
 refine zR ?_
 rfl
def aG3(v:VVm)(x:List Int)(hm:da v.mem)(hh:iy v.mem v.here):ab prog 321 [jC v.mem,i64 v.here,sq ap x] (B4 (aN v.mem v.here)):=by
 refine zY func321 fun B=>?_
 refine zu4 ?_
 refine zp2 ?_
 refine zc rfl func220 ((sF _ _ hm hh) _) ?_
 refine zy5 ?_
 refine zs1 ?_
 refine zR ?_
 rfl
def aG1(v:VVm)(x:List Int)(hx:XOk 1 x):ab prog 328 [eVm v,sq ap x] (ng ([loB (xat x 0)],0)):=by
 have hl:=hx.len
 refine zY func328 fun B=>?_
 refine zu3 ?_
 refine zp1 ?_
 refine Wv tG rfl rfl rfl (by omega) (iN ap 1 (fun _=>rfl) 0 (by(simp only[dnL]at *;omega))) ?_
 refine zy2 ?_
 refine Wa 9 rfl (Al _) ?_
 refine z1 ?_
 refine Wa 10 rfl (bsL aL [_] rfl rfl) ?_
 refine Wd rfl rfl (oB (lO tG rfl) rfl (lO tG rfl) rfl (lO tG rfl) rfl rfl rfl) ?_
 refine zs2 ?_
 refine zR ?_
 rfl
def ER(n:Nat):Lib.repeatL [32] n=List.replicate n 32:=by
 induction n with
 | zero=>rfl
 | succ n ih=>show [32]++Lib.repeatL [32] n=_;rw[ih];rfl
def zH(n:Nat)(hn:n<=1000000):ab prog 330 [str [32],i64 n] (str (List.replicate n 32)):=by
 refine d9 (args:=[.string ⟨#[32]⟩,.int .i64 n]) (fun c=>aq _ _) fun w=>Calls.mono (Tryz.strings_Repeat ⟨#[32]⟩ n w (by omega) (by show 1*n<=_;omega)) ?_
 rintro e w' ⟨rfl,hb⟩
 have h1:(⟨#[32]⟩:ByteArray).data.toList=[32]:=rfl
 rw[h1,ER]
 exact⟨rfl,ba.of_below hb⟩
def NH(a b:Int):(if b<if 0>a then 0 else a then b else if 0>a then 0 else a)=min (max a 0) b:=by
 by_cases h:0>a
 ·simp only[if_pos h];split<;>omega
 simp only[if_neg h];split<;>omega
def aE9(v:VVm)(x:List Int)(ho:0<=v.conf.out/\v.conf.out<=900000)(hx:XOk 1 x):ab prog 329 [eVm v,sq ap x] (ng (wt v x,0)):=by
 have hl:=hx.len
 have h0:=hx.fit 0
 have w1:IntKind.i64.wrap (v.conf.out+1)=v.conf.out+1:=by((rw[bU];unfold wrap64;(try simp only[dnL]at *);omega))
 have w2:min (max (xat x 0) 0) (v.conf.out+1)=((min (max (xat x 0) 0) (v.conf.out+1)).toNat:Int):=by omega
 refine zY func329 fun B=>?_
 refine zu3 ?_
 refine Ws<|ax [0,0,1,0,0,0,1,0,0,0,0,0] [0,1,2,3,4,5,6,7,8,9,10,11] mG rfl (by kernel_rfl) ?_
 refine z3 ?_
 refine z9i ?_
 refine z5 ?_
 iterate 3 refine z3 ?_
 refine z5 ?_
 refine z3 ?_
 refine Xa 13 rfl (congrArg (fun z=>PV.val (Value.int .i64 z)) w1) ?_
 refine z3 ?_
 refine Xa 14 rfl (congrArg (fun z=>PV.val (Value.int .i64 z)) ((NH (xat x 0) (v.conf.out+1)).trans w2)) ?_
 refine Xc rfl rfl rfl rfl (fun _=>dC rfl func330 rfl rfl ((zH _ (by omega)) _)) ?_
 iterate 2 refine z3 ?_
 refine aQ ?_
 refine zR ?_
 rfl
def aF7(v:VVm)(x:List Int)(hm:da v.mem)(hx:XOk 2 x):ab prog 331 [eVm v,sq ap x] (ng (dU v.mem (xat x 0) (xat x 1))):=by
 have hl:=hx.len
 refine zY func331 fun B=>?_
 refine zu3 ?_
 refine Ws<|ax [0,1,0,0,1,0,0,1,0,0,0,0,0,0] [0,1,2,3,4,5,6,7,8,9,10,11,12,13] mG rfl (by kernel_rfl) ?_
 refine z3 ?_
 refine z5 ?_
 refine z3 ?_
 refine z9i ?_
 refine z5 ?_
 refine z3 ?_
 refine z9i ?_
 refine z5 ?_
 refine Xc rfl rfl rfl rfl (fun _=>dC rfl func257 rfl rfl ((zZ _ _ _ hm (hx.fit 0) (hx.fit 1)) _)) ?_
 iterate 5 refine z3 ?_
 refine aQ ?_
 refine zp1 ?_
 refine Wd rfl rfl (oB (lO tG rfl) rfl (lO tG rfl) rfl (lO tG rfl) rfl rfl rfl) ?_
 refine zs3 ?_
 refine zR ?_
 rfl
def aH9(v:VVm)(x:List Int):∀(H:List Ob) (i:Nat),H[i]?=some (.cells (cVm v) 37)->HC prog 336 (.ptr i 0::[sq ap x]) H (tLv ([],0)) (H.set i (.cells (cVm (ut v ⟨[],true⟩)) 37)):=by
 refine zM func336 fun B=>?_
 refine zu2 ?_
 refine zp1 ?_
 refine zc rfl func337 ((OO) _) ?_
 refine zs3 ?_
 refine zu2 ?_
 refine Wq<|aO rfl rfl ?_ ?_
 ·rfl
 rfl
def aE8(v:VVm)(x:List Int)(hp:v.pic.b.length<=1000000)(hm:v.mem.b.length<=140737488355328)(hx:XOk 2 x):∀(H:List Ob) (i:Nat),H[i]?=some (.cells (cVm v) 37)->HC prog 338 (.ptr i 0::[sq ap x]) H (tLv (gB v x).2) (H.set i (.cells (cVm (gB v x).1) 37)):=by
 have hl:=hx.len
 refine zM func338 fun B=>?_
 refine zu2 ?_
 refine Ws<|ax [0,0,0,1,0,0,1,0,0,1,0,0,1,0,0,0,0,0,0,0,2,3,0,0,0] [0,1,2,3,4,5,6,7,8,9,10,11,12,13,14,15,16,17,18,19,20,21,22,23,24] mG rfl (by kernel_rfl) ?_
 iterate 3 refine z3 ?_
 refine z5 ?_
 refine z3 ?_
 refine z9i ?_
 refine z5 ?_
 refine z3 ?_
 refine z9i ?_
 refine z5 ?_
 iterate 2 refine z3 ?_
 refine z5 ?_
 refine Xc rfl rfl rfl rfl (fun _=>dC rfl func325 rfl rfl ((xL v hm) _)) ?_
 refine Xc rfl rfl rfl rfl (fun _=>dC rfl func339 rfl rfl ((Df _ _ _ _ hp) _)) ?_
 iterate 5 refine z3 ?_
 refine vp tG rfl rfl rfl rfl rfl trivial rfl ?_
 refine dH tG rfl rfl rfl rfl rfl trivial ?_
 iterate 3 refine z3 ?_
 refine aQ ?_
 refine zu5 ?_
 refine zp3 ?_
 refine Wa 36 rfl (bsL ap [_,_] rfl rfl) ?_
 refine zs3 ?_
 refine Wq<|aO rfl rfl ?_ ?_
 ·rfl
 rfl
def aE5(v:VVm)(x:List Int)(hp:v.pic.b.length<=1000000)(hm:v.mem.b.length<=140737488355328)(hx:XOk 2 x):∀(H:List Ob) (i:Nat),H[i]?=some (.cells (cVm v) 37)->HC prog 340 (.ptr i 0::[sq ap x]) H (tLv (gh v x).2) (H.set i (.cells (cVm (gh v x).1) 37)):=by
 have hl:=hx.len
 refine zM func340 fun B=>?_
 refine zu2 ?_
 refine Ws<|ax [0,0,0,1,0,0,1,0,0,1,0,0,1,0,0,0,0,0,2,3,0] [0,1,2,3,4,5,6,7,8,9,10,11,12,13,14,15,16,17,18,19,20] mG rfl (by kernel_rfl) ?_
 iterate 3 refine z3 ?_
 refine z5 ?_
 refine z3 ?_
 refine z9i ?_
 refine z5 ?_
 refine z3 ?_
 refine z9i ?_
 refine z5 ?_
 iterate 2 refine z3 ?_
 refine z5 ?_
 refine Xc rfl rfl rfl rfl (fun _=>dC rfl func325 rfl rfl ((xL v hm) _)) ?_
 refine Xc rfl rfl rfl rfl (fun _=>dC rfl func341 rfl rfl ((XW _ _ _ _ hp) _)) ?_
 iterate 3 refine z3 ?_
 refine vp tG rfl rfl rfl rfl rfl trivial rfl ?_
 refine dH tG rfl rfl rfl rfl rfl trivial ?_
 refine z3 ?_
 refine aQ ?_
 refine zu5 ?_
 refine zp1 ?_
 refine Wa 30 rfl (bsL ap [_,_] rfl rfl) ?_
 refine zs3 ?_
 refine Wq<|aO rfl rfl ?_ ?_
 ·rfl
 rfl
def Ap(p:d8):(lJ p).1.length<=p.b.length:=by unfold lJ;split<;>simp
def aF0(v:VVm)(x:List Int)(hp:v.pic.b.length<=1000000)(hm:da v.mem):∀(H:List Ob) (i:Nat),H[i]?=some (.cells (cVm v) 37)->HC prog 344 (.ptr i 0::[sq ap x]) H (tLv (xR v).2) (H.set i (.cells (cVm (xR v).1) 37)):=by
 have hl:=Ap v.pic
 refine zM func344 fun B=>?_
 refine zu2 ?_
 refine zp4 ?_
 refine zc rfl func345 ((U9 _ hp) _) ?_
 refine zs5 ?_
 refine Ws<|zu2 ?_
 refine Wi rfl (fun hi1=>?_) (fun hi1=>?_)
 ·have h0:¬(lJ v.pic).2=0:=bne_iff_ne.1 hi1
  refine zu3 ?_
  refine Wq<|aO rfl rfl ?_ ?_
  ·rw[xR,if_neg h0];rfl
  rw[xR,if_neg h0];rfl
 have h0:(lJ v.pic).2=0:=bne_eq_false_iff_eq.1 hi1
 refine Wj<|zp5 ?_
 refine zs2 ?_
 refine zp5 ?_
 refine zy3 ?_
 refine Wa 34 rfl (xc _) ?_
 refine zc rfl func123 ((nY _ _ _ hm (qz _) (by omega)) _) ?_
 refine zy5 ?_
 refine zs2 ?_
 refine zu5 ?_
 refine zp3 ?_
 refine Wa 46 rfl (gJ _) ?_
 refine z1 ?_
 refine Wa 47 rfl (bsL ap [_,_] rfl rfl) ?_
 refine zs3 ?_
 refine Wq<|aO rfl rfl ?_ ?_
 ·rw[xR,if_pos h0];rfl
 rw[xR,if_pos h0];rfl
def bL(v:VVm)(x:List Int):List Int×Int:=([W64 (xat x 0+16)],if (av v (xat x 0)).2=0/\((av v (xat x 0)).1<257\/260<(av v (xat x 0)).1)then -31 else(av v (xat x 0)).2)
def aI3(v:VVm)(x:List Int)(hm:v.mem.b.length<=140737488355328)(hx:XOk 1 x):∀(H:List Ob) (i:Nat),H[i]?=some (.cells (cVm v) 37)->HC prog 346 (.ptr i 0::[sq ap x]) H (tLv (bL v x)) (H.set i (.cells (cVm v) 37)):=by
 have hl:=hx.len
 refine zM func346 fun B=>?_
 refine zu2 ?_
 refine Ws<|ax [0,0,1,0,0,1,0,0,0,0,0,0] [0,1,2,3,4,5,6,7,8,9,10,11] mG rfl (by kernel_rfl) ?_
 iterate 2 refine z3 ?_
 refine z5 ?_
 refine z3 ?_
 refine z9i ?_
 refine z5 ?_
 refine Xc rfl rfl rfl rfl (fun _=>dC rfl func67 rfl rfl ((qW v _ hm (hx.fit 0)) _)) ?_
 iterate 5 refine z3 ?_
 refine aQ ?_
 refine Ws<|zp3 ?_
 refine Wb 20 rfl (fun hg1=>?_) (fun hg1=>?_)
 ·have h0:(av v (xat x 0)).2=0:=beq_iff_eq.1 hg1
  refine zy3 ?_
  refine Wb 23 rfl (fun hg2=>?_) (fun hg2=>?_)
  ·have h1:(av v (xat x 0)).1<257:=oT hg2
   iterate 2 refine z6 ?_
   refine zs2 ?_
   refine Wt rfl rfl ?_
   refine aa rfl ?_
   refine zs1 ?_
   refine zp1 ?_
   refine Wv tG rfl rfl rfl (by omega) (iN ap 1 (fun _=>rfl) 0 (by(simp only[dnL]at *;omega))) ?_
   refine zy3 ?_
   refine Wa 32 rfl (bsL ap [_] rfl rfl) ?_
   refine zs3 ?_
   refine Wq<|aO rfl rfl ?_ ?_
   ·(rw[bL,if_pos ⟨h0,by omega⟩];rfl)
   rfl
  have h1:¬(av v (xat x 0)).1<257:=oF hg2
  refine zs4 ?_
  refine Wi rfl (fun hi1=>?_) (fun hi1=>?_)
  ·have h2:260<(av v (xat x 0)).1:=oT hi1
   refine aa rfl ?_
   refine zs1 ?_
   refine zp1 ?_
   refine Wv tG rfl rfl rfl (by omega) (iN ap 1 (fun _=>rfl) 0 (by(simp only[dnL]at *;omega))) ?_
   refine zy3 ?_
   refine Wa 32 rfl (bsL ap [_] rfl rfl) ?_
   refine zs3 ?_
   refine Wq<|aO rfl rfl ?_ ?_
   ·(rw[bL,if_pos ⟨h0,by omega⟩];rfl)
   rfl
  have h2:¬260<(av v (xat x 0)).1:=oF hi1
  refine Wj<|zp1 ?_
  refine Wv tG rfl rfl rfl (by omega) (iN ap 1 (fun _=>rfl) 0 (by(simp only[dnL]at *;omega))) ?_
  refine zy3 ?_
  refine Wa 32 rfl (bsL ap [_] rfl rfl) ?_
  refine zs3 ?_
  refine Wq<|aO rfl rfl ?_ ?_
  ·(rw[bL,if_neg (fun h=>by omega)];rfl)
  rfl
 have h0:¬(av v (xat x 0)).2=0:=beq_eq_false_iff_ne.1 hg1
 iterate 6 refine z6 ?_
 refine zs1 ?_
 refine Wf rfl rfl ?_
 refine Wj<|zp1 ?_
 refine Wv tG rfl rfl rfl (by omega) (iN ap 1 (fun _=>rfl) 0 (by(simp only[dnL]at *;omega))) ?_
 refine zy3 ?_
 refine Wa 32 rfl (bsL ap [_] rfl rfl) ?_
 refine zs3 ?_
 refine Wq<|aO rfl rfl ?_ ?_
 ·(rw[bL,if_neg (fun h=>by omega)];rfl)
 rfl
def aG4(x:List Int):ab prog 347 [sq ap x] (tLv ([],-1)):=by
 refine zY func347 fun B=>?_
 refine zu2 ?_
 refine zu2 ?_
 refine zR ?_
 rfl
def aD1(v:VVm):ab prog 349 [eVm v] (i64 v.arg):=by
 refine zY func349 fun B=>?_
 refine zu2 ?_
 refine zu3 ?_
 refine zR ?_
 rfl
def aH8(v:VVm):ab prog 350 [eVm v] (i64 v.self):=by
 refine zY func350 fun B=>?_
 refine zu2 ?_
 refine zu3 ?_
 refine zR ?_
 rfl
def aG6(v:VVm):ab prog 351 [eVm v] (i64 v.now):=by
 refine zY func351 fun B=>?_
 refine zu2 ?_
 refine zu3 ?_
 refine zR ?_
 rfl
def aJ4(v:VVm)(x:List Int)(hm:da v.mem)(hx:XOk 2 x):∀(H:List Ob) (i:Nat),H[i]?=some (.cells (cVm v) 37)->HC prog 352 (.ptr i 0::[sq ap x]) H (tLv (g8 v x).2) (H.set i (.cells (cVm (g8 v x).1) 37)):=by
 have hl:=hx.len
 refine zM func352 fun B=>?_
 refine zu2 ?_
 iterate 2 refine Ws ?_
 refine ax [0,0,0,1,0,0,1,3,0] [0,1,2,3,4,5,6,7,8] mG rfl (by kernel_rfl) ?_
 iterate 2 refine z3 ?_
 refine z9i ?_
 refine z5 ?_
 refine z3 ?_
 refine z9i ?_
 refine z5 ?_
 refine sM rfl rfl rfl rfl (dC rfl func353 rfl rfl ((xX v _ _ (gI hm) (hx.fit 0)) _ _ rfl)) ?_
 refine z3 ?_
 refine aQ ?_
 refine zu2 ?_
 refine Wi rfl (fun hi1=>?_) (fun hi1=>?_)
 ·have h0:¬ko v (xat x 0) (xat x 1)=0:=bne_iff_ne.1 hi1
  refine zu3 ?_
  refine Wq<|aO rfl rfl ?_ ?_
  ·rw[g8,if_neg h0];rfl
  rw[g8,if_neg h0];rfl
 have h0:ko v (xat x 0) (xat x 1)=0:=bne_eq_false_iff_eq.1 hi1
 refine Wj<|Ws<|ax [0,0,0,1,0,0,1,3,0,0] [0,1,2,3,4,5,6,7,8,9] mG rfl (by kernel_rfl) ?_
 iterate 2 refine z3 ?_
 refine z9i ?_
 refine z5 ?_
 refine z3 ?_
 refine z9i ?_
 refine z5 ?_
 refine sM rfl rfl rfl rfl (dC rfl func311 rfl rfl ((uW v _ _ hm (hx.fit 1)) _ _ rfl)) ?_
 iterate 2 refine z3 ?_
 refine aQ ?_
 refine Wq<|aO rfl rfl ?_ ?_
 ·rw[g8,if_pos h0];rfl
 rw[g8,if_pos h0];rfl
def aH2(v:VVm)(x:List Int)(hm:da v.mem)(hx:XOk 3 x):∀(H:List Ob) (i:Nat),H[i]?=some (.cells (cVm v) 37)->HC prog 354 (.ptr i 0::[sq ap x]) H (tLv (jk v x).2) (H.set i (.cells (cVm (jk v x).1) 37)):=by
 have hl:=hx.len
 refine zM func354 fun B=>?_
 refine zu2 ?_
 iterate 2 refine Ws ?_
 refine ax [0,0,0,1,0,0,1,3,0] [0,1,2,3,4,5,6,7,8] mG rfl (by kernel_rfl) ?_
 iterate 2 refine z3 ?_
 refine z9i ?_
 refine z5 ?_
 refine z3 ?_
 refine z9i ?_
 refine z5 ?_
 refine sM rfl rfl rfl rfl (dC rfl func353 rfl rfl ((xX v _ _ (gI hm) (hx.fit 1)) _ _ rfl)) ?_
 refine z3 ?_
 refine aQ ?_
 refine zu2 ?_
 refine Wi rfl (fun hi1=>?_) (fun hi1=>?_)
 ·have h0:¬ko v (xat x 1) (xat x 2)=0:=bne_iff_ne.1 hi1
  refine zu3 ?_
  refine Wq<|aO rfl rfl ?_ ?_
  ·rw[jk,if_neg h0];rfl
  rw[jk,if_neg h0];rfl
 have h0:ko v (xat x 1) (xat x 2)=0:=bne_eq_false_iff_eq.1 hi1
 refine Wj<|Ws<|ax [0,0,0,0,0,0,0,0,0,0,0,0,0,3,0,0] [0,1,2,3,4,5,6,7,8,9,10,11,12,13,14,15] mG rfl (by kernel_rfl) ?_
 iterate 2 refine z3 ?_
 refine z9i ?_
 iterate 3 refine z3 ?_
 refine z9i ?_
 iterate 4 refine z3 ?_
 refine z9i ?_
 refine z3 ?_
 refine sM rfl rfl rfl rfl (dC rfl func311 rfl rfl ((uW v _ _ hm (qz _)) _ _ rfl)) ?_
 iterate 2 refine z3 ?_
 refine aQ ?_
 refine Wq<|aO rfl rfl ?_ ?_
 ·rw[jk,if_pos h0];rfl
 rw[jk,if_pos h0];rfl
def QP:ab prog 348 [i64 1] (bp 3 383 [.row [i64 1],.row [i64 3]]):=by
 refine zY func348 fun B=>?_
 refine zp1 ?_
 refine bR 1 _ rfl rfl rfl ?_
 refine zs1 ?_
 refine z8 ?_
 refine Wd rfl rfl (du rfl) ?_
 refine zD 3 (.n (1)) ?_
 refine zD 3 (.n (2)) ?_
 refine zD 3 (.n (3)) ?_
 refine zD 3 (.n (4)) ?_
 refine z1 ?_
 refine eZ 5 _ rfl rfl rfl ?_
 refine z1 ?_
 refine Wd rfl rfl (be (b:=false) (e:=3) (key:=.n 1) (by kernel_rfl) (lO tG rfl) (by kernel_rfl) rfl rfl rfl rfl (by kernel_rfl) (rfl)) ?_
 refine zy2 ?_
 refine bR 3 _ rfl rfl rfl ?_
 refine Wn<|zu4 ?_
 refine zR ?_
 rfl
def Qd:ab prog 348 [i64 2] (bp 4 383 [.row [i64 2],.row [i64 4]]):=by
 refine zY func348 fun B=>?_
 refine zp1 ?_
 refine bR 1 _ rfl rfl rfl ?_
 refine zs1 ?_
 refine z8 ?_
 refine Wd rfl rfl (du rfl) ?_
 refine zD 3 (.n (1)) ?_
 refine zD 3 (.n (2)) ?_
 refine zD 3 (.n (3)) ?_
 refine zD 3 (.n (4)) ?_
 refine z1 ?_
 refine eZ 5 _ rfl rfl rfl ?_
 refine z1 ?_
 refine Wd rfl rfl (be (b:=false) (e:=3) (key:=.n 2) (by kernel_rfl) (lO tG rfl) (by kernel_rfl) rfl rfl rfl rfl (by kernel_rfl) (rfl)) ?_
 refine zy2 ?_
 refine bR 3 _ rfl rfl rfl ?_
 refine Wn<|zu4 ?_
 refine zR ?_
 rfl
def PA:ab prog 348 [i64 3] (bp 4 383 [.row [i64 3],.row [i64 4]]):=by
 refine zY func348 fun B=>?_
 refine zp1 ?_
 refine bR 1 _ rfl rfl rfl ?_
 refine zs1 ?_
 refine z8 ?_
 refine Wd rfl rfl (du rfl) ?_
 refine zD 3 (.n (1)) ?_
 refine zD 3 (.n (2)) ?_
 refine zD 3 (.n (3)) ?_
 refine zD 3 (.n (4)) ?_
 refine z1 ?_
 refine eZ 5 _ rfl rfl rfl ?_
 refine z1 ?_
 refine Wd rfl rfl (be (b:=false) (e:=3) (key:=.n 3) (by kernel_rfl) (lO tG rfl) (by kernel_rfl) rfl rfl rfl rfl (by kernel_rfl) (rfl)) ?_
 refine zy2 ?_
 refine bR 3 _ rfl rfl rfl ?_
 refine Wn<|zu4 ?_
 refine zR ?_
 rfl
def PI:ab prog 348 [i64 4] (bp 1 383 [.row [i64 4],.row [i64 1]]):=by
 refine zY func348 fun B=>?_
 refine zp1 ?_
 refine bR 1 _ rfl rfl rfl ?_
 refine zs1 ?_
 refine z8 ?_
 refine Wd rfl rfl (du rfl) ?_
 refine zD 3 (.n (1)) ?_
 refine zD 3 (.n (2)) ?_
 refine zD 3 (.n (3)) ?_
 refine zD 3 (.n (4)) ?_
 refine z1 ?_
 refine eZ 5 _ rfl rfl rfl ?_
 refine z1 ?_
 refine Wd rfl rfl (be (b:=false) (e:=3) (key:=.n 4) (by kernel_rfl) (lO tG rfl) (by kernel_rfl) rfl rfl rfl rfl (by kernel_rfl) (rfl)) ?_
 refine zy2 ?_
 refine bR 3 _ rfl rfl rfl ?_
 refine Wn<|zu4 ?_
 refine zR ?_
 rfl
def Rt(v:VVm)(x:List Int)(hr:v.req.length<=100000)(hx:XOk 1 x):∀(H:List Ob) (i:Nat),H[i]?=some (.cells (cVm v) 37)->HC prog 383 (.ptr i 0::[sq ap x,.row [i64 4],.row [i64 1]]) H (tLv (jI v x).2) (H.set i (.cells (cVm (jI v x).1) 37)):=by
 have hl:=hx.len
 refine zM func383 fun B=>?_
 refine zu2 ?_
 refine zu4 ?_
 refine Ws<|zu2 ?_
 refine Wt rfl (by decide) ?_
 refine aa rfl ?_
 refine z1 ?_
 refine Wv tG rfl rfl rfl (by omega) (iN ap 1 (fun _=>rfl) 0 (by(simp only[dnL]at *;omega))) ?_
 refine zs3 ?_
 refine zu3 ?_
 refine Ws<|zp2 ?_
 refine qc 56 rfl (by decide) ?_
 iterate 10 refine z6 ?_
 refine zs1 ?_
 refine Wf rfl rfl ?_
 refine Wj<|Ws<|zp5 ?_
 refine zs1 ?_
 refine Wi rfl (fun hi2=>?_) (fun hi2=>?_)
 ·have h5:16<=(v.req.length:Int):=oT hi2
  refine zu2 ?_
  refine Wq<|aO rfl rfl ?_ ?_
  ·rw[jI,if_pos h5];rfl
  rw[jI,if_pos h5];rfl
 have h5:¬16<=(v.req.length:Int):=oF hi2
 refine Wj<|Ws<|zu2 ?_
 refine Wt rfl (by decide) ?_
 refine Ws<|ax [0,0,0,0,1,0,1,0,0,0,0,3] [0,1,2,3,4,5,6,7,8,9,10,11] mG rfl (by kernel_rfl) ?_
 iterate 4 refine z3 ?_
 refine z5 ?_
 refine Xc rfl rfl rfl rfl (fun _=>dC rfl func384 rfl rfl ((xu _ (by omega)) _)) ?_
 refine z5 ?_
 refine z3 ?_
 refine Xa 83 rfl ((show PV.seq 1 _ .clip=.seq (List.length [(⟨4,0,0,0,0,xat x 0⟩:wi)]) (List.flatMap wB [(⟨4,0,0,0,0,xat x 0⟩:wi)]) .clip from rfl)) ?_
 refine im rfl rfl rfl rfl (fun _=>co (lO tG rfl) rfl (lO tG rfl) (lO tG rfl) rfl rfl (by exact⟨_,rfl⟩) (by exact⟨rfl,rfl,al _ 6 (fun _=>rfl) _,bF _ (fun _=>rfl) _⟩) (by exact al _ 6 (fun _=>rfl) _) (by((simp_all;omega))) (by((simp_all;omega))) (by exact fW (bv (fun x=>by simp) _) (bv (fun x=>by simp) _))) ?_
 refine Xa 84 rfl (cz wB) ?_
 iterate 2 refine z3 ?_
 refine dH tG rfl rfl rfl rfl rfl trivial ?_
 refine aQ ?_
 refine zu2 ?_
 refine Wq<|aO rfl rfl ?_ ?_
 ·rw[jI,if_neg h5];rfl
 rw[jI,if_neg h5];rfl
def ac2(v:VVm)(x:List Int)(hr:v.req.length<=100000)(hd:v.hand.length<=1000000)(hx:XOk 3 x):∀(H:List Ob) (i:Nat),H[i]?=some (.cells (cVm v) 37)->HC prog 383 (.ptr i 0::[sq ap x,.row [i64 1],.row [i64 3]]) H (tLv (j5 v x).2) (H.set i (.cells (cVm (j5 v x).1) 37)):=by
 have hl:=hx.len
 refine zM func383 fun B=>?_
 refine zu2 ?_
 refine zu4 ?_
 refine Ws<|zu2 ?_
 refine Wf rfl (by decide) ?_
 refine Ws<|ax [0,0,0,0,0,0,0,0,0,0,3,0,3,0,3] [0,1,2,3,4,5,6,7,8,9,10,11,12,13,14] mG rfl (by kernel_rfl) ?_
 refine z3 ?_
 refine z9i ?_
 iterate 2 refine z3 ?_
 refine z9i ?_
 iterate 2 refine z3 ?_
 refine z9i ?_
 iterate 2 refine z3 ?_
 refine dH tG rfl rfl rfl rfl rfl trivial ?_
 refine z3 ?_
 refine dH tG rfl rfl rfl rfl rfl trivial ?_
 refine z3 ?_
 refine dH tG rfl rfl rfl rfl rfl trivial ?_
 refine aQ ?_
 refine Ws<|ax [0,1,0,0,0,1,0,0,0,1,0,0,0,0,0,1,0,0,0,0,1,0,0] [0,1,2,3,4,5,6,7,8,9,10,11,12,13,14,15,16,17,18,19,20,21,22] mG rfl (by kernel_rfl) ?_
 refine z3 ?_
 refine z5 ?_
 iterate 2 refine z3 ?_
 refine oz 33 rfl (fun hg1=>?_) (fun hg1=>?_)
 ·have h1:xat x 1<0:=oT hg1
  have hb:jh v x:=.inl h1
  iterate 8 refine z7 ?_
  iterate 2 refine z3 ?_
  iterate 3 refine z7 ?_
  iterate 2 refine z3 ?_
  iterate 3 refine z7 ?_
  refine z3 ?_
  refine aQ ?_
  refine Wt rfl rfl ?_
  refine zu2 ?_
  refine Wq<|aO rfl rfl ?_ ?_
  ·rw[j5,if_pos hb];rfl
  rw[j5,if_pos hb];rfl
 have h1:¬xat x 1<0:=oF hg1
 refine z3 ?_
 refine z5 ?_
 iterate 3 refine z3 ?_
 refine z5 ?_
 iterate 4 refine z3 ?_
 refine oz 43 rfl (fun hg2=>?_) (fun hg2=>?_)
 ·have h2:(v.hand.length:Int)<=xat x 1:=oT hg2
  have hb:jh v x:=.inr (.inl h2)
  iterate 3 refine z7 ?_
  iterate 2 refine z3 ?_
  iterate 3 refine z7 ?_
  refine z3 ?_
  refine aQ ?_
  refine Wt rfl rfl ?_
  refine zu2 ?_
  refine Wq<|aO rfl rfl ?_ ?_
  ·rw[j5,if_pos hb];rfl
  rw[j5,if_pos hb];rfl
 have h2:¬(v.hand.length:Int)<=xat x 1:=oF hg2
 refine z3 ?_
 refine z5 ?_
 iterate 3 refine z3 ?_
 refine oz 48 rfl (fun hg3=>?_) (fun hg3=>?_)
 ·have h3:xat x 2<0:=oT hg3
  have hb:jh v x:=.inr (.inr (.inl h3))
  iterate 3 refine z7 ?_
  refine z3 ?_
  refine aQ ?_
  refine Wt rfl rfl ?_
  refine zu2 ?_
  refine Wq<|aO rfl rfl ?_ ?_
  ·rw[j5,if_pos hb];rfl
  rw[j5,if_pos hb];rfl
 have h3:¬xat x 2<0:=oF hg3
 refine z3 ?_
 refine z5 ?_
 iterate 2 refine z3 ?_
 refine aQ ?_
 refine Wi rfl (fun hi2=>?_) (fun hi2=>?_)
 ·have h4:4<=xat x 2:=oT hi2
  have hb:jh v x:=.inr (.inr (.inr (by omega)))
  refine zu2 ?_
  refine Wq<|aO rfl rfl ?_ ?_
  ·rw[j5,if_pos hb];rfl
  rw[j5,if_pos hb];rfl
 have h4:¬4<=xat x 2:=oF hi2
 have hb:¬jh v x:=by rintro(h|h|h|h)<;>omega
 refine Wj<|zu3 ?_
 refine Ws<|zp2 ?_
 refine qc 56 rfl (by decide) ?_
 iterate 10 refine z6 ?_
 refine zs1 ?_
 refine Wf rfl rfl ?_
 refine Wj<|Ws<|zp5 ?_
 refine zs1 ?_
 refine Wi rfl (fun hi3=>?_) (fun hi3=>?_)
 ·have h5:16<=(v.req.length:Int):=oT hi3
  refine zu2 ?_
  refine Wq<|aO rfl rfl ?_ ?_
  ·rw[j5,if_neg hb,if_pos h5];rfl
  rw[j5,if_neg hb,if_pos h5];rfl
 have h5:¬16<=(v.req.length:Int):=oF hi3
 refine Wj<|Ws<|zu2 ?_
 refine Wt rfl (by decide) ?_
 refine Ws<|ax [0,0,0,0,1,0,1,0,0,0,0,3] [0,1,2,3,4,5,6,7,8,9,10,11] mG rfl (by kernel_rfl) ?_
 iterate 4 refine z3 ?_
 refine z5 ?_
 refine Xc rfl rfl rfl rfl (fun _=>dC rfl func384 rfl rfl ((xu _ (by omega)) _)) ?_
 refine z5 ?_
 refine z3 ?_
 refine Xa 83 rfl ((show PV.seq 1 _ .clip=.seq (List.length [(⟨1,xat x 0,xat x 1,xat x 2,0,0⟩:wi)]) (List.flatMap wB [(⟨1,xat x 0,xat x 1,xat x 2,0,0⟩:wi)]) .clip from rfl)) ?_
 refine im rfl rfl rfl rfl (fun _=>co (lO tG rfl) rfl (lO tG rfl) (lO tG rfl) rfl rfl (by exact⟨_,rfl⟩) (by exact⟨rfl,rfl,al _ 6 (fun _=>rfl) _,bF _ (fun _=>rfl) _⟩) (by exact al _ 6 (fun _=>rfl) _) (by((simp_all;omega))) (by((simp_all;omega))) (by exact fW (bv (fun x=>by simp) _) (bv (fun x=>by simp) _))) ?_
 refine Xa 84 rfl (cz wB) ?_
 iterate 2 refine z3 ?_
 refine dH tG rfl rfl rfl rfl rfl trivial ?_
 refine aQ ?_
 refine zu2 ?_
 refine Wq<|aO rfl rfl ?_ ?_
 ·rw[j5,if_neg hb,if_neg h5];rfl
 rw[j5,if_neg hb,if_neg h5];rfl
def ME(k:Int)(hk:k≠4)(v:VVm)(x:List Int)(hr:v.req.length<=100000)(hd:v.hand.length<=1000000)(hx:XOk 4 x):∀(H:List Ob) (i:Nat),H[i]?=some (.cells (cVm v) 37)->HC prog 383 (.ptr i 0::[sq ap x,.row [i64 k],.row [i64 4]]) H (tLv (dA k v x).2) (H.set i (.cells (cVm (dA k v x).1) 37)):=by
 have hl:=hx.len
 refine zM func383 fun B=>?_
 refine zu2 ?_
 refine zu4 ?_
 refine Ws<|zu2 ?_
 refine Wf rfl (by exact beq_eq_false_iff_ne.2 hk) ?_
 refine Ws<|V.ax [0,0,0,0,0,0,0,0,0,0,3,0,3,0,3] [0,1,2,3,4,5,6,7,8,9,10,11,12,13,14] mG rfl (by kernel_rfl) ?_
 refine V.z3 ?_
 refine V.Xi tG rfl rfl rfl rfl (fun _=>rfl) (by omega) (iN ap 1 (fun _=>rfl) 0 (by(simp only[dnL]at *;omega))) ?_
 iterate 2 refine V.z3 ?_
 refine V.Xi tG rfl rfl rfl rfl (fun _=>rfl) (by omega) (iN ap 1 (fun _=>rfl) 0 (by(simp only[dnL]at *;omega))) ?_
 iterate 2 refine V.z3 ?_
 refine V.Xi tG rfl rfl rfl rfl (fun _=>rfl) (by omega) (iN ap 1 (fun _=>rfl) 0 (by(simp only[dnL]at *;omega))) ?_
 iterate 2 refine V.z3 ?_
 refine V.dH tG rfl rfl rfl rfl rfl trivial ?_
 refine V.z3 ?_
 refine V.dH tG rfl rfl rfl rfl rfl trivial ?_
 refine V.z3 ?_
 refine V.dH tG rfl rfl rfl rfl rfl trivial ?_
 refine V.aQ ?_
 refine Ws<|V.ax [0,1,0,0,0,1,0,0,0,1,0,0,0,0,0,1,0,0,0,0,1,0,0] [0,1,2,3,4,5,6,7,8,9,10,11,12,13,14,15,16,17,18,19,20,21,22] mG rfl (by kernel_rfl) ?_
 refine V.z3 ?_
 refine V.z5 ?_
 iterate 2 refine V.z3 ?_
 refine V.oz 33 rfl (fun hg1=>?_) (fun hg1=>?_)
 ·have h1:xat x 1<0:=oT hg1
  have hb:jh v x:=.inl h1
  iterate 8 refine V.z7 ?_
  iterate 2 refine V.z3 ?_
  iterate 3 refine V.z7 ?_
  iterate 2 refine V.z3 ?_
  iterate 3 refine V.z7 ?_
  refine V.z3 ?_
  refine V.aQ ?_
  refine Wt rfl rfl ?_
  refine zu2 ?_
  refine Wq<|aO rfl rfl ?_ ?_
  ·rw[dA,if_pos hb];rfl
  rw[dA,if_pos hb];rfl
 have h1:¬xat x 1<0:=oF hg1
 refine V.z3 ?_
 refine V.z5 ?_
 iterate 3 refine V.z3 ?_
 refine V.z5 ?_
 iterate 4 refine V.z3 ?_
 refine V.oz 43 rfl (fun hg2=>?_) (fun hg2=>?_)
 ·have h2:(v.hand.length:Int)<=xat x 1:=oT hg2
  have hb:jh v x:=.inr (.inl h2)
  iterate 3 refine V.z7 ?_
  iterate 2 refine V.z3 ?_
  iterate 3 refine V.z7 ?_
  refine V.z3 ?_
  refine V.aQ ?_
  refine Wt rfl rfl ?_
  refine zu2 ?_
  refine Wq<|aO rfl rfl ?_ ?_
  ·rw[dA,if_pos hb];rfl
  rw[dA,if_pos hb];rfl
 have h2:¬(v.hand.length:Int)<=xat x 1:=oF hg2
 refine V.z3 ?_
 refine V.z5 ?_
 iterate 3 refine V.z3 ?_
 refine V.oz 48 rfl (fun hg3=>?_) (fun hg3=>?_)
 ·have h3:xat x 2<0:=oT hg3
  have hb:jh v x:=.inr (.inr (.inl h3))
  iterate 3 refine V.z7 ?_
  refine V.z3 ?_
  refine V.aQ ?_
  refine Wt rfl rfl ?_
  refine zu2 ?_
  refine Wq<|aO rfl rfl ?_ ?_
  ·rw[dA,if_pos hb];rfl
  rw[dA,if_pos hb];rfl
 have h3:¬xat x 2<0:=oF hg3
 refine V.z3 ?_
 refine V.z5 ?_
 iterate 2 refine V.z3 ?_
 refine V.aQ ?_
 refine Wi rfl (fun hi2=>?_) (fun hi2=>?_)
 ·have h4:4<=xat x 2:=oT hi2
  have hb:jh v x:=.inr (.inr (.inr (by omega)))
  refine zu2 ?_
  refine Wq<|aO rfl rfl ?_ ?_
  ·rw[dA,if_pos hb];rfl
  rw[dA,if_pos hb];rfl
 have h4:¬4<=xat x 2:=oF hi2
 have hb:¬jh v x:=by rintro(h|h|h|h)<;>omega
 refine Wj<|zu3 ?_
 refine Ws<|zp2 ?_
 refine gN 56 rfl (by decide) ?_
 refine z1 ?_
 refine Wv tG rfl rfl rfl (by omega) (iN ap 1 (fun _=>rfl) 0 (by(simp only[dnL]at *;omega))) ?_
 refine zy3 ?_
 refine Wb 61 rfl (fun hg5=>?_) (fun hg5=>?_)
 ·have h6:xat x 3<1:=oT hg5
  have hq:xat x 3<1\/4294967295<xat x 3:=.inl h6
  iterate 4 refine z6 ?_
  refine zs2 ?_
  refine Wt rfl rfl ?_
  refine zu2 ?_
  refine Wq<|aO rfl rfl ?_ ?_
  ·rw[dA,if_neg hb,if_pos hq];rfl
  rw[dA,if_neg hb,if_pos hq];rfl
 have h6:¬xat x 3<1:=oF hg5
 refine z1 ?_
 refine Wv tG rfl rfl rfl (by omega) (iN ap 1 (fun _=>rfl) 0 (by(simp only[dnL]at *;omega))) ?_
 refine zs4 ?_
 refine Wi rfl (fun hi3=>?_) (fun hi3=>?_)
 ·have h7:4294967296<=xat x 3:=oT hi3
  have hq:xat x 3<1\/4294967295<xat x 3:=.inr (by omega)
  refine zu2 ?_
  refine Wq<|aO rfl rfl ?_ ?_
  ·rw[dA,if_neg hb,if_pos hq];rfl
  rw[dA,if_neg hb,if_pos hq];rfl
 have h7:¬4294967296<=xat x 3:=oF hi3
 have hq:¬(xat x 3<1\/4294967295<xat x 3):=by omega
 refine Wj<|Ws<|zp5 ?_
 refine zs1 ?_
 refine Wi rfl (fun hi4=>?_) (fun hi4=>?_)
 ·have h5:16<=(v.req.length:Int):=oT hi4
  refine zu2 ?_
  refine Wq<|aO rfl rfl ?_ ?_
  ·rw[dA,if_neg hb,if_neg hq,if_pos h5];rfl
  rw[dA,if_neg hb,if_neg hq,if_pos h5];rfl
 have h5:¬16<=(v.req.length:Int):=oF hi4
 refine Wj<|Ws<|zu2 ?_
 refine Wf rfl (by decide) ?_
 refine Wj<|Ws<|zp5 ?_
 refine z1 ?_
 refine Wb 92 rfl (fun hg6=>?_) (fun hg6=>?_)
 ·have h8:v.free=0:=beq_iff_eq.1 hg6
  have hw:v.free=0\/v.next=4611686018427387904:=.inl h8
  iterate 5 refine z6 ?_
  refine zs1 ?_
  refine Wt rfl rfl ?_
  refine zu2 ?_
  refine Wq<|aO rfl rfl ?_ ?_
  ·rw[dA,if_neg hb,if_neg hq,if_neg h5,if_pos hw];rfl
  rw[dA,if_neg hb,if_neg hq,if_neg h5,if_pos hw];rfl
 have h8:¬v.free=0:=beq_eq_false_iff_ne.1 hg6
 refine zy5 ?_
 refine zs1 ?_
 refine Wi rfl (fun hi6=>?_) (fun hi6=>?_)
 ·have h9:v.next=4611686018427387904:=beq_iff_eq.1 hi6
  have hw:v.free=0\/v.next=4611686018427387904:=.inr h9
  refine zu2 ?_
  refine Wq<|aO rfl rfl ?_ ?_
  ·rw[dA,if_neg hb,if_neg hq,if_neg h5,if_pos hw];rfl
  rw[dA,if_neg hb,if_neg hq,if_neg h5,if_pos hw];rfl
 have h9:¬v.next=4611686018427387904:=beq_eq_false_iff_ne.1 hi6
 have hw:¬(v.free=0\/v.next=4611686018427387904):=by rintro(h|h)<;>contradiction
 refine Wj<|Ws<|V.ax [0,0,0,0,0,0,4,0,7,0,7] [0,1,2,3,4,5,6,7,8,9,10] mG rfl (by kernel_rfl) ?_
 refine V.z3 ?_
 refine V.Xi tG rfl rfl rfl rfl (fun _=>rfl) (by omega) (iN ap 1 (fun _=>rfl) 0 (by(simp only[dnL]at *;omega))) ?_
 iterate 4 refine V.z3 ?_
 refine V.Gw 0 rfl rfl rfl rfl rfl (fun H2 h2=>bD (lO tG rfl) rfl rfl h2 rfl) ?_
 refine V.z3 ?_
 refine V.SA 1 tG rfl rfl rfl rfl rfl trivial rfl ?_
 refine V.z3 ?_
 refine V.SA 1 tG rfl rfl rfl rfl rfl trivial rfl ?_
 refine V.aQ ?_
 refine Ws<|V.ax [0,0,0,0,1,0,1,0,0,0,0,3] [0,1,2,3,4,5,6,7,8,9,10,11] mG rfl (by kernel_rfl) ?_
 iterate 4 refine V.z3 ?_
 refine V.z5 ?_
 refine V.Xc rfl rfl rfl rfl (fun _=>dC rfl func384 rfl rfl ((xu _ (by omega)) _)) ?_
 refine V.z5 ?_
 refine V.z3 ?_
 refine V.Xa 115 rfl ((show PV.seq 1 _ .clip=.seq (List.length [(⟨k,xat x 0,xat x 1,xat x 2,xat x 3,v.next⟩:wi)]) (List.flatMap wB [(⟨k,xat x 0,xat x 1,xat x 2,xat x 3,v.next⟩:wi)]) .clip from rfl)) ?_
 refine V.im rfl rfl rfl rfl (fun _=>co (lO tG rfl) rfl (lO tG rfl) (lO tG rfl) rfl rfl (by exact⟨_,rfl⟩) (by exact⟨rfl,rfl,al _ 6 (fun _=>rfl) _,bF _ (fun _=>rfl) _⟩) (by exact al _ 6 (fun _=>rfl) _) (by((simp_all;omega))) (by((simp_all;omega))) (by exact fW (bv (fun x=>by simp) _) (bv (fun x=>by simp) _))) ?_
 refine V.Xa 116 rfl (cz wB) ?_
 iterate 2 refine V.z3 ?_
 refine V.dH tG rfl rfl rfl rfl rfl trivial ?_
 refine V.aQ ?_
 refine zp5 ?_
 refine zs3 ?_
 refine zp5 ?_
 refine zs3 ?_
 refine zp3 ?_
 refine Wa 135 rfl (bsL ap [_] rfl rfl) ?_
 refine zc rfl func245 ((lV [v.next]) _) ?_
 refine zs4 ?_
 refine Wq<|aO rfl rfl ?_ ?_
 ·rw[dA,if_neg hb,if_neg hq,if_neg h5,if_neg hw];rfl
 rw[dA,if_neg hb,if_neg hq,if_neg h5,if_neg hw];rfl
end Go.Proofs.YtjcminooghmpeaaGreatDoor
