import Derived.ArgAppend
import Derived.Test.YtjcminooghmpeaaGreatDoorPk5
set_option linter.all false
set_option maxRecDepth 100000
set_option maxHeartbeats 40000000
open Go.Proofs.Tryz
namespace Go.Proofs.YtjcminooghmpeaaGreatDoor
open Go.RowKit
namespace V3
section
variable {P : Program} {B : Nat -> Nat -> Prop} {n : Nat} {md : Region.Mode} {ops : Array Oper} {cl : Nat -> Nat}
def tR(P:Program)(B:Nat->Nat->Prop)(ops:Array Oper)(o:Oper)(T:Nat->PV)(H:List Ob)(x:PV)(H':List Ob):Prop :=
 (aq ops T o=some true/\(bI P B o T H x H'\/jb P B o T H x H'))\/(aq ops T o=some false/\x=.val undef/\H'=H)
def lA(P:Program)(B:Nat->Nat->Prop)(ops:Array Oper)(c:Nat)(o:Oper)(T:Nat->PV)(H:List Ob)(x:PV)(H':List Ob):Prop :=
 match c with
 | 0=>H'=H/\∀H2,tR P B ops o T H2 x H2
 | 1=>H'=H/\∀E,tR P B ops o T (H++E) x (H++E)
 | 2=>∃E,H'=H++E
 | 3=>True
 | c+4=>match Nat.beq (c%2) 0 with
  | true=>H'=H/\c/2<H.length/\∀H2:List Ob,H2[c/2]?=H[c/2]?->tR P B ops o T H2 x H2
  | false=>∃ob E,H'=H.set (c/2) ob++E
def Al(c:Nat):Bool:=Nat.ble 4 c&&Nat.beq (c%2) 0
def CC(c:Nat):Bool:=Nat.ble 4 c&&Nat.beq (c%2) 1
def lW(c:Nat):Nat:=(c-4)/2
def th(a b:Nat):Bool:=Nat.beq a 0||Nat.beq b 0||(Nat.beq a 1&&Nat.ble b 2)||(Al a&&(Nat.ble b 2||Al b||(CC b&&!Nat.beq (lW a) (lW b))))
theorem tR.congr{o:Oper}{T T':Nat->PV}{H H':List Ob}{x:PV}(h:∀t∈o.looksAt ops,T' t=T t)(y:tR P B ops o T H x H'):tR P B ops o T' H x H':=by
 have hw:aq ops T' o=aq ops T o:=by
  unfold aq
  cases hg:o.guard with
  | none=>rfl
  | some q =>
   obtain⟨g,b⟩:=q
   simp only
   cases hd:(ops[g]?).bind (·.dst)with
   | none=>rfl
   | some d=>simp only;rw[h d (oD hg hd)]
 have ho:∀z∈o.op.operands.toList,opv T' z=opv T z:=fun z hz=>tp fun t ht=>h t (vB (by rw[<-ht];exact hz))
 rcases y with ⟨h1,h2|h2⟩|⟨h1,h2⟩
 ·exact .inl ⟨by rw[hw];exact h1,.inl fun σ w a s k=>h2 σ w a s (fun z hz=>by rw[<-ho z hz];exact k z hz)⟩
 ·exact .inl ⟨by rw[hw];exact h1,.inr fun σ w a s k=>h2 σ w a s (fun z hz=>by rw[<-ho z hz];exact k z hz)⟩
 exact .inr ⟨by rw[hw];exact h1,h2⟩
theorem lA.congr{c:Nat}{o:Oper}{T T':Nat->PV}{H H':List Ob}{x:PV}(h:∀t∈o.looksAt ops,T' t=T t)(y:lA P B ops c o T H x H'):lA P B ops c o T' H x H':=by
 match c,y with
 | 0,y=>exact⟨y.1,fun H2=>(y.2 H2).congr h⟩
 | 1,y=>exact⟨y.1,fun E=>(y.2 E).congr h⟩
 | 2,y=>exact y
 | 3,_=>trivial
 | c+4,y =>
  simp only[lA]at y ⊢
  split at y
  ·exact⟨y.1,y.2.1,fun H2 h2=>(y.2.2 H2 h2).congr h⟩
  exact y
theorem lA.rd{c:Nat}{o:Oper}{T:Nat->PV}{H H':List Ob}{x:PV}(hc:Al c=true)(f:lA P B ops c o T H x H'):H'=H/\lW c<H.length/\∀H2:List Ob,H2[lW c]?=H[lW c]?->tR P B ops o T H2 x H2:=by
 simp only[Al,Bool.and_eq_true,Nat.ble_eq,Nat.beq_eq]at hc
 obtain⟨d,rfl⟩:∃d,c=d+4:=⟨c-4,by omega⟩
 have hd:Nat.beq (d%2) 0=true:=by rw[Nat.beq_eq];omega
 simp only[lA,hd]at f
 exact f
theorem lA.of_rd{c:Nat}{o:Oper}{T:Nat->PV}{H H':List Ob}{x:PV}(hc:Al c=true)(f:H'=H/\lW c<H.length/\∀H2:List Ob,H2[lW c]?=H[lW c]?->tR P B ops o T H2 x H2):lA P B ops c o T H x H':=by
 simp only[Al,Bool.and_eq_true,Nat.ble_eq,Nat.beq_eq]at hc
 obtain⟨d,rfl⟩:∃d,c=d+4:=⟨c-4,by omega⟩
 have hd:Nat.beq (d%2) 0=true:=by rw[Nat.beq_eq];omega
 simp only[lA,hd]
 exact f
theorem lA.wr{c:Nat}{o:Oper}{T:Nat->PV}{H H':List Ob}{x:PV}(hc:CC c=true)(f:lA P B ops c o T H x H'):∃ob E,H'=H.set (lW c) ob++E:=by
 simp only[CC,Bool.and_eq_true,Nat.ble_eq,Nat.beq_eq]at hc
 obtain⟨d,rfl⟩:∃d,c=d+4:=⟨c-4,by omega⟩
 have hd:Nat.beq (d%2) 0=false:=by rw[<-Bool.not_eq_true,Nat.beq_eq];omega
 simp only[lA,hd]at f
 exact f
theorem lA.of_wr{c:Nat}{o:Oper}{T:Nat->PV}{H H':List Ob}{x:PV}(hc:CC c=true)(f:∃ob E,H'=H.set (lW c) ob++E):lA P B ops c o T H x H':=by
 simp only[CC,Bool.and_eq_true,Nat.ble_eq,Nat.beq_eq]at hc
 obtain⟨d,rfl⟩:∃d,c=d+4:=⟨c-4,by omega⟩
 have hd:Nat.beq (d%2) 0=false:=by rw[<-Bool.not_eq_true,Nat.beq_eq];omega
 simp only[lA,hd]
 exact f
def QI(P:Program)(B:Nat->Nat->Prop)(ops:Array Oper)(cl:Nat->Nat)(i:Nat)(K:(Nat->PV)->List Ob->Prop)(T:Nat->PV)(H:List Ob):Prop :=
 match ops[i]? with
 | none=>K T H
 | some o=>∃x H',tR P B ops o T H x H'/\lA P B ops (cl i) o T H x H'/\K (bK o.dst x T) H'
def uS(P:Program)(B:Nat->Nat->Prop)(md:Region.Mode)(ops:Array Oper)(cl:Nat->Nat)(Q:(Nat->PV)->List Ob->Prop):Nat->Array Bool->(Nat->PV)->List Ob->Prop
 | 0,listed,T,H=>Region.ready md ops listed=[]/\Q T H
 | fuel+1,listed,T,H=>(Region.ready md ops listed=[]->Q T H)/\∀i∈Region.ready md ops listed,QI P B ops cl i (uS P B md ops cl Q fuel (listed.setIfInBounds i true)) T H
theorem ki(hall:gh n ops=true){Q':Exit->Act->World->Prop}{Q:(Nat->PV)->List Ob->Prop}{H0:List Ob}{σ0:Nat->Option Nat}{w0:World}(hQ:∀T H σ w a,lI B n T H σ w a->dK B H0 σ0 w0 H σ w->Q T H->Q' .normal a w):
  ∀(fuel:Nat) (listed:Array Bool) (T:Nat->PV) (H:List Ob) (σ:Nat->Option Nat) (w:World) (a:Act),lI B n T H σ w a->dK B H0 σ0 w0 H σ w->uS P B md ops cl Q fuel listed T H->wpAny P md ops Q' fuel listed a w
 | 0,_,_,_,_,_,_,g,st,h=>⟨h.1,hQ _ _ _ _ _ g st h.2⟩
 | fuel+1,listed,T,H,σ,w,a,g,st,h=>by
  refine⟨fun h0=>hQ _ _ _ _ _ g st (h.1 h0),fun i hi=>?_⟩
  have h1:=h.2 i hi
  unfold QI at h1
  unfold wpOp
  cases ho:ops[i]? with
  | none=>simp only[ho]at h1 ⊢;exact ki hall hQ fuel _ T H σ w a g st h1
  | some o =>
   simp only[ho]at h1 ⊢
   obtain⟨x,H',hy,_,hk⟩:=h1
   have hd:∀j,o.dst=some j->Nat.blt j n=true:=fun j hj=>fw hall i j (by rw[ho];exact hj)
   have hgd:∀q,aq ops T o=some q->Region.wanted o (yielded ops a.tmps)=q:=fun q hq=>nN (fw hall) g hq
   rcases hy with ⟨hw,hdo|hdo⟩|⟨hw,rfl,rfl⟩
   ·rw[if_pos (hgd true hw)]
    refine .inl ?_
    obtain⟨v,w',σ',h2,h3,h4,h5⟩:=hdo σ w a g.sim (fun y _=>lN g.rep y)
    have k:=ki hall hQ fuel _ _ _ σ' w' _ (gU hd g h3 h4 h5) (st.trans h5) hk
    unfold Oper.wp
    rcases h2 with h2|⟨h2,rfl⟩
    ·rw[h2];exact k
    rw[h2];exact k
   ·rw[if_pos (hgd true hw)]
    refine .inl ?_
    obtain⟨f,args,h2,hc⟩:=hdo σ w a g.sim (fun y _=>lN g.rep y)
    unfold Oper.wp
    rw[h2]
    refine Calls.mono hc ?_
    rintro e w' ⟨v,σ',rfl,h3,h4,h5⟩
    exact ki hall hQ fuel _ _ _ σ' w' _ (gU hd g h3 h4 h5) (st.trans h5) hk
   rw[if_neg (by rw[hgd false hw];simp)]
   exact ki hall hQ fuel _ _ _ σ w _ (gU hd g (ar _ _) g.sim (dK.refl _ _ _ _)) st hk
theorem Vq{ci cj:Nat}{oi oj:Oper}{T:Nat->PV}{H Hi Hj:List Ob}{x y:PV}(hc:th ci cj=true)(h1:∀t∈oj.looksAt ops,bK oi.dst x T t=T t)(h2:∀t∈oi.looksAt ops,bK oj.dst y T t=T t)
  (yi:tR P B ops oi T H x Hi) (fi:lA P B ops ci oi T H x Hi) (yj:tR P B ops oj (bK oi.dst x T) Hi y Hj) (fj:lA P B ops cj oj (bK oi.dst x T) Hi y Hj) :
  ∃H',tR P B ops oj T H y H'/\lA P B ops cj oj T H y H'/\tR P B ops oi (bK oj.dst y T) H' x Hj/\lA P B ops ci oi (bK oj.dst y T) H' x Hj:=by
 have b1:∀t∈oj.looksAt ops,T t=bK oi.dst x T t:=fun t ht=>(h1 t ht).symm
 have yj':=yj.congr b1
 have fj':=fj.congr b1
 simp only[th,Bool.or_eq_true,Bool.and_eq_true,Nat.beq_eq,Nat.ble_eq]at hc
 rcases hc with ((rfl|rfl)|⟨rfl,hj⟩)|⟨hr,hj⟩
 ·obtain⟨rfl,hl⟩:=fi
  exact⟨Hj,yj',fj',(hl Hj).congr h2,rfl,fun H2=>(hl H2).congr h2⟩
 ·obtain⟨rfl,hl⟩:=fj'
  exact⟨H,hl H,⟨rfl,hl⟩,yi.congr h2,fi.congr h2⟩
 ·obtain⟨rfl,hl⟩:=fi
  have:∃E,Hj=Hi++E:=by
   match cj,hj,fj' with
   | 0,_,fj'=>exact⟨[],by rw[fj'.1];simp⟩
   | 1,_,fj'=>exact⟨[],by rw[fj'.1];simp⟩
   | 2,_,fj'=>exact fj'
   | c+3,hj,_=>omega
  obtain⟨E,rfl⟩:=this
  exact⟨Hi++E,yj',fj',(hl E).congr h2,rfl,fun E2=>by rw[List.append_assoc];exact(hl (E++E2)).congr h2⟩
 obtain⟨rfl,hlt,hl⟩:=fi.rd hr
 have key:Hj[lW ci]?=Hi[lW ci]?/\lW ci<Hj.length:=by
  rcases hj with (hj|hj)|⟨hj,hne⟩
  ·have:∃E,Hj=Hi++E:=by
    match cj,hj,fj' with
    | 0,_,fj'=>exact⟨[],by rw[fj'.1];simp⟩
    | 1,_,fj'=>exact⟨[],by rw[fj'.1];simp⟩
    | 2,_,fj'=>exact fj'
    | c+3,hj,_=>omega
   obtain⟨E,rfl⟩:=this
   exact⟨List.getElem?_append_left hlt,by simp;omega⟩
  ·obtain⟨rfl,_⟩:=fj'.rd hj
   exact⟨rfl,hlt⟩
  obtain⟨ob,E,rfl⟩:=fj'.wr hj
  refine⟨?_,by simp;omega⟩
  rw[List.getElem?_append_left (by simpa using hlt)]
  refine List.getElem?_set_ne ?_
  intro h;rw[h]at hne;simp at hne
 exact⟨Hj,yj',fj',(hl Hj key.1).congr h2,lA.of_rd hr ⟨rfl,key.2,fun H2 h3=>(hl H2 (h3.trans key.1)).congr h2⟩⟩
def fp(P:Program)(B:Nat->Nat->Prop)(n:Nat)(ops:Array Oper)(cl:Nat->Nat):List Nat->(Nat->PV)->List Ob->((Nat->PV)->List Ob->Prop)->Prop
 | [],T,H,K=>K T H
 | i::l,T,H,K=>∃o,ops[i]?=some o/\∃x H',tR P B ops o T H x H'/\lA P B ops (cl i) o T H x H'/\fp P B n ops cl l (bK o.dst x T) H' K
def QP(l:List Nat)(i:Nat):Nat:=l.getD i 3
variable {T : Nat -> PV} {H : List Ob} {Q : Exit -> (Nat -> PV) -> List Ob -> Prop}
variable {o : Oper} {l : List Nat} {i : Nat} {K : (Nat -> PV) -> List Ob -> Prop} {x : PV} {H' : List Ob} {G : List (Nat × TD)} {p : Prop} {d : Option Tmp}
theorem bo(h:K T H):fp P B n ops cl [] T H K:=h
theorem jT(h0:ops[i]?=some o)(hc:cl i=0)(hd:nfD n o.dst=some d)(hw:aq ops T o=some true)(h:∀H2,bI P B o T H2 x H2)(k:fp P B n ops cl l (bK d x T) H K):fp P B n ops cl (i::l) T H K :=
 ⟨o,h0,x,H,.inl ⟨hw,.inl (h H)⟩,by rw[hc];exact⟨rfl,fun H2=>.inl ⟨hw,.inl (h H2)⟩⟩,(cT hd).1▸k⟩
theorem cQ(h0:ops[i]?=some o)(hc:cl i=0)(hd:nfD n o.dst=some d)(hw:aq ops T o=some true)(h:∀H2,jb P B o T H2 x H2)(k:fp P B n ops cl l (bK d x T) H K):fp P B n ops cl (i::l) T H K :=
 ⟨o,h0,x,H,.inl ⟨hw,.inr (h H)⟩,by rw[hc];exact⟨rfl,fun H2=>.inl ⟨hw,.inr (h H2)⟩⟩,(cT hd).1▸k⟩
theorem GP(hG:dn P G=true)(h0:ops[i]?=some o)(hc:cl i=0)(hd:nfD n o.dst=some d)(hw:aq ops T o=some true)(h:∀H2,evS G T H2 o.type o.op=some (x,H2,p))(hp:p)(k:fp P B n ops cl l (bK d x T) H K):fp P B n ops cl (i::l) T H K :=
 jT h0 hc hd hw (fun H2=>dZ hG rfl (my (h H2)) hp) k
theorem tH{y:PV}(hG:dn P G=true)(h0:ops[i]?=some o)(hc:cl i=0)(hd:nfD n o.dst=some d)(hw:aq ops T o=some true)(h:∀H2,evS G T H2 o.type o.op=some (x,H2,p))(hp:p)(hi:Imp x y)(k:fp P B n ops cl l (bK d y T) H K):fp P B n ops cl (i::l) T H K :=
 jT h0 hc hd hw (fun H2=>(dZ hG rfl (my (h H2)) hp).imp hi) k
theorem NY(h0:ops[i]?=some o)(hc:Nat.ble (cl i) 3=true)(hd:nfD n o.dst=some d)(hw:aq ops T o=some false)(k:fp P B n ops cl l (bK d (.val undef) T) H K):fp P B n ops cl (i::l) T H K:=by
 refine⟨o,h0,_,H,.inr ⟨hw,rfl,rfl⟩,?_,(cT hd).1▸k⟩
 generalize cl i=q at hc
 match q,hc with
 | 0,_=>exact⟨rfl,fun H2=>.inr ⟨hw,rfl,rfl⟩⟩
 | 1,_=>exact⟨rfl,fun E=>.inr ⟨hw,rfl,rfl⟩⟩
 | 2,_=>exact⟨[],by simp⟩
 | 3,_=>trivial
 | c+4,hc=>rw[Nat.ble_eq]at hc;omega
theorem Tp(hG:dn P G=true)(h0:ops[i]?=some o)(hc:cl i=1)(hd:nfD n o.dst=some d)(hw:aq ops T o=some true)(h:∀E,evS G T (H++E) o.type o.op=some (x,H++E,p))(hp:p)(k:fp P B n ops cl l (bK d x T) H K):fp P B n ops cl (i::l) T H K :=
 ⟨o,h0,x,H,.inl ⟨hw,.inl (by have:=dZ (P:=P) (B:=B) (o:=o) hG rfl (my (h [])) hp;rwa [List.append_nil]at this)⟩,by rw[hc];exact⟨rfl,fun E=>.inl ⟨hw,.inl (dZ hG rfl (my (h E)) hp)⟩⟩,(cT hd).1▸k⟩
theorem sw{E:List Ob}(hG:dn P G=true)(h0:ops[i]?=some o)(hc:cl i=2)(hd:nfD n o.dst=some d)(hw:aq ops T o=some true)(h:evN G T H o.type o.op=some (x,H',p))(hp:p)(hH:H'=H++E)(k:fp P B n ops cl l (bK d x T) H' K):fp P B n ops cl (i::l) T H K :=
 ⟨o,h0,x,H',.inl ⟨hw,.inl (dZ hG rfl (oX h) hp)⟩,by rw[hc];exact⟨E,hH⟩,(cT hd).1▸k⟩
theorem ox(hG:dn P G=true)(h0:ops[i]?=some o)(hc:cl i=3)(hd:nfD n o.dst=some d)(hw:aq ops T o=some true)(h:evN G T H o.type o.op=some (x,H',p))(hp:p)(k:fp P B n ops cl l (bK d x T) H' K):fp P B n ops cl (i::l) T H K :=
 ⟨o,h0,x,H',.inl ⟨hw,.inl (dZ hG rfl (oX h) hp)⟩,by rw[hc];trivial,(cT hd).1▸k⟩
theorem Av(h0:ops[i]?=some o)(hc:cl i=3)(hd:nfD n o.dst=some d)(hw:aq ops T o=some true)(h:bI P B o T H x H')(k:fp P B n ops cl l (bK d x T) H' K):fp P B n ops cl (i::l) T H K :=
 ⟨o,h0,x,H',.inl ⟨hw,.inl h⟩,by rw[hc];trivial,(cT hd).1▸k⟩
theorem uo(d:Nat){b:Bool}(hT:T d=.val (.bool b))(h1:b=true->fp P B n ops cl l (upd d (.val (.bool true)) T) H K)(h2:b=false->fp P B n ops cl l (upd d (.val (.bool false)) T) H K):fp P B n ops cl l T H K:=by
 have e:∀q,b=q->upd d (.val (.bool q)) T=T:=by
  rintro q rfl
  funext i
  by_cases hi:i=d
  ·subst hi;rw[dM,hT]
  rw[cG _ _ _ _ hi]
 cases hb:b with
 | true=>have:=h1 hb;rwa [e true hb]at this
 | false=>have:=h2 hb;rwa [e false hb]at this
theorem NZ(d:Nat){b:Bool}(hT:T d=.val (.bool b))(hb:b=true)(h1:fp P B n ops cl l (upd d (.val (.bool true)) T) H K):fp P B n ops cl l T H K :=
 uo d hT (fun _=>h1) (fun h=>by rw[hb]at h;cases h)
theorem Kh(d:Nat){b:Bool}(hT:T d=.val (.bool b))(hb:b=false)(h1:fp P B n ops cl l (upd d (.val (.bool false)) T) H K):fp P B n ops cl l T H K :=
 uo d hT (fun h=>by rw[hb]at h;cases h) (fun _=>h1)
theorem jm(d:Nat){x y:PV}(hT:T d=x)(hxy:x=y)(h1:fp P B n ops cl l (upd d y T) H K):fp P B n ops cl l T H K:=by
 have e:upd d y T=T:=by
  funext i
  by_cases hi:i=d
  ·subst hi;rw[dM,hT,hxy]
  rw[cG _ _ _ _ hi]
 rwa [e]at h1
theorem KP{H':List Ob}(hH:H'=H)(h1:fp P B n ops cl l T H' K):fp P B n ops cl l T H K:=by subst hH;exact h1
theorem Dl(b:Nat){ob:Ob}(h0:ops[i]?=some o)(hc:cl i=4+2*b)(hd:nfD n o.dst=some d)(hw:aq ops T o=some true)(hb:H[b]?=some ob)(h:∀H2:List Ob,H2[b]?=some ob->bI P B o T H2 x H2)(k:fp P B n ops cl l (bK d x T) H K):fp P B n ops cl (i::l) T H K:=by
 have hk:lW (4+2*b)=b:=by unfold lW;omega
 exact⟨o,h0,x,H,.inl ⟨hw,.inl (h H hb)⟩,by rw[hc];exact lA.of_rd (by simp only[Al,Bool.and_eq_true,Nat.ble_eq,Nat.beq_eq];omega) ⟨rfl,by rw[hk];exact cV hb,fun H2 h2=>.inl ⟨hw,.inl (h H2 (by rw[hk,hb]at h2;exact h2))⟩⟩,(cT hd).1▸k⟩
theorem bT(b:Nat){ob:Ob}(hG:dn P G=true)(h0:ops[i]?=some o)(hc:cl i=5+2*b)(hd:nfD n o.dst=some d)(hw:aq ops T o=some true)(h:evN G T H o.type o.op=some (x,H',p))(hp:p)(hH:H'=H.set b ob)(k:fp P B n ops cl l (bK d x T) H' K):fp P B n ops cl (i::l) T H K:=by
 have hk:lW (5+2*b)=b:=by unfold lW;omega
 exact⟨o,h0,x,H',.inl ⟨hw,.inl (dZ hG rfl (oX h) hp)⟩,by rw[hc];exact lA.of_wr (by simp only[CC,Bool.and_eq_true,Nat.ble_eq,Nat.beq_eq];omega) ⟨ob,[],by rw[hk,List.append_nil];exact hH⟩,(cT hd).1▸k⟩
theorem fW{E:List Ob}(h0:ops[i]?=some o)(hc:cl i=2)(hd:nfD n o.dst=some d)(hw:aq ops T o=some true)(h:jb P B o T H x (H++E))(k:fp P B n ops cl l (bK d x T) (H++E) K):fp P B n ops cl (i::l) T H K :=
 ⟨o,h0,x,H++E,.inl ⟨hw,.inr h⟩,by rw[hc];exact⟨E,rfl⟩,(cT hd).1▸k⟩
end
section
variable {B : Nat -> Nat -> Prop} {n : Nat} {all ops : Array Oper} {cl : Nat -> Nat} {i : Nat} {li : List Nat} {T : Nat -> PV} {H H' : List Ob} {K : (Nat -> PV) -> List Ob -> Prop} {Q : Exit -> (Nat -> PV) -> List Ob -> Prop} {l : List Oper} {o : Oper} {x : PV} {d : Option Tmp} {p : Prop}
theorem aO(k:fp prog B n ops cl li (bK d x T) H K)(h0:ops[i]?=some o:=by exact rfl)(hc:cl i=0:=by exact rfl)(hd:nfD n o.dst=some d:=by exact rfl)(hw:aq ops T o=some true:=by exact rfl)(h:∀H2,evS tys T H2 o.type o.op=some (x,H2,True):=by exact fun _=>rfl):fp prog B n ops cl (i::li) T H K :=
 GP tG h0 hc hd hw h trivial k
theorem UB(k:fp prog B n ops cl li (bK d x T) H K)(h0:ops[i]?=some o:=by exact rfl)(hc:cl i=0:=by exact rfl)(hd:nfD n o.dst=some d:=by exact rfl)(hw:aq ops T o=some true:=by exact rfl)(h:∀H2,evS tys T H2 o.type o.op=some (x,H2,p):=by exact fun _=>rfl)(q:p):fp prog B n ops cl (i::li) T H K :=
 GP tG h0 hc hd hw h q k
theorem iG(k:fp prog B n ops cl li (bK d x T) H K)(h0:ops[i]?=some o:=by exact rfl)(hc:cl i=1:=by exact rfl)(hd:nfD n o.dst=some d:=by exact rfl)(hw:aq ops T o=some true:=by exact rfl)(h:∀E,evS tys T (H++E) o.type o.op=some (x,H++E,True):=by exact fun _=>rfl):fp prog B n ops cl (i::li) T H K :=
 Tp tG h0 hc hd hw h trivial k
theorem av3(k:fp prog B n ops cl li (bK d (.val undef) T) H K)(h0:ops[i]?=some o:=by exact rfl)(hc:Nat.ble (cl i) 3=true:=by exact rfl)(hd:nfD n o.dst=some d:=by exact rfl)(hw:aq ops T o=some false:=by exact rfl):fp prog B n ops cl (i::li) T H K :=
 NY h0 hc hd hw k
theorem zU{t:TypeId}{td:TD}{y:Operand}{off:Nat}{xs:List PV}{e:TypeId}(b:Nat)(k:fp prog B n ops cl li (bK d x T) H K)(h0:ops[i]?=some o:=by exact rfl)(hc:cl i=4+2*b:=by exact rfl)(hd:nfD n o.dst=some d:=by exact rfl)(hw:aq ops T o=some true:=by exact rfl)(ho:o.op=.load t y:=by exact rfl)(hx:opv T y=.ptr b off:=by exact rfl)(hb:H[b]?=some (.cells xs e):=by exact rfl)(hf:kH tys t=some td:=by exact rfl)(hr:ku td xs off=some x:=by exact rfl):fp prog B n ops cl (i::li) T H K :=
 Dl b h0 hc hd hw hb (fun _ h2=>bB (lO tG hf) ho hx h2 hr) k
end
section
variable {P : Program} {B : Nat -> Nat -> Prop} {n : Nat} {ops : Array Oper} {cl : Nat -> Nat} {md : Region.Mode}
theorem By{Q:(Nat->PV)->List Ob->Prop}{i:Nat}{oi:Oper}{x:PV}(hi:ops[i]?=some oi)(D:List Nat)(hDi:i∈D)(hD:∀j∈D,j≠i->∃oj e,ops[j]?=some oj/\e∈oj.after/\Region.binds md e=true/\e.on∈D):∀(fuel:Nat) (listed:Array Bool) (T:Nat->PV) (H Hi:List Ob),
  (∀j∈D,listed.getD j true=false) ->
  (∀j oj,ops[j]?=some oj->j∉D->listed.getD j true=false->oi.apart ops oj=true/\th (cl i) (cl j)=true) ->
  i∈Region.ready md ops listed->tR P B ops oi T H x Hi->lA P B ops (cl i) oi T H x Hi->uS P B md ops cl Q fuel (listed.setIfInBounds i true) (bK oi.dst x T) Hi->uS P B md ops cl Q (fuel+1) listed T H:=by
 intro fuel
 have self:∀(fuel:Nat) (listed:Array Bool) (T:Nat->PV) (H Hi:List Ob),tR P B ops oi T H x Hi->lA P B ops (cl i) oi T H x Hi->uS P B md ops cl Q fuel (listed.setIfInBounds i true) (bK oi.dst x T) Hi->QI P B ops cl i (uS P B md ops cl Q fuel (listed.setIfInBounds i true)) T H:=by
  intro fuel listed T H Hi hy hf h
  unfold QI
  simp only[hi]
  exact⟨x,Hi,hy,hf,h⟩
 induction fuel with
 | zero =>
  intro listed T H Hi _ _ hr hy hf h
  refine⟨fun h0=>(by rw[h0]at hr;cases hr),fun j hj=>?_⟩
  by_cases hji:j=i
  ·subst hji;exact self 0 listed T H Hi hy hf h
  have:=ready_mono hj hji
  rw[h.1]at this
  cases this
 | succ fuel ih =>
  intro listed T H Hi hun0 hfree hr hy hf h
  refine⟨fun h0=>(by rw[h0]at hr;cases hr),fun j hj=>?_⟩
  by_cases hji:j=i
  ·subst hji;exact self (fuel+1) listed T H Hi hy hf h
  have h1:=h.2 j (ready_mono hj hji)
  obtain⟨hjun,oj,hoj,hall⟩:=mem_ready.1 hj
  have hnot:j∉D:=fun hjD=>by
   obtain⟨oj2,e,k1,k2,k3,k4⟩:=hD j hjD hji
   rw[hoj]at k1
   obtain rfl:=Option.some.inj k1
   have a1:=hall e k2 k3
   have a0:=hun0 e.on k4
   rcases Nat.lt_or_ge e.on listed.size with h'|h'
   ·simp[h']at a0 a1;rw[a0]at a1;cases a1
   simp[Array.getElem?_eq_none h']at a1
  obtain⟨hap,hcp⟩:=hfree j oj hoj hnot hjun
  obtain⟨l1,l2,l3⟩:=sb hap
  unfold QI at h1 ⊢
  simp only[hoj]at h1 ⊢
  obtain⟨y,Hj,hyj,hfj,hk⟩:=h1
  obtain⟨H',k1,k2,k3,k4⟩:=Vq hcp (fun t ht=>nv (l1 t ht)) (fun t ht=>nv (l2 t ht)) hy hf hyj hfj
  refine⟨y,H',k1,k2,ih (listed.setIfInBounds j true) _ H' Hj (fun k hk=>?_) (fun k ok hk hki hun=>?_) (ready_mono hr (Ne.symm hji)) k3 k4 ?_⟩
  ·rw[getD_set_ne true (by rintro rfl;exact hnot hk)];exact hun0 k hk
  ·refine hfree k ok hk hki ?_
   by_cases hjk:j=k
   ·subst hjk;exact hjun
   rw[getD_set_ne true hjk]at hun;exact hun
  rw[Array.setIfInBounds_comm _ _ hji,wM _ _ _ l3]
  exact hk
def DB(md:Region.Mode)(ops:Array Oper):Nat->List Nat->List Nat
 | 0,D=>D
 | k+1,D=>DB md ops k (D++((ops.toList.zipIdx.filter fun q=>!D.contains q.2&&(q.1.after.any fun e=>Region.binds md e&&D.contains e.on)).map (·.2)))
def LO(md:Region.Mode)(ops:Array Oper)(cl:Nat->Nat)(listed:Array Bool)(i:Nat)(oi:Oper)(D:List Nat):Bool :=
 D.contains i&&(D.all fun j=>Nat.beq j i||(match ops[j]? with|some oj=>oj.after.any fun e=>Region.binds md e&&D.contains e.on|none=>false))&&(D.all fun j=>!listed.getD j true) &&
  ops.toList.zipIdx.all fun q=>D.contains q.2||listed.getD q.2 true||(oi.apart ops q.1&&th (cl i) (cl q.2))
def AX(md:Region.Mode)(ops:Array Oper)(cl:Nat->Nat):List Nat->Array Bool->Bool
 | [],listed=>(Region.ready md ops listed).isEmpty
 | i::l,listed=>(Region.ready md ops listed).contains i&&(match ops[i]? with|some oi=>LO md ops cl listed i oi (DB md ops 6 [i])|none=>false)&&AX md ops cl l (listed.setIfInBounds i true)
theorem xy{Q:(Nat->PV)->List Ob->Prop}:∀(l:List Nat) (listed:Array Bool) (T:Nat->PV) (H:List Ob),AX md ops cl l listed=true->fp P B n ops cl l T H Q->uS P B md ops cl Q l.length listed T H
 | [],listed,T,H,hB,h=>⟨by simpa[AX]using hB,h⟩
 | i::l,listed,T,H,hB,h=>by
  simp only[AX,Bool.and_eq_true]at hB
  obtain⟨⟨hr,hf⟩,hB'⟩:=hB
  obtain⟨o,ho,x,H',hy,hfu,hK⟩:=h
  rw[ho]at hf
  simp only[LO,Bool.and_eq_true]at hf
  obtain⟨⟨⟨f1,f2⟩,f3⟩,f4⟩:=hf
  refine By ho (DB md ops 6 [i]) (by simpa using f1) (fun j hj hji=>?_) l.length listed T H H' (fun j hj=>?_) (fun j oj hj hjD hun=>?_) (by simpa using hr) hy hfu (xy l _ _ _ hB' hK)
  ·have:=List.all_eq_true.1 f2 j hj
   rw[Bool.or_eq_true,Nat.beq_eq]at this
   rcases this with h|h
   ·exact absurd h hji
   cases hoj:ops[j]? with
   | none=>rw[hoj]at h;cases h
   | some oj =>
    rw[hoj]at h
    obtain⟨e,he,h3⟩:=Array.any_eq_true'.1 h
    rw[Bool.and_eq_true]at h3
    exact⟨oj,e,rfl,he,h3.1,by simpa using h3.2⟩
  ·have:=List.all_eq_true.1 f3 j hj
   simpa using this
  have h1:=List.all_eq_true.1 f4 (oj,j) (DP (by rw[Array.getElem?_toList];exact hj))
  simp only[Bool.or_eq_true,Bool.and_eq_true]at h1
  rcases h1 with (h1|h1)|h1
  ·exact absurd (by simpa using h1) hjD
  ·rw[hun]at h1;cases h1
  exact h1
def KU(md:Region.Mode)(ops:Array Oper)(cl:List Nat)(ord:List Nat):Bool:=Nat.beq ord.length ops.size&&AX md ops (QP cl) ord (Array.replicate ops.size false)
variable {T : Nat -> PV} {H : List Ob} {Q : Exit -> (Nat -> PV) -> List Ob -> Prop}
theorem aY{id:Nat}(cl ord:List Nat)(hm:P.follows .mixedOrders=true)(hall:gh n ops=true)(hB:KU .any ops cl ord=true)(h:fp P B n ops (QP cl) ord T H (fun T' H'=>Q .normal T' H')):W P B n (.region id ops true) T H Q:=by
 intro σ w a g
 simp only[KU,Bool.and_eq_true,Nat.beq_eq]at hB
 refine wp_region_any hm ?_
 have hd:aX w {w with drawn:=w.drawn+1}:=aX.drew w
 obtain⟨s',st⟩:=fH g.sim hd
 have hA:=xy (P:=P) (B:=B) (n:=n) (md:=.any) ord (Array.replicate ops.size false) T H hB.2 h
 rw[hB.1]at hA
 exact ki (P:=P) (md:=.any) hall (H0:=H) (σ0:=σ) (w0:=w) (Q':=GE B n H σ w Q) (fun T' H' σ' w' a' g' st' hq=>⟨T',H',σ',hq,g',st'⟩) ops.size _ T H σ _ a ⟨s',fun i=>(g.rep i).mono st.le,g.size,g.defers⟩ st hA
end
end V3
open Go.RowKit
def tO(l:List Str)(s:Str):Nat->Nat->Int
 | 0,_=>-1
 | m+1,k=>if s=l.getD k []then(k:Int)else tO l s m (k+1)
theorem yW(l:List Str)(s:Str):∀m k,k+m<=1000000->-1<=tO l s m k/\tO l s m k<=1000000
 | 0,k,_=>by unfold tO;omega
 | m+1,k,h=>by
  unfold tO
  split
  ·omega
  exact yW l s m (k+1) (by omega)
theorem M8{l:List Str}{s:Str}{k:Nat}(hk:k<l.length)(h:¬s=l.getD k []):tO l s (l.length-k) k=tO l s (l.length-(k+1)) (k+1):=by
 rw[show l.length-k=(l.length-(k+1))+1 by omega]
 show(if s=l.getD k []then _ else _)=_
 rw[if_neg h]
theorem QW{l:List Str}{s:Str}{k:Nat}(hk:k<l.length)(h:s=l.getD k []):tO l s (l.length-k) k=(k:Int):=by
 rw[show l.length-k=(l.length-(k+1))+1 by omega]
 show(if s=l.getD k []then _ else _)=_
 rw[if_pos h]
theorem tD(l:List Str)(s:Str)(hl:l.length<=1000000):ab prog 113 [sq gy l,str s] (i64 (tO l s l.length 0)):=by
 refine zY func113 fun B=>?_
 refine zu1 ?_
 refine Ws<|zu3 ?_
 refine Wl ?_
 show W _ _ _ _ _ _ _
 refine fX (fun(k:Nat)=>[(0,sq gy l),(1,str s),(4,i64 0),(7,i64 (l.length:Int)),(8,i64 (k:Int))]) (fun(k:Nat)=>[]) (fun(k:Nat)=>[]) (fun(k:Nat)=>k<=l.length/\tO l s l.length 0=tO l s (l.length-k) k) (fun(k:Nat)=>l.length-k) (0) (by exact⟨Nat.zero_le _,rfl⟩) [] ?_ ?_
 ·exact fc
 intro k hk
 refine zu1 ?_
 refine Ws<|Wi rfl (fun hi1=>?_) (fun hi1=>?_)
 ·have hlt:k<l.length:=by have:=oT hi1;omega
  refine Wj<|Ws<|Wl<|zu2 ?_
  refine zp3 ?_
  refine Wv tG rfl rfl rfl (by omega) (iN gy 1 (fun _=>rfl) [] (by omega)) ?_
  refine zy2 ?_
  refine zq 16 ?_
  refine Wn<|Wi rfl (fun hi2=>?_) (fun hi2=>?_)
  ·have q:s=l.getD k []:=oT hi2
   refine zu2 ?_
   refine zR ?_
   rw[hk.2,QW hlt q];rfl
  have q:¬s=l.getD k []:=oF hi2
  refine Wj<|aa rfl ?_
  refine zs2 ?_
  exact⟨k+1,[],(by exact⟨by omega,hk.2.trans (M8 hlt q)⟩),(by omega),fc⟩
 have hge:l.length-k=0:=by have:=oF hi1;omega
 refine bf ?_
 refine zu1 ?_
 refine zR ?_
 rw[hk.2,hge];rfl
theorem iF{a k:Str}{ks:List fG}{x:PV}{xs:List PV}{z:PV}:gN (.s a::ks) (x::xs) (.s k) z=if k=a then(x,true)else gN ks xs (.s k) z:=by
 rw[gN]
 by_cases h:k=a
 ·subst h;rw[if_pos rfl,if_pos rfl]
 rw[if_neg (fun e=>h (fG.s.inj e).symm),if_neg h]
theorem SI{k:fG}{z:PV}:gN [] [] k z=(z,false):=by unfold gN;rfl
structure VCf where
 kind:Int
 at_:Int
 leaves:List Int
def zCf:VCf:=⟨0,0,[]⟩
def cCf(c:VCf):List PV:=[i64 c.kind,i64 c.at_,sq ap c.leaves]
@[simp] theorem ST (c : VCf) : ay (cCf c) := by simp [cCf]
@[simp] theorem aq6 (l : List VCf) : aS (sq cCf l) := gB ST l
structure CW where
 v:VVm
 l:List VCf
 bad:Int
def cCw(w:CW):List PV:=cVm w.v++[sq cCf w.l,i64 w.bad]
@[simp] theorem an5 (w : CW) : ay (cCw w) := by simp [cCw, cVm]
def CW.fail(w:CW)(e:Int):CW:=if w.bad=0 then {w with bad:=e} else w
theorem cf0{w:CW}{e:Int}(h:w.bad=0):w.fail e={w with bad:=e}:=by unfold CW.fail;rw[if_pos h]
theorem cf1{w:CW}{e:Int}(h:w.bad≠0):w.fail e=w:=by unfold CW.fail;rw[if_neg h]
theorem lQ(w:CW)(e:Int):∀(H:List Ob) (i:Nat),H[i]?=some (.cells (cCw w) 175)->HC prog 153 (.ptr i 0::[i64 e]) H (.tup []) (H.set i (.cells (cCw (w.fail e)) 175)):=by
 refine zM func153 fun B=>?_
 refine zu5 ?_
 refine Wi rfl (fun hi1=>?_) (fun hi1=>?_)
 ·have h0:w.bad=0:=by simpa using hi1
  refine aa rfl ?_
  refine zs5 ?_
  refine aU rfl rfl ?_ ?_
  ·rfl
  (rw[cf0 h0];rfl)
 have h0:w.bad≠0:=by simpa using hi1
 refine Wj<|aU rfl rfl ?_ ?_
 ·rfl
 (rw[cf1 h0];rfl)
def qX(v:VVm)(n:Int):VVm×Int:=({v with mem:=(cv v.mem v.here n).1,here:=(cv v.mem v.here n).2.1},(cv v.mem v.here n).2.2)
theorem wI(v:VVm)(n:Int)(hm:cZ v.mem)(hh:ia v.mem v.here):ab prog 99 [eVm v,i64 n] (tVm (qX v n)):=by
 refine zY func99 fun B=>?_
 refine zu3 ?_
 refine zp5 ?_
 refine zc rfl func127 ((Ce v.mem v.here n hm hh) _) ?_
 refine zy5 ?_
 refine zs3 ?_
 refine zp5 ?_
 refine zs1 ?_
 refine zu4 ?_
 refine zR ?_
 rfl
def iq(w:CW)(n:Int):CW:=if w.bad=0 then {w with v:=(qX w.v n).1,bad:=(qX w.v n).2} else w
theorem X2{w:CW}{n:Int}(h:w.bad=0):iq w n={w with v:=(qX w.v n).1,bad:=(qX w.v n).2}:=by unfold iq;rw[if_pos h]
theorem ap2{w:CW}{n:Int}(h:w.bad≠0):iq w n=w:=by unfold iq;rw[if_neg h]
theorem rz(w:CW)(n:Int)(hm:cZ w.v.mem)(hh:ia w.v.mem w.v.here):∀(H:List Ob) (i:Nat),H[i]?=some (.cells (cCw w) 175)->HC prog 105 (.ptr i 0::[i64 n]) H (i64 w.v.here) (H.set i (.cells (cCw (iq w n)) 175)):=by
 refine zM func105 fun B=>?_
 refine zu1 ?_
 refine zp5 ?_
 refine zs1 ?_
 refine Ws<|zu5 ?_
 refine Wi rfl (fun hi1=>?_) (fun hi1=>?_)
 ·have h0:w.bad=0:=by simpa using hi1
  refine zp5 ?_
  refine zc rfl func99 ((wI w.v n hm hh) _) ?_
  refine zy5 ?_
  refine zs1 ?_
  refine zu5 ?_
  refine aa rfl ?_
  refine zy2 ?_
  refine zc rfl func153 ((lQ {w with v:=(qX w.v n).1} (qX w.v n).2) _ _ rfl) ?_
  refine Wn<|zu2 ?_
  refine Wq<|aN rfl rfl ?_ ?_
  ·rfl
  (rw[X2 h0,cf0 (by exact h0)];rfl)
 have h0:w.bad≠0:=by simpa using hi1
 refine Wj<|zu2 ?_
 refine Wq<|aN rfl rfl ?_ ?_
 ·rfl
 (rw[ap2 h0];rfl)
def rC(name:Str):Int:=32+8*tO ao name ao.length 0
def cJ(w:CW)(name:Str):CW:=iq w (rC name)
theorem m7(w:CW)(name:Str)(hm:cZ w.v.mem)(hh:ia w.v.mem w.v.here):∀(H:List Ob) (i:Nat),H[i]?=some (.cells (cCw w) 175)->HC prog 104 (.ptr i 0::[str name]) H (.tup []) (H.set i (.cells (cCw (cJ w name)) 175)):=by
 have hn:=lm
 have hx:=yW ao name ao.length 0 (by rw[hn];omega)
 have w1:IntKind.i64.wrap (32+IntKind.i64.wrap (8*tO ao name ao.length 0))=rC name:=by unfold rC;rw[gE (n:=8*_) (by omega) (by omega),gE (by omega) (by omega)]
 refine zM func104 fun B=>?_
 refine aa rfl ?_
 refine z1 ?_
 refine zc rfl func98 ((nU) _) ?_
 refine z1 ?_
 refine zc rfl func113 ((tD ao name (by rw[hn];omega)) _) ?_
 refine zy2 ?_
 refine Wa 9 rfl (congrArg (fun z=>PV.val (Value.int .i64 z)) w1) ?_
 refine zc rfl func105 ((rz w (rC name) hm hh) _ _ rfl) ?_
 refine Wn<|aU rfl rfl ?_ ?_
 ·rfl
 rfl
def jz(w:CW)(a:Int):CW:=if w.bad=0 then {w with v:={w.v with mem:=(aF w.v.mem a w.v.here).1},bad:=(aF w.v.mem a w.v.here).2} else w
theorem jG{w:CW}{a:Int}(h:w.bad=0):jz w a={w with v:={w.v with mem:=(aF w.v.mem a w.v.here).1},bad:=(aF w.v.mem a w.v.here).2}:=by unfold jz;rw[if_pos h]
theorem jK{w:CW}{a:Int}(h:w.bad≠0):jz w a=w:=by unfold jz;rw[if_neg h]
theorem yI(w:CW)(a:Int)(hm:cZ w.v.mem)(ha:ae a):∀(H:List Ob) (i:Nat),H[i]?=some (.cells (cCw w) 175)->HC prog 266 (.ptr i 0::[i64 a]) H (.tup []) (H.set i (.cells (cCw (jz w a)) 175)):=by
 refine zM func266 fun B=>?_
 refine zu5 ?_
 refine Wi rfl (fun hi1=>?_) (fun hi1=>?_)
 ·have h0:w.bad=0:=by simpa using hi1
  refine Ws<|V3.aY [0,0,0,0,1,0,0,0,0,0,1,0,0,0,0,2,3,0] [0,1,2,3,4,5,6,7,8,9,10,11,12,13,14,15,16,17] mG rfl (by kernel_rfl) ?_
  iterate 4 refine V3.aO ?_
  refine V3.iG ?_
  iterate 5 refine V3.aO ?_
  refine V3.iG ?_
  refine V3.cQ rfl rfl rfl rfl (fun _=>dC rfl func92 rfl rfl ((jp w.v.mem a w.v.here hm ha) _)) ?_
  iterate 3 refine V3.aO ?_
  refine V3.sw tG rfl rfl rfl rfl rfl trivial rfl ?_
  refine V3.ox tG rfl rfl rfl rfl rfl trivial ?_
  refine V3.aO ?_
  refine V3.bo ?_
  refine zp5 ?_
  refine zs1 ?_
  refine aa rfl ?_
  refine zy2 ?_
  refine zc rfl func153 ((lQ {w with v:={w.v with mem:=(aF w.v.mem a w.v.here).1}} (aF w.v.mem a w.v.here).2) _ _ rfl) ?_
  refine Wn<|aU rfl rfl ?_ ?_
  ·rfl
  (rw[jG h0,cf0 (by exact h0)];rfl)
 have h0:w.bad≠0:=by simpa using hi1
 refine Wj<|aU rfl rfl ?_ ?_
 ·rfl
 (rw[jK h0];rfl)
theorem R6(l:List VCf)(hl:l.length<=1000000):ab prog 356 [sq cCf l] (sqc cCf l):=by
 refine bw tG (rs:=[.tmp 2]) func356 rfl rfl rfl (by(simp;done)) (by exact kU (fun x=>by simp) _) (fun B=>?_)
 refine zu1 ?_
 refine zp5 ?_
 refine z2 ?_ (q:=(by(simp_all;done)))
 refine Wa 8 rfl (cK cCf 3 (fun _=>rfl) (by omega)) ?_
 refine zs1 ?_
 refine Wq ?_
 exact nY rfl (by simp[sqc];rfl)
def mN(w:CW)(c:VCf):CW:=if 32<=w.l.length then w.fail (-22)else {w with l:=w.l++[c]}
theorem qV(w:CW)(c:VCf)(hl:w.l.length<=1000):∀(H:List Ob) (i:Nat),H[i]?=some (.cells (cCw w) 175)->HC prog 264 (.ptr i 0::[.agg (cCf c)]) H (.tup []) (H.set i (.cells (cCw (mN w c)) 175)):=by
 refine zM func264 fun B=>?_
 refine zu1 ?_
 refine Ws<|zp5 ?_
 refine zs1 ?_
 refine Wi rfl (fun hi1=>?_) (fun hi1=>?_)
 ·have q:32<=w.l.length:=by have:=oT hi1;omega
  refine zp1 ?_
  refine zc rfl func153 ((lQ w (-22)) _ _ rfl) ?_
  refine Wn<|Wq<|aN rfl rfl ?_ ?_
  ·rfl
  (rw[mN,if_pos q];rfl)
 have q:¬32<=w.l.length:=by have:=oF hi1;omega
 refine Wj<|V3.aY [0,0,0,0,1,0,1,0,0,0,0,3] [0,1,2,3,4,5,6,7,8,9,10,11] mG rfl (by kernel_rfl) ?_
 iterate 4 refine V3.aO ?_
 refine V3.iG ?_
 refine V3.cQ rfl rfl rfl rfl (fun _=>dC rfl func356 rfl rfl ((R6 w.l (by omega)) _)) ?_
 refine V3.iG ?_
 refine V3.aO ?_
 refine V3.jm 19 rfl ((show _=PV.seq (List.length [c]) (List.flatMap cCf [c]) .clip from rfl)) ?_
 refine V3.jT rfl rfl rfl rfl (fun _=>cg (lO tG rfl) rfl (lO tG rfl) (lO tG rfl) rfl rfl (by exact⟨_,rfl⟩) (by exact⟨rfl,rfl,al _ 3 (fun _=>rfl) _,bD _ (fun _=>rfl) _⟩) (by exact al _ 3 (fun _=>rfl) _) (by((simp_all;omega))) (by((simp_all;omega))) (by exact fy (bt (fun x=>by simp) _) (bt (fun x=>by simp) _))) ?_
 refine V3.jm 20 rfl (cw cCf) ?_
 iterate 2 refine V3.aO ?_
 refine V3.ox tG rfl rfl rfl rfl rfl trivial ?_
 refine V3.bo ?_
 refine aU rfl rfl ?_ ?_
 ·rfl
 (rw[mN,if_neg q];rfl)
def bh(w:CW)(kind:Int):CW×VCf :=
 if w.l.length=0\/(w.l.getD (w.l.length-1) zCf).kind≠kind then(w.fail (-22),zCf)else({w with l:=w.l.take (w.l.length-1)},w.l.getD (w.l.length-1) zCf)
theorem nW(w:CW)(kind:Int)(hl:w.l.length<=1000):∀(H:List Ob) (i:Nat),H[i]?=some (.cells (cCw w) 175)->HC prog 265 (.ptr i 0::[i64 kind]) H (.agg (cCf (bh w kind).2)) (H.set i (.cells (cCw (bh w kind).1) 175)):=by
 have w1:w.l.length≠0->IntKind.i64.wrap ((w.l.length:Int)-1)=((w.l.length-1:Nat):Int):=fun h=>by rw[gE (by omega) (by omega)];omega
 refine zM func265 fun B=>?_
 refine zu1 ?_
 refine zp5 ?_
 refine zs1 ?_
 refine Ws<|zp3 ?_
 refine Wb 14 rfl (fun hg1=>?_) (fun hg1=>?_)
 ·have h0:w.l.length=0:=by have h:(w.l.length:Int)=0:=(by simpa using hg1);omega
  have q:w.l.length=0\/(w.l.getD (w.l.length-1) zCf).kind≠kind:=.inl h0
  iterate 11 refine z6 ?_
  refine zs1 ?_
  refine Wt rfl rfl ?_
  refine zp1 ?_
  refine zc rfl func153 ((lQ w (-22)) _ _ rfl) ?_
  refine Wn<|zu2 ?_
  refine Wq<|aN rfl rfl ?_ ?_
  ·(rw[bh,if_pos q];rfl)
  (rw[bh,if_pos q];rfl)
 have h0:w.l.length≠0:=by have h:¬(w.l.length:Int)=0:=(by simpa using hg1);omega
 have w2:=w1 h0
 refine zy5 ?_
 refine z1 ?_
 refine Wa 20 rfl (congrArg (fun z=>PV.val (Value.int .i64 z)) w2) ?_
 refine Wv tG rfl rfl rfl (by omega) (iN cCf 3 (fun _=>rfl) zCf (by omega)) ?_
 refine zs5 ?_
 refine Wi rfl (fun hi1=>?_) (fun hi1=>?_)
 ·have q:w.l.length=0\/(w.l.getD (w.l.length-1) zCf).kind≠kind:=.inr (by simpa using hi1)
  refine zp1 ?_
  refine zc rfl func153 ((lQ w (-22)) _ _ rfl) ?_
  refine Wn<|zu2 ?_
  refine Wq<|aN rfl rfl ?_ ?_
  ·(rw[bh,if_pos q];rfl)
  (rw[bh,if_pos q];rfl)
 have q:¬(w.l.length=0\/(w.l.getD (w.l.length-1) zCf).kind≠kind):=by rintro(h|h);exact h0 h;exact h (by simpa using hi1)
 refine Wj<|zp5 ?_
 refine z1 ?_
 refine Wa 35 rfl (congrArg (fun z=>PV.val (Value.int .i64 z)) w2) ?_
 refine Wv tG rfl rfl rfl (by omega) (iN cCf 3 (fun _=>rfl) zCf (by omega)) ?_
 refine zs3 ?_
 refine zp5 ?_
 refine zy2 ?_
 refine Wa 44 rfl (congrArg (fun z=>PV.val (Value.int .i64 z)) w2) ?_
 refine z2 ?_ (q:=(by(simp_all;done)))
 refine Wa 45 rfl (cK cCf 3 (fun _=>rfl) (by omega)) ?_
 refine zs3 ?_
 refine zu2 ?_
 refine Wq<|aN rfl rfl ?_ ?_
 ·(rw[bh,if_neg q];rfl)
 (rw[bh,if_neg q,Int.toNat_natCast];rfl)
def oR(w:CW)(v:VVm)(l:List VCf):VVm×List VCf×Int:=if w.bad≠0 then(v,l,w.bad)else(w.v,w.l,0)
theorem wq(w:CW)(v:VVm)(l:List VCf):∀(H:List Ob) (i:Nat),H[i]?=some (.cells (cCw w) 175)->HC prog 106 (.ptr i 0::[eVm v,sq cCf l]) H (.tup [eVm (oR w v l).1,sq cCf (oR w v l).2.1,i64 (oR w v l).2.2]) (H.set i (.cells (cCw w) 175)):=by
 refine zM func106 fun B=>?_
 refine zu4 ?_
 refine Ws<|zu5 ?_
 refine Wi rfl (fun hi1=>?_) (fun hi1=>?_)
 ·have q:w.bad≠0:=by simpa using hi1
  refine Ws<|V3.aY [6,0,0,0,0,4,9,0,0] [0,1,2,3,4,5,6,7,8] mG rfl (by kernel_rfl) ?_
  refine V3.zU 1 ?_
  iterate 4 refine V3.aO ?_
  refine V3.zU 0 ?_
  refine V3.bT 2 tG rfl rfl rfl rfl rfl trivial rfl ?_
  iterate 2 refine V3.aO ?_
  refine V3.bo ?_
  refine Wq<|aN rfl rfl ?_ ?_
  ·(rw[oR,if_pos q];rfl)
  rfl
 have q:¬w.bad≠0:=by simpa using hi1
 refine Wj<|Ws<|V3.aY [0,0,0,4,0,0,0,4,9,0,0] [0,1,2,3,4,5,6,7,8,9,10] mG rfl (by kernel_rfl) ?_
 iterate 3 refine V3.aO ?_
 refine V3.zU 0 ?_
 iterate 3 refine V3.aO ?_
 refine V3.zU 0 ?_
 refine V3.bT 2 tG rfl rfl rfl rfl rfl trivial rfl ?_
 iterate 2 refine V3.aO ?_
 refine V3.bo ?_
 refine Wq<|aN rfl rfl ?_ ?_
 ·(rw[oR,if_neg q];rfl)
 rfl
def RH(w:World)(size:Nat)(sl:Value)(n:Nat)(xs:List Value):Prop :=
 xs.length=n*size/\∃(a:Option Addr) (cap:Nat),sl=.slice a n cap/\(a=none->n=0/\cap=0)/\n<=cap/\∀b,a=some b->∀(j:Nat) (u:Value),xs[j]?=some u->w.cell? (b.add j)=some u
def vK(w:World)(sl:Value)(xs:List Int):Prop:=RH w 1 sl xs.length (xs.map (Value.int .u8))/\∀x∈xs,0<=x/\x<256
theorem Hq{w w':World}{size n:Nat}{sl:Value}{xs:List Value}(h:RH w size sl n xs)(hb:Below w.heap.size w w'):RH w' size sl n xs:=by
 obtain⟨hl,a,cap,rfl,hn,hc,hx⟩:=h
 refine⟨hl,a,cap,rfl,hn,hc,fun b hb' j u hj=>?_⟩
 have h1:=hx b hb' j u hj
 rw[hb.cell (World.block_lt_of_cell? w (b.add j) h1)]
 exact h1
theorem Bw{w w':World}{sl:Value}{xs:List Int}(h:vK w sl xs)(hb:Below w.heap.size w w'):vK w' sl xs:=⟨Hq h.1 hb,h.2⟩
abbrev YS:=List Int×Bool
def an8(w:World)(v:Value)(p:YS):Prop:=∃sl,v=.agg #[sl,.bool p.2]/\vK w sl p.1
theorem PN(w:World)(sl:Value)(xs:List Int)(h:vK w sl xs)(hl:xs.length<=140737488355328):
  Calls prog 382 #[sl] w fun e w'=>∃v',e=.returned v'/\w'.ownsRow w.heap.size 5 1 v' xs.length (xs.map (Value.int .u8))/\Below w.heap.size w w':=by
 obtain⟨⟨hlen,a,cap,rfl,hn,hc,hx⟩,_⟩:=h
 match a with
 | none =>
  obtain⟨h0,rfl⟩:=hn rfl
  refine(AnyE.slices_Clone_nil Tryz.lClone xs.length 0 w).mono ?_
  rintro e w' ⟨rfl,rfl⟩
  have hx0:xs=[]:=List.eq_nil_of_length_eq_zero h0
  subst hx0
  exact⟨_,rfl,⟨rfl,.inl ⟨rfl,rfl⟩⟩,Below.refl _ _⟩
 | some ad =>
  obtain⟨i0,hi,hz0,hz1,hz2⟩:=info_parts XO
  have q22:∀(w:World) (a:Option Addr) (n c n' c':Nat),(binOp .eql 22 (.slice a n c) (.slice none n' c')).run prog w=.ok (.bool a.isNone) w:=fun w a n c n' c'=>Lib.run_eql_slice_nil w _ _ a n c n' c' underlying22
  have HX:=Lib.hid (hx ad rfl)
  have HL:=Lib.hid hlen
  clear hx hlen
  go_enter func382,ntmps382
  go_wp2_with (at_builtin;refine wpList_append_own _ rfl _ _ 22 rfl w.heap.size 5 i0 (.int .u8 0) 1 1 underlying22 hi hz0 hz1 hz2 rfl (by decide) _ _ _ rfl (World.ownsRow_made w #[] 0 (Nat.le_refl _) (Nat.zero_le _) (by simp)) ad xs.length cap (xs.map (Value.int .u8)) rfl ?qc1 ?qc2 ?qc3 ?qc4 ?qc5 ?qc6 ?_)
  case qc1=>exact HL.out
  case qc2=>intro j u hj;exact Lib.cell?_alloc_some _ (HX.out j u hj)
  case qc3=>simp[Value.oneCell']
  case qc4=>unfold maxLen;omega
  case qc5=>omega
  case qc6=>simp
  intro v' w1 hown hgrow _
  go_wp2
  go_ret
  refine⟨v',rfl,by simpa using hown,?_⟩
  exact((Below.refl _ w).alloc (Nat.le_refl _) _).grown hgrow (by simp) (by intro k hk;simp[Value.ownBlock]at hk;omega)
def XJ(p:YS):List UInt8×Int:=if p.2 then((p.1.map (fun n=>UInt8.ofNat n.toNat)).reverse,0)else([],-17)
theorem SX(xs:List Int):strOfNums xs.reverse=⟨((xs.map (fun n=>UInt8.ofNat n.toNat)).reverse).toArray⟩:=by unfold strOfNums;rw[List.map_reverse]
theorem am6(v:Value)(p:YS)(w:World)(h:an8 w v p)(hl:p.1.length<=140737488355328):Calls prog 345 #[v] w fun e w'=>e=.returned (.tuple #[.string ⟨(XJ p).1.toArray⟩,.int .i64 (XJ p).2])/\Below w.heap.size w w':=by
 obtain⟨sl,rfl,hs⟩:=h
 obtain⟨xs,on⟩:=p
 have b0:=fun o=>(Below.refl w.heap.size w).alloc (Nat.le_refl _) o
 cases on with
 | false =>
  go_enter func345,ntmps345
  go_wp2
  go_ret2
  exact⟨rfl,b0 _⟩
 | true =>
  have hC:=fun o=>PN (w.alloc o) sl xs (Bw hs (b0 o)) hl
  have HC:=Lib.hid hC
  have HL:=Lib.hid hl
  clear hC hs hl
  go_enter func345,ntmps345
  go_wp2_with fail
  refine(HC.out _).mono ?_
  rintro e w1 ⟨v',rfl,hown,hb1⟩
  have c1:=(b0 _).trans (hb1.mono (b0 _).size)
  have hown1:=P6 hown (b0 _).size
  have HR:=Lib.hid (Mg w1 _ v' _ xs hown1 (Nat.le_trans HL.out (by omega)))
  clear hown hown1 hb1 b0
  go_wp2_with fail
  refine HR.out.mono ?_
  rintro e w2 ⟨rfl,hown2,hb2⟩
  have c2:=hb2 w c1
  have hcv:=Fw hown2
  rw[SX]at hcv
  clear hown2 hb2 c1 HR
  go_wp2
  go_ret2
  exact⟨rfl,c2⟩
theorem Mm{c:Cx}{l:List UInt8}{v:Value}(h:Rep c (sq aK l) v):vK c.w v (l.map fun b=>(b.toNat:Int)):=by
 unfold sq at h
 obtain⟨ad,cap,vs,hv,hle,hnil,hrl,hlies,hk⟩:=gx h
 have hvs:vs=(l.map fun b=>(b.toNat:Int)).map (Value.int .u8):=by
  rw[j8]at hrl
  have:((l.map fun b=>(b.toNat:Int)).map j5)=((l.map fun b=>(b.toNat:Int)).map (Value.int .u8)).map PV.val:=by simp only[List.map_map];rfl
  rw[this]at hrl
  exact s6 hrl
 refine⟨⟨by simp,ad,cap,by rw[hv];simp,(fun h=>by have:=hnil h;exact⟨by simpa using this.1,this.2.1⟩),by simpa using hle,fun b hb j u hj=>?_⟩,fun x hx=>?_⟩
 ·rw[<-hvs]at hj
  have hL:=(hlies b hb).resolve_right (by rintro⟨_,h3⟩;rw[h3]at hj;simp at hj)
  rw[gI hL,Addr.add_lit]
  exact(hL.2 j u hj).1
 obtain⟨b,_,rfl⟩:=List.mem_map.1 hx
 have:=b.toNat_lt
 omega
theorem Ut(p:dS)(hp:p.b.length<=1000000):ab prog 345 [yn p] (ot (lq p)):=by
 intro H B σ w vs s hr
 match vs,hr with
 | [],hr=>unfold au at hr;obtain⟨u,us,h1,_⟩:=hr;cases h1
 | v::v2::vs,hr=>rw[aj]at hr;have:=au.length hr.2;simp at this
 | [v],hr =>
 rw[aj]at hr
 have h1:=hr.1
 unfold yn Rep at h1
 obtain⟨us,rfl,h2⟩:=h1
 match us,h2 with
 | [],h2=>unfold uz au at h2;obtain⟨u,us,h1,_⟩:=h2;cases h1
 | [a],h2=>have:=au.length h2;simp[uz]at this
 | a::b::d::us,h2=>have:=au.length h2;simp[uz]at this
 | [a,b],h2 =>
 unfold uz at h2
 rw[aj,aj]at h2
 have h3:=Mm h2.1
 have h4:=h2.2.1
 unfold boo Rep at h4
 subst h4
 have hw:=am6 (.agg #[a,.bool p.on]) (List.map (fun b:UInt8=>(b.toNat:Int)) p.b,p.on) w ⟨a,rfl,h3⟩ (by simp;omega)
 refine Calls.mono hw ?_
 rintro e w' ⟨rfl,hb⟩
 obtain⟨s',st⟩:=fH s (aX.of_below hb)
 refine⟨_,σ,rfl,?_,s',st⟩
 have e1:XJ (List.map (fun b:UInt8=>(b.toNat:Int)) p.b,p.on)=lq p:=by
  unfold XJ lq
  cases p.on with
  | true=>simp[List.map_map,Function.comp_def]
  | false=>rfl
 rw[e1]
 unfold ot ic Rep
 exact⟨[_,_],rfl,aj.2 ⟨by unfold str;exact ar _ _,aj.2 ⟨by unfold i64;exact ar _ _,aG.2 rfl⟩⟩⟩
theorem Ga{p:dS}{c:Int}(h:(gC p c).2=0):(gC p c).1.b.length=p.b.length+1/\p.b.length<130:=by
 unfold gC at h ⊢
 split at h
 ·rename_i hc;rw[if_pos hc];simp[hc.2]
 cases h
theorem ve{q:dS}{lo hi base:Int}(h:(aI q lo hi base).2.2.2=0):(aI q lo hi base).1.b.length=q.b.length+1/\q.b.length<130:=by
 unfold aI at h ⊢
 split at h
 ·cases h
 rename_i hb
 rw[if_neg hb]
 split at h
 ·rename_i h0
  rw[if_pos h0]
  exact Ga h0
 rename_i h0;exact absurd h h0
theorem ni(q:dS)(lo hi base:Int):rD q lo hi base=if (aI q lo hi base).2.2.2≠0 then(q,(aI q lo hi base).2.2.2)else if (aI q lo hi base).2.1=0/\(aI q lo hi base).2.2.1=0 then((aI q lo hi base).1,0)else rD (aI q lo hi base).1 (aI q lo hi base).2.1 (aI q lo hi base).2.2.1 base:=by
 by_cases h:(aI q lo hi base).2.2.2=0
 ·obtain⟨h1,h2⟩:=ve h
  unfold rD
  rw[h1,show 131-q.b.length=(131-(q.b.length+1))+1 by omega]
  rfl
 rw[if_pos h]
 unfold rD
 cases hn:131-q.b.length with
 | zero=>rfl
 | succ n=>unfold rn;rw[if_pos h]
def OM:List PV:=[.seq 0 [] .clip,.val (.bool false)]
@[simp] theorem ax6 {n : Nat} : qG n OM := by unfold OM; exact ⟨J8, OJ (.bool false), trivial⟩
theorem Ty(p q:dS)(lo hi base:Int)(hq:q.b.length<=1000000):
  HC prog 381 [.ptr 5 0,.ptr 1 0,.ptr 2 0,.ptr 3 0] [.cells (uz p) 33,.cells [i64 lo] 3,.cells [i64 hi] 3,.cells [i64 base] 3,.cells OM 33,.cells (uz q) 33] (i64 (aI q lo hi base).2.2.2)
   [.cells (uz p) 33,.cells [i64 (aI q lo hi base).2.1] 3,.cells [i64 (aI q lo hi base).2.2.1] 3,.cells [i64 base] 3,.cells OM 33,.cells (uz (aI q lo hi base).1) 33,.cells (uz (aI q lo hi base).1) 33]:=by
 refine mi tG (rs:=[.tmp 4]) func381 rfl rfl rfl (fun B=>?_)
 refine zu1 ?_
 refine zp4 ?_
 refine zc rfl func339 ((CF q lo hi base hq) _) ?_
 refine zy5 ?_
 refine zs5 ?_
 refine zp5 ?_
 refine zs1 ?_
 refine zu2 ?_
 refine Wq<|Af rfl ?_ ?_
 ·rfl
 rfl
theorem W6(p:dS)(lo hi base:Int)(hp:p.b.length<=1000000):ab prog 341 [yn p,i64 lo,i64 hi,i64 base] (Mv (ut p lo hi base)):=by
 refine zY func341 fun B=>?_
 refine zp5 ?_
 refine zs1 ?_
 refine zu3 ?_
 refine zu2 ?_
 refine Wl ?_
 show W _ _ _ _ _ _ _
 refine fX (fun(v:dS×Int×Int)=>[(4,.ptr 0 0),(5,.ptr 1 0),(6,.ptr 2 0),(8,.ptr 4 0),(10,.ptr 5 0),(11,.fn (.func 381) [] [.ptr 5 0,.ptr 1 0,.ptr 2 0,.ptr 3 0])]) (fun(v:dS×Int×Int)=>[.cells (uz p) 33,.cells [i64 v.2.1] 3,.cells [i64 v.2.2] 3,.cells [i64 base] 3,.cells OM 33,.cells (uz v.1) 33]) (fun(v:dS×Int×Int)=>[]) (fun(v:dS×Int×Int)=>v.1.b.length<=1000000/\ut p lo hi base=OH p (rD v.1 v.2.1 v.2.2 base)) (fun(v:dS×Int×Int)=>131-v.1.b.length) ((p,lo,hi)) (by exact⟨hp,rfl⟩) [] ?_ ?_
 ·exact fc
 intro v hv
 refine Wl<|Ws<|zp1 ?_
 refine Wc rfl rfl (dW rfl rfl func381 rfl rfl (Ty p v.1 v.2.1 v.2.2 base hv.1)) ?_
 refine zs1 ?_
 refine zu2 ?_
 refine Wi rfl (fun hi1=>?_) (fun hi1=>?_)
 ·have h0:(aI v.1 v.2.1 v.2.2 base).2.2.2≠0:=by simpa using hi1
  refine zu4 ?_
  refine zR ?_
  rw[hv.2,ni,if_pos h0,OH,if_neg h0];rfl
 have h0:(aI v.1 v.2.1 v.2.2 base).2.2.2=0:=by simpa using hi1
 have hl:=ve h0
 refine Wj<|zp3 ?_
 refine Wb 23 rfl (fun hg1=>?_) (fun hg1=>?_)
 ·have h1:(aI v.1 v.2.1 v.2.2 base).2.1=0:=by simpa using hg1
  refine zs3 ?_
  refine Wi rfl (fun hi2=>?_) (fun hi2=>?_)
  ·have h2:(aI v.1 v.2.1 v.2.2 base).2.1=0/\(aI v.1 v.2.1 v.2.2 base).2.2.1=0:=by(try simp only[dnL]at *);exact⟨h1,hi2⟩
   refine zu3 ?_
   refine zR ?_
   rw[hv.2,ni,if_neg (by rw[h0];simp),if_pos h2,OH,if_pos rfl];rfl
  have h2:¬((aI v.1 v.2.1 v.2.2 base).2.1=0/\(aI v.1 v.2.1 v.2.2 base).2.2.1=0):=by rintro⟨q1,q2⟩;(try simp only[dnL]at *);exact hi2 q2
  refine Wj ?_
  exact⟨((aI v.1 v.2.1 v.2.2 base).1,(aI v.1 v.2.1 v.2.2 base).2.1,(aI v.1 v.2.1 v.2.2 base).2.2.1),[],(by exact⟨by show(aI v.1 v.2.1 v.2.2 base).1.b.length<=_;omega,by rw[hv.2,ni,if_neg (by rw[h0];simp),if_neg (by exact h2)]⟩),(by show 131-(aI v.1 v.2.1 v.2.2 base).1.b.length<_;omega),fc⟩
 have h1:¬(aI v.1 v.2.1 v.2.2 base).2.1=0:=by simpa using hg1
 iterate 2 refine z6 ?_
 refine zs1 ?_
 refine Wf rfl rfl ?_
 refine Wj ?_
 exact⟨((aI v.1 v.2.1 v.2.2 base).1,(aI v.1 v.2.1 v.2.2 base).2.1,(aI v.1 v.2.1 v.2.2 base).2.2.1),[],(by exact⟨by show(aI v.1 v.2.1 v.2.2 base).1.b.length<=_;omega,by rw[hv.2,ni,if_neg (by rw[h0];simp),if_neg (by(rintro⟨q1,q2⟩;exact h1 q1))]⟩),(by show 131-(aI v.1 v.2.1 v.2.2 base).1.b.length<_;omega),fc⟩
@[simp] theorem ax7 {f : Fn} {a b : List PV} : aS (.fn f a b) ↔ ay a /\ ay b := by rw [aS]
@[simp] theorem ap6 {a : List PV} : aS (.row a) ↔ ay a := by rw [aS]
abbrev fnP(g:FuncId)(cap:List PV):PV:=.fn (.func g) [] cap
abbrev bm(k:Int)(f:FuncId)(cap:List PV):PV:=.agg [i64 k,fnP f cap]
abbrev tU(g:FuncId)(args:List PV)(res:PV):Prop:=∀H,nX prog g args H res H
theorem lF(l:List Int):ab prog 245 [sq ap l] (tLv (l,0)):=by
 refine zY func245 fun B=>?_
 refine zu2 ?_
 refine zu3 ?_
 refine zR ?_
 rfl
theorem CI(b:Bool):ab prog 292 [boo b] (i64 (eZ b)):=by
 refine zY func292 fun B=>?_
 refine zu1 ?_
 refine Ws<|zu1 ?_
 refine Wi rfl (fun hi1=>?_) (fun hi1=>?_)
 ·refine zu1 ?_
  refine zR ?_
  rw[hi1];rfl
 refine Wj<|zu1 ?_
 refine zR ?_
 rw[hi1];rfl
theorem jt(k:Int)(g:FuncId)(cap:List PV)(hc:ay cap):ab prog 240 [i64 k,fnP g cap] (bm k 271 [.row [fnP g cap]]):=by
 refine bw tG (rs:=[.cell 4 267]) func240 rfl rfl rfl (by simp[hc]) (by simp[hc]) (fun B=>?_)
 refine zp1 ?_
 refine bP 3 _ rfl rfl rfl ?_
 refine zs1 ?_
 refine zu4 ?_
 refine zR ?_
 rfl
theorem lw(g:FuncId)(cap:List PV)(v:VVm)(x:List Int)(r:List Int×Int)(hc:ay cap)(hg:tU g ([sq ap x]++cap) (tLv r)):
  ∀(H:List Ob) (i:Nat),H[i]?=some (.cells (cVm v) 37)->HC prog 271 (.ptr i 0::[sq ap x,.row [fnP g cap]]) H (tLv r) (H.set i (.cells (cVm v) 37)):=by
 refine jd tG (rs:=[.tmp 5,.tmp 6]) func271 rfl rfl rfl (by simp[hc]) (by simp[hc]) (by simp[hc]) (by simp[hc]) (fun B=>?_)
 refine zu2 ?_
 refine zp2 ?_
 refine Wc rfl rfl (eO rfl rfl (hg _)) ?_
 refine zs4 ?_
 refine Wq<|aN rfl rfl ?_ ?_
 ·rfl
 rfl
theorem sD(g:FuncId)(cap:List PV)(hc:ay cap):ab prog 313 [fnP g cap] (bm 0 370 [.row [fnP g cap]]):=by
 refine bw tG (rs:=[.cell 2 267]) func313 rfl rfl rfl (by simp[hc]) (by simp[hc]) (fun B=>?_)
 refine zp1 ?_
 refine bP 1 _ rfl rfl rfl ?_
 refine zs1 ?_
 refine zu3 ?_
 refine zR ?_
 rfl
theorem nj(g:FuncId)(cap:List PV)(v:VVm)(x:List Int)(n:Int)(hc:ay cap)(hg:tU g ([eVm v]++cap) (i64 n)):
  ∀(H:List Ob) (i:Nat),H[i]?=some (.cells (cVm v) 37)->HC prog 370 (.ptr i 0::[sq ap x,.row [fnP g cap]]) H (tLv ([n],0)) (H.set i (.cells (cVm v) 37)):=by
 refine jd tG (rs:=[.tmp 5,.tmp 6]) func370 rfl rfl rfl (by simp[hc]) (by simp[hc]) (by simp[hc]) (by simp[hc]) (fun B=>?_)
 refine zu2 ?_
 refine Ws<|az [1,0,0,1,0,0,0,0,0,0,0] [0,1,2,3,4,5,6,7,8,9,10] mG rfl (by kernel_rfl) ?_
 refine z5 ?_
 iterate 2 refine z3 ?_
 refine z5 ?_
 refine Xc rfl rfl rfl rfl (fun _=>eO rfl rfl (hg _)) ?_
 refine z3 ?_
 refine Xa 12 rfl (bsL ap [_] rfl rfl) ?_
 refine Xc rfl rfl rfl rfl (fun _=>dC rfl func245 rfl rfl ((lF [n]) _)) ?_
 iterate 4 refine z3 ?_
 refine aP ?_
 refine Wq<|aN rfl rfl ?_ ?_
 ·rfl
 rfl
theorem uX(g:FuncId)(cap:List PV)(hc:ay cap):ab prog 295 [fnP g cap] (bm 1 367 [.row [fnP g cap]]):=by
 refine bw tG (rs:=[.cell 2 267]) func295 rfl rfl rfl (by simp[hc]) (by simp[hc]) (fun B=>?_)
 refine zp1 ?_
 refine bP 1 _ rfl rfl rfl ?_
 refine zs1 ?_
 refine zu3 ?_
 refine zR ?_
 rfl
theorem wX(g:FuncId)(cap:List PV)(v:VVm)(x:List Int)(r:Int×Int)(hx:1<=x.length)(hc:ay cap)(hg:tU g ([jl v.mem,i64 (xat x 0)]++cap) (qP r)):
  ∀(H:List Ob) (i:Nat),H[i]?=some (.cells (cVm v) 37)->HC prog 367 (.ptr i 0::[sq ap x,.row [fnP g cap]]) H (tLv ([r.1],r.2)) (H.set i (.cells (cVm v) 37)):=by
 refine jd tG (rs:=[.tmp 5,.tmp 6]) func367 rfl rfl rfl (by simp[hc]) (by simp[hc]) (by simp[hc]) (by simp[hc]) (fun B=>?_)
 refine zu2 ?_
 refine Ws<|az [1,0,0,0,1,0,0,1,0,0,0,0,0,0] [0,1,2,3,4,5,6,7,8,9,10,11,12,13] mG rfl (by kernel_rfl) ?_
 refine z5 ?_
 iterate 3 refine z3 ?_
 refine z5 ?_
 refine z3 ?_
 refine z9i ?_
 refine z5 ?_
 refine Xc rfl rfl rfl rfl (fun _=>eO rfl rfl (hg _)) ?_
 iterate 5 refine z3 ?_
 refine aP ?_
 refine zp2 ?_
 refine Wa 22 rfl (bsL ap [_] rfl rfl) ?_
 refine zs3 ?_
 refine Wq<|aN rfl rfl ?_ ?_
 ·rfl
 rfl
theorem lu(k:Int)(g:FuncId)(cap:List PV)(hc:ay cap):ab prog 297 [i64 k,fnP g cap] (bm k 368 [.row [fnP g cap]]):=by
 refine bw tG (rs:=[.cell 4 267]) func297 rfl rfl rfl (by simp[hc]) (by simp[hc]) (fun B=>?_)
 refine zp1 ?_
 refine bP 3 _ rfl rfl rfl ?_
 refine zs1 ?_
 refine zu4 ?_
 refine zR ?_
 rfl
theorem nH(g:FuncId)(cap:List PV)(v:VVm)(x:List Int)(r:bj×Int)(hc:ay cap)(hg:tU g ([jl v.mem,sq ap x]++cap) (vq r)):
  ∀(H:List Ob) (i:Nat),H[i]?=some (.cells (cVm v) 37)->HC prog 368 (.ptr i 0::[sq ap x,.row [fnP g cap]]) H (tLv ([],r.2)) (H.set i (.cells (cVm (sK v r.1)) 37)):=by
 refine jd tG (rs:=[.tmp 5,.tmp 6]) func368 rfl rfl rfl (by simp[hc]) (by simp[hc]) (by simp[hc]) (by simp[hc]) (fun B=>?_)
 refine zu2 ?_
 refine Ws<|az [1,0,0,0,1,0,0,0,0,0,2,3,0] [0,1,2,3,4,5,6,7,8,9,10,11,12] mG rfl (by kernel_rfl) ?_
 refine z5 ?_
 iterate 3 refine z3 ?_
 refine z5 ?_
 refine z3 ?_
 refine Xc rfl rfl rfl rfl (fun _=>eO rfl rfl (hg _)) ?_
 iterate 3 refine z3 ?_
 refine uU tG rfl rfl rfl rfl rfl trivial rfl ?_
 refine dz tG rfl rfl rfl rfl rfl trivial ?_
 refine z3 ?_
 refine aP ?_
 refine zu5 ?_
 refine zu3 ?_
 refine Wq<|aN rfl rfl ?_ ?_
 ·rfl
 rfl
theorem yw(k:Int)(g:FuncId)(cap:List PV)(hc:ay cap):ab prog 316 [i64 k,fnP g cap] (bm k 371 [.row [fnP g cap]]):=by
 refine bw tG (rs:=[.cell 4 267]) func316 rfl rfl rfl (by simp[hc]) (by simp[hc]) (fun B=>?_)
 refine zp1 ?_
 refine bP 3 _ rfl rfl rfl ?_
 refine zs1 ?_
 refine zu4 ?_
 refine zR ?_
 rfl
theorem EK(g:FuncId)(cap:List PV)(v:VVm)(x:List Int)(r:bj×Int×Int)(hc:ay cap)(hg:tU g ([jl v.mem,i64 v.here,sq ap x]++cap) (BD r)):
  ∀(H:List Ob) (i:Nat),H[i]?=some (.cells (cVm v) 37)->HC prog 371 (.ptr i 0::[sq ap x,.row [fnP g cap]]) H (tLv ([],r.2.2)) (H.set i (.cells (cVm (eJ v r).1) 37)):=by
 refine jd tG (rs:=[.tmp 5,.tmp 6]) func371 rfl rfl rfl (by simp[hc]) (by simp[hc]) (by simp[hc]) (by simp[hc]) (fun B=>?_)
 refine zu2 ?_
 refine Ws<|az [1,0,0,0,1,0,0,0,1,0,0,0,0,0,0,2,3,0,0] [0,1,2,3,4,5,6,7,8,9,10,11,12,13,14,15,16,17,18] mG rfl (by kernel_rfl) ?_
 refine z5 ?_
 iterate 3 refine z3 ?_
 refine z5 ?_
 iterate 3 refine z3 ?_
 refine z5 ?_
 refine z3 ?_
 refine Xc rfl rfl rfl rfl (fun _=>eO rfl rfl (hg _)) ?_
 iterate 4 refine z3 ?_
 refine uU tG rfl rfl rfl rfl rfl trivial rfl ?_
 refine dz tG rfl rfl rfl rfl rfl trivial ?_
 iterate 2 refine z3 ?_
 refine aP ?_
 refine zp5 ?_
 refine zs5 ?_
 refine zu3 ?_
 refine Wq<|aN rfl rfl ?_ ?_
 ·rfl
 rfl
theorem vM(k:Int)(g:FuncId)(cap:List PV)(hc:ay cap):ab prog 323 [i64 k,fnP g cap] (bm k 372 [.row [fnP g cap]]):=by
 refine bw tG (rs:=[.cell 4 267]) func323 rfl rfl rfl (by simp[hc]) (by simp[hc]) (fun B=>?_)
 refine zp1 ?_
 refine bP 3 _ rfl rfl rfl ?_
 refine zs1 ?_
 refine zu4 ?_
 refine zR ?_
 rfl
theorem uL(g:FuncId)(cap:List PV)(v:VVm)(x:List Int)(r:Str×Int)(ho:0<=v.conf.out/\v.conf.out<=1000000)(hl:v.out.length<=1000000)(hr:r.1.length<=140737488355328)(hc:ay cap)(hg:tU g ([eVm v,sq ap x]++cap) (ot r)):
  ∀(H:List Ob) (i:Nat),H[i]?=some (.cells (cVm v) 37)->HC prog 372 (.ptr i 0::[sq ap x,.row [fnP g cap]]) H (tLv (dy v r).2) (H.set i (.cells (cVm (dy v r).1) 37)):=by
 refine jd tG (rs:=[.tmp 5,.tmp 6]) func372 rfl rfl rfl (by simp[hc]) (by simp[hc]) (by simp[hc]) (by simp[hc]) (fun B=>?_)
 refine zu2 ?_
 refine Ws<|az [1,0,0,1,0,0,0,0,0,0,0] [0,1,2,3,4,5,6,7,8,9,10] mG rfl (by kernel_rfl) ?_
 refine z5 ?_
 iterate 2 refine z3 ?_
 refine z5 ?_
 refine z3 ?_
 refine Xc rfl rfl rfl rfl (fun _=>eO rfl rfl (hg _)) ?_
 iterate 5 refine z3 ?_
 refine aP ?_
 refine Ws<|zu2 ?_
 refine Wi rfl (fun hi1=>?_) (fun hi1=>?_)
 ·have h0:¬r.2=0:=by simpa using hi1
  refine zu3 ?_
  refine Wq<|aN rfl rfl ?_ ?_
  ·rw[dy,if_neg h0];rfl
  rw[dy,if_neg h0];rfl
 have h0:r.2=0:=by simpa using hi1
 refine Wj<|zp4 ?_
 refine zc rfl func190 ((Hh v r.1 ho hl hr) _) ?_
 refine zy5 ?_
 refine zs1 ?_
 refine zu4 ?_
 refine zu3 ?_
 refine Wq<|aN rfl rfl ?_ ?_
 ·rw[dy,if_pos h0];rfl
 rw[dy,if_pos h0];rfl
theorem xn(v:VVm)(hm:v.mem.b.length<=140737488355328):ab prog 325 [eVm v] (i64 (j7 v)):=by
 refine zY func325 fun B=>?_
 refine zu2 ?_
 refine zp2 ?_
 refine zc rfl func39 ((gi v.mem 0 hm (by unfold ae;omega)) _) ?_
 refine zs5 ?_
 refine zu2 ?_
 refine zR ?_
 rfl
theorem Db(g:FuncId)(cap:List PV)(hc:ay cap):ab prog 322 [fnP g cap] (bm 1 372 [.row [fnP 324 [.row [fnP g cap]]]]):=by
 refine bw tG (rs:=[.cell 2 267]) func322 rfl rfl rfl (by simp[hc]) (by simp[hc]) (fun B=>?_)
 refine zp1 ?_
 refine bP 1 _ rfl rfl rfl ?_
 refine zs1 ?_
 refine zp1 ?_
 refine zc rfl func323 ((vM 1 324 [.row [fnP g cap]] (by simp[hc])) _) ?_
 refine zs1 ?_
 refine zR ?_
 rfl
theorem Fr(g:FuncId)(cap:List PV)(v:VVm)(x:List Int)(r:Str×Int)(hx:1<=x.length)(hm:v.mem.b.length<=140737488355328)(hr:r.1.length<=140737488355328)(hc:ay cap)(hg:tU g ([i64 (xat x 0),i64 (j7 v)]++cap) (ot r)):
  ab prog 324 [eVm v,sq ap x,.row [fnP g cap]] (ot (rJ r)):=by
 refine bw tG (rs:=[.tmp 5,.tmp 6]) func324 rfl rfl rfl (by simp[hc]) (by simp[hc]) (fun B=>?_)
 refine zu3 ?_
 refine Ws<|az [1,0,0,1,1,0,0,0,0,0,0,0] [0,1,2,3,4,5,6,7,8,9,10,11] mG rfl (by kernel_rfl) ?_
 refine z5 ?_
 refine z3 ?_
 refine z9i ?_
 iterate 2 refine z5 ?_
 refine Xc rfl rfl rfl rfl (fun _=>dC rfl func325 rfl rfl ((xn v hm) _)) ?_
 refine Xc rfl rfl rfl rfl (fun _=>eO rfl rfl (hg _)) ?_
 iterate 5 refine z3 ?_
 refine aP ?_
 refine zp1 ?_
 refine z2 ?_ (q:=(by simp only[dX];((simp_all;omega))))
 refine Wa 20 rfl (I3 _ _) ?_
 refine zs3 ?_
 refine zR ?_
 rfl
theorem LV(s:Str):ab prog 326 [str s] (bm 0 372 [.row [fnP 327 [.row [str s]]]]):=by
 refine zY func326 fun B=>?_
 refine zp1 ?_
 refine bP 1 _ rfl rfl rfl ?_
 refine zs1 ?_
 refine zp1 ?_
 refine zc rfl func323 ((vM 0 327 [.row [str s]] (by simp)) _) ?_
 refine zs1 ?_
 refine zR ?_
 rfl
theorem PL(s:Str)(v:VVm)(x:List Int):ab prog 327 [eVm v,sq ap x,.row [str s]] (ot (s,0)):=by
 refine zY func327 fun B=>?_
 refine zu3 ?_
 refine zu3 ?_
 refine zR ?_
 rfl
theorem RD(g:FuncId)(cap:List PV)(hc:ay cap):ab prog 334 [fnP g cap] (bm 1 335 [.row [fnP g cap]]):=by
 refine bw tG (rs:=[.cell 2 267]) func334 rfl rfl rfl (by simp[hc]) (by simp[hc]) (fun B=>?_)
 refine zp1 ?_
 refine bP 1 _ rfl rfl rfl ?_
 refine zs1 ?_
 refine zu3 ?_
 refine zR ?_
 rfl
theorem Yn(g:FuncId)(cap:List PV)(v:VVm)(x:List Int)(r:dS×Int)(hx:1<=x.length)(hc:ay cap)(hg:tU g ([yn v.pic,i64 (xat x 0)]++cap) (Mv r)):
  ∀(H:List Ob) (i:Nat),H[i]?=some (.cells (cVm v) 37)->HC prog 335 (.ptr i 0::[sq ap x,.row [fnP g cap]]) H (tLv ([],r.2)) (H.set i (.cells (cVm (tV v r.1)) 37)):=by
 refine jd tG (rs:=[.tmp 5,.tmp 6]) func335 rfl rfl rfl (by simp[hc]) (by simp[hc]) (by simp[hc]) (by simp[hc]) (fun B=>?_)
 refine zu2 ?_
 refine Ws<|az [1,0,0,0,1,0,0,1,0,0,0,0,2,3,0] [0,1,2,3,4,5,6,7,8,9,10,11,12,13,14] mG rfl (by kernel_rfl) ?_
 refine z5 ?_
 iterate 3 refine z3 ?_
 refine z5 ?_
 refine z3 ?_
 refine z9i ?_
 refine z5 ?_
 refine Xc rfl rfl rfl rfl (fun _=>eO rfl rfl (hg _)) ?_
 iterate 3 refine z3 ?_
 refine uU tG rfl rfl rfl rfl rfl trivial rfl ?_
 refine dz tG rfl rfl rfl rfl rfl trivial ?_
 refine z3 ?_
 refine aP ?_
 refine zu5 ?_
 refine zu3 ?_
 refine Wq<|aN rfl rfl ?_ ?_
 ·rfl
 rfl
theorem uv(v:VVm)(a n:Int)(hm:cZ v.mem)(ha:ae a):∀(H:List Ob) (i:Nat),H[i]?=some (.cells (cVm v) 37)->HC prog 311 (.ptr i 0::[i64 a,i64 n]) H (i64 (aF v.mem a n).2) (H.set i (.cells (cVm (sK v (aF v.mem a n).1)) 37)):=by
 refine zM func311 fun B=>?_
 refine zu1 ?_
 refine zp5 ?_
 refine z1 ?_
 refine zc rfl func92 ((jp v.mem a n hm ha) _) ?_
 refine zy5 ?_
 refine zs1 ?_
 refine zu5 ?_
 refine zu2 ?_
 refine Wq<|aN rfl rfl ?_ ?_
 ·rfl
 rfl
theorem K3(n:Int):ab prog 309 [i64 n] (bm 0 310 [.row [i64 n]]):=by
 refine zY func309 fun B=>?_
 refine zp1 ?_
 refine bP 1 _ rfl rfl rfl ?_
 refine zs1 ?_
 refine zu3 ?_
 refine zR ?_
 rfl
theorem Sr(v:VVm)(x:List Int)(n:Int)(hm:cZ v.mem):∀(H:List Ob) (i:Nat),H[i]?=some (.cells (cVm v) 37)->HC prog 310 (.ptr i 0::[sq ap x,.row [i64 n]]) H (tLv (du v (aF v.mem 0 n)).2) (H.set i (.cells (cVm (du v (aF v.mem 0 n)).1) 37)):=by
 refine zM func310 fun B=>?_
 refine zu2 ?_
 refine zp2 ?_
 refine zc rfl func311 ((uv v 0 n hm (by unfold ae;omega)) _ _ rfl) ?_
 refine zs2 ?_
 refine Wq<|aN rfl rfl ?_ ?_
 ·rfl
 rfl
theorem o8(n:Int):ab prog 312 [i64 n] (bm 0 370 [.row [fnP 314 [.row [i64 n]]]]):=by
 refine zY func312 fun B=>?_
 refine zp1 ?_
 refine bP 1 _ rfl rfl rfl ?_
 refine zs1 ?_
 refine zp1 ?_
 refine zc rfl func313 ((sD 314 [.row [i64 n]] (by simp)) _) ?_
 refine zs1 ?_
 refine zR ?_
 rfl
theorem sr(v:VVm)(n:Int):ab prog 314 [eVm v,.row [i64 n]] (i64 n):=by
 refine zY func314 fun B=>?_
 refine zu2 ?_
 refine zu2 ?_
 refine zR ?_
 rfl
theorem xB(v:VVm)(s b:Int)(hm:v.mem.b.length<=140737488355328)(hs:ae s):∀(H:List Ob) (i:Nat),H[i]?=some (.cells (cVm v) 37)->HC prog 353 (.ptr i 0::[i64 s,i64 b]) H (i64 (j0 v s b)) (H.set i (.cells (cVm v) 37)):=by
 have hb:ae (W64 (b+8)):=by unfold ae W64;rw[bS];unfold wrap64;omega
 refine zM func353 fun B=>?_
 refine zu1 ?_
 refine zp5 ?_
 refine z1 ?_
 refine zc rfl func39 ((gi v.mem _ hm hb) _) ?_
 refine zs5 ?_
 refine Ws<|zp3 ?_
 refine Wb 21 rfl (fun hg1=>?_) (fun hg1=>?_)
 ·have h0:(am v.mem (W64 (b+8))).2=0:=by simpa using hg1
  refine zy3 ?_
  refine Wb 24 rfl (fun hg2=>?_) (fun hg2=>?_)
  ·have h1:s<0:=by simpa using hg2
   iterate 3 refine z6 ?_
   refine zs2 ?_
   refine Wt rfl rfl ?_
   refine zu1 ?_
   refine Wq<|aN rfl rfl ?_ ?_
   ·rw[j0,if_pos h0,if_pos (.inl h1)];rfl
   rfl
  have h1:¬s<0:=by simpa using hg2
  refine zs5 ?_
  refine Wi rfl (fun hi1=>?_) (fun hi1=>?_)
  ·have h2:(am v.mem (W64 (b+8))).1<=s:=by simpa using hi1
   refine zu1 ?_
   refine Wq<|aN rfl rfl ?_ ?_
   ·rw[j0,if_pos h0,if_pos (.inr h2)];rfl
   rfl
  have h2:¬(am v.mem (W64 (b+8))).1<=s:=by simpa using hi1
  refine Wj<|zu2 ?_
  refine Wq<|aN rfl rfl ?_ ?_
  ·rw[j0,if_pos h0,if_neg (by rintro(h|h)<;>contradiction),<-h0];rfl
  rfl
 have h0:¬(am v.mem (W64 (b+8))).2=0:=by simpa using hg1
 iterate 7 refine z6 ?_
 refine zs1 ?_
 refine Wf rfl rfl ?_
 refine Wj<|zu2 ?_
 refine Wq<|aN rfl rfl ?_ ?_
 ·rw[j0,if_neg h0];rfl
 rfl
theorem zN{a b:Int}(ha:Fit a)(hb:Fit b):Fit (xe a b).1/\Fit (xe a b).2:=by
 have h:(a*b).natAbs<=9223372036854775808*9223372036854775808:=by rw[Int.natAbs_mul];exact Nat.mul_le_mul (by omega) (by omega)
 refine⟨by show Fit (wrap64 _);unfold wrap64;omega,?_⟩
 show Fit (a*b/18446744073709551616)
 omega
def XOk(k:Nat)(x:List Int):Prop:=k<=x.length/\∀a∈x,ae a
theorem XOk.fit{k:Nat}{x:List Int}(h:XOk k x)(i:Nat):ae (xat x i):=by
 unfold xat List.getD
 cases hi:x[i]? with
 | none=>simp[ae]
 | some a=>exact h.2 a (List.mem_of_getElem? hi)
theorem XOk.len{k:Nat}{x:List Int}(h:XOk k x):k<=x.length:=h.1
theorem PR(q r e:Int):ab prog 276 [i64 q,i64 r,i64 e] (tLv ([r,q],e)):=by
 refine zY func276 fun B=>?_
 refine zu2 ?_
 refine zp3 ?_
 refine Wa 10 rfl (bsL ap [_,_] rfl rfl) ?_
 refine zs3 ?_
 refine zR ?_
 rfl
theorem Xu(x:List Int)(hx:XOk 3 x):ab prog 277 [sq ap x] (t3i (yT x)):=by
 have hl:=hx.len
 have hf:=zN (hx.fit 0) (hx.fit 1)
 refine zY func277 fun B=>?_
 refine zu3 ?_
 refine Ws<|az [0,0,1,0,0,1,0,0,0,0,0,0] [0,1,2,3,4,5,6,7,8,9,10,11] mG rfl (by kernel_rfl) ?_
 refine z3 ?_
 refine z9i ?_
 refine z5 ?_
 refine z3 ?_
 refine z9i ?_
 refine z5 ?_
 refine Xc rfl rfl rfl rfl (fun _=>dC rfl func278 rfl rfl ((Yi _ _ (hx.fit 0) (hx.fit 1)) _)) ?_
 iterate 5 refine z3 ?_
 refine aP ?_
 refine zp3 ?_
 refine Wv tG rfl rfl rfl (by omega) (iN ap 1 (fun _=>rfl) 0 (by(simp only[dnL]at *;omega))) ?_
 refine z1 ?_
 refine zc rfl func279 ((PM _ _ _ hf.2 (hx.fit 2)) _) ?_
 refine zy5 ?_
 refine zs1 ?_
 refine zR ?_
 rfl
theorem sR(q r e:Int):tU 276 [i64 q,i64 r,i64 e] (tLv ([r,q],e)):=fun H=>⟨⟨_,func276,rfl,rfl⟩,PR q r e H⟩
theorem Ld(x:List Int)(hx:XOk 3 x):tU 277 [sq ap x] (t3i (yT x)):=fun H=>⟨⟨_,func277,rfl,rfl⟩,Xu x hx H⟩
abbrev pc:List PV:=[.row [fnP 276 []]]
abbrev RB:List PV:=[.row [fnP 277 []]]
abbrev FP:List PV:=[.row [fnP 276 []],.row [fnP 277 []]]
theorem aA8(x:List Int)(hx:XOk 2 x):ab prog 280 ([sq ap x]++pc) (tLv (bA x)):=by
 have hl:=hx.len
 refine zY func280 fun B=>?_
 refine zu2 ?_
 refine Ws<|az [1,0,0,1,0,0,1,0,0,0,0,0,0,0,0,0] [0,1,2,3,4,5,6,7,8,9,10,11,12,13,14,15] mG rfl (by kernel_rfl) ?_
 refine z5 ?_
 refine z3 ?_
 refine z9i ?_
 refine z5 ?_
 refine z3 ?_
 refine z9i ?_
 refine z5 ?_
 refine Xc rfl rfl rfl rfl (fun _=>dC rfl func272 rfl rfl ((QX _ _ (hx.fit 1)) _)) ?_
 iterate 3 refine z3 ?_
 refine Xc rfl rfl rfl rfl (fun _=>eO rfl rfl (sR _ _ _ _)) ?_
 iterate 4 refine z3 ?_
 refine aP ?_
 refine zR ?_
 rfl
theorem aB5(x:List Int)(hx:XOk 3 x):ab prog 281 ([sq ap x]++FP) (tLv (be x)):=by
 refine zY func281 fun B=>?_
 refine zu2 ?_
 refine Ws<|az [1,1,0,0,0,0,0,0,0,0,0,0] [0,1,2,3,4,5,6,7,8,9,10,11] mG rfl (by kernel_rfl) ?_
 iterate 2 refine z5 ?_
 refine z3 ?_
 refine Xc rfl rfl rfl rfl (fun _=>eO rfl rfl (Ld x hx _)) ?_
 iterate 3 refine z3 ?_
 refine Xc rfl rfl rfl rfl (fun _=>eO rfl rfl (sR _ _ _ _)) ?_
 iterate 4 refine z3 ?_
 refine aP ?_
 refine zR ?_
 rfl
theorem aA1(x:List Int)(hx:XOk 3 x):ab prog 282 ([sq ap x]++RB) (tLv (dj x)):=by
 refine zY func282 fun B=>?_
 refine zu2 ?_
 refine zp2 ?_
 refine Wc rfl rfl (eO rfl rfl (Ld x hx _)) ?_
 refine zy5 ?_
 refine zs2 ?_
 refine zp2 ?_
 refine Wa 16 rfl (bsL ap [_] rfl rfl) ?_
 refine zs3 ?_
 refine zR ?_
 rfl
theorem az0(x:List Int)(hx:XOk 2 x):ab prog 283 [sq ap x] (tLv (pUM x)):=by
 have hl:=hx.len
 refine zY func283 fun B=>?_
 refine zu2 ?_
 refine Ws<|az [0,0,1,0,0,1,0,0,0,0,0,0] [0,1,2,3,4,5,6,7,8,9,10,11] mG rfl (by kernel_rfl) ?_
 refine z3 ?_
 refine z9i ?_
 refine z5 ?_
 refine z3 ?_
 refine z9i ?_
 refine z5 ?_
 refine Xc rfl rfl rfl rfl (fun _=>dC rfl func284 rfl rfl ((Zx _ _) _)) ?_
 iterate 5 refine z3 ?_
 refine aP ?_
 refine zp3 ?_
 refine Wa 18 rfl (bsL ap [_,_] rfl rfl) ?_
 refine zc rfl func245 ((lF _) _) ?_
 refine zs4 ?_
 refine zR ?_
 rfl
theorem az4(x:List Int)(hx:XOk 2 x):ab prog 285 [sq ap x] (tLv (pM x)):=by
 have hl:=hx.len
 refine zY func285 fun B=>?_
 refine zu2 ?_
 refine Ws<|az [0,0,1,0,0,1,0,0,0,0,0,0] [0,1,2,3,4,5,6,7,8,9,10,11] mG rfl (by kernel_rfl) ?_
 refine z3 ?_
 refine z9i ?_
 refine z5 ?_
 refine z3 ?_
 refine z9i ?_
 refine z5 ?_
 refine Xc rfl rfl rfl rfl (fun _=>dC rfl func278 rfl rfl ((Yi _ _ (hx.fit 0) (hx.fit 1)) _)) ?_
 iterate 5 refine z3 ?_
 refine aP ?_
 refine zp3 ?_
 refine Wa 18 rfl (bsL ap [_,_] rfl rfl) ?_
 refine zc rfl func245 ((lF _) _) ?_
 refine zs4 ?_
 refine zR ?_
 rfl
theorem aA3(x:List Int)(hx:XOk 3 x):ab prog 286 ([sq ap x]++pc) (tLv (dh x)):=by
 have hl:=hx.len
 refine zY func286 fun B=>?_
 refine zu2 ?_
 refine Ws<|az [1,0,0,1,0,0,1,0,0,1,0,0,0,0,0,0,0,0,0] [0,1,2,3,4,5,6,7,8,9,10,11,12,13,14,15,16,17,18] mG rfl (by kernel_rfl) ?_
 refine z5 ?_
 refine z3 ?_
 refine z9i ?_
 refine z5 ?_
 refine z3 ?_
 refine z9i ?_
 refine z5 ?_
 refine z3 ?_
 refine z9i ?_
 refine z5 ?_
 refine Xc rfl rfl rfl rfl (fun _=>dC rfl func287 rfl rfl ((I0 _ _ _) _)) ?_
 iterate 3 refine z3 ?_
 refine Xc rfl rfl rfl rfl (fun _=>eO rfl rfl (sR _ _ _ _)) ?_
 iterate 4 refine z3 ?_
 refine aP ?_
 refine zR ?_
 rfl
theorem aB9(x:List Int)(hx:XOk 3 x):ab prog 288 ([sq ap x]++pc) (tLv (dk x)):=by
 have hl:=hx.len
 refine zY func288 fun B=>?_
 refine zu2 ?_
 refine Ws<|az [1,0,0,1,0,0,1,0,0,1,0,0,0,0,0,0,0,0,0] [0,1,2,3,4,5,6,7,8,9,10,11,12,13,14,15,16,17,18] mG rfl (by kernel_rfl) ?_
 refine z5 ?_
 refine z3 ?_
 refine z9i ?_
 refine z5 ?_
 refine z3 ?_
 refine z9i ?_
 refine z5 ?_
 refine z3 ?_
 refine z9i ?_
 refine z5 ?_
 refine Xc rfl rfl rfl rfl (fun _=>dC rfl func289 rfl rfl ((ZY _ _ _ (hx.fit 1) (hx.fit 2)) _)) ?_
 iterate 3 refine z3 ?_
 refine Xc rfl rfl rfl rfl (fun _=>eO rfl rfl (sR _ _ _ _)) ?_
 iterate 4 refine z3 ?_
 refine aP ?_
 refine zR ?_
 rfl
theorem aw7(x:List Int)(hx:XOk 3 x):ab prog 290 ([sq ap x]++pc) (tLv (di x)):=by
 have hl:=hx.len
 refine zY func290 fun B=>?_
 refine zu2 ?_
 refine Ws<|az [1,0,0,1,0,0,1,0,0,1,0,0,0,0,0,0,0,0,0] [0,1,2,3,4,5,6,7,8,9,10,11,12,13,14,15,16,17,18] mG rfl (by kernel_rfl) ?_
 refine z5 ?_
 refine z3 ?_
 refine z9i ?_
 refine z5 ?_
 refine z3 ?_
 refine z9i ?_
 refine z5 ?_
 refine z3 ?_
 refine z9i ?_
 refine z5 ?_
 refine Xc rfl rfl rfl rfl (fun _=>dC rfl func279 rfl rfl ((PM _ _ _ (hx.fit 1) (hx.fit 2)) _)) ?_
 iterate 3 refine z3 ?_
 refine Xc rfl rfl rfl rfl (fun _=>eO rfl rfl (sR _ _ _ _)) ?_
 iterate 4 refine z3 ?_
 refine aP ?_
 refine zR ?_
 rfl
theorem ax4(x:List Int)(hx:XOk 1 x):ab prog 291 [sq ap x] (tLv (pSD x)):=by
 have hl:=hx.len
 refine zY func291 fun B=>?_
 refine zu2 ?_
 refine Ws<|az [0,0,1,0,0,1,0,0,0,0,0,0,0,0] [0,1,2,3,4,5,6,7,8,9,10,11,12,13] mG rfl (by kernel_rfl) ?_
 refine z3 ?_
 refine z9i ?_
 refine z5 ?_
 refine z3 ?_
 refine z9i ?_
 refine z5 ?_
 refine z3 ?_
 refine Xc rfl rfl rfl rfl (fun _=>dC rfl func292 rfl rfl ((CI _) _)) ?_
 refine z3 ?_
 refine Xa 12 rfl (bsL ap [_,_] rfl rfl) ?_
 refine Xc rfl rfl rfl rfl (fun _=>dC rfl func245 rfl rfl ((lF _) _)) ?_
 iterate 4 refine z3 ?_
 refine aP ?_
 refine zR ?_
 rfl
theorem at5(x:List Int)(hx:XOk 3 x):ab prog 293 [sq ap x] (tLv (bz x)):=by
 have hl:=hx.len
 refine zY func293 fun B=>?_
 refine zu2 ?_
 refine Ws<|az [0,0,1,0,0,1,0,0,1,0,0,0,0,0,0,0,0] [0,1,2,3,4,5,6,7,8,9,10,11,12,13,14,15,16] mG rfl (by kernel_rfl) ?_
 refine z3 ?_
 refine z9i ?_
 refine z5 ?_
 refine z3 ?_
 refine z9i ?_
 refine z5 ?_
 refine z3 ?_
 refine z9i ?_
 refine z5 ?_
 refine Xc rfl rfl rfl rfl (fun _=>dC rfl func294 rfl rfl ((Ke _ _ _) _)) ?_
 refine Xc rfl rfl rfl rfl (fun _=>dC rfl func292 rfl rfl ((CI _) _)) ?_
 refine z3 ?_
 refine Xa 15 rfl (bsL ap [_] rfl rfl) ?_
 refine Xc rfl rfl rfl rfl (fun _=>dC rfl func245 rfl rfl ((lF _) _)) ?_
 iterate 4 refine z3 ?_
 refine aP ?_
 refine zR ?_
 rfl
theorem aC4(v:VVm)(x:List Int)(hm:cZ v.mem)(hx:XOk 2 x):ab prog 298 [jl v.mem,sq ap x] (vq (aF v.mem (xat x 1) (xat x 0))):=by
 have hl:=hx.len
 refine zY func298 fun B=>?_
 refine zu3 ?_
 refine Ws<|az [1,0,0,1,0,0,1,0,0,0,3,0] [0,1,2,3,4,5,6,7,8,9,10,11] mG rfl (by kernel_rfl) ?_
 refine z5 ?_
 refine z3 ?_
 refine z9i ?_
 refine z5 ?_
 refine z3 ?_
 refine z9i ?_
 refine z5 ?_
 refine Xc rfl rfl rfl rfl (fun _=>dC rfl func92 rfl rfl ((jp _ _ _ hm (hx.fit 1)) _)) ?_
 iterate 2 refine z3 ?_
 refine dz tG rfl rfl rfl rfl rfl trivial ?_
 refine z3 ?_
 refine aP ?_
 refine zR ?_
 rfl
theorem aD6(v:VVm)(x:List Int)(hm:cZ v.mem)(hx:XOk 2 x):ab prog 299 [jl v.mem,sq ap x] (vq (m6 v.mem (xat x 1) (xat x 0))):=by
 have hl:=hx.len
 refine zY func299 fun B=>?_
 refine zu3 ?_
 refine Ws<|az [1,0,0,1,0,0,1,0,0,0,3,0] [0,1,2,3,4,5,6,7,8,9,10,11] mG rfl (by kernel_rfl) ?_
 refine z5 ?_
 refine z3 ?_
 refine z9i ?_
 refine z5 ?_
 refine z3 ?_
 refine z9i ?_
 refine z5 ?_
 refine Xc rfl rfl rfl rfl (fun _=>dC rfl func300 rfl rfl ((Bo _ _ _ hm (hx.fit 1)) _)) ?_
 iterate 2 refine z3 ?_
 refine dz tG rfl rfl rfl rfl rfl trivial ?_
 refine z3 ?_
 refine aP ?_
 refine zR ?_
 rfl
theorem gj{m:bj}(hm:cZ m):m.b.length<=140737488355328:=by have:=hm.b;omega
theorem aA2(v:VVm)(x:List Int)(hm:cZ v.mem)(hx:XOk 2 x):ab prog 301 [jl v.mem,sq ap x] (vq (rO v x)):=by
 have hl:=hx.len
 refine zY func301 fun B=>?_
 refine zu3 ?_
 refine Ws<|az [1,0,0,1,0,0,0,0,0,0] [0,1,2,3,4,5,6,7,8,9] mG rfl (by kernel_rfl) ?_
 refine z5 ?_
 refine z3 ?_
 refine z9i ?_
 refine z5 ?_
 refine Xc rfl rfl rfl rfl (fun _=>dC rfl func39 rfl rfl ((gi _ _ (gj hm) (hx.fit 1)) _)) ?_
 iterate 5 refine z3 ?_
 refine aP ?_
 refine Ws<|zu2 ?_
 refine Wi rfl (fun hi1=>?_) (fun hi1=>?_)
 ·have h0:¬(am v.mem (xat x 1)).2=0:=bne_iff_ne.1 hi1
  refine zu4 ?_
  refine zR ?_
  rw[rO,if_neg h0];rfl
 have h0:(am v.mem (xat x 1)).2=0:=bne_eq_false_iff_eq.1 hi1
 refine Wj<|Ws<|az [1,0,0,1,0,0,0,1,0,0,0,0,3,0] [0,1,2,3,4,5,6,7,8,9,10,11,12,13] mG rfl (by kernel_rfl) ?_
 refine z5 ?_
 refine z3 ?_
 refine z9i ?_
 refine z5 ?_
 iterate 2 refine z3 ?_
 refine z9i ?_
 refine z5 ?_
 refine z3 ?_
 refine Xc rfl rfl rfl rfl (fun _=>dC rfl func92 rfl rfl ((jp _ _ _ hm (hx.fit 1)) _)) ?_
 iterate 2 refine z3 ?_
 refine dz tG rfl rfl rfl rfl rfl trivial ?_
 refine z3 ?_
 refine aP ?_
 refine zR ?_
 rw[rO,if_pos h0];rfl
theorem qk(n:Int):ae (W64 n):=by unfold ae W64;rw[bS];unfold wrap64;omega
theorem aC9(v:VVm)(x:List Int)(hm:cZ v.mem)(hx:XOk 1 x):∀(H:List Ob) (i:Nat),H[i]?=some (.cells (cVm v) 37)->HC prog 302 (.ptr i 0::[sq ap x]) H (tLv (kM v x).2) (H.set i (.cells (cVm (kM v x).1) 37)):=by
 have hl:=hx.len
 refine zM func302 fun B=>?_
 refine zu2 ?_
 refine Ws<|az [0,0,0,1,0,0,1,0,0,0,0,0,0] [0,1,2,3,4,5,6,7,8,9,10,11,12] mG rfl (by kernel_rfl) ?_
 iterate 3 refine z3 ?_
 refine z5 ?_
 refine z3 ?_
 refine z9i ?_
 refine z5 ?_
 refine Xc rfl rfl rfl rfl (fun _=>dC rfl func39 rfl rfl ((gi _ _ (gj hm) (hx.fit 0)) _)) ?_
 iterate 5 refine z3 ?_
 refine aP ?_
 refine Ws<|zu2 ?_
 refine Wi rfl (fun hi1=>?_) (fun hi1=>?_)
 ·have h0:¬(am v.mem (xat x 0)).2=0:=bne_iff_ne.1 hi1
  refine zu3 ?_
  refine Wq<|aN rfl rfl ?_ ?_
  ·rw[kM,if_neg h0];rfl
  rw[kM,if_neg h0];rfl
 have h0:(am v.mem (xat x 0)).2=0:=bne_eq_false_iff_eq.1 hi1
 refine Wj<|Ws<|az [0,0,0,1,0,0,1,0,0,0,0,0,0,0] [0,1,2,3,4,5,6,7,8,9,10,11,12,13] mG rfl (by kernel_rfl) ?_
 iterate 3 refine z3 ?_
 refine z5 ?_
 refine z3 ?_
 refine z9i ?_
 refine z5 ?_
 refine z3 ?_
 refine Xc rfl rfl rfl rfl (fun _=>dC rfl func39 rfl rfl ((gi _ _ (gj hm) (qk _)) _)) ?_
 iterate 5 refine z3 ?_
 refine aP ?_
 refine zp3 ?_
 refine Wa 37 rfl (bsL ap [_,_] rfl rfl) ?_
 refine zs3 ?_
 refine Wq<|aN rfl rfl ?_ ?_
 ·rw[kM,if_pos h0];rfl
 rw[kM,if_pos h0];rfl
theorem vI{m:bj}{a n:Int}(h:bp m a n=true):n=0\/(0<n/\0<=a/\a+n<=m.b.length):=by unfold bp at h;exact oT h
theorem Ka{l b:List UInt8}{k:Nat}(h:k+b.length<=l.length):(jy l k b).length=l.length:=by unfold jy;simp only[List.length_append,List.length_take,List.length_drop];omega
theorem vN(m:bj)(a:Int)(b:List UInt8):(ce m a b).1.b.length=m.b.length:=by
 unfold ce
 split
 ·rename_i h
  split
  ·rfl
  rename_i hb
  have:=List.length_pos_iff.2 hb
  rcases vI h with h|⟨h1,h2,h3⟩
  ·omega
  exact Ka (by omega)
 rfl
theorem wi(m:bj)(a:Int)(b:List UInt8):(ce m a b).1.old.length<=m.old.length+1:=by
 unfold ce
 split
 ·split
  ·exact Nat.le_succ _
  simp
 exact Nat.le_succ _
theorem Hk{m:bj}(hm:cZ m)(a:Int)(b:List UInt8)(h:m.old.length+1<=1000000):cZ (ce m a b).1 :=
 ⟨by rw[vN];exact hm.b,Nat.le_trans (wi m a b) h⟩
theorem Fp{m:bj}(hm:cZ m)(a n:Int)(h:m.old.length+1<=1000000):cZ (aF m a n).1:=by
 unfold aF
 split
 ·exact Hk hm _ _ h
 exact hm
theorem ay4(v:VVm)(x:List Int)(hm:cZ v.mem)(ho:v.mem.old.length+1<=1000000)(hx:XOk 3 x):ab prog 303 [jl v.mem,sq ap x] (vq (oG v x)):=by
 have hl:=hx.len
 refine zY func303 fun B=>?_
 refine zu3 ?_
 refine Ws<|az [1,0,0,1,0,0,1,0,0,0,0,3,0] [0,1,2,3,4,5,6,7,8,9,10,11,12] mG rfl (by kernel_rfl) ?_
 refine z5 ?_
 refine z3 ?_
 refine z9i ?_
 refine z5 ?_
 refine z3 ?_
 refine z9i ?_
 refine z5 ?_
 refine Xc rfl rfl rfl rfl (fun _=>dC rfl func92 rfl rfl ((jp _ _ _ hm (hx.fit 2)) _)) ?_
 iterate 3 refine z3 ?_
 refine dz tG rfl rfl rfl rfl rfl trivial ?_
 refine z3 ?_
 refine aP ?_
 refine Ws<|zu2 ?_
 refine Wi rfl (fun hi1=>?_) (fun hi1=>?_)
 ·have h0:¬(aF v.mem (xat x 2) (xat x 1)).2=0:=bne_iff_ne.1 hi1
  refine zu4 ?_
  refine zR ?_
  rw[oG,if_neg h0];rfl
 have h0:(aF v.mem (xat x 2) (xat x 1)).2=0:=bne_eq_false_iff_eq.1 hi1
 refine Wj<|Ws<|az [1,0,0,1,0,0,0,1,0,0,0,3,0] [0,1,2,3,4,5,6,7,8,9,10,11,12] mG rfl (by kernel_rfl) ?_
 refine z5 ?_
 refine z3 ?_
 refine z9i ?_
 refine z5 ?_
 iterate 2 refine z3 ?_
 refine z9i ?_
 refine z5 ?_
 refine Xc rfl rfl rfl rfl (fun _=>dC rfl func92 rfl rfl ((jp _ _ _ (Fp hm _ _ ho) (qk _)) _)) ?_
 iterate 2 refine z3 ?_
 refine dz tG rfl rfl rfl rfl rfl trivial ?_
 refine z3 ?_
 refine aP ?_
 refine zR ?_
 rw[oG,if_pos h0];rfl
theorem ay9(v:VVm)(x:List Int)(hm:cZ v.mem)(hx:XOk 3 x):ab prog 304 [jl v.mem,sq ap x] (vq (m5 v.mem (xat x 0) (xat x 1) (xat x 2))):=by
 have hl:=hx.len
 refine zY func304 fun B=>?_
 refine zu3 ?_
 refine Ws<|az [1,0,0,1,0,0,1,0,0,1,0,0,0,3,0] [0,1,2,3,4,5,6,7,8,9,10,11,12,13,14] mG rfl (by kernel_rfl) ?_
 refine z5 ?_
 refine z3 ?_
 refine z9i ?_
 refine z5 ?_
 refine z3 ?_
 refine z9i ?_
 refine z5 ?_
 refine z3 ?_
 refine z9i ?_
 refine z5 ?_
 refine Xc rfl rfl rfl rfl (fun _=>dC rfl func305 rfl rfl ((RC _ _ _ _ hm (hx.fit 0) (hx.fit 1)) _)) ?_
 iterate 2 refine z3 ?_
 refine dz tG rfl rfl rfl rfl rfl trivial ?_
 refine z3 ?_
 refine aP ?_
 refine zR ?_
 rfl
theorem ay8(v:VVm)(x:List Int)(hm:cZ v.mem)(hx:XOk 3 x):ab prog 306 [jl v.mem,sq ap x] (vq (m4 v.mem (xat x 0) (xat x 1) (xat x 2))):=by
 have hl:=hx.len
 refine zY func306 fun B=>?_
 refine zu3 ?_
 refine Ws<|az [1,0,0,1,0,0,1,0,0,1,0,0,0,3,0] [0,1,2,3,4,5,6,7,8,9,10,11,12,13,14] mG rfl (by kernel_rfl) ?_
 refine z5 ?_
 refine z3 ?_
 refine z9i ?_
 refine z5 ?_
 refine z3 ?_
 refine z9i ?_
 refine z5 ?_
 refine z3 ?_
 refine z9i ?_
 refine z5 ?_
 refine Xc rfl rfl rfl rfl (fun _=>dC rfl func307 rfl rfl ((SY _ _ _ _ hm (hx.fit 0) (hx.fit 1) (hx.fit 2)) _)) ?_
 iterate 2 refine z3 ?_
 refine dz tG rfl rfl rfl rfl rfl trivial ?_
 refine z3 ?_
 refine aP ?_
 refine zR ?_
 rfl
theorem aA6(v:VVm)(x:List Int)(hm:cZ v.mem)(hx:XOk 1 x):∀(H:List Ob) (i:Nat),H[i]?=some (.cells (cVm v) 37)->HC prog 308 (.ptr i 0::[sq ap x]) H (tLv (bW v x).2) (H.set i (.cells (cVm v) 37)):=by
 have hl:=hx.len
 refine zM func308 fun B=>?_
 refine zu2 ?_
 refine Ws<|az [0,0,0,1,0,0,1,0,0,0,0,0,0] [0,1,2,3,4,5,6,7,8,9,10,11,12] mG rfl (by kernel_rfl) ?_
 iterate 3 refine z3 ?_
 refine z5 ?_
 refine z3 ?_
 refine z9i ?_
 refine z5 ?_
 refine Xc rfl rfl rfl rfl (fun _=>dC rfl func296 rfl rfl ((tY _ _ hm (hx.fit 0)) _)) ?_
 iterate 5 refine z3 ?_
 refine aP ?_
 refine zp1 ?_
 refine Wv tG rfl rfl rfl (by omega) (iN ap 1 (fun _=>rfl) 0 (by(simp only[dnL]at *;omega))) ?_
 refine zy4 ?_
 refine Wa 24 rfl (bsL ap [_,_] rfl rfl) ?_
 refine zs3 ?_
 refine Wq<|aN rfl rfl ?_ ?_
 ·rfl
 rfl
theorem aD5(v:VVm):ab prog 315 [eVm v] (i64 v.here):=by
 refine zY func315 fun B=>?_
 refine zu2 ?_
 refine zu3 ?_
 refine zR ?_
 rfl
theorem az9(v:VVm)(x:List Int)(hm:cZ v.mem)(hh:ia v.mem v.here)(hx:XOk 1 x):ab prog 317 [jl v.mem,i64 v.here,sq ap x] (BD (ui v x)):=by
 have hl:=hx.len
 refine zY func317 fun B=>?_
 refine zu4 ?_
 refine Ws<|az [1,0,0,0,0,1,0,0,0,0,0,0] [0,1,2,3,4,5,6,7,8,9,10,11] mG rfl (by kernel_rfl) ?_
 refine z5 ?_
 refine Xc rfl rfl rfl rfl (fun _=>dC rfl func218 rfl rfl ((zP) _)) ?_
 iterate 2 refine z3 ?_
 refine z9i ?_
 refine z5 ?_
 refine Xc rfl rfl rfl rfl (fun _=>dC rfl func318 rfl rfl ((NE _ _ _ _ hm hh (by unfold ae;omega) (hx.fit 0)) _)) ?_
 iterate 5 refine z3 ?_
 refine aP ?_
 refine zp5 ?_
 refine zs1 ?_
 refine zR ?_
 rfl
theorem aB8(v:VVm)(x:List Int)(hm:cZ v.mem)(hh:ia v.mem v.here)(hx:XOk 1 x):ab prog 319 [jl v.mem,i64 v.here,sq ap x] (BD (cv v.mem v.here (xat x 0))):=by
 have hl:=hx.len
 refine zY func319 fun B=>?_
 refine zu4 ?_
 refine Ws<|az [1,0,0,0,1,0,0,0,0,3,0,0] [0,1,2,3,4,5,6,7,8,9,10,11] mG rfl (by kernel_rfl) ?_
 refine z5 ?_
 iterate 2 refine z3 ?_
 refine z9i ?_
 refine z5 ?_
 refine Xc rfl rfl rfl rfl (fun _=>dC rfl func127 rfl rfl ((Ce _ _ _ hm hh) _)) ?_
 iterate 3 refine z3 ?_
 refine dz tG rfl rfl rfl rfl rfl trivial ?_
 iterate 2 refine z3 ?_
 refine aP ?_
 refine zR ?_
 rfl
theorem aD8(v:VVm)(x:List Int)(hm:cZ v.mem)(hh:ia v.mem v.here)(hx:XOk 1 x):ab prog 320 [jl v.mem,i64 v.here,sq ap x] (BD (da v.mem v.here [loB (xat x 0)])):=by
 have hl:=hx.len
 refine zY func320 fun B=>?_
 refine zu4 ?_
 refine Ws<|az [1,0,0,0,1,0,0,0,0,0,0,3,0,0] [0,1,2,3,4,5,6,7,8,9,10,11,12,13] mG rfl (by kernel_rfl) ?_
 refine z5 ?_
 iterate 2 refine z3 ?_
 refine z9i ?_
 refine z5 ?_
 refine z3 ?_
 refine Xa 14 rfl (zH _) ?_
 refine z3 ?_
 refine Xa 15 rfl (bsL aK [_] rfl rfl) ?_
 refine Xc rfl rfl rfl rfl (fun _=>dC rfl func174 rfl rfl ((yu _ _ [loB (xat x 0)] hm hh (by simp)) _)) ?_
 iterate 3 refine z3 ?_
 refine dz tG rfl rfl rfl rfl rfl trivial ?_
 iterate 2 refine z3 ?_
 refine aP ?_
 refine zR ?_
 rfl
theorem aB1(v:VVm)(x:List Int)(hm:cZ v.mem)(hh:ia v.mem v.here):ab prog 321 [jl v.mem,i64 v.here,sq ap x] (BD (aM v.mem v.here)):=by
 refine zY func321 fun B=>?_
 refine zu4 ?_
 refine zp2 ?_
 refine zc rfl func220 ((sg _ _ hm hh) _) ?_
 refine zy5 ?_
 refine zs1 ?_
 refine zR ?_
 rfl
theorem aA9(v:VVm)(x:List Int)(hx:XOk 1 x):ab prog 328 [eVm v,sq ap x] (ot ([loB (xat x 0)],0)):=by
 have hl:=hx.len
 refine zY func328 fun B=>?_
 refine zu3 ?_
 refine zp1 ?_
 refine Wv tG rfl rfl rfl (by omega) (iN ap 1 (fun _=>rfl) 0 (by(simp only[dnL]at *;omega))) ?_
 refine zy2 ?_
 refine Wa 9 rfl (zH _) ?_
 refine z1 ?_
 refine Wa 10 rfl (bsL aK [_] rfl rfl) ?_
 refine Wd rfl rfl (oe (lO tG rfl) rfl (lO tG rfl) rfl (lO tG rfl) rfl rfl rfl) ?_
 refine zs2 ?_
 refine zR ?_
 rfl
theorem Ej(n:Nat):Lib.repeatL [32] n=List.replicate n 32:=by
 induction n with
 | zero=>rfl
 | succ n ih=>show [32]++Lib.repeatL [32] n=_;rw[ih];rfl
theorem y8(n:Nat)(hn:n<=1000000):ab prog 330 [str [32],i64 n] (str (List.replicate n 32)):=by
 refine dT (args:=[.string ⟨#[32]⟩,.int .i64 n]) (fun c=>ar _ _) fun w=>Calls.mono (Tryz.strings_Repeat ⟨#[32]⟩ n w (by omega) (by show 1*n<=_;omega)) ?_
 rintro e w' ⟨rfl,hb⟩
 have h1:(⟨#[32]⟩:ByteArray).data.toList=[32]:=rfl
 rw[h1,Ej]
 exact⟨rfl,aX.of_below hb⟩
theorem MY(a b:Int):(if b<if 0>a then 0 else a then b else if 0>a then 0 else a)=min (max a 0) b:=by
 by_cases h:0>a
 ·simp only[if_pos h];split<;>omega
 simp only[if_neg h];split<;>omega
theorem az7(v:VVm)(x:List Int)(ho:0<=v.conf.out/\v.conf.out<=900000)(hx:XOk 1 x):ab prog 329 [eVm v,sq ap x] (ot (vL v x,0)):=by
 have hl:=hx.len
 have h0:=hx.fit 0
 have w1:IntKind.i64.wrap (v.conf.out+1)=v.conf.out+1:=by((rw[bS];unfold wrap64;(try simp only[dnL]at *);omega))
 have w2:min (max (xat x 0) 0) (v.conf.out+1)=((min (max (xat x 0) 0) (v.conf.out+1)).toNat:Int):=by omega
 refine zY func329 fun B=>?_
 refine zu3 ?_
 refine Ws<|az [0,0,1,0,0,0,1,0,0,0,0,0] [0,1,2,3,4,5,6,7,8,9,10,11] mG rfl (by kernel_rfl) ?_
 refine z3 ?_
 refine z9i ?_
 refine z5 ?_
 iterate 3 refine z3 ?_
 refine z5 ?_
 refine z3 ?_
 refine Xa 13 rfl (congrArg (fun z=>PV.val (Value.int .i64 z)) w1) ?_
 refine z3 ?_
 refine Xa 14 rfl (congrArg (fun z=>PV.val (Value.int .i64 z)) ((MY (xat x 0) (v.conf.out+1)).trans w2)) ?_
 refine Xc rfl rfl rfl rfl (fun _=>dC rfl func330 rfl rfl ((y8 _ (by omega)) _)) ?_
 iterate 2 refine z3 ?_
 refine aP ?_
 refine zR ?_
 rfl
theorem aA5(v:VVm)(x:List Int)(hm:cZ v.mem)(hx:XOk 2 x):ab prog 331 [eVm v,sq ap x] (ot (dN v.mem (xat x 0) (xat x 1))):=by
 have hl:=hx.len
 refine zY func331 fun B=>?_
 refine zu3 ?_
 refine Ws<|az [0,1,0,0,1,0,0,1,0,0,0,0,0,0] [0,1,2,3,4,5,6,7,8,9,10,11,12,13] mG rfl (by kernel_rfl) ?_
 refine z3 ?_
 refine z5 ?_
 refine z3 ?_
 refine z9i ?_
 refine z5 ?_
 refine z3 ?_
 refine z9i ?_
 refine z5 ?_
 refine Xc rfl rfl rfl rfl (fun _=>dC rfl func257 rfl rfl ((zo _ _ _ hm (hx.fit 0) (hx.fit 1)) _)) ?_
 iterate 5 refine z3 ?_
 refine aP ?_
 refine zp1 ?_
 refine Wd rfl rfl (oe (lO tG rfl) rfl (lO tG rfl) rfl (lO tG rfl) rfl rfl rfl) ?_
 refine zs3 ?_
 refine zR ?_
 rfl
theorem aC6(v:VVm)(x:List Int):∀(H:List Ob) (i:Nat),H[i]?=some (.cells (cVm v) 37)->HC prog 336 (.ptr i 0::[sq ap x]) H (tLv ([],0)) (H.set i (.cells (cVm (tV v ⟨[],true⟩)) 37)):=by
 refine zM func336 fun B=>?_
 refine zu2 ?_
 refine zp1 ?_
 refine zc rfl func337 ((N5) _) ?_
 refine zs3 ?_
 refine zu2 ?_
 refine Wq<|aN rfl rfl ?_ ?_
 ·rfl
 rfl
theorem az6(v:VVm)(x:List Int)(hp:v.pic.b.length<=1000000)(hm:v.mem.b.length<=140737488355328)(hx:XOk 2 x):∀(H:List Ob) (i:Nat),H[i]?=some (.cells (cVm v) 37)->HC prog 338 (.ptr i 0::[sq ap x]) H (tLv (fZ v x).2) (H.set i (.cells (cVm (fZ v x).1) 37)):=by
 have hl:=hx.len
 refine zM func338 fun B=>?_
 refine zu2 ?_
 refine Ws<|az [0,0,0,1,0,0,1,0,0,1,0,0,1,0,0,0,0,0,0,0,2,3,0,0,0] [0,1,2,3,4,5,6,7,8,9,10,11,12,13,14,15,16,17,18,19,20,21,22,23,24] mG rfl (by kernel_rfl) ?_
 iterate 3 refine z3 ?_
 refine z5 ?_
 refine z3 ?_
 refine z9i ?_
 refine z5 ?_
 refine z3 ?_
 refine z9i ?_
 refine z5 ?_
 iterate 2 refine z3 ?_
 refine z5 ?_
 refine Xc rfl rfl rfl rfl (fun _=>dC rfl func325 rfl rfl ((xn v hm) _)) ?_
 refine Xc rfl rfl rfl rfl (fun _=>dC rfl func339 rfl rfl ((CF _ _ _ _ hp) _)) ?_
 iterate 5 refine z3 ?_
 refine uU tG rfl rfl rfl rfl rfl trivial rfl ?_
 refine dz tG rfl rfl rfl rfl rfl trivial ?_
 iterate 3 refine z3 ?_
 refine aP ?_
 refine zu5 ?_
 refine zp3 ?_
 refine Wa 36 rfl (bsL ap [_,_] rfl rfl) ?_
 refine zs3 ?_
 refine Wq<|aN rfl rfl ?_ ?_
 ·rfl
 rfl
theorem az3(v:VVm)(x:List Int)(hp:v.pic.b.length<=1000000)(hm:v.mem.b.length<=140737488355328)(hx:XOk 2 x):∀(H:List Ob) (i:Nat),H[i]?=some (.cells (cVm v) 37)->HC prog 340 (.ptr i 0::[sq ap x]) H (tLv (fL v x).2) (H.set i (.cells (cVm (fL v x).1) 37)):=by
 have hl:=hx.len
 refine zM func340 fun B=>?_
 refine zu2 ?_
 refine Ws<|az [0,0,0,1,0,0,1,0,0,1,0,0,1,0,0,0,0,0,2,3,0] [0,1,2,3,4,5,6,7,8,9,10,11,12,13,14,15,16,17,18,19,20] mG rfl (by kernel_rfl) ?_
 iterate 3 refine z3 ?_
 refine z5 ?_
 refine z3 ?_
 refine z9i ?_
 refine z5 ?_
 refine z3 ?_
 refine z9i ?_
 refine z5 ?_
 iterate 2 refine z3 ?_
 refine z5 ?_
 refine Xc rfl rfl rfl rfl (fun _=>dC rfl func325 rfl rfl ((xn v hm) _)) ?_
 refine Xc rfl rfl rfl rfl (fun _=>dC rfl func341 rfl rfl ((W6 _ _ _ _ hp) _)) ?_
 iterate 3 refine z3 ?_
 refine uU tG rfl rfl rfl rfl rfl trivial rfl ?_
 refine dz tG rfl rfl rfl rfl rfl trivial ?_
 refine z3 ?_
 refine aP ?_
 refine zu5 ?_
 refine zp1 ?_
 refine Wa 30 rfl (bsL ap [_,_] rfl rfl) ?_
 refine zs3 ?_
 refine Wq<|aN rfl rfl ?_ ?_
 ·rfl
 rfl
theorem zL(p:dS):(lq p).1.length<=p.b.length:=by unfold lq;split<;>simp
theorem az8(v:VVm)(x:List Int)(hp:v.pic.b.length<=1000000)(hm:cZ v.mem):∀(H:List Ob) (i:Nat),H[i]?=some (.cells (cVm v) 37)->HC prog 344 (.ptr i 0::[sq ap x]) H (tLv (xv v).2) (H.set i (.cells (cVm (xv v).1) 37)):=by
 have hl:=zL v.pic
 refine zM func344 fun B=>?_
 refine zu2 ?_
 refine zp4 ?_
 refine zc rfl func345 ((Ut _ hp) _) ?_
 refine zs5 ?_
 refine Ws<|zu2 ?_
 refine Wi rfl (fun hi1=>?_) (fun hi1=>?_)
 ·have h0:¬(lq v.pic).2=0:=bne_iff_ne.1 hi1
  refine zu3 ?_
  refine Wq<|aN rfl rfl ?_ ?_
  ·rw[xv,if_neg h0];rfl
  rw[xv,if_neg h0];rfl
 have h0:(lq v.pic).2=0:=bne_eq_false_iff_eq.1 hi1
 refine Wj<|zp5 ?_
 refine zs2 ?_
 refine zp5 ?_
 refine zy3 ?_
 refine Wa 34 rfl (wH _) ?_
 refine zc rfl func123 ((nI _ _ _ hm (qk _) (by omega)) _) ?_
 refine zy5 ?_
 refine zs2 ?_
 refine zu5 ?_
 refine zp3 ?_
 refine Wa 46 rfl (gl _) ?_
 refine z1 ?_
 refine Wa 47 rfl (bsL ap [_,_] rfl rfl) ?_
 refine zs3 ?_
 refine Wq<|aN rfl rfl ?_ ?_
 ·rw[xv,if_pos h0];rfl
 rw[xv,if_pos h0];rfl
def bJ(v:VVm)(x:List Int):List Int×Int:=([W64 (xat x 0+16)],if (av v (xat x 0)).2=0/\((av v (xat x 0)).1<257\/260<(av v (xat x 0)).1)then -31 else(av v (xat x 0)).2)
theorem aD0(v:VVm)(x:List Int)(hm:v.mem.b.length<=140737488355328)(hx:XOk 1 x):∀(H:List Ob) (i:Nat),H[i]?=some (.cells (cVm v) 37)->HC prog 346 (.ptr i 0::[sq ap x]) H (tLv (bJ v x)) (H.set i (.cells (cVm v) 37)):=by
 have hl:=hx.len
 refine zM func346 fun B=>?_
 refine zu2 ?_
 refine Ws<|az [0,0,1,0,0,1,0,0,0,0,0,0] [0,1,2,3,4,5,6,7,8,9,10,11] mG rfl (by kernel_rfl) ?_
 iterate 2 refine z3 ?_
 refine z5 ?_
 refine z3 ?_
 refine z9i ?_
 refine z5 ?_
 refine Xc rfl rfl rfl rfl (fun _=>dC rfl func67 rfl rfl ((qI v _ hm (hx.fit 0)) _)) ?_
 iterate 5 refine z3 ?_
 refine aP ?_
 refine Ws<|zp3 ?_
 refine Wb 20 rfl (fun hg1=>?_) (fun hg1=>?_)
 ·have h0:(av v (xat x 0)).2=0:=beq_iff_eq.1 hg1
  refine zy3 ?_
  refine Wb 23 rfl (fun hg2=>?_) (fun hg2=>?_)
  ·have h1:(av v (xat x 0)).1<257:=oT hg2
   iterate 2 refine z6 ?_
   refine zs2 ?_
   refine Wt rfl rfl ?_
   refine aa rfl ?_
   refine zs1 ?_
   refine zp1 ?_
   refine Wv tG rfl rfl rfl (by omega) (iN ap 1 (fun _=>rfl) 0 (by(simp only[dnL]at *;omega))) ?_
   refine zy3 ?_
   refine Wa 32 rfl (bsL ap [_] rfl rfl) ?_
   refine zs3 ?_
   refine Wq<|aN rfl rfl ?_ ?_
   ·(rw[bJ,if_pos ⟨h0,by omega⟩];rfl)
   rfl
  have h1:¬(av v (xat x 0)).1<257:=oF hg2
  refine zs4 ?_
  refine Wi rfl (fun hi1=>?_) (fun hi1=>?_)
  ·have h2:260<(av v (xat x 0)).1:=oT hi1
   refine aa rfl ?_
   refine zs1 ?_
   refine zp1 ?_
   refine Wv tG rfl rfl rfl (by omega) (iN ap 1 (fun _=>rfl) 0 (by(simp only[dnL]at *;omega))) ?_
   refine zy3 ?_
   refine Wa 32 rfl (bsL ap [_] rfl rfl) ?_
   refine zs3 ?_
   refine Wq<|aN rfl rfl ?_ ?_
   ·(rw[bJ,if_pos ⟨h0,by omega⟩];rfl)
   rfl
  have h2:¬260<(av v (xat x 0)).1:=oF hi1
  refine Wj<|zp1 ?_
  refine Wv tG rfl rfl rfl (by omega) (iN ap 1 (fun _=>rfl) 0 (by(simp only[dnL]at *;omega))) ?_
  refine zy3 ?_
  refine Wa 32 rfl (bsL ap [_] rfl rfl) ?_
  refine zs3 ?_
  refine Wq<|aN rfl rfl ?_ ?_
  ·(rw[bJ,if_neg (fun h=>by omega)];rfl)
  rfl
 have h0:¬(av v (xat x 0)).2=0:=beq_eq_false_iff_ne.1 hg1
 iterate 6 refine z6 ?_
 refine zs1 ?_
 refine Wf rfl rfl ?_
 refine Wj<|zp1 ?_
 refine Wv tG rfl rfl rfl (by omega) (iN ap 1 (fun _=>rfl) 0 (by(simp only[dnL]at *;omega))) ?_
 refine zy3 ?_
 refine Wa 32 rfl (bsL ap [_] rfl rfl) ?_
 refine zs3 ?_
 refine Wq<|aN rfl rfl ?_ ?_
 ·(rw[bJ,if_neg (fun h=>by omega)];rfl)
 rfl
theorem aB2(x:List Int):ab prog 347 [sq ap x] (tLv ([],-1)):=by
 refine zY func347 fun B=>?_
 refine zu2 ?_
 refine zu2 ?_
 refine zR ?_
 rfl
theorem ax9(v:VVm):ab prog 349 [eVm v] (i64 v.arg):=by
 refine zY func349 fun B=>?_
 refine zu2 ?_
 refine zu3 ?_
 refine zR ?_
 rfl
theorem aC5(v:VVm):ab prog 350 [eVm v] (i64 v.self):=by
 refine zY func350 fun B=>?_
 refine zu2 ?_
 refine zu3 ?_
 refine zR ?_
 rfl
theorem aB4(v:VVm):ab prog 351 [eVm v] (i64 v.now):=by
 refine zY func351 fun B=>?_
 refine zu2 ?_
 refine zu3 ?_
 refine zR ?_
 rfl
theorem aE1(v:VVm)(x:List Int)(hm:cZ v.mem)(hx:XOk 2 x):∀(H:List Ob) (i:Nat),H[i]?=some (.cells (cVm v) 37)->HC prog 352 (.ptr i 0::[sq ap x]) H (tLv (gH v x).2) (H.set i (.cells (cVm (gH v x).1) 37)):=by
 have hl:=hx.len
 refine zM func352 fun B=>?_
 refine zu2 ?_
 iterate 2 refine Ws ?_
 refine az [0,0,0,1,0,0,1,3,0] [0,1,2,3,4,5,6,7,8] mG rfl (by kernel_rfl) ?_
 iterate 2 refine z3 ?_
 refine z9i ?_
 refine z5 ?_
 refine z3 ?_
 refine z9i ?_
 refine z5 ?_
 refine sk rfl rfl rfl rfl (dC rfl func353 rfl rfl ((xB v _ _ (gj hm) (hx.fit 0)) _ _ rfl)) ?_
 refine z3 ?_
 refine aP ?_
 refine zu2 ?_
 refine Wi rfl (fun hi1=>?_) (fun hi1=>?_)
 ·have h0:¬j0 v (xat x 0) (xat x 1)=0:=bne_iff_ne.1 hi1
  refine zu3 ?_
  refine Wq<|aN rfl rfl ?_ ?_
  ·rw[gH,if_neg h0];rfl
  rw[gH,if_neg h0];rfl
 have h0:j0 v (xat x 0) (xat x 1)=0:=bne_eq_false_iff_eq.1 hi1
 refine Wj<|Ws<|az [0,0,0,1,0,0,1,3,0,0] [0,1,2,3,4,5,6,7,8,9] mG rfl (by kernel_rfl) ?_
 iterate 2 refine z3 ?_
 refine z9i ?_
 refine z5 ?_
 refine z3 ?_
 refine z9i ?_
 refine z5 ?_
 refine sk rfl rfl rfl rfl (dC rfl func311 rfl rfl ((uv v _ _ hm (hx.fit 1)) _ _ rfl)) ?_
 iterate 2 refine z3 ?_
 refine aP ?_
 refine Wq<|aN rfl rfl ?_ ?_
 ·rw[gH,if_pos h0];rfl
 rw[gH,if_pos h0];rfl
theorem aC0(v:VVm)(x:List Int)(hm:cZ v.mem)(hx:XOk 3 x):∀(H:List Ob) (i:Nat),H[i]?=some (.cells (cVm v) 37)->HC prog 354 (.ptr i 0::[sq ap x]) H (tLv (iY v x).2) (H.set i (.cells (cVm (iY v x).1) 37)):=by
 have hl:=hx.len
 refine zM func354 fun B=>?_
 refine zu2 ?_
 iterate 2 refine Ws ?_
 refine az [0,0,0,1,0,0,1,3,0] [0,1,2,3,4,5,6,7,8] mG rfl (by kernel_rfl) ?_
 iterate 2 refine z3 ?_
 refine z9i ?_
 refine z5 ?_
 refine z3 ?_
 refine z9i ?_
 refine z5 ?_
 refine sk rfl rfl rfl rfl (dC rfl func353 rfl rfl ((xB v _ _ (gj hm) (hx.fit 1)) _ _ rfl)) ?_
 refine z3 ?_
 refine aP ?_
 refine zu2 ?_
 refine Wi rfl (fun hi1=>?_) (fun hi1=>?_)
 ·have h0:¬j0 v (xat x 1) (xat x 2)=0:=bne_iff_ne.1 hi1
  refine zu3 ?_
  refine Wq<|aN rfl rfl ?_ ?_
  ·rw[iY,if_neg h0];rfl
  rw[iY,if_neg h0];rfl
 have h0:j0 v (xat x 1) (xat x 2)=0:=bne_eq_false_iff_eq.1 hi1
 refine Wj<|Ws<|az [0,0,0,0,0,0,0,0,0,0,0,0,0,3,0,0] [0,1,2,3,4,5,6,7,8,9,10,11,12,13,14,15] mG rfl (by kernel_rfl) ?_
 iterate 2 refine z3 ?_
 refine z9i ?_
 iterate 3 refine z3 ?_
 refine z9i ?_
 iterate 4 refine z3 ?_
 refine z9i ?_
 refine z3 ?_
 refine sk rfl rfl rfl rfl (dC rfl func311 rfl rfl ((uv v _ _ hm (qk _)) _ _ rfl)) ?_
 iterate 2 refine z3 ?_
 refine aP ?_
 refine Wq<|aN rfl rfl ?_ ?_
 ·rw[iY,if_pos h0];rfl
 rw[iY,if_pos h0];rfl
theorem Qc:ab prog 348 [i64 1] (bm 3 383 [.row [i64 1],.row [i64 3]]):=by
 refine zY func348 fun B=>?_
 refine zp1 ?_
 refine bP 1 _ rfl rfl rfl ?_
 refine zs1 ?_
 refine z8 ?_
 refine Wd rfl rfl (dq rfl) ?_
 refine zD 3 (.n (1)) ?_
 refine zD 3 (.n (2)) ?_
 refine zD 3 (.n (3)) ?_
 refine zD 3 (.n (4)) ?_
 refine z1 ?_
 refine ey 5 _ rfl rfl rfl ?_
 refine z1 ?_
 refine Wd rfl rfl (ba (b:=false) (e:=3) (key:=.n 1) (by kernel_rfl) (lO tG rfl) (by kernel_rfl) rfl rfl rfl rfl (by kernel_rfl) (rfl)) ?_
 refine zy2 ?_
 refine bP 3 _ rfl rfl rfl ?_
 refine Wn<|zu4 ?_
 refine zR ?_
 rfl
theorem Ps:ab prog 348 [i64 2] (bm 4 383 [.row [i64 2],.row [i64 4]]):=by
 refine zY func348 fun B=>?_
 refine zp1 ?_
 refine bP 1 _ rfl rfl rfl ?_
 refine zs1 ?_
 refine z8 ?_
 refine Wd rfl rfl (dq rfl) ?_
 refine zD 3 (.n (1)) ?_
 refine zD 3 (.n (2)) ?_
 refine zD 3 (.n (3)) ?_
 refine zD 3 (.n (4)) ?_
 refine z1 ?_
 refine ey 5 _ rfl rfl rfl ?_
 refine z1 ?_
 refine Wd rfl rfl (ba (b:=false) (e:=3) (key:=.n 2) (by kernel_rfl) (lO tG rfl) (by kernel_rfl) rfl rfl rfl rfl (by kernel_rfl) (rfl)) ?_
 refine zy2 ?_
 refine bP 3 _ rfl rfl rfl ?_
 refine Wn<|zu4 ?_
 refine zR ?_
 rfl
theorem OU:ab prog 348 [i64 3] (bm 4 383 [.row [i64 3],.row [i64 4]]):=by
 refine zY func348 fun B=>?_
 refine zp1 ?_
 refine bP 1 _ rfl rfl rfl ?_
 refine zs1 ?_
 refine z8 ?_
 refine Wd rfl rfl (dq rfl) ?_
 refine zD 3 (.n (1)) ?_
 refine zD 3 (.n (2)) ?_
 refine zD 3 (.n (3)) ?_
 refine zD 3 (.n (4)) ?_
 refine z1 ?_
 refine ey 5 _ rfl rfl rfl ?_
 refine z1 ?_
 refine Wd rfl rfl (ba (b:=false) (e:=3) (key:=.n 3) (by kernel_rfl) (lO tG rfl) (by kernel_rfl) rfl rfl rfl rfl (by kernel_rfl) (rfl)) ?_
 refine zy2 ?_
 refine bP 3 _ rfl rfl rfl ?_
 refine Wn<|zu4 ?_
 refine zR ?_
 rfl
theorem O2:ab prog 348 [i64 4] (bm 1 383 [.row [i64 4],.row [i64 1]]):=by
 refine zY func348 fun B=>?_
 refine zp1 ?_
 refine bP 1 _ rfl rfl rfl ?_
 refine zs1 ?_
 refine z8 ?_
 refine Wd rfl rfl (dq rfl) ?_
 refine zD 3 (.n (1)) ?_
 refine zD 3 (.n (2)) ?_
 refine zD 3 (.n (3)) ?_
 refine zD 3 (.n (4)) ?_
 refine z1 ?_
 refine ey 5 _ rfl rfl rfl ?_
 refine z1 ?_
 refine Wd rfl rfl (ba (b:=false) (e:=3) (key:=.n 4) (by kernel_rfl) (lO tG rfl) (by kernel_rfl) rfl rfl rfl rfl (by kernel_rfl) (rfl)) ?_
 refine zy2 ?_
 refine bP 3 _ rfl rfl rfl ?_
 refine Wn<|zu4 ?_
 refine zR ?_
 rfl
theorem QL(v:VVm)(x:List Int)(hr:v.req.length<=100000)(hx:XOk 1 x):∀(H:List Ob) (i:Nat),H[i]?=some (.cells (cVm v) 37)->HC prog 383 (.ptr i 0::[sq ap x,.row [i64 4],.row [i64 1]]) H (tLv (jr v x).2) (H.set i (.cells (cVm (jr v x).1) 37)):=by
 have hl:=hx.len
 refine zM func383 fun B=>?_
 refine zu2 ?_
 refine zu4 ?_
 refine Ws<|zu2 ?_
 refine Wt rfl (by decide) ?_
 refine aa rfl ?_
 refine z1 ?_
 refine Wv tG rfl rfl rfl (by omega) (iN ap 1 (fun _=>rfl) 0 (by(simp only[dnL]at *;omega))) ?_
 refine zs3 ?_
 refine zu3 ?_
 refine Ws<|zp2 ?_
 refine px 56 rfl (by decide) ?_
 iterate 10 refine z6 ?_
 refine zs1 ?_
 refine Wf rfl rfl ?_
 refine Wj<|Ws<|zp5 ?_
 refine zs1 ?_
 refine Wi rfl (fun hi2=>?_) (fun hi2=>?_)
 ·have h5:16<=(v.req.length:Int):=oT hi2
  refine zu2 ?_
  refine Wq<|aN rfl rfl ?_ ?_
  ·rw[jr,if_pos h5];rfl
  rw[jr,if_pos h5];rfl
 have h5:¬16<=(v.req.length:Int):=oF hi2
 refine Wj<|Ws<|zu2 ?_
 refine Wt rfl (by decide) ?_
 refine Ws<|az [0,0,0,0,1,0,1,0,0,0,0,3] [0,1,2,3,4,5,6,7,8,9,10,11] mG rfl (by kernel_rfl) ?_
 iterate 4 refine z3 ?_
 refine z5 ?_
 refine Xc rfl rfl rfl rfl (fun _=>dC rfl func384 rfl rfl ((wY _ (by omega)) _)) ?_
 refine z5 ?_
 refine z3 ?_
 refine Xa 83 rfl ((show PV.seq 1 _ .clip=.seq (List.length [(⟨4,0,0,0,0,xat x 0⟩:vG)]) (List.flatMap vU [(⟨4,0,0,0,0,xat x 0⟩:vG)]) .clip from rfl)) ?_
 refine gW rfl rfl rfl rfl (fun _=>cg (lO tG rfl) rfl (lO tG rfl) (lO tG rfl) rfl rfl (by exact⟨_,rfl⟩) (by exact⟨rfl,rfl,al _ 6 (fun _=>rfl) _,bD _ (fun _=>rfl) _⟩) (by exact al _ 6 (fun _=>rfl) _) (by((simp_all;omega))) (by((simp_all;omega))) (by exact fy (bt (fun x=>by simp) _) (bt (fun x=>by simp) _))) ?_
 refine Xa 84 rfl (cw vU) ?_
 iterate 2 refine z3 ?_
 refine dz tG rfl rfl rfl rfl rfl trivial ?_
 refine aP ?_
 refine zu2 ?_
 refine Wq<|aN rfl rfl ?_ ?_
 ·rw[jr,if_neg h5];rfl
 rw[jr,if_neg h5];rfl
theorem ZK(v:VVm)(x:List Int)(hr:v.req.length<=100000)(hd:v.hand.length<=1000000)(hx:XOk 3 x):∀(H:List Ob) (i:Nat),H[i]?=some (.cells (cVm v) 37)->HC prog 383 (.ptr i 0::[sq ap x,.row [i64 1],.row [i64 3]]) H (tLv (jO v x).2) (H.set i (.cells (cVm (jO v x).1) 37)):=by
 have hl:=hx.len
 refine zM func383 fun B=>?_
 refine zu2 ?_
 refine zu4 ?_
 refine Ws<|zu2 ?_
 refine Wf rfl (by decide) ?_
 refine Ws<|az [0,0,0,0,0,0,0,0,0,0,3,0,3,0,3] [0,1,2,3,4,5,6,7,8,9,10,11,12,13,14] mG rfl (by kernel_rfl) ?_
 refine z3 ?_
 refine z9i ?_
 iterate 2 refine z3 ?_
 refine z9i ?_
 iterate 2 refine z3 ?_
 refine z9i ?_
 iterate 2 refine z3 ?_
 refine dz tG rfl rfl rfl rfl rfl trivial ?_
 refine z3 ?_
 refine dz tG rfl rfl rfl rfl rfl trivial ?_
 refine z3 ?_
 refine dz tG rfl rfl rfl rfl rfl trivial ?_
 refine aP ?_
 refine Ws<|az [0,1,0,0,0,1,0,0,0,1,0,0,0,0,0,1,0,0,0,0,1,0,0] [0,1,2,3,4,5,6,7,8,9,10,11,12,13,14,15,16,17,18,19,20,21,22] mG rfl (by kernel_rfl) ?_
 refine z3 ?_
 refine z5 ?_
 iterate 2 refine z3 ?_
 refine od 33 rfl (fun hg1=>?_) (fun hg1=>?_)
 ·have h1:xat x 1<0:=oT hg1
  have hb:iV v x:=.inl h1
  iterate 8 refine z7 ?_
  iterate 2 refine z3 ?_
  iterate 3 refine z7 ?_
  iterate 2 refine z3 ?_
  iterate 3 refine z7 ?_
  refine z3 ?_
  refine aP ?_
  refine Wt rfl rfl ?_
  refine zu2 ?_
  refine Wq<|aN rfl rfl ?_ ?_
  ·rw[jO,if_pos hb];rfl
  rw[jO,if_pos hb];rfl
 have h1:¬xat x 1<0:=oF hg1
 refine z3 ?_
 refine z5 ?_
 iterate 3 refine z3 ?_
 refine z5 ?_
 iterate 4 refine z3 ?_
 refine od 43 rfl (fun hg2=>?_) (fun hg2=>?_)
 ·have h2:(v.hand.length:Int)<=xat x 1:=oT hg2
  have hb:iV v x:=.inr (.inl h2)
  iterate 3 refine z7 ?_
  iterate 2 refine z3 ?_
  iterate 3 refine z7 ?_
  refine z3 ?_
  refine aP ?_
  refine Wt rfl rfl ?_
  refine zu2 ?_
  refine Wq<|aN rfl rfl ?_ ?_
  ·rw[jO,if_pos hb];rfl
  rw[jO,if_pos hb];rfl
 have h2:¬(v.hand.length:Int)<=xat x 1:=oF hg2
 refine z3 ?_
 refine z5 ?_
 iterate 3 refine z3 ?_
 refine od 48 rfl (fun hg3=>?_) (fun hg3=>?_)
 ·have h3:xat x 2<0:=oT hg3
  have hb:iV v x:=.inr (.inr (.inl h3))
  iterate 3 refine z7 ?_
  refine z3 ?_
  refine aP ?_
  refine Wt rfl rfl ?_
  refine zu2 ?_
  refine Wq<|aN rfl rfl ?_ ?_
  ·rw[jO,if_pos hb];rfl
  rw[jO,if_pos hb];rfl
 have h3:¬xat x 2<0:=oF hg3
 refine z3 ?_
 refine z5 ?_
 iterate 2 refine z3 ?_
 refine aP ?_
 refine Wi rfl (fun hi2=>?_) (fun hi2=>?_)
 ·have h4:4<=xat x 2:=oT hi2
  have hb:iV v x:=.inr (.inr (.inr (by omega)))
  refine zu2 ?_
  refine Wq<|aN rfl rfl ?_ ?_
  ·rw[jO,if_pos hb];rfl
  rw[jO,if_pos hb];rfl
 have h4:¬4<=xat x 2:=oF hi2
 have hb:¬iV v x:=by rintro(h|h|h|h)<;>omega
 refine Wj<|zu3 ?_
 refine Ws<|zp2 ?_
 refine px 56 rfl (by decide) ?_
 iterate 10 refine z6 ?_
 refine zs1 ?_
 refine Wf rfl rfl ?_
 refine Wj<|Ws<|zp5 ?_
 refine zs1 ?_
 refine Wi rfl (fun hi3=>?_) (fun hi3=>?_)
 ·have h5:16<=(v.req.length:Int):=oT hi3
  refine zu2 ?_
  refine Wq<|aN rfl rfl ?_ ?_
  ·rw[jO,if_neg hb,if_pos h5];rfl
  rw[jO,if_neg hb,if_pos h5];rfl
 have h5:¬16<=(v.req.length:Int):=oF hi3
 refine Wj<|Ws<|zu2 ?_
 refine Wt rfl (by decide) ?_
 refine Ws<|az [0,0,0,0,1,0,1,0,0,0,0,3] [0,1,2,3,4,5,6,7,8,9,10,11] mG rfl (by kernel_rfl) ?_
 iterate 4 refine z3 ?_
 refine z5 ?_
 refine Xc rfl rfl rfl rfl (fun _=>dC rfl func384 rfl rfl ((wY _ (by omega)) _)) ?_
 refine z5 ?_
 refine z3 ?_
 refine Xa 83 rfl ((show PV.seq 1 _ .clip=.seq (List.length [(⟨1,xat x 0,xat x 1,xat x 2,0,0⟩:vG)]) (List.flatMap vU [(⟨1,xat x 0,xat x 1,xat x 2,0,0⟩:vG)]) .clip from rfl)) ?_
 refine gW rfl rfl rfl rfl (fun _=>cg (lO tG rfl) rfl (lO tG rfl) (lO tG rfl) rfl rfl (by exact⟨_,rfl⟩) (by exact⟨rfl,rfl,al _ 6 (fun _=>rfl) _,bD _ (fun _=>rfl) _⟩) (by exact al _ 6 (fun _=>rfl) _) (by((simp_all;omega))) (by((simp_all;omega))) (by exact fy (bt (fun x=>by simp) _) (bt (fun x=>by simp) _))) ?_
 refine Xa 84 rfl (cw vU) ?_
 iterate 2 refine z3 ?_
 refine dz tG rfl rfl rfl rfl rfl trivial ?_
 refine aP ?_
 refine zu2 ?_
 refine Wq<|aN rfl rfl ?_ ?_
 ·rw[jO,if_neg hb,if_neg h5];rfl
 rw[jO,if_neg hb,if_neg h5];rfl
theorem L1(k:Int)(hk:k≠4)(v:VVm)(x:List Int)(hr:v.req.length<=100000)(hd:v.hand.length<=1000000)(hx:XOk 4 x):∀(H:List Ob) (i:Nat),H[i]?=some (.cells (cVm v) 37)->HC prog 383 (.ptr i 0::[sq ap x,.row [i64 k],.row [i64 4]]) H (tLv (dw k v x).2) (H.set i (.cells (cVm (dw k v x).1) 37)):=by
 have hl:=hx.len
 refine zM func383 fun B=>?_
 refine zu2 ?_
 refine zu4 ?_
 refine Ws<|zu2 ?_
 refine Wf rfl (by exact beq_eq_false_iff_ne.2 hk) ?_
 refine Ws<|V.az [0,0,0,0,0,0,0,0,0,0,3,0,3,0,3] [0,1,2,3,4,5,6,7,8,9,10,11,12,13,14] mG rfl (by kernel_rfl) ?_
 refine V.z3 ?_
 refine V.Xi tG rfl rfl rfl rfl (fun _=>rfl) (by omega) (iN ap 1 (fun _=>rfl) 0 (by(simp only[dnL]at *;omega))) ?_
 iterate 2 refine V.z3 ?_
 refine V.Xi tG rfl rfl rfl rfl (fun _=>rfl) (by omega) (iN ap 1 (fun _=>rfl) 0 (by(simp only[dnL]at *;omega))) ?_
 iterate 2 refine V.z3 ?_
 refine V.Xi tG rfl rfl rfl rfl (fun _=>rfl) (by omega) (iN ap 1 (fun _=>rfl) 0 (by(simp only[dnL]at *;omega))) ?_
 iterate 2 refine V.z3 ?_
 refine V.dz tG rfl rfl rfl rfl rfl trivial ?_
 refine V.z3 ?_
 refine V.dz tG rfl rfl rfl rfl rfl trivial ?_
 refine V.z3 ?_
 refine V.dz tG rfl rfl rfl rfl rfl trivial ?_
 refine V.aP ?_
 refine Ws<|V.az [0,1,0,0,0,1,0,0,0,1,0,0,0,0,0,1,0,0,0,0,1,0,0] [0,1,2,3,4,5,6,7,8,9,10,11,12,13,14,15,16,17,18,19,20,21,22] mG rfl (by kernel_rfl) ?_
 refine V.z3 ?_
 refine V.z5 ?_
 iterate 2 refine V.z3 ?_
 refine V.od 33 rfl (fun hg1=>?_) (fun hg1=>?_)
 ·have h1:xat x 1<0:=oT hg1
  have hb:iV v x:=.inl h1
  iterate 8 refine V.z7 ?_
  iterate 2 refine V.z3 ?_
  iterate 3 refine V.z7 ?_
  iterate 2 refine V.z3 ?_
  iterate 3 refine V.z7 ?_
  refine V.z3 ?_
  refine V.aP ?_
  refine Wt rfl rfl ?_
  refine zu2 ?_
  refine Wq<|aN rfl rfl ?_ ?_
  ·rw[dw,if_pos hb];rfl
  rw[dw,if_pos hb];rfl
 have h1:¬xat x 1<0:=oF hg1
 refine V.z3 ?_
 refine V.z5 ?_
 iterate 3 refine V.z3 ?_
 refine V.z5 ?_
 iterate 4 refine V.z3 ?_
 refine V.od 43 rfl (fun hg2=>?_) (fun hg2=>?_)
 ·have h2:(v.hand.length:Int)<=xat x 1:=oT hg2
  have hb:iV v x:=.inr (.inl h2)
  iterate 3 refine V.z7 ?_
  iterate 2 refine V.z3 ?_
  iterate 3 refine V.z7 ?_
  refine V.z3 ?_
  refine V.aP ?_
  refine Wt rfl rfl ?_
  refine zu2 ?_
  refine Wq<|aN rfl rfl ?_ ?_
  ·rw[dw,if_pos hb];rfl
  rw[dw,if_pos hb];rfl
 have h2:¬(v.hand.length:Int)<=xat x 1:=oF hg2
 refine V.z3 ?_
 refine V.z5 ?_
 iterate 3 refine V.z3 ?_
 refine V.od 48 rfl (fun hg3=>?_) (fun hg3=>?_)
 ·have h3:xat x 2<0:=oT hg3
  have hb:iV v x:=.inr (.inr (.inl h3))
  iterate 3 refine V.z7 ?_
  refine V.z3 ?_
  refine V.aP ?_
  refine Wt rfl rfl ?_
  refine zu2 ?_
  refine Wq<|aN rfl rfl ?_ ?_
  ·rw[dw,if_pos hb];rfl
  rw[dw,if_pos hb];rfl
 have h3:¬xat x 2<0:=oF hg3
 refine V.z3 ?_
 refine V.z5 ?_
 iterate 2 refine V.z3 ?_
 refine V.aP ?_
 refine Wi rfl (fun hi2=>?_) (fun hi2=>?_)
 ·have h4:4<=xat x 2:=oT hi2
  have hb:iV v x:=.inr (.inr (.inr (by omega)))
  refine zu2 ?_
  refine Wq<|aN rfl rfl ?_ ?_
  ·rw[dw,if_pos hb];rfl
  rw[dw,if_pos hb];rfl
 have h4:¬4<=xat x 2:=oF hi2
 have hb:¬iV v x:=by rintro(h|h|h|h)<;>omega
 refine Wj<|zu3 ?_
 refine Ws<|zp2 ?_
 refine gp 56 rfl (by decide) ?_
 refine z1 ?_
 refine Wv tG rfl rfl rfl (by omega) (iN ap 1 (fun _=>rfl) 0 (by(simp only[dnL]at *;omega))) ?_
 refine zy3 ?_
 refine Wb 61 rfl (fun hg5=>?_) (fun hg5=>?_)
 ·have h6:xat x 3<1:=oT hg5
  have hq:xat x 3<1\/4294967295<xat x 3:=.inl h6
  iterate 4 refine z6 ?_
  refine zs2 ?_
  refine Wt rfl rfl ?_
  refine zu2 ?_
  refine Wq<|aN rfl rfl ?_ ?_
  ·rw[dw,if_neg hb,if_pos hq];rfl
  rw[dw,if_neg hb,if_pos hq];rfl
 have h6:¬xat x 3<1:=oF hg5
 refine z1 ?_
 refine Wv tG rfl rfl rfl (by omega) (iN ap 1 (fun _=>rfl) 0 (by(simp only[dnL]at *;omega))) ?_
 refine zs4 ?_
 refine Wi rfl (fun hi3=>?_) (fun hi3=>?_)
 ·have h7:4294967296<=xat x 3:=oT hi3
  have hq:xat x 3<1\/4294967295<xat x 3:=.inr (by omega)
  refine zu2 ?_
  refine Wq<|aN rfl rfl ?_ ?_
  ·rw[dw,if_neg hb,if_pos hq];rfl
  rw[dw,if_neg hb,if_pos hq];rfl
 have h7:¬4294967296<=xat x 3:=oF hi3
 have hq:¬(xat x 3<1\/4294967295<xat x 3):=by omega
 refine Wj<|Ws<|zp5 ?_
 refine zs1 ?_
 refine Wi rfl (fun hi4=>?_) (fun hi4=>?_)
 ·have h5:16<=(v.req.length:Int):=oT hi4
  refine zu2 ?_
  refine Wq<|aN rfl rfl ?_ ?_
  ·rw[dw,if_neg hb,if_neg hq,if_pos h5];rfl
  rw[dw,if_neg hb,if_neg hq,if_pos h5];rfl
 have h5:¬16<=(v.req.length:Int):=oF hi4
 refine Wj<|Ws<|zu2 ?_
 refine Wf rfl (by decide) ?_
 refine Wj<|Ws<|zp5 ?_
 refine z1 ?_
 refine Wb 92 rfl (fun hg6=>?_) (fun hg6=>?_)
 ·have h8:v.free=0:=beq_iff_eq.1 hg6
  have hw:v.free=0\/v.next=4611686018427387904:=.inl h8
  iterate 5 refine z6 ?_
  refine zs1 ?_
  refine Wt rfl rfl ?_
  refine zu2 ?_
  refine Wq<|aN rfl rfl ?_ ?_
  ·rw[dw,if_neg hb,if_neg hq,if_neg h5,if_pos hw];rfl
  rw[dw,if_neg hb,if_neg hq,if_neg h5,if_pos hw];rfl
 have h8:¬v.free=0:=beq_eq_false_iff_ne.1 hg6
 refine zy5 ?_
 refine zs1 ?_
 refine Wi rfl (fun hi6=>?_) (fun hi6=>?_)
 ·have h9:v.next=4611686018427387904:=beq_iff_eq.1 hi6
  have hw:v.free=0\/v.next=4611686018427387904:=.inr h9
  refine zu2 ?_
  refine Wq<|aN rfl rfl ?_ ?_
  ·rw[dw,if_neg hb,if_neg hq,if_neg h5,if_pos hw];rfl
  rw[dw,if_neg hb,if_neg hq,if_neg h5,if_pos hw];rfl
 have h9:¬v.next=4611686018427387904:=beq_eq_false_iff_ne.1 hi6
 have hw:¬(v.free=0\/v.next=4611686018427387904):=by rintro(h|h)<;>contradiction
 refine Wj<|Ws<|V.az [0,0,0,0,0,0,4,0,7,0,7] [0,1,2,3,4,5,6,7,8,9,10] mG rfl (by kernel_rfl) ?_
 refine V.z3 ?_
 refine V.Xi tG rfl rfl rfl rfl (fun _=>rfl) (by omega) (iN ap 1 (fun _=>rfl) 0 (by(simp only[dnL]at *;omega))) ?_
 iterate 4 refine V.z3 ?_
 refine V.FT 0 rfl rfl rfl rfl rfl (fun H2 h2=>bB (lO tG rfl) rfl rfl h2 rfl) ?_
 refine V.z3 ?_
 refine V.RO 1 tG rfl rfl rfl rfl rfl trivial rfl ?_
 refine V.z3 ?_
 refine V.RO 1 tG rfl rfl rfl rfl rfl trivial rfl ?_
 refine V.aP ?_
 refine Ws<|V.az [0,0,0,0,1,0,1,0,0,0,0,3] [0,1,2,3,4,5,6,7,8,9,10,11] mG rfl (by kernel_rfl) ?_
 iterate 4 refine V.z3 ?_
 refine V.z5 ?_
 refine V.Xc rfl rfl rfl rfl (fun _=>dC rfl func384 rfl rfl ((wY _ (by omega)) _)) ?_
 refine V.z5 ?_
 refine V.z3 ?_
 refine V.Xa 115 rfl ((show PV.seq 1 _ .clip=.seq (List.length [(⟨k,xat x 0,xat x 1,xat x 2,xat x 3,v.next⟩:vG)]) (List.flatMap vU [(⟨k,xat x 0,xat x 1,xat x 2,xat x 3,v.next⟩:vG)]) .clip from rfl)) ?_
 refine V.gW rfl rfl rfl rfl (fun _=>cg (lO tG rfl) rfl (lO tG rfl) (lO tG rfl) rfl rfl (by exact⟨_,rfl⟩) (by exact⟨rfl,rfl,al _ 6 (fun _=>rfl) _,bD _ (fun _=>rfl) _⟩) (by exact al _ 6 (fun _=>rfl) _) (by((simp_all;omega))) (by((simp_all;omega))) (by exact fy (bt (fun x=>by simp) _) (bt (fun x=>by simp) _))) ?_
 refine V.Xa 116 rfl (cw vU) ?_
 iterate 2 refine V.z3 ?_
 refine V.dz tG rfl rfl rfl rfl rfl trivial ?_
 refine V.aP ?_
 refine zp5 ?_
 refine zs3 ?_
 refine zp5 ?_
 refine zs3 ?_
 refine zp3 ?_
 refine Wa 135 rfl (bsL ap [_] rfl rfl) ?_
 refine zc rfl func245 ((lF [v.next]) _) ?_
 refine zs4 ?_
 refine Wq<|aN rfl rfl ?_ ?_
 ·rw[dw,if_neg hb,if_neg hq,if_neg h5,if_neg hw];rfl
 rw[dw,if_neg hb,if_neg hq,if_neg h5,if_neg hw];rfl
end Go.Proofs.YtjcminooghmpeaaGreatDoor
