import Derived.Laws.RangeAny
import Derived.Lib.IndexBytes
import Derived.Lib.OwnBridge
import Derived.Maps.AppendAt
import Derived.RegionTactic
import Derived.Shelf.SlGeneric
import Derived.Shelf.SlicesE.Reverse
import Derived.Test.YtjcminooghmpeaaGreatDoorPk3
set_option linter.all false
set_option maxRecDepth 100000
set_option maxHeartbeats 40000000
open Go.Proofs.Tryz
namespace Go.Proofs.YtjcminooghmpeaaGreatDoor
open Go.RowKit
namespace V
section
variable {P : Program} {B : Nat -> Nat -> Prop} {n : Nat} {md : Region.Mode} {ops : Array Oper} {cl : Nat -> Nat}
def YU(P:Program)(B:Nat->Nat->Prop)(ops:Array Oper)(o:Oper)(T:Nat->PV)(H:List Ob)(x:PV)(H':List Ob):Prop :=
 (aq ops T o=some true/\(bI P B o T H x H'\/jb P B o T H x H'))\/(aq ops T o=some false/\x=.val undef/\H'=H)
def FU(P:Program)(B:Nat->Nat->Prop)(ops:Array Oper)(c:Nat)(o:Oper)(T:Nat->PV)(H:List Ob)(x:PV)(H':List Ob):Prop :=
 match c with
 | 0=>H'=H/\∀H2,YU P B ops o T H2 x H2
 | 1=>H'=H/\∀E,YU P B ops o T (H++E) x (H++E)
 | 2=>∃E,H'=H++E
 | 3=>True
 | c+4=>match Nat.beq (c%2) 0 with
  | true=>H'=H/\c/2<H.length/\∀H2:List Ob,H2[c/2]?=H[c/2]?->YU P B ops o T H2 x H2
  | false=>∃ob,H'=H.set (c/2) ob
def rdB(c:Nat):Bool:=Nat.ble 4 c&&Nat.beq (c%2) 0
def wrB(c:Nat):Bool:=Nat.ble 4 c&&Nat.beq (c%2) 1
def blk(c:Nat):Nat:=(c-4)/2
def kR(a b:Nat):Bool:=Nat.beq a 0||Nat.beq b 0||(Nat.beq a 1&&Nat.ble b 2)||(rdB a&&(Nat.ble b 2||rdB b||(wrB b&&!Nat.beq (blk a) (blk b))))||(wrB a&&rdB b&&!Nat.beq (blk a) (blk b))
theorem YU.congr{o:Oper}{T T':Nat->PV}{H H':List Ob}{x:PV}(h:∀t∈o.looksAt ops,T' t=T t)(y:YU P B ops o T H x H'):YU P B ops o T' H x H':=by
 have hw:aq ops T' o=aq ops T o:=by
  unfold aq
  cases hg:o.guard with
  | none=>rfl
  | some q =>
   obtain⟨g,b⟩:=q
   simp only
   cases hd:(ops[g]?).bind (·.dst)with
   | none=>rfl
   | some d=>simp only;rw[h d (oD hg hd)]
 have ho:∀z∈o.op.operands.toList,opv T' z=opv T z:=fun z hz=>tp fun t ht=>h t (vB (by rw[<-ht];exact hz))
 rcases y with ⟨h1,h2|h2⟩|⟨h1,h2⟩
 ·exact .inl ⟨by rw[hw];exact h1,.inl fun σ w a s k=>h2 σ w a s (fun z hz=>by rw[<-ho z hz];exact k z hz)⟩
 ·exact .inl ⟨by rw[hw];exact h1,.inr fun σ w a s k=>h2 σ w a s (fun z hz=>by rw[<-ho z hz];exact k z hz)⟩
 exact .inr ⟨by rw[hw];exact h1,h2⟩
theorem FU.congr{c:Nat}{o:Oper}{T T':Nat->PV}{H H':List Ob}{x:PV}(h:∀t∈o.looksAt ops,T' t=T t)(y:FU P B ops c o T H x H'):FU P B ops c o T' H x H':=by
 match c,y with
 | 0,y=>exact⟨y.1,fun H2=>(y.2 H2).congr h⟩
 | 1,y=>exact⟨y.1,fun E=>(y.2 E).congr h⟩
 | 2,y=>exact y
 | 3,_=>trivial
 | c+4,y =>
  simp only[FU]at y ⊢
  split at y
  ·exact⟨y.1,y.2.1,fun H2 h2=>(y.2.2 H2 h2).congr h⟩
  exact y
theorem FU.rd{c:Nat}{o:Oper}{T:Nat->PV}{H H':List Ob}{x:PV}(hc:rdB c=true)(f:FU P B ops c o T H x H'):H'=H/\blk c<H.length/\∀H2:List Ob,H2[blk c]?=H[blk c]?->YU P B ops o T H2 x H2:=by
 simp only[rdB,Bool.and_eq_true,Nat.ble_eq,Nat.beq_eq]at hc
 obtain⟨d,rfl⟩:∃d,c=d+4:=⟨c-4,by omega⟩
 have hd:Nat.beq (d%2) 0=true:=by rw[Nat.beq_eq];omega
 simp only[FU,hd]at f
 exact f
theorem FU.of_rd{c:Nat}{o:Oper}{T:Nat->PV}{H H':List Ob}{x:PV}(hc:rdB c=true)(f:H'=H/\blk c<H.length/\∀H2:List Ob,H2[blk c]?=H[blk c]?->YU P B ops o T H2 x H2):FU P B ops c o T H x H':=by
 simp only[rdB,Bool.and_eq_true,Nat.ble_eq,Nat.beq_eq]at hc
 obtain⟨d,rfl⟩:∃d,c=d+4:=⟨c-4,by omega⟩
 have hd:Nat.beq (d%2) 0=true:=by rw[Nat.beq_eq];omega
 simp only[FU,hd]
 exact f
theorem FU.wr{c:Nat}{o:Oper}{T:Nat->PV}{H H':List Ob}{x:PV}(hc:wrB c=true)(f:FU P B ops c o T H x H'):∃ob,H'=H.set (blk c) ob:=by
 simp only[wrB,Bool.and_eq_true,Nat.ble_eq,Nat.beq_eq]at hc
 obtain⟨d,rfl⟩:∃d,c=d+4:=⟨c-4,by omega⟩
 have hd:Nat.beq (d%2) 0=false:=by rw[<-Bool.not_eq_true,Nat.beq_eq];omega
 simp only[FU,hd]at f
 exact f
theorem FU.of_wr{c:Nat}{o:Oper}{T:Nat->PV}{H H':List Ob}{x:PV}(hc:wrB c=true)(f:∃ob,H'=H.set (blk c) ob):FU P B ops c o T H x H':=by
 simp only[wrB,Bool.and_eq_true,Nat.ble_eq,Nat.beq_eq]at hc
 obtain⟨d,rfl⟩:∃d,c=d+4:=⟨c-4,by omega⟩
 have hd:Nat.beq (d%2) 0=false:=by rw[<-Bool.not_eq_true,Nat.beq_eq];omega
 simp only[FU,hd]
 exact f
def qU(P:Program)(B:Nat->Nat->Prop)(ops:Array Oper)(cl:Nat->Nat)(i:Nat)(K:(Nat->PV)->List Ob->Prop)(T:Nat->PV)(H:List Ob):Prop :=
 match ops[i]? with
 | none=>K T H
 | some o=>∃x H',YU P B ops o T H x H'/\FU P B ops (cl i) o T H x H'/\K (bK o.dst x T) H'
def ug(P:Program)(B:Nat->Nat->Prop)(md:Region.Mode)(ops:Array Oper)(cl:Nat->Nat)(Q:(Nat->PV)->List Ob->Prop):Nat->Array Bool->(Nat->PV)->List Ob->Prop
 | 0,listed,T,H=>Region.ready md ops listed=[]/\Q T H
 | fuel+1,listed,T,H=>(Region.ready md ops listed=[]->Q T H)/\∀i∈Region.ready md ops listed,qU P B ops cl i (ug P B md ops cl Q fuel (listed.setIfInBounds i true)) T H
theorem fQ(hall:gh n ops=true){Q':Exit->Act->World->Prop}{Q:(Nat->PV)->List Ob->Prop}{H0:List Ob}{σ0:Nat->Option Nat}{w0:World}(hQ:∀T H σ w a,lI B n T H σ w a->dK B H0 σ0 w0 H σ w->Q T H->Q' .normal a w):
  ∀(fuel:Nat) (listed:Array Bool) (T:Nat->PV) (H:List Ob) (σ:Nat->Option Nat) (w:World) (a:Act),lI B n T H σ w a->dK B H0 σ0 w0 H σ w->ug P B md ops cl Q fuel listed T H->wpAny P md ops Q' fuel listed a w
 | 0,_,_,_,_,_,_,g,st,h=>⟨h.1,hQ _ _ _ _ _ g st h.2⟩
 | fuel+1,listed,T,H,σ,w,a,g,st,h=>by
  refine⟨fun h0=>hQ _ _ _ _ _ g st (h.1 h0),fun i hi=>?_⟩
  have h1:=h.2 i hi
  unfold qU at h1
  unfold wpOp
  cases ho:ops[i]? with
  | none=>simp only[ho]at h1 ⊢;exact fQ hall hQ fuel _ T H σ w a g st h1
  | some o =>
   simp only[ho]at h1 ⊢
   obtain⟨x,H',hy,_,hk⟩:=h1
   have hd:∀j,o.dst=some j->Nat.blt j n=true:=fun j hj=>fw hall i j (by rw[ho];exact hj)
   have hgd:∀q,aq ops T o=some q->Region.wanted o (yielded ops a.tmps)=q:=fun q hq=>nN (fw hall) g hq
   rcases hy with ⟨hw,hdo|hdo⟩|⟨hw,rfl,rfl⟩
   ·rw[if_pos (hgd true hw)]
    refine .inl ?_
    obtain⟨v,w',σ',h2,h3,h4,h5⟩:=hdo σ w a g.sim (fun y _=>lN g.rep y)
    have k:=fQ hall hQ fuel _ _ _ σ' w' _ (gU hd g h3 h4 h5) (st.trans h5) hk
    unfold Oper.wp
    rcases h2 with h2|⟨h2,rfl⟩
    ·rw[h2];exact k
    rw[h2];exact k
   ·rw[if_pos (hgd true hw)]
    refine .inl ?_
    obtain⟨f,args,h2,hc⟩:=hdo σ w a g.sim (fun y _=>lN g.rep y)
    unfold Oper.wp
    rw[h2]
    refine Calls.mono hc ?_
    rintro e w' ⟨v,σ',rfl,h3,h4,h5⟩
    exact fQ hall hQ fuel _ _ _ σ' w' _ (gU hd g h3 h4 h5) (st.trans h5) hk
   rw[if_neg (by rw[hgd false hw];simp)]
   exact fQ hall hQ fuel _ _ _ σ w _ (gU hd g (ar _ _) g.sim (dK.refl _ _ _ _)) st hk
theorem Q7{ci cj:Nat}{oi oj:Oper}{T:Nat->PV}{H Hi Hj:List Ob}{x y:PV}(hc:kR ci cj=true)(h1:∀t∈oj.looksAt ops,bK oi.dst x T t=T t)(h2:∀t∈oi.looksAt ops,bK oj.dst y T t=T t)
  (yi:YU P B ops oi T H x Hi) (fi:FU P B ops ci oi T H x Hi) (yj:YU P B ops oj (bK oi.dst x T) Hi y Hj) (fj:FU P B ops cj oj (bK oi.dst x T) Hi y Hj) :
  ∃H',YU P B ops oj T H y H'/\FU P B ops cj oj T H y H'/\YU P B ops oi (bK oj.dst y T) H' x Hj/\FU P B ops ci oi (bK oj.dst y T) H' x Hj:=by
 have b1:∀t∈oj.looksAt ops,T t=bK oi.dst x T t:=fun t ht=>(h1 t ht).symm
 have yj':=yj.congr b1
 have fj':=fj.congr b1
 simp only[kR,Bool.or_eq_true,Bool.and_eq_true,Nat.beq_eq,Nat.ble_eq]at hc
 rcases hc with (((rfl|rfl)|⟨rfl,hj⟩)|⟨hr,hj⟩)|⟨⟨hw,hr⟩,hne⟩
 ·obtain⟨rfl,hl⟩:=fi
  exact⟨Hj,yj',fj',(hl Hj).congr h2,rfl,fun H2=>(hl H2).congr h2⟩
 ·obtain⟨rfl,hl⟩:=fj'
  exact⟨H,hl H,⟨rfl,hl⟩,yi.congr h2,fi.congr h2⟩
 ·obtain⟨rfl,hl⟩:=fi
  have:∃E,Hj=Hi++E:=by
   match cj,hj,fj' with
   | 0,_,fj'=>exact⟨[],by rw[fj'.1];simp⟩
   | 1,_,fj'=>exact⟨[],by rw[fj'.1];simp⟩
   | 2,_,fj'=>exact fj'
   | c+3,hj,_=>omega
  obtain⟨E,rfl⟩:=this
  exact⟨Hi++E,yj',fj',(hl E).congr h2,rfl,fun E2=>by rw[List.append_assoc];exact(hl (E++E2)).congr h2⟩
 ·obtain⟨rfl,hlt,hl⟩:=fi.rd hr
  have key:Hj[blk ci]?=Hi[blk ci]?/\blk ci<Hj.length:=by
   rcases hj with (hj|hj)|⟨hj,hne⟩
   ·have:∃E,Hj=Hi++E:=by
     match cj,hj,fj' with
     | 0,_,fj'=>exact⟨[],by rw[fj'.1];simp⟩
     | 1,_,fj'=>exact⟨[],by rw[fj'.1];simp⟩
     | 2,_,fj'=>exact fj'
     | c+3,hj,_=>omega
    obtain⟨E,rfl⟩:=this
    exact⟨List.getElem?_append_left hlt,by simp;omega⟩
   ·obtain⟨rfl,_⟩:=fj'.rd hj
    exact⟨rfl,hlt⟩
   obtain⟨ob,rfl⟩:=fj'.wr hj
   refine⟨List.getElem?_set_ne ?_,by simpa using hlt⟩
   intro h;rw[h]at hne;simp at hne
  exact⟨Hj,yj',fj',(hl Hj key.1).congr h2,FU.of_rd hr ⟨rfl,key.2,fun H2 h3=>(hl H2 (h3.trans key.1)).congr h2⟩⟩
 obtain⟨ob,rfl⟩:=fi.wr hw
 obtain⟨rfl,hlt,hl⟩:=fj'.rd hr
 have hk:H[blk cj]?=(H.set (blk ci) ob)[blk cj]?:=by
  rw[List.getElem?_set_ne]
  intro h;rw[h]at hne;simp at hne
 exact⟨H,hl H hk,FU.of_rd hr ⟨rfl,by simpa using hlt,fun H2 h3=>hl H2 (h3.trans hk)⟩,yi.congr h2,fi.congr h2⟩
theorem uu{Q:(Nat->PV)->List Ob->Prop}{i:Nat}{oi:Oper}{x:PV}(hi:ops[i]?=some oi):∀(fuel:Nat) (listed:Array Bool) (T:Nat->PV) (H Hi:List Ob),
  (∀j oj,ops[j]?=some oj->j≠i->listed.getD j true=false->(∀e∈oj.after,Region.binds md e=true->e.on≠i)->oi.apart ops oj=true/\kR (cl i) (cl j)=true) ->
  i∈Region.ready md ops listed->YU P B ops oi T H x Hi->FU P B ops (cl i) oi T H x Hi->ug P B md ops cl Q fuel (listed.setIfInBounds i true) (bK oi.dst x T) Hi->ug P B md ops cl Q (fuel+1) listed T H:=by
 intro fuel
 have self:∀(fuel:Nat) (listed:Array Bool) (T:Nat->PV) (H Hi:List Ob),YU P B ops oi T H x Hi->FU P B ops (cl i) oi T H x Hi->ug P B md ops cl Q fuel (listed.setIfInBounds i true) (bK oi.dst x T) Hi->qU P B ops cl i (ug P B md ops cl Q fuel (listed.setIfInBounds i true)) T H:=by
  intro fuel listed T H Hi hy hf h
  unfold qU
  simp only[hi]
  exact⟨x,Hi,hy,hf,h⟩
 induction fuel with
 | zero =>
  intro listed T H Hi _ hr hy hf h
  refine⟨fun h0=>(by rw[h0]at hr;cases hr),fun j hj=>?_⟩
  by_cases hji:j=i
  ·subst hji;exact self 0 listed T H Hi hy hf h
  have:=ready_mono hj hji
  rw[h.1]at this
  cases this
 | succ fuel ih =>
  intro listed T H Hi hfree hr hy hf h
  refine⟨fun h0=>(by rw[h0]at hr;cases hr),fun j hj=>?_⟩
  by_cases hji:j=i
  ·subst hji;exact self (fuel+1) listed T H Hi hy hf h
  have h1:=h.2 j (ready_mono hj hji)
  obtain⟨hjun,oj,hoj,hall⟩:=mem_ready.1 hj
  have hnot:∀e∈oj.after,Region.binds md e=true->e.on≠i:=fun e he hb heq=>by
   have a1:=hall e he hb
   have a0:=(mem_ready.1 hr).1
   rw[heq]at a1
   rcases Nat.lt_or_ge i listed.size with h'|h'
   ·simp[h']at a0 a1;rw[a0]at a1;cases a1
   simp[Array.getElem?_eq_none h']at a1
  obtain⟨hap,hcp⟩:=hfree j oj hoj hji hjun hnot
  obtain⟨l1,l2,l3⟩:=sb hap
  unfold qU at h1 ⊢
  simp only[hoj]at h1 ⊢
  obtain⟨y,Hj,hyj,hfj,hk⟩:=h1
  obtain⟨H',k1,k2,k3,k4⟩:=Q7 hcp (fun t ht=>nv (l1 t ht)) (fun t ht=>nv (l2 t ht)) hy hf hyj hfj
  refine⟨y,H',k1,k2,ih (listed.setIfInBounds j true) _ H' Hj (fun k ok hk hki hun hno=>?_) (ready_mono hr (Ne.symm hji)) k3 k4 ?_⟩
  ·refine hfree k ok hk hki ?_ hno
   by_cases hjk:j=k
   ·subst hjk;exact hjun
   rw[getD_set_ne true hjk]at hun;exact hun
  rw[Array.setIfInBounds_comm _ _ hji,wM _ _ _ l3]
  exact hk
def Fs(md:Region.Mode)(ops:Array Oper)(cl:Nat->Nat)(listed:Array Bool)(i:Nat)(oi:Oper):Bool :=
 ops.toList.zipIdx.all fun q=>Nat.beq q.2 i||listed.getD q.2 true||(q.1.after.any fun e=>Region.binds md e&&Nat.beq e.on i)||(oi.apart ops q.1&&kR (cl i) (cl q.2))
def zt(md:Region.Mode)(ops:Array Oper)(cl:Nat->Nat):List Nat->Array Bool->Bool
 | [],listed=>(Region.ready md ops listed).isEmpty
 | i::l,listed=>(Region.ready md ops listed).contains i&&(match ops[i]? with|some oi=>Fs md ops cl listed i oi|none=>false)&&zt md ops cl l (listed.setIfInBounds i true)
theorem uG{listed:Array Bool}{i:Nat}{oi:Oper}(h:Fs md ops cl listed i oi=true):∀j oj,ops[j]?=some oj->j≠i->listed.getD j true=false->(∀e∈oj.after,Region.binds md e=true->e.on≠i)->oi.apart ops oj=true/\kR (cl i) (cl j)=true:=by
 intro j oj hj hji hun hno
 have h1:=List.all_eq_true.1 h (oj,j) (DP (by rw[Array.getElem?_toList];exact hj))
 simp only[Bool.or_eq_true,Bool.and_eq_true,Nat.beq_eq]at h1
 rcases h1 with ((h1|h1)|h1)|h1
 ·exact absurd h1 hji
 ·rw[hun]at h1;cases h1
 ·obtain⟨e,he,h3⟩:=Array.any_eq_true'.1 h1
  simp only[Bool.and_eq_true,Nat.beq_eq]at h3
  exact absurd h3.2 (hno e he h3.1)
 exact h1
def WU(P:Program)(B:Nat->Nat->Prop)(n:Nat)(ops:Array Oper)(cl:Nat->Nat):List Nat->(Nat->PV)->List Ob->((Nat->PV)->List Ob->Prop)->Prop
 | [],T,H,K=>K T H
 | i::l,T,H,K=>∃o,ops[i]?=some o/\∃x H',YU P B ops o T H x H'/\FU P B ops (cl i) o T H x H'/\WU P B n ops cl l (bK o.dst x T) H' K
theorem sV{Q:(Nat->PV)->List Ob->Prop}:∀(l:List Nat) (listed:Array Bool) (T:Nat->PV) (H:List Ob),zt md ops cl l listed=true->WU P B n ops cl l T H Q->ug P B md ops cl Q l.length listed T H
 | [],listed,T,H,hB,h=>⟨by simpa[zt]using hB,h⟩
 | i::l,listed,T,H,hB,h=>by
  simp only[zt,Bool.and_eq_true]at hB
  obtain⟨⟨hr,hf⟩,hB'⟩:=hB
  obtain⟨o,ho,x,H',hy,hfu,hK⟩:=h
  rw[ho]at hf
  exact uu ho l.length listed T H H' (uG hf) (by simpa using hr) hy hfu (sV l _ _ _ hB' hK)
def Ra(l:List Nat)(i:Nat):Nat:=l.getD i 3
def Gc(md:Region.Mode)(ops:Array Oper)(cl:List Nat)(ord:List Nat):Bool:=Nat.beq ord.length ops.size&&zt md ops (Ra cl) ord (Array.replicate ops.size false)
variable {T : Nat -> PV} {H : List Ob} {Q : Exit -> (Nat -> PV) -> List Ob -> Prop}
theorem az{id:Nat}(cl ord:List Nat)(hm:P.follows .mixedOrders=true)(hall:gh n ops=true)(hB:Gc .any ops cl ord=true)(h:WU P B n ops (Ra cl) ord T H (fun T' H'=>Q .normal T' H')):W P B n (.region id ops true) T H Q:=by
 intro σ w a g
 simp only[Gc,Bool.and_eq_true,Nat.beq_eq]at hB
 refine wp_region_any hm ?_
 have hd:aX w {w with drawn:=w.drawn+1}:=aX.drew w
 obtain⟨s',st⟩:=fH g.sim hd
 have hA:=sV (P:=P) (B:=B) (n:=n) (md:=.any) ord (Array.replicate ops.size false) T H hB.2 h
 rw[hB.1]at hA
 exact fQ (P:=P) (md:=.any) hall (H0:=H) (σ0:=σ) (w0:=w) (Q':=GE B n H σ w Q) (fun T' H' σ' w' a' g' st' hq=>⟨T',H',σ',hq,g',st'⟩) ops.size _ T H σ _ a ⟨s',fun i=>(g.rep i).mono st.le,g.size,g.defers⟩ st hA
variable {o : Oper} {l : List Nat} {i : Nat} {K : (Nat -> PV) -> List Ob -> Prop} {x : PV} {H' : List Ob} {G : List (Nat × TD)} {p : Prop} {d : Option Tmp}
theorem aP(h:K T H):WU P B n ops cl [] T H K:=h
theorem gW(h0:ops[i]?=some o)(hc:cl i=0)(hd:nfD n o.dst=some d)(hw:aq ops T o=some true)(h:∀H2,bI P B o T H2 x H2)(k:WU P B n ops cl l (bK d x T) H K):WU P B n ops cl (i::l) T H K :=
 ⟨o,h0,x,H,.inl ⟨hw,.inl (h H)⟩,by rw[hc];exact⟨rfl,fun H2=>.inl ⟨hw,.inl (h H2)⟩⟩,(cT hd).1▸k⟩
theorem Xc(h0:ops[i]?=some o)(hc:cl i=0)(hd:nfD n o.dst=some d)(hw:aq ops T o=some true)(h:∀H2,jb P B o T H2 x H2)(k:WU P B n ops cl l (bK d x T) H K):WU P B n ops cl (i::l) T H K :=
 ⟨o,h0,x,H,.inl ⟨hw,.inr (h H)⟩,by rw[hc];exact⟨rfl,fun H2=>.inl ⟨hw,.inr (h H2)⟩⟩,(cT hd).1▸k⟩
theorem Xe(hG:dn P G=true)(h0:ops[i]?=some o)(hc:cl i=0)(hd:nfD n o.dst=some d)(hw:aq ops T o=some true)(h:∀H2,evS G T H2 o.type o.op=some (x,H2,p))(hp:p)(k:WU P B n ops cl l (bK d x T) H K):WU P B n ops cl (i::l) T H K :=
 gW h0 hc hd hw (fun H2=>dZ hG rfl (my (h H2)) hp) k
theorem Xi{y:PV}(hG:dn P G=true)(h0:ops[i]?=some o)(hc:cl i=0)(hd:nfD n o.dst=some d)(hw:aq ops T o=some true)(h:∀H2,evS G T H2 o.type o.op=some (x,H2,p))(hp:p)(hi:Imp x y)(k:WU P B n ops cl l (bK d y T) H K):WU P B n ops cl (i::l) T H K :=
 gW h0 hc hd hw (fun H2=>(dZ hG rfl (my (h H2)) hp).imp hi) k
theorem Er(h0:ops[i]?=some o)(hc:Nat.ble (cl i) 3=true)(hd:nfD n o.dst=some d)(hw:aq ops T o=some false)(k:WU P B n ops cl l (bK d (.val undef) T) H K):WU P B n ops cl (i::l) T H K:=by
 refine⟨o,h0,_,H,.inr ⟨hw,rfl,rfl⟩,?_,(cT hd).1▸k⟩
 generalize cl i=q at hc
 match q,hc with
 | 0,_=>exact⟨rfl,fun H2=>.inr ⟨hw,rfl,rfl⟩⟩
 | 1,_=>exact⟨rfl,fun E=>.inr ⟨hw,rfl,rfl⟩⟩
 | 2,_=>exact⟨[],by simp⟩
 | 3,_=>trivial
 | c+4,hc=>rw[Nat.ble_eq]at hc;omega
theorem Xf(hG:dn P G=true)(h0:ops[i]?=some o)(hc:cl i=1)(hd:nfD n o.dst=some d)(hw:aq ops T o=some true)(h:∀E,evS G T (H++E) o.type o.op=some (x,H++E,p))(hp:p)(k:WU P B n ops cl l (bK d x T) H K):WU P B n ops cl (i::l) T H K :=
 ⟨o,h0,x,H,.inl ⟨hw,.inl (by have:=dZ (P:=P) (B:=B) (o:=o) hG rfl (my (h [])) hp;rwa [List.append_nil]at this)⟩,by rw[hc];exact⟨rfl,fun E=>.inl ⟨hw,.inl (dZ hG rfl (my (h E)) hp)⟩⟩,(cT hd).1▸k⟩
theorem uU{E:List Ob}(hG:dn P G=true)(h0:ops[i]?=some o)(hc:cl i=2)(hd:nfD n o.dst=some d)(hw:aq ops T o=some true)(h:evN G T H o.type o.op=some (x,H',p))(hp:p)(hH:H'=H++E)(k:WU P B n ops cl l (bK d x T) H' K):WU P B n ops cl (i::l) T H K :=
 ⟨o,h0,x,H',.inl ⟨hw,.inl (dZ hG rfl (oX h) hp)⟩,by rw[hc];exact⟨E,hH⟩,(cT hd).1▸k⟩
theorem dz(hG:dn P G=true)(h0:ops[i]?=some o)(hc:cl i=3)(hd:nfD n o.dst=some d)(hw:aq ops T o=some true)(h:evN G T H o.type o.op=some (x,H',p))(hp:p)(k:WU P B n ops cl l (bK d x T) H' K):WU P B n ops cl (i::l) T H K :=
 ⟨o,h0,x,H',.inl ⟨hw,.inl (dZ hG rfl (oX h) hp)⟩,by rw[hc];trivial,(cT hd).1▸k⟩
theorem me(h0:ops[i]?=some o)(hc:cl i=3)(hd:nfD n o.dst=some d)(hw:aq ops T o=some true)(h:bI P B o T H x H')(k:WU P B n ops cl l (bK d x T) H' K):WU P B n ops cl (i::l) T H K :=
 ⟨o,h0,x,H',.inl ⟨hw,.inl h⟩,by rw[hc];trivial,(cT hd).1▸k⟩
theorem sk(h0:ops[i]?=some o)(hc:cl i=3)(hd:nfD n o.dst=some d)(hw:aq ops T o=some true)(h:jb P B o T H x H')(k:WU P B n ops cl l (bK d x T) H' K):WU P B n ops cl (i::l) T H K :=
 ⟨o,h0,x,H',.inl ⟨hw,.inr h⟩,by rw[hc];trivial,(cT hd).1▸k⟩
theorem od(d:Nat){b:Bool}(hT:T d=.val (.bool b))(h1:b=true->WU P B n ops cl l (upd d (.val (.bool true)) T) H K)(h2:b=false->WU P B n ops cl l (upd d (.val (.bool false)) T) H K):WU P B n ops cl l T H K:=by
 have e:∀q,b=q->upd d (.val (.bool q)) T=T:=by
  rintro q rfl
  funext i
  by_cases hi:i=d
  ·subst hi;rw[dM,hT]
  rw[cG _ _ _ _ hi]
 cases hb:b with
 | true=>have:=h1 hb;rwa [e true hb]at this
 | false=>have:=h2 hb;rwa [e false hb]at this
theorem Xa(d:Nat){x y:PV}(hT:T d=x)(hxy:x=y)(h1:WU P B n ops cl l (upd d y T) H K):WU P B n ops cl l T H K:=by
 have e:upd d y T=T:=by
  funext i
  by_cases hi:i=d
  ·subst hi;rw[dM,hT,hxy]
  rw[cG _ _ _ _ hi]
 rwa [e]at h1
theorem TX{H':List Ob}(hH:H'=H)(h1:WU P B n ops cl l T H' K):WU P B n ops cl l T H K:=by subst hH;exact h1
theorem FT(b:Nat){ob:Ob}(h0:ops[i]?=some o)(hc:cl i=4+2*b)(hd:nfD n o.dst=some d)(hw:aq ops T o=some true)(hb:H[b]?=some ob)(h:∀H2:List Ob,H2[b]?=some ob->bI P B o T H2 x H2)(k:WU P B n ops cl l (bK d x T) H K):WU P B n ops cl (i::l) T H K:=by
 have hk:blk (4+2*b)=b:=by unfold blk;omega
 exact⟨o,h0,x,H,.inl ⟨hw,.inl (h H hb)⟩,by rw[hc];exact FU.of_rd (by simp only[rdB,Bool.and_eq_true,Nat.ble_eq,Nat.beq_eq];omega) ⟨rfl,by rw[hk];exact cV hb,fun H2 h2=>.inl ⟨hw,.inl (h H2 (by rw[hk,hb]at h2;exact h2))⟩⟩,(cT hd).1▸k⟩
theorem RO(b:Nat){ob:Ob}(hG:dn P G=true)(h0:ops[i]?=some o)(hc:cl i=5+2*b)(hd:nfD n o.dst=some d)(hw:aq ops T o=some true)(h:evN G T H o.type o.op=some (x,H',p))(hp:p)(hH:H'=H.set b ob)(k:WU P B n ops cl l (bK d x T) H' K):WU P B n ops cl (i::l) T H K:=by
 have hk:blk (5+2*b)=b:=by unfold blk;omega
 exact⟨o,h0,x,H',.inl ⟨hw,.inl (dZ hG rfl (oX h) hp)⟩,by rw[hc];exact FU.of_wr (by simp only[wrB,Bool.and_eq_true,Nat.ble_eq,Nat.beq_eq];omega) ⟨ob,by rw[hk];exact hH⟩,(cT hd).1▸k⟩
theorem Zn(b:Nat){ob:Ob}(h0:ops[i]?=some o)(hc:cl i=5+2*b)(hd:nfD n o.dst=some d)(hw:aq ops T o=some true)(h:jb P B o T H x H')(hH:H'=H.set b ob)(k:WU P B n ops cl l (bK d x T) H' K):WU P B n ops cl (i::l) T H K:=by
 have hk:blk (5+2*b)=b:=by unfold blk;omega
 exact⟨o,h0,x,H',.inl ⟨hw,.inr h⟩,by rw[hc];exact FU.of_wr (by simp only[wrB,Bool.and_eq_true,Nat.ble_eq,Nat.beq_eq];omega) ⟨ob,by rw[hk];exact hH⟩,(cT hd).1▸k⟩
end
section
variable {B : Nat -> Nat -> Prop} {n : Nat} {all ops : Array Oper} {cl : Nat -> Nat} {i : Nat} {li : List Nat} {T : Nat -> PV} {H H' : List Ob} {K : (Nat -> PV) -> List Ob -> Prop} {Q : Exit -> (Nat -> PV) -> List Ob -> Prop} {l : List Oper} {o : Oper} {x : PV} {d : Option Tmp} {p : Prop}
theorem z3(k:WU prog B n ops cl li (bK d x T) H K)(h0:ops[i]?=some o:=by exact rfl)(hc:cl i=0:=by exact rfl)(hd:nfD n o.dst=some d:=by exact rfl)(hw:aq ops T o=some true:=by exact rfl)(h:∀H2,evS tys T H2 o.type o.op=some (x,H2,True):=by exact fun _=>rfl):WU prog B n ops cl (i::li) T H K :=
 Xe tG h0 hc hd hw h trivial k
theorem z4(k:WU prog B n ops cl li (bK d x T) H K)(h0:ops[i]?=some o:=by exact rfl)(hc:cl i=0:=by exact rfl)(hd:nfD n o.dst=some d:=by exact rfl)(hw:aq ops T o=some true:=by exact rfl)(h:∀H2,evS tys T H2 o.type o.op=some (x,H2,p):=by exact fun _=>rfl)(q:p):WU prog B n ops cl (i::li) T H K :=
 Xe tG h0 hc hd hw h q k
theorem z5(k:WU prog B n ops cl li (bK d x T) H K)(h0:ops[i]?=some o:=by exact rfl)(hc:cl i=1:=by exact rfl)(hd:nfD n o.dst=some d:=by exact rfl)(hw:aq ops T o=some true:=by exact rfl)(h:∀E,evS tys T (H++E) o.type o.op=some (x,H++E,True):=by exact fun _=>rfl):WU prog B n ops cl (i::li) T H K :=
 Xf tG h0 hc hd hw h trivial k
theorem z7(k:WU prog B n ops cl li (bK d (.val undef) T) H K)(h0:ops[i]?=some o:=by exact rfl)(hc:Nat.ble (cl i) 3=true:=by exact rfl)(hd:nfD n o.dst=some d:=by exact rfl)(hw:aq ops T o=some false:=by exact rfl):WU prog B n ops cl (i::li) T H K :=
 Er h0 hc hd hw k
end
end V
open Go.RowKit
section
variable {P : Program}
def SO(P:Program)(f:FuncId)(args:List PV)(res:Nat->PV)(xs:List PV)(e:TypeId):Prop:=∀H,HC P f args H (res H.length) (H++[.cells xs e])
theorem xR(k:Nat){H1:List Ob}{f:FuncId}{args:List PV}{res:Nat->PV}{xs:List PV}{e:TypeId}(ha:ay args)(hxs:ay xs)(hres:(∃n,∀i,res i=.arw i 0 n)\/∀i,res i=.ptr i 0)
  (hk:H1[k]?=some (.cells xs e)) (h:HC P f args [] (res k) H1):SO P f args res xs e:=by
 intro H B σ w vs s hr
 have s0:=Kv s
 have hr0:au (cx (BoW B σ H) [] σ w) args vs:=dv (c:=cx B H σ w) (c':=cx (BoW B σ H) [] σ w) rfl (fun b off h=>by
  rcases h with h|⟨i,oi,h1,_⟩
  ·exact h
  simp at h1) ha hr
 refine Calls.mono (h (BoW B σ H) σ w vs s0 hr0) ?_
 rintro e' w' ⟨v,σ',rfl,h1,h3,h2⟩
 have g:aX w w':=⟨h2.os,h2.tape,h2.output,h2.size,fun b hb=>h2.block b hb (fun i oi h=>by simp at h)⟩
 obtain⟨b,ws,fr,h4,h5,h6,h7⟩:=h3.holds k _ hk
 have hnew:w.heap.size<=b:=by
  rcases h2.new k _ b hk rfl h4 with h8|⟨j,oj,h8,_⟩
  ·exact h8
  simp at h8
 have wr:∀x off,(cx B (H++[.cells xs e]) (ext σ H.length (some b)) w').Wr x off->(cx (BoW B σ H) H1 σ' w').Wr x off:=by
  rintro x off (h|⟨j,oj,k3,k4,k5⟩)
  ·exact .inl (.inl h)
  rcases fb k3 with ⟨k6,k7⟩|⟨rfl,rfl⟩
  ·rw[bV k6]at k4;exact .inl (.inr ⟨j,oj,k7,k4,k5⟩)
  rw[bx]at k4;cases k4;exact .inr ⟨k,_,hk,h4,trivial⟩
 obtain⟨p,q,hpq,hp⟩:=h7
 obtain⟨s',st⟩:=eS s g (.cells xs e) (some b) (fun b' hb=>by cases hb;exact hnew) ⟨b,ws,fr,by simp only[cx];rw[bx],h5,h6,p,q,hpq,dv (c:=cx (BoW B σ H) H1 σ' w') (c':=cx B (H++[.cells xs e]) (ext σ H.length (some b)) w') rfl wr hxs hp⟩
 refine⟨v,_,rfl,?_,s',st⟩
 rcases hres with ⟨n,hres⟩|hres
 ·rw[hres]at h1 ⊢
  unfold Rep at h1 ⊢
  obtain⟨_,b',cap,k1,k2,k3⟩:=h1
  simp only[cx]at h4 k1
  rw[h4]at k1;cases k1
  exact⟨by simp[cx],b,cap,by simp only[cx];rw[bx],k2,k3⟩
 rw[hres]at h1 ⊢
 unfold Rep at h1 ⊢
 obtain⟨_,b',k1,k2⟩:=h1
 simp only[cx]at h4 k1
 rw[h4]at k1;cases k1
 exact⟨by simp[cx],b,by simp only[cx];rw[bx],k2⟩
theorem zj{f:FuncId}{args:List PV}{res:Nat->PV}{xs:List PV}{e:TypeId}(ha:ay args)(hxs:ay xs)(hres:(∃n,∀i,res i=.arw i 0 n)\/∀i,res i=.ptr i 0)
  (h:HC P f args [] (res 0) [.cells xs e]):SO P f args res xs e:=xR 0 ha hxs hres rfl h
variable {B : Nat -> Nat -> Prop} {H : List Ob} {σ : Nat -> Option Nat} {w : World}
theorem VR(s:Sim B H σ w){i m q:Nat}{xs:List PV}{e:TypeId}(hi:H[i]?=some (.cells xs e))(hq:q<=xs.length){v:Value}(h1:Rep (cx B H σ w) (.arw i 0 m) v):Rep (cx B (H.set i .dead) σ w) (.seq m (xs.take q) .any) v:=by
 obtain⟨s',st⟩:=lx s hi
 unfold Rep at h1
 obtain⟨_,b,cap,hb,hmc,hv⟩:=h1
 obtain⟨b',vs,fr,hb',hg,_,hp⟩:=s.holds i _ hi
 simp only[cx]at hb hb' hg
 rw[hb]at hb'
 cases hb'
 rw[hv]
 unfold Rep
 refine⟨_,cap,vs.take q,rfl,hmc,(fun h=>by cases h),au.mono st.le (hp.take hq),fun b1 hb1=>.inl ?_,trivial⟩
 cases hb1
 refine⟨rfl,fun j' u hu=>⟨?_,?_⟩⟩
 ·rw[List.getElem?_take]at hu
  split at hu
  ·show w.cell? ⟨b,0+j',none⟩=some u
   rw[Nat.zero_add,eH hg];exact hu
  cases hu
 rintro(h2|⟨k,ok,h2,h3,h4⟩)
 ·exact s.sep i b _ hi rfl hb _ h2
 have hlk:ok.live=true:=by cases ok<;>first|rfl|cases h4
 by_cases hki:k=i
 ·subst hki
  rw[List.getElem?_set_self (cV hi)]at h2;cases h2;cases h4
 rw[List.getElem?_set_ne (Ne.symm hki)]at h2
 exact hki (s.inj k i b _ _ h2 hi hlk rfl h3 hb)
theorem XG(s:Sim B H σ w){i j m q p:Nat}{xs zs:List PV}{e t:TypeId}(hij:i≠j)(hi:H[i]?=some (.cells xs e))(hj:H[j]?=some (.cells zs t))(hp:zs[p]?=some (.arw i 0 m))(hq:q<=xs.length):
  Sim B ((H.set i .dead).set j (.cells (zs.set p (.seq m (xs.take q) .any)) t)) σ w/\dK B H σ w ((H.set i .dead).set j (.cells (zs.set p (.seq m (xs.take q) .any)) t)) σ w:=by
 obtain⟨s1,st1⟩:=lx s hi
 obtain⟨b,vs,fr,hb,hg,hf,p1,p2,hv,hr⟩:=s.holds j _ hj
 obtain⟨u,hu,h1⟩:=hr.get hp
 have h2:=VR s hi hq h1
 have h3:sa (cx B (H.set i .dead) σ w) (zs.set p (.seq m (xs.take q) .any)) vs:=by
  refine⟨p1,p2,hv,?_⟩
  have:=au.set p (au.mono st1.le hr) h2
  have e:p1.set p u=p1:=by
   apply List.ext_getElem?
   intro k
   rw[List.getElem?_set]
   split
   ·rename_i hk;subst hk;split
    ·exact hu.symm
    rename_i hl;rw[List.getElem?_eq_none (by omega)]
   rfl
  rwa [e]at this
 have hj1:(H.set i .dead)[j]?=some (.cells zs t):=by rw[List.getElem?_set_ne hij];exact hj
 obtain⟨s2,st2⟩:=lr s1 hj1 hb hg hf rfl h3
 rw[setRow_self w b vs.toArray t fr hg]at s2 st2
 exact⟨s2,st1.trans st2⟩
theorem aC3{c:Cx}{zs ys:List PV}{vs:List Value}(h:rU zs ys)(k:sa c zs vs):sa c ys vs:=by
 obtain⟨p,q,h1,h2⟩:=k
 exact⟨p,q,h1,pa h h2⟩
theorem obW(s:Sim B H σ w){j:Nat}{zs ys:List PV}{t:TypeId}(hj:H[j]?=some (.cells zs t))(h:rU zs ys):Sim B (H.set j (.cells ys t)) σ w/\dK B H σ w (H.set j (.cells ys t)) σ w:=by
 obtain⟨b,vs,fr,hb,hg,hf,hp⟩:=s.holds j _ hj
 have:=lr s hj hb hg hf rfl (aC3 h hp)
 rwa [setRow_self w b vs.toArray t fr hg]at this
theorem u4{n:Nat}{T:Nat->PV}{all:Array Oper}{l:List Oper}{K:(Nat->PV)->List Ob->Prop}(j:Nat){zs ys:List PV}{t:TypeId}{H':List Ob}(hj:H[j]?=some (.cells zs t)){us:List PV}(hz:Ow zs=some us)(e:us=ys)(hH:nfH (H.set j (.cells ys t))=some H')(h1:WO P B n all l T H' K):WO P B n all l T H K:=by
 rw[sJ hH]at h1
 subst e
 intro hall σ w a g
 obtain⟨s',st⟩:=obW g.sim hj (vA hz)
 exact fV (fun _ _ _ h=>gQ st (fun _ _ _ h=>h) h) _ _ _ (h1 hall σ w a ⟨s',fun i=>(g.rep i).mono st.le,g.size,g.defers⟩)
def FzQ(Q:Exit->(Nat->PV)->List Ob->Prop):Exit->(Nat->PV)->List Ob->Prop:=fun e T H=>∃(i j p m q:Nat) (xs zs:List PV) (ee t:TypeId),
 i≠j/\H[i]?=some (.cells xs ee)/\H[j]?=some (.cells zs t)/\zs[p]?=some (.arw i 0 m)/\q<=xs.length/\Q e T ((H.set i .dead).set j (.cells (zs.set p (.seq m (xs.take q) .any)) t))
theorem as8{n:Nat}{T:Nat->PV}{c:Code}{Q:Exit->(Nat->PV)->List Ob->Prop}(h:W P B n c T H (FzQ Q)):W P B n c T H Q:=by
 intro σ w a g
 refine wp_mono (h σ w a g) ?_
 rintro e a' w' ⟨T',H',σ',⟨i,j,p,m,q,xs,zs,ee,t,h1,h2,h3,h4,h5,h6⟩,g',st⟩
 obtain⟨s',st'⟩:=XG g'.sim h1 h2 h3 h4 h5
 exact⟨T',_,σ',h6,⟨s',fun i=>(g'.rep i).mono st'.le,g'.size,g'.defers⟩,st.trans st'⟩
end
open Go.RowKit
theorem AB(l:List aR)(hl:l.length<=1000000):ab prog 94 [sq cS l] (sqc cS l):=by
 refine bw tG (rs:=[.tmp 2]) func94 rfl rfl rfl (by(simp;done)) (by exact kU (fun x=>by simp) _) (fun B=>?_)
 refine zu1 ?_
 refine zp5 ?_
 refine z2 ?_ (q:=(by(simp_all;done)))
 refine Wa 8 rfl (cK cS 3 (fun _=>rfl) (by omega)) ?_
 refine zs1 ?_
 refine Wq ?_
 exact nY rfl (by simp[sqc];rfl)
theorem AP(l:List sd)(hl:l.length<=1000000):ab prog 215 [sq sS l] (sqc sS l):=by
 refine bw tG (rs:=[.tmp 2]) func215 rfl rfl rfl (by(simp;done)) (by exact kU (fun x=>by simp) _) (fun B=>?_)
 refine zu1 ?_
 refine zp5 ?_
 refine z2 ?_ (q:=(by(simp_all;done)))
 refine Wa 8 rfl (cK sS 4 (fun _=>rfl) (by omega)) ?_
 refine zs1 ?_
 refine Wq ?_
 exact nY rfl (by simp[sqc];rfl)
theorem P8(l:List aR)(h0:0<l.length)(hl:l.length<=1000000):HC prog 261 [sq cS l] [] (.arw 0 0 l.length) [.cells (l.flatMap cS) 61]:=by
 refine mi tG (rs:=[.tmp 2]) func261 rfl rfl rfl (fun B=>?_)
 refine zu1 ?_
 refine Ws<|zp1 ?_
 refine wA (lO tG rfl) rfl rfl rfl rfl rfl (fun bn1 hn1=>?_)
 refine Wn<|Wi rfl (fun hi1=>?_) (fun hi1=>?_)
 ·exact absurd (hn1 hi1).1 (by omega)
 refine Wj<|zp2 ?_
 refine Wd rfl rfl (oN (lO tG rfl) rfl (lO tG rfl) (lO tG rfl) rfl rfl ⟨_,rfl⟩ ⟨rfl,rfl,al _ 3 (fun _=>rfl) _,bD _ (fun _=>rfl) _⟩ rfl (by dsimp only;omega) (by omega) (by omega)) ?_
 refine Wa 7 rfl (show PV.arw 0 0 (0+l.length)=.arw 0 0 l.length by rw[Nat.zero_add]) ?_
 refine zs1 ?_
 refine Wq<|Af rfl ?_ ?_
 ·rfl
 rfl
theorem Ml(l:List aR)(h0:0<l.length)(hl:l.length<=1000000):SO prog 261 [sq cS l] (fun i=>.arw i 0 l.length) (l.flatMap cS) 61 :=
 zj (by simp) (bt (fun x=>by simp) _) (.inl ⟨_,fun _=>rfl⟩) (P8 l h0 hl)
theorem OY{s:Str}{k:Nat}(hk:k<s.length)(h:¬32<(s.getD k 0).toNat):s.all (fun c=>decide (32<c.toNat))=false:=by
 rw[<-Bool.not_eq_true,List.all_eq_true]
 intro q
 have:=q (s.getD k 0) (by rw[List.getD_eq_getElem?_getD,List.getElem?_eq_getElem hk];exact List.getElem_mem hk)
 exact h (oT this)
theorem MQ{s:Str}(h:∀k,k<s.length->32<(s.getD k 0).toNat):s.all (fun c=>decide (32<c.toNat))=true:=by
 rw[List.all_eq_true]
 intro x hx
 obtain⟨k,hk,rfl⟩:=List.getElem_of_mem hx
 have:=h k hk
 rw[List.getD_eq_getElem?_getD,List.getElem?_eq_getElem hk]at this
 exact decide_eq_true this
theorem IT(s:Str)(hs:s.length<=1000000):ab prog 357 [str s] (i64 (eW s)):=by
 refine zY func357 fun B=>?_
 refine zu1 ?_
 refine Ws<|Wl<|zp2 ?_
 refine zq 7 ?_
 refine zs1 ?_
 refine Wi rfl (fun hi1=>?_) (fun hi1=>?_)
 ·have q1:s.length=0:=by rw[oT hi1];rfl
  refine zu1 ?_
  refine zR ?_
  (rw[eW,if_pos q1];rfl)
 have q1:¬s.length=0:=fun h=>oF hi1 (List.eq_nil_of_length_eq_zero h)
 refine zp2 ?_
 refine Wa 10 rfl (gl _) ?_
 refine zs2 ?_
 refine Wi rfl (fun hi2=>?_) (fun hi2=>?_)
 ·have q2:31<s.length:=by have:=oT hi2;omega
  refine zu1 ?_
  refine zR ?_
  (rw[eW,if_neg q1,if_pos q2];rfl)
 have q2:¬31<s.length:=by have:=oF hi2;omega
 refine Wj<|Ws<|zp2 ?_
 refine Wa 13 rfl (wH _) ?_
 refine zs2 ?_
 refine Wl ?_
 show W _ _ _ _ _ _ _
 refine fX (fun(k:Nat)=>[(13,sq aK s),(14,i64 s.length),(15,i64 k)]) (fun(k:Nat)=>[]) (fun(k:Nat)=>[]) (fun(k:Nat)=>k<=s.length/\∀j,j<k->32<(s.getD j 0).toNat) (fun(k:Nat)=>s.length-k) (0) (by exact⟨Nat.zero_le _,fun j hj=>absurd hj (Nat.not_lt_zero _)⟩) [] ?_ ?_
 ·exact fc
 intro k hk
 refine zu1 ?_
 refine Ws<|Wi rfl (fun hi3=>?_) (fun hi3=>?_)
 ·have hlt:k<s.length:=by have:=oT hi3;omega
  refine Wj<|Ws<|Wl<|z8 ?_
  refine Wv tG rfl rfl rfl (by omega) (iN aK 1 (fun _=>rfl) 0 (by omega)) ?_
  refine zs2 ?_
  refine zu2 ?_
  refine Wi rfl (fun hi4=>?_) (fun hi4=>?_)
  ·have q4:¬32<(s.getD k 0).toNat:=by have:=oT hi4;omega
   refine zu1 ?_
   refine zR ?_
   (rw[eW,if_neg q1,if_neg q2,OY hlt q4];rfl)
  have q4:32<(s.getD k 0).toNat:=by have:=oF hi4;omega
  refine Wj<|aa rfl ?_
  refine zs2 ?_
  exact⟨k+1,[],(by exact⟨hlt,fun j hj=>by rcases Nat.lt_succ_iff_lt_or_eq.1 hj with h|h;exact hk.2 j h;rw[h];exact q4⟩),(by omega),fc⟩
 have hge:s.length<=k:=by have:=oF hi3;omega
 refine bf ?_
 refine zu1 ?_
 refine zR ?_
 (rw[eW,if_neg q1,if_neg q2,MQ (fun j hj=>hk.2 j (by omega))];rfl)
theorem vc(n:Int)(h0:0<=n)(h7:n<=7):ab prog 260 [i64 n] (boo true):=by
 refine zY func260 fun B=>?_
 refine zu1 ?_
 refine zu4 ?_
 refine zR ?_
 exact congrArg boo (by rcases qN h0 h7 with rfl|rfl|rfl|rfl|rfl|rfl|rfl|rfl<;>decide)
def cz(l:List aR)(name:Str)(xt flags limit:Int):List aR×Int :=
 if eW name≠0 then(l,eW name)else if (if 1024<limit then 1024 else limit)<=(l.length:Int)then(l,-8)else(l++[⟨name,xt,flags⟩],0)
theorem O3(l:List aR)(name:Str)(xt flags limit:Int)(hl:l.length<=100000)(hn:name.length<=1000000)(h0:0<=flags)(h7:flags<=7):ab prog 270 [sq cS l,str name,i64 xt,i64 flags,i64 limit] (ic (sq cS (cz l name xt flags limit).1) (i64 (cz l name xt flags limit).2)):=by
 refine zY func270 fun B=>?_
 refine zu2 ?_
 refine Ws<|zp1 ?_
 refine zc rfl func357 ((IT name hn) _) ?_
 refine zs1 ?_
 refine zu2 ?_
 refine Wi rfl (fun hi1=>?_) (fun hi1=>?_)
 ·have q1:eW name≠0:=by simpa using hi1
  refine zu4 ?_
  refine zR ?_
  (rw[cz,if_pos q1];rfl)
 have q1:¬eW name≠0:=by simpa using hi1
 refine Wj<|Ws<|Wl<|zp1 ?_
 refine zc rfl func260 ((vc flags h0 h7) _) ?_
 refine zs2 ?_
 refine Wf rfl (by rfl) ?_
 refine zp5 ?_
 refine zs1 ?_
 refine Wi rfl (fun hi3=>?_) (fun hi3=>?_)
 ·have q3:(if 1024<limit then 1024 else limit)<=(l.length:Int):=oT hi3
  refine zu3 ?_
  refine zR ?_
  (rw[cz,if_neg q1,if_pos q3];rfl)
 have q3:¬(if 1024<limit then 1024 else limit)<=(l.length:Int):=oF hi3
 refine Wj<|zp1 ?_
 refine zc rfl func94 ((AB l (by omega)) _) ?_
 refine zy5 ?_
 refine Wa 37 rfl ((show _=PV.seq (List.length [(⟨name,xt,flags⟩:aR)]) (List.flatMap cS [(⟨name,xt,flags⟩:aR)]) .clip from rfl)) ?_
 refine Wd rfl rfl (cb (lO tG rfl) rfl (lO tG rfl) (lO tG rfl) rfl rfl (by exact⟨_,rfl⟩) (by exact⟨rfl,rfl,al _ 3 (fun _=>rfl) _,bD _ (fun _=>rfl) _⟩) (by exact al _ 3 (fun _=>rfl) _) (by((simp_all;omega))) (by((simp_all;omega)))) ?_
 refine Wa 38 rfl (cw cS) ?_
 refine zs2 ?_
 refine zR ?_
 (rw[cz,if_neg q1,if_neg q3];rfl)
def iH(l:List aR)(n:Int):List aR×Int:=if n<0\/(l.length:Int)<n then(l,-24)else(l.take n.toNat,0)
theorem Ib(l:List aR)(n:Int)(hl:l.length<=1000000):ab prog 53 [sq cS l,i64 n] (ic (sq cS (iH l n).1) (i64 (iH l n).2)):=by
 refine zY func53 fun B=>?_
 refine zu2 ?_
 refine Ws<|zp3 ?_
 refine Wb 8 rfl (fun hg1=>?_) (fun hg1=>?_)
 ·have q:n<0\/(l.length:Int)<n:=.inl (oT hg1)
  iterate 4 refine z6 ?_
  refine zs1 ?_
  refine Wt rfl rfl ?_
  refine zu3 ?_
  refine zR ?_
  (rw[iH,if_pos q];rfl)
 refine zs5 ?_
 refine Wi rfl (fun hi1=>?_) (fun hi1=>?_)
 ·have q:n<0\/(l.length:Int)<n:=by(try simp only[dnL]at *);omega
  refine zu3 ?_
  refine zR ?_
  (rw[iH,if_pos q];rfl)
 have q:¬(n<0\/(l.length:Int)<n):=by(try simp only[dnL]at *);omega
 have hc:=AB (l.take n.toNat) (by simp;omega)
 have ht:sq cS ((l.take n.toNat).drop 0)=sq cS (l.take n.toNat):=by rw[List.drop_zero]
 refine Wj<|zp2 ?_
 refine z2 ?_ (q:=(by(simp_all;done)))
 refine Wa 17 rfl (cK cS 3 (fun _=>rfl) (by omega)) ?_
 refine Wa 17 rfl (ht) ?_
 refine zc rfl func94 ((hc) _) ?_
 refine zs2 ?_
 refine zR ?_
 (rw[iH,if_neg q];rfl)
theorem CX:∀{l:List aR} {i:Nat},i<l.length->∀n:Int,cy (l.flatMap cS) (i*3+2) [i64 n]=(l.set i {l.getD i default with flags:=n}).flatMap cS
 | x::l,0,_,n=>by simp[cy,cS,List.flatMap_cons]
 | x::l,i+1,h,n=>by
  have ih:=CX (l:=l) (i:=i) (by simpa using h) n
  have e:∀r:List PV,cy (cS x++r) ((i+1)*3+2) [i64 n]=cS x++cy r (i*3+2) [i64 n]:=by
   intro r
   unfold cy
   have h1:(cS x).length=3:=rfl
   rw[List.take_append,List.drop_append,h1,List.take_of_length_le (by omega),List.drop_of_length_le (by rw[h1];simp),show(i+1)*3+2-3=i*3+2 by omega,show(i+1)*3+2+[i64 n].length-3=i*3+2+[i64 n].length by omega]
   simp
  rw[List.flatMap_cons,e,ih]
  rfl
 | [],i,h,n=>by simp at h
def cE(l:List aR)(a f:Int):List aR×Int:=if a<0\/(l.length:Int)<=a then(l,-24)else(l.set a.toNat {l.getD a.toNat default with flags:=f},0)
theorem C8(l:List aR)(a f:Int)(hl:l.length<=1000000)(h0:0<=f)(h7:f<=7):ab prog 214 [sq cS l,i64 a,i64 f] (ic (sq cS (cE l a f).1) (i64 (cE l a f).2)):=by
 refine zY func214 fun B=>?_
 refine zu2 ?_
 refine Ws<|zp3 ?_
 refine Wb 10 rfl (fun hg1=>?_) (fun hg1=>?_)
 ·have q:a<0\/(l.length:Int)<=a:=.inl (oT hg1)
  iterate 4 refine z6 ?_
  refine zy2 ?_
  iterate 3 refine z6 ?_
  refine zs1 ?_
  refine Wt rfl rfl ?_
  refine zu3 ?_
  refine zR ?_
  (rw[cE,if_pos q];rfl)
 refine zy5 ?_
 refine z1 ?_
 refine Wb 16 rfl (fun hg2=>?_) (fun hg2=>?_)
 ·have q:a<0\/(l.length:Int)<=a:=by(try simp only[dnL]at *);omega
  iterate 3 refine z6 ?_
  refine zs1 ?_
  refine Wt rfl rfl ?_
  refine zu3 ?_
  refine zR ?_
  (rw[cE,if_pos q];rfl)
 have q:¬(a<0\/(l.length:Int)<=a):=by(try simp only[dnL]at *);omega
 have hp:0<l.length:=by omega
 obtain⟨k,hk⟩:∃k:Nat,a=(k:Int):=⟨a.toNat,by omega⟩
 subst hk
 refine z1 ?_
 refine zc rfl func260 ((vc f h0 h7) _) ?_
 refine zs2 ?_
 refine Wf rfl (by rfl) ?_
 refine Wj<|zp1 ?_
 refine zc rfl func261 (Ml l hp hl _) ?_
 refine Wa 23 rfl ((show PV.arw (List.length ([]:List Ob)) 0 l.length=.arw 0 0 l.length from rfl)) ?_
 refine zs1 ?_
 refine zp3 ?_
 refine z2 ?_ (q:=(by omega))
 refine z1 ?_
 refine Wd rfl rfl (bL (lO tG rfl) rfl rfl rfl rfl rfl rfl (by rw[Nat.ble_eq,al cS 3 (fun _=>rfl)];dsimp only;rw[Int.toNat_natCast];simp;omega)) ?_
 refine jx (H':=[.cells ((l.set k {l.getD k default with flags:=f}).flatMap cS) 61]) (by rw[<-CX (by omega)];dsimp only;rw[Int.toNat_natCast,Nat.zero_add];rfl) ?_
 refine Wn<|zp1 ?_
 refine pY 29 0 l.length (l.length*3) rfl rfl (by rw[al cS 3 (fun _=>rfl),List.length_set];exact Nat.le_refl _) ?_
 refine zs2 ?_
 refine zR ?_
 (rw[cE,if_neg q,List.take_of_length_le (by rw[al cS 3 (fun _=>rfl),List.length_set];exact Nat.le_refl _)];show PV.tup _=PV.tup [PV.seq _ _ _,_];rw[List.length_set];rfl)
def dF(s:Str)(a:Int):Nat:=if a<0\/(s.length:Int)<a then s.length else a.toNat
theorem E0(s:Str)(a:Int):dF s a<=s.length:=by unfold dF;split<;>omega
theorem Hu(s:Str)(a:Int)(hs:s.length<=9223372036854775807):ab prog 63 [str s,i64 a] (i64 (dF s a)):=by
 refine zY func63 fun B=>?_
 refine zu1 ?_
 refine Ws<|zp3 ?_
 refine Wb 7 rfl (fun hg1=>?_) (fun hg1=>?_)
 ·have q:a<0\/(s.length:Int)<a:=.inl (oT hg1)
  iterate 4 refine z6 ?_
  refine zs1 ?_
  refine Wt rfl rfl ?_
  refine zp2 ?_
  refine Wa 14 rfl (gl _) ?_
  refine zs1 ?_
  refine zR ?_
  (unfold dF;rw[if_pos q];rfl)
 refine zy3 ?_
 refine Wa 10 rfl (gl _) ?_
 refine zs2 ?_
 refine Wi rfl (fun hi1=>?_) (fun hi1=>?_)
 ·have q:a<0\/(s.length:Int)<a:=by(try simp only[dnL]at *);omega
  refine zp2 ?_
  refine Wa 14 rfl (gl _) ?_
  refine zs1 ?_
  refine zR ?_
  (unfold dF;rw[if_pos q];rfl)
 have q:¬(a<0\/(s.length:Int)<a):=by(try simp only[dnL]at *);omega
 refine Wj<|zu2 ?_
 refine zR ?_
 (unfold dF;rw[if_neg q];exact congrArg i64 (by omega))
def xX(s:Str):Nat->Nat->Nat
 | 0,k=>k
 | m+1,k=>if k<s.length/\((s.getD k 0).toNat:Int)<=32 then xX s m (k+1)else k
def Il(s:Str):Nat->Nat->Nat
 | 0,k=>k
 | m+1,k=>if k<s.length/\32<((s.getD k 0).toNat:Int)then Il s m (k+1)else k
def lf(s:Str)(k:Nat):Nat:=xX s (s.length-k) k
def nP(s:Str)(k:Nat):Nat:=Il s (s.length-k) k
theorem Ql{s:Str}{k:Nat}(h:k<s.length)(q:((s.getD k 0).toNat:Int)<=32):lf s k=lf s (k+1):=by
 unfold lf
 rw[show s.length-k=(s.length-(k+1))+1 by omega,xX,if_pos ⟨h,q⟩]
theorem DZ{s:Str}{k:Nat}(q:¬(k<s.length/\((s.getD k 0).toNat:Int)<=32)):lf s k=k:=by
 unfold lf
 cases s.length-k with
 | zero=>rfl
 | succ m=>rw[xX,if_neg q]
theorem Tf{s:Str}{k:Nat}(h:k<s.length)(q:32<((s.getD k 0).toNat:Int)):nP s k=nP s (k+1):=by
 unfold nP
 rw[show s.length-k=(s.length-(k+1))+1 by omega,Il,if_pos ⟨h,q⟩]
theorem Az{s:Str}{k:Nat}(q:¬(k<s.length/\32<((s.getD k 0).toNat:Int))):nP s k=k:=by
 unfold nP
 cases s.length-k with
 | zero=>rfl
 | succ m=>rw[Il,if_neg q]
theorem Ak(s:Str):∀(m k:Nat),k<=s.length->k<=xX s m k/\xX s m k<=s.length
 | 0,k,h=>⟨Nat.le_refl _,h⟩
 | m+1,k,h=>by
  rw[xX]
  split
  ·rename_i q;have:=Ak s m (k+1) (by omega);omega
  omega
theorem Do(s:Str):∀(m k:Nat),k<=s.length->k<=Il s m k/\Il s m k<=s.length
 | 0,k,h=>⟨Nat.le_refl _,h⟩
 | m+1,k,h=>by
  rw[Il]
  split
  ·rename_i q;have:=Do s m (k+1) (by omega);omega
  omega
def bC(s:Str)(a:Int):Str×Int :=
 let b:=lf s (dF s a)
 let e:=nP s b
 ((s.take e).drop b,min ((e:Int)+1) s.length)
theorem Gy(s:Str)(a:Int)(hs:s.length<=1000000):ab prog 36 [str s,i64 a] (ic (str (bC s a).1) (i64 (bC s a).2)):=by
 have hf:=E0 s a
 obtain⟨b,hb⟩:∃b,lf s (dF s a)=b:=⟨_,rfl⟩
 obtain⟨e,he⟩:∃e,nP s b=e:=⟨_,rfl⟩
 have hb1:=Ak s (s.length-dF s a) (dF s a) hf
 have hb2:xX s (s.length-dF s a) (dF s a)=b:=hb
 rw[hb2]at hb1
 have he1:=Do s (s.length-b) b hb1.2
 have he2:Il s (s.length-b) b=e:=he
 rw[he2]at he1
 have hE:bC s a=((s.take e).drop b,min ((e:Int)+1) s.length):=by unfold bC;dsimp only;rw[hb,he]
 have hw:(if (s.length:Int)<IntKind.i64.wrap ((e:Int)+1)then(s.length:Int)else IntKind.i64.wrap ((e:Int)+1))=min ((e:Int)+1) s.length:=by
  rw[gE (by omega) (by omega)];split<;>omega
 rw[hE]
 refine zY func36 fun B=>?_
 refine zu2 ?_
 refine zp2 ?_
 refine zc rfl func63 ((Hu s a (by omega)) _) ?_
 refine zs1 ?_
 refine Ws<|Wl ?_
 show W _ _ _ _ _ _ _
 refine fX (fun(k:Nat)=>[(0,str s),(1,i64 k)]) (fun(k:Nat)=>[]) (fun(k:Nat)=>[]) (fun(k:Nat)=>k<=s.length/\lf s k=b) (fun(k:Nat)=>s.length-k) (dF s a) (by exact⟨hf,hb⟩) [] ?_ ?_
 ·exact fc
 intro k hk
 refine Ws<|zp3 ?_
 refine Wa 12 rfl (gl _) ?_
 refine zy2 ?_
 refine Wb 14 rfl (fun hg1=>?_) (fun hg1=>?_)
 ·have hlt:k<s.length:=by have:=oT hg1;omega
  refine zy2 ?_
  refine z2 ?_ (q:=(by simp only[dX];omega))
  refine Wa 17 rfl (s7 _ _) ?_
  refine zs2 ?_
  refine Wi rfl (fun hi1=>?_) (fun hi1=>?_)
  ·have q:((s.getD k 0).toNat:Int)<=32:=oT hi1
   refine Wj<|Wl<|aa rfl ?_
   refine zs3 ?_
   exact⟨k+1,[],(by exact⟨hlt,(Ql hlt q).symm.trans hk.2⟩),(by omega),fc⟩
  have q:¬(k<s.length/\((s.getD k 0).toNat:Int)<=32):=fun h=>oF hi1 h.2
  obtain rfl:b=k:=((DZ q).symm.trans hk.2).symm
  refine bf ?_
  refine zu2 ?_
  refine Ws<|Wl ?_
  show W _ _ _ _ _ _ _
  refine fX (fun(j:Nat)=>[(0,str s),(1,i64 b),(6,i64 j)]) (fun(j:Nat)=>[]) (fun(j:Nat)=>[]) (fun(j:Nat)=>j<=s.length/\nP s j=e) (fun(j:Nat)=>s.length-j) (b) (by exact⟨hb1.2,he⟩) [] ?_ ?_
  ·exact fc
  intro j hj
  refine Ws<|zp3 ?_
  refine Wa 25 rfl (gl _) ?_
  refine zy2 ?_
  refine Wb 27 rfl (fun hg2=>?_) (fun hg2=>?_)
  ·have hlt:j<s.length:=by have:=oT hg2;omega
   refine zy2 ?_
   refine z2 ?_ (q:=(by simp only[dX];omega))
   refine Wa 30 rfl (s7 _ _) ?_
   refine zs2 ?_
   refine Wi rfl (fun hi2=>?_) (fun hi2=>?_)
   ·have q:32<((s.getD j 0).toNat:Int):=oT hi2
    refine Wj<|Wl<|aa rfl ?_
    refine zs3 ?_
    exact⟨j+1,[],(by exact⟨hlt,(Tf hlt q).symm.trans hj.2⟩),(by omega),fc⟩
   have q:¬(j<s.length/\32<((s.getD j 0).toNat:Int)):=fun h=>oF hi2 h.2
   obtain rfl:e=j:=((Az q).symm.trans hj.2).symm
   refine bf ?_
   refine zp3 ?_
   refine z2 ?_ (q:=(by simp only[dX];omega))
   refine Wa 38 rfl (iW _ _ _) ?_
   refine zy4 ?_
   refine Wa 42 rfl (gl _) ?_
   refine zs3 ?_
   refine zR ?_
   rw[hw,Int.toNat_natCast,Int.toNat_natCast];rfl
  have hge:¬(j<s.length/\32<((s.getD j 0).toNat:Int)):=fun h=>by have:=oF hg2;omega
  obtain rfl:e=j:=((Az hge).symm.trans hj.2).symm
  iterate 4 refine z6 ?_
  refine zs1 ?_
  refine Wf rfl rfl ?_
  refine bf ?_
  refine zp3 ?_
  refine z2 ?_ (q:=(by simp only[dX];omega))
  refine Wa 38 rfl (iW _ _ _) ?_
  refine zy4 ?_
  refine Wa 42 rfl (gl _) ?_
  refine zs3 ?_
  refine zR ?_
  rw[hw,Int.toNat_natCast,Int.toNat_natCast];rfl
 have hge:¬(k<s.length/\((s.getD k 0).toNat:Int)<=32):=fun h=>by have:=oF hg1;omega
 obtain rfl:b=k:=((DZ hge).symm.trans hk.2).symm
 iterate 4 refine z6 ?_
 refine zs1 ?_
 refine Wf rfl rfl ?_
 refine bf ?_
 refine zu2 ?_
 refine Ws<|Wl ?_
 show W _ _ _ _ _ _ _
 refine fX (fun(j:Nat)=>[(0,str s),(1,i64 b),(6,i64 j)]) (fun(j:Nat)=>[]) (fun(j:Nat)=>[]) (fun(j:Nat)=>j<=s.length/\nP s j=e) (fun(j:Nat)=>s.length-j) (b) (by exact⟨hb1.2,he⟩) [] ?_ ?_
 ·exact fc
 intro j hj
 refine Ws<|zp3 ?_
 refine Wa 25 rfl (gl _) ?_
 refine zy2 ?_
 refine Wb 27 rfl (fun hg2=>?_) (fun hg2=>?_)
 ·have hlt:j<s.length:=by have:=oT hg2;omega
  refine zy2 ?_
  refine z2 ?_ (q:=(by simp only[dX];omega))
  refine Wa 30 rfl (s7 _ _) ?_
  refine zs2 ?_
  refine Wi rfl (fun hi2=>?_) (fun hi2=>?_)
  ·have q:32<((s.getD j 0).toNat:Int):=oT hi2
   refine Wj<|Wl<|aa rfl ?_
   refine zs3 ?_
   exact⟨j+1,[],(by exact⟨hlt,(Tf hlt q).symm.trans hj.2⟩),(by omega),fc⟩
  have q:¬(j<s.length/\32<((s.getD j 0).toNat:Int)):=fun h=>oF hi2 h.2
  obtain rfl:e=j:=((Az q).symm.trans hj.2).symm
  refine bf ?_
  refine zp3 ?_
  refine z2 ?_ (q:=(by simp only[dX];omega))
  refine Wa 38 rfl (iW _ _ _) ?_
  refine zy4 ?_
  refine Wa 42 rfl (gl _) ?_
  refine zs3 ?_
  refine zR ?_
  rw[hw,Int.toNat_natCast,Int.toNat_natCast];rfl
 have hge:¬(j<s.length/\32<((s.getD j 0).toNat:Int)):=fun h=>by have:=oF hg2;omega
 obtain rfl:e=j:=((Az hge).symm.trans hj.2).symm
 iterate 4 refine z6 ?_
 refine zs1 ?_
 refine Wf rfl rfl ?_
 refine bf ?_
 refine zp3 ?_
 refine z2 ?_ (q:=(by simp only[dX];omega))
 refine Wa 38 rfl (iW _ _ _) ?_
 refine zy4 ?_
 refine Wa 42 rfl (gl _) ?_
 refine zs3 ?_
 refine zR ?_
 rw[hw,Int.toNat_natCast,Int.toNat_natCast];rfl
theorem A8(s:Str)(c:UInt8):ab prog 262 [str s,.val (.int .u8 (c.toNat:Int))] (i64 (Lib.indexByte s c)) :=
 dT (args:=[.string ⟨s.toArray⟩,.int .u8 (c.toNat:Int)]) (v:=.int .i64 (Lib.indexByte s c)) (fun c=>ar _ _)
  fun W=>Calls.mono (Tryz.strings_IndexByte ⟨s.toArray⟩ (c.toNat:Int) W) fun _ _ q=>⟨by rw[q.1];simp,by rw[q.2];exact aX.refl _⟩
theorem AQ:∀(l:List UInt8) (c:UInt8),Lib.indexByte l c<l.length\/(Lib.indexByte l c = -1)
 | [],c=>.inr rfl
 | b::l,c=>by
  unfold Lib.indexByte
  have h:=AQ l c
  split
  ·left;rw[List.length_cons];omega
  split
  ·exact .inr rfl
  rename_i q;left;rw[List.length_cons]
  rcases h with h|h
  ·omega
  rw[h]at q;exact absurd rfl q
def ld(s:Str)(a:Int)(c:UInt8):Str×Int×Bool :=
 let b:=dF s a
 let n:=Lib.indexByte (s.drop b) c
 if n<0 then(s.drop b,s.length,false)else((s.take (b+n.toNat)).drop b,b+n+1,true)
theorem af0{s:Str}{a:Int}{c:UInt8}(h:Lib.indexByte (s.drop (dF s a)) c<0):ld s a c=(s.drop (dF s a),(s.length:Int),false):=by unfold ld;dsimp only;rw[if_pos h]
theorem ad6{s:Str}{a:Int}{c:UInt8}(h:¬Lib.indexByte (s.drop (dF s a)) c<0):ld s a c=((s.take (dF s a+(Lib.indexByte (s.drop (dF s a)) c).toNat)).drop (dF s a),(dF s a:Int)+Lib.indexByte (s.drop (dF s a)) c+1,true):=by unfold ld;dsimp only;rw[if_neg h]
theorem Q8(s:Str)(a:Int)(c:UInt8)(hs:s.length<=1000000):ab prog 219 [str s,i64 a,.val (.int .u8 (c.toNat:Int))] (.tup [str (ld s a c).1,i64 (ld s a c).2.1,boo (ld s a c).2.2]):=by
 have hf:=E0 s a
 have hi:=AQ (s.drop (dF s a)) c
 have hg:=Lib.indexByte_ge (s.drop (dF s a)) c
 rw[List.length_drop]at hi
 obtain⟨b,hb⟩:∃b,dF s a=b:=⟨_,rfl⟩
 obtain⟨n,hn⟩:∃n,Lib.indexByte (s.drop b) c=n:=⟨_,rfl⟩
 have un:=af0 (s:=s) (a:=a) (c:=c)
 have uy:=ad6 (s:=s) (a:=a) (c:=c)
 have pf:=Hu s a (by omega)
 have pi:=A8 (s.drop b) c
 have ed:((s.take s.length).drop (((b:Nat):Int)).toNat)=s.drop b:=by rw[List.take_length,Int.toNat_natCast]
 rw[hb]at hi hg hf un uy pf
 rw[hn]at hi hg un uy pi
 refine zY func219 fun B=>?_
 refine zu3 ?_
 refine zp2 ?_
 refine zc rfl func63 ((pf) _) ?_
 refine zs1 ?_
 refine zp2 ?_
 refine z2 ?_ (q:=(by simp only[dX];((simp_all;done))))
 refine Wa 15 rfl (iW _ _ _) ?_
 refine Wa 15 rfl (congrArg str ed) ?_
 refine z1 ?_
 refine zc rfl func262 ((pi) _) ?_
 refine zs1 ?_
 refine Ws<|zu2 ?_
 refine Wi rfl (fun hi1=>?_) (fun hi1=>?_)
 ·have q:n<0:=oT hi1
  refine zp2 ?_
  refine z2 ?_ (q:=(by simp only[dX];((simp_all;done))))
  refine Wa 22 rfl (iW _ _ _) ?_
  refine Wa 22 rfl (congrArg str ed) ?_
  refine zy2 ?_
  refine Wa 24 rfl (gl _) ?_
  refine zs3 ?_
  refine zR ?_
  (rw[un q];rfl)
 have q:¬n<0:=oF hi1
 have w1:IntKind.i64.wrap ((b:Int)+n)=((b+n.toNat:Nat):Int):=by rw[gE (by omega) (by omega)];omega
 have w2:IntKind.i64.wrap (IntKind.i64.wrap ((b:Int)+n)+1)=(b:Int)+n+1:=by rw[gE (n:=(b:Int)+n) (by omega) (by omega),gE (by omega) (by omega)]
 refine Wj<|zp5 ?_
 refine Wa 29 rfl (congrArg (fun z=>PV.val (Value.int .i64 z)) w1) ?_
 refine z2 ?_ (q:=(by simp only[dX];omega))
 refine Wa 30 rfl (iW _ _ _) ?_
 refine zy4 ?_
 refine Wa 34 rfl (congrArg (fun z=>PV.val (Value.int .i64 z)) w2) ?_
 refine zs3 ?_
 refine zR ?_
 (rw[uy q];rfl)
theorem LY{k:IntKind}{a b:Int}(h:a=b):Ending.returned (.int k a)=.returned (.int k b):=by rw[h]
theorem as3{a b:Bool}(h:a=b):Ending.returned (.bool a)=.returned (.bool b):=by rw[h]
theorem NQ:∀k:Nat,(h:k<36)->(((ByteArray.mk #[48,49,50,51,52,53,54,55,56,57,65,66,67,68,69,70,71,72,73,74,75,76,77,78,79,80,81,82,83,84,85,86,87,88,89,90])[k]'(by exact h)).toNat:Int)=wb k:=by decide
theorem xh(n:Int)(w:World):Calls prog 379 #[.int .i64 n] w fun e w'=>e=.returned (.int .u8 (wb n))/\w=w':=by
 by_cases h0:n<0
 ·have d:decide (n<0)=true:=by simp[h0]
  go_enter func379,ntmps379
  go_wp2
  go_ret
  exact⟨LY (by unfold wb;rw[if_neg (by omega),if_neg (by omega)]),rfl⟩
 by_cases h1:36<=n
 ·have d:decide (n<0)=false:=by simp;omega
  have d1:decide (36<=n)=true:=by simp[h1]
  go_enter func379,ntmps379
  go_wp2
  go_ret
  exact⟨LY (by unfold wb;rw[if_neg (by omega),if_neg (by omega)]),rfl⟩
 have d:decide (n<0)=false:=by simp;omega
 have d1:decide (36<=n)=false:=by simp;omega
 obtain⟨k,rfl⟩:=Int.eq_ofNat_of_zero_le (by omega:0<=n)
 go_enter func379,ntmps379
 go_wp2
 go_ret
 exact⟨LY (NQ k (by omega)),rfl⟩
theorem EZ(b:Int)(w:World):Calls prog 77 #[.int .i64 b] w fun e w'=>e=.returned (.bool (isB b))/\w=w':=by
 go_enter func77,ntmps77
 go_wp2
 all_goals go_ret
 all_goals exact⟨as3 (by unfold isB;simp<;>omega),rfl⟩
theorem C3(c:Int)(w:World)(h0 : -2147483648<=c)(h1:c<=2147483647):Calls prog 78 #[.int .i32 c] w fun e w'=>e=.returned (.int .i64 (wd c))/\w=w':=by
 go_enter func78,ntmps78
 go_wp2
 all_goals go_ret
 all_goals exact⟨LY (by clear h0 h1;unfold wd;(repeat' split)<;>omega),rfl⟩
theorem js(s:ByteArray):s.data.toList.length=s.size:=by simp
theorem I8(s:ByteArray)(h:s.size=3)(h0:0<s.size)(h1:1<s.size)(h2:2<s.size):s.data.toList=[s[0],s[1],s[2]]:=by
 apply List.ext_getElem
 ·simp;exact h
 intro i h1 h2
 simp at h2
 match i with
 | 0=>rfl
 | 1=>rfl
 | 2=>rfl
theorem It(l:List UInt8)(h:l.length≠3):pZ l=none:=by
 unfold pZ
 split
 ·simp at h
 rfl
theorem KH(c:UInt8)(n:Nat)(h:n<256):c=UInt8.ofNat n↔(c.toNat:Int)=n:=by
 constructor
 ·rintro rfl;rw[UInt8.toNat_ofNat'];omega
 intro e;apply UInt8.toNat.inj;rw[UInt8.toNat_ofNat'];omega
theorem zy(a b c:UInt8):pZ [a,b,c]=if (a.toNat:Int)=39/\(c.toNat:Int)=39/\33<=(b.toNat:Int)/\(b.toNat:Int)<=126 then some (b.toNat:Int)else none:=by
 have ha:=KH a 39 (by omega)
 have hc:=KH c 39 (by omega)
 simp only[pZ]
 rw[show(UInt8.ofNat 39)=39 from rfl]at ha hc
 simp only[ha,hc]
 by_cases h:(a.toNat:Int)=39/\(c.toNat:Int)=39/\33<=(b.toNat:Int)/\(b.toNat:Int)<=126
 ·rw[if_pos h,if_pos (by omega)]
 rw[if_neg h,if_neg (by omega)]
theorem PF{a:Int}{x:Bool}{o:Option Int}(h:o.getD 0=a)(g:o.isSome=x):Ending.returned (.tuple #[.int .i64 a,.bool x])=.returned (.tuple #[.int .i64 (o.getD 0),.bool o.isSome]):=by rw[h,g]
theorem Cj(a b c:UInt8)(h:(a.toNat:Int)=39/\(c.toNat:Int)=39/\33<=(b.toNat:Int)/\(b.toNat:Int)<=126):pZ [a,b,c]=some (b.toNat:Int):=by rw[zy,if_pos h]
theorem FX(a b c:UInt8)(h:¬((a.toNat:Int)=39/\(c.toNat:Int)=39/\33<=(b.toNat:Int)/\(b.toNat:Int)<=126)):pZ [a,b,c]=none:=by rw[zy,if_neg h]
theorem SB(s:ByteArray)(w:World)(hs:s.size<=9223372036854775807):Calls prog 74 #[.string s] w fun e w'=>e=.returned (.tuple #[.int .i64 ((pZ s.data.toList).getD 0),.bool (pZ s.data.toList).isSome])/\w=w':=by
 by_cases h3:s.size=3
 ·have t0:((s.size:Int) != 3)=false:=by simp;omega
  have t1:0<s.size:=by omega
  have t2:1<s.size:=by omega
  have t3:2<s.size:=by omega
  have E:=Lib.hid (I8 s h3 t1 t2 t3)
  clear h3
  go_enter func74,ntmps74
  go_wp2
  all_goals go_ret2
  all_goals first
   | (exact⟨PF (by rw[E.out,Cj _ _ _ (by omega)];rfl) (by rw[E.out,Cj _ _ _ (by omega)];rfl),rfl⟩)
   | (exact⟨PF (by rw[E.out,FX _ _ _ (by omega)];rfl) (by rw[E.out,FX _ _ _ (by omega)];rfl),rfl⟩)
 have e:=It s.data.toList (by rw[js];exact h3)
 have E:=Lib.hid e
 have t0:((s.size:Int) != 3)=true:=by simp;omega
 clear h3 e
 go_enter func74,ntmps74
 go_wp2
 go_ret2
 exact⟨by rw[E.out];rfl,rfl⟩
theorem If(s:ByteArray)(h:0<s.size):s.toList.isEmpty=false:=by
 rw[ByteArray.toList_eq];cases hl:s.data.toList with
 | nil=>have:=js s;rw[hl]at this;simp at this;omega
 | cons a l=>rfl
theorem CQ(s:ByteArray)(h:s.size=0):s.toList.isEmpty=true:=by
 rw[ByteArray.toList_eq];have:=js s;cases hl:s.data.toList with
 | nil=>rfl
 | cons a l=>rw[hl]at this;simp at this;omega
def mT(s:ByteArray)(b:Int):Int×ByteArray :=
 if h:0<s.size then(if s[0]=35 then(10,s.extract 1 s.size)else if s[0]=36 then(16,s.extract 1 s.size)else if s[0]=37 then(2,s.extract 1 s.size)else(b,s))else(b,s)
theorem Eo(c:UInt8)(n:Nat)(h:n<256)(e:c=UInt8.ofNat n):((c.toNat:Int)==n)=true:=by simp only[beq_iff_eq];exact(KH c n h).1 e
theorem E9(c:UInt8)(n:Nat)(h:n<256)(e:c≠UInt8.ofNat n):((c.toNat:Int)==n)=false:=by simp only[beq_eq_false_iff_ne];exact fun g=>e ((KH c n h).2 g)
theorem Xk(s:ByteArray)(b:Int)(h0:¬0<s.size):mT s b=(b,s):=by unfold mT;rw[dif_neg h0]
theorem J4(s:ByteArray)(b:Int):vW s.data.toList b=((mT s b).1,(mT s b).2.data.toList):=by
 unfold mT
 by_cases h0:0<s.size
 ·have e:s.data.toList=s[0]::s.data.toList.drop 1:=by
   have h1:0<s.data.toList.length:=by rw[js];exact h0
   rw[show s[0]=s.data.toList[0] from rfl]
   simpa using (List.drop_eq_getElem_cons h1)
  rw[dif_pos h0]
  have hx:=Lib.extract_to_end s 1
  generalize s.extract 1 s.size=t at hx ⊢
  conv=>lhs;rw[e]
  simp only[vW]
  split
  ·rw[hx]
  split
  ·rw[hx]
  split
  ·rw[hx]
  rw[<-e]
 rw[dif_neg h0]
 have:s.data.toList=[]:=List.eq_nil_of_length_eq_zero (by rw[js];omega)
 rw[this]
 rfl
theorem JX(s:ByteArray)(b:Int)(w:World)(hs:s.size<=9223372036854775807):Calls prog 75 #[.string s,.int .i64 b] w fun e w'=>e=.returned (.tuple #[.int .i64 (mT s b).1,.string (mT s b).2])/\∃n,w'=w.drewN n:=by
 by_cases h0:0<s.size
 ·have t:=If s h0
  by_cases h1:s[0]=35
  ·have c1:((s[0].toNat:Int)==35)=true:=Eo s[0] 35 (by omega) h1
   have e:mT s b=(10,s.extract 1 s.size):=by unfold mT;rw[dif_pos h0,if_pos h1]
   have E:=Lib.hid e
   clear e h1
   go_enter func75,ntmps75
   go_wp2
   go_region
   go_wp2
   go_ret2
   exact⟨by rw[E.out];rfl,1,rfl⟩
  have c1:((s[0].toNat:Int)==35)=false:=E9 s[0] 35 (by omega) h1
  by_cases h2:s[0]=36
  ·have c2:((s[0].toNat:Int)==36)=true:=Eo s[0] 36 (by omega) h2
   have e:mT s b=(16,s.extract 1 s.size):=by unfold mT;rw[dif_pos h0,if_neg h1,if_pos h2]
   have E:=Lib.hid e
   clear e h1 h2
   go_enter func75,ntmps75
   go_wp2
   go_region
   go_wp2
   go_ret2
   exact⟨by rw[E.out];rfl,1,rfl⟩
  have c2:((s[0].toNat:Int)==36)=false:=E9 s[0] 36 (by omega) h2
  by_cases h3:s[0]=37
  ·have c3:((s[0].toNat:Int)==37)=true:=Eo s[0] 37 (by omega) h3
   have e:mT s b=(2,s.extract 1 s.size):=by unfold mT;rw[dif_pos h0,if_neg h1,if_neg h2,if_pos h3]
   have E:=Lib.hid e
   clear e h1 h2 h3
   go_enter func75,ntmps75
   go_wp2
   go_region
   go_wp2
   go_ret2
   exact⟨by rw[E.out];rfl,1,rfl⟩
  have c3:((s[0].toNat:Int)==37)=false:=E9 s[0] 37 (by omega) h3
  have e:mT s b=(b,s):=by unfold mT;rw[dif_pos h0,if_neg h1,if_neg h2,if_neg h3]
  have E:=Lib.hid e
  clear e h1 h2 h3
  go_enter func75,ntmps75
  go_wp2
  go_ret2
  exact⟨by rw[E.out];rfl,0,rfl⟩
 have t:=CQ s (by omega)
 have E:=Lib.hid (Xk s b h0)
 go_enter func75,ntmps75
 go_wp2
 go_ret2
 exact⟨by rw[E.out];rfl,0,rfl⟩
def Ug(s:ByteArray):ByteArray×Bool:=(⟨(wT s.data.toList).1.toArray⟩,(wT s.data.toList).2)
theorem WP(s:ByteArray)(w:World):Calls prog 76 #[.string s,.string ⟨#[45]⟩] w fun e w'=>e=.returned (.tuple #[.string (Ug s).1,.bool (Ug s).2])/\w=w':=by
 refine(Tryz.strings_CutPrefix s ⟨#[45]⟩ w).mono ?_
 rintro e w' ⟨rfl,rfl⟩
 refine⟨?_,rfl⟩
 have h:Lib.trimPrefix s.data.toList [45]=(wT s.data.toList).1/\Lib.hasPrefix s.data.toList [45]=(wT s.data.toList).2:=by
  cases s.data.toList with
  | nil=>exact⟨rfl,rfl⟩
  | cons c l =>
   by_cases h:c=45
   ·subst h;simp[wT,Lib.trimPrefix,Lib.hasPrefix,List.isPrefixOf]
   have h':¬45=c:=fun e=>h e.symm
   simp[wT,Lib.trimPrefix,Lib.hasPrefix,List.isPrefixOf,h,h']
 show Ending.returned (.tuple #[.string ⟨(Lib.trimPrefix s.data.toList [45]).toArray⟩,.bool (Lib.hasPrefix s.data.toList [45])])=_
 rw[h.1,h.2]
 rfl
theorem H7{l l' m:List UInt8}{b b':Int}{below:Bool}(h:pZ l=none)(hp:vW l b=(b',l'))(hc:wT l'=(m,below)):ez l b=rM m b' below:=by
 unfold ez;rw[h,hp];simp only[hc]
theorem Gh{l:List UInt8}{b n:Int}(h:pZ l=some n):ez l b=(n,true):=by
 unfold ez;rw[h]
theorem Oc(b:Int)(below:Bool):rM [] b below=(0,false):=by unfold rM;rw[if_pos (.inl rfl)]
theorem NX(l:List UInt8)(b:Int)(below:Bool)(h:isB b=false):rM l b below=(0,false):=by unfold rM;rw[if_pos (.inr (.inl h))]
theorem B7(s:ByteArray)(k:Nat)(h:k<s.size):s.data.toList.take (k+1)=s.data.toList.take k++[s[k]]:=by
 rw[List.take_succ_eq_append_getElem (by simpa using h)];rfl
theorem G8(p:UInt8->Bool)(s:ByteArray)(k:Nat)(h:k<s.size)(hb:p s[k]=false):s.data.toList.all p=false:=by
 rw[List.all_eq_false]
 exact⟨s[k],List.getElem_mem (by simpa using h),by simp[hb]⟩
theorem oq{w w1:World}(hb:Below w.heap.size w w1)(s:ByteArray)(p:Nat):Below w.heap.size w (w1.iter s p):=hb.alloc hb.size _
theorem M1(s:ByteArray)(b:Int)(w:World)(hs:s.size<=9223372036854775807):Calls prog 40 #[.string s,.int .i64 b] w fun e w'=>e=.returned (.tuple #[.int .i64 (ez s.data.toList b).1,.bool (ez s.data.toList b).2])/\Below w.heap.size w w':=by
 have S0:=fun w=>SB s w hs
 match hsg:pZ s.data.toList with
 | some n =>
  rw[hsg]at S0
  have S:=Lib.hid S0
  have E:=Lib.hid (Gh (b:=b) hsg)
  clear S0 hsg
  go_enter func40,ntmps40
  go_wp2_with (go_at_call 74;refine(S.out _).mono ?_;rintro e w' ⟨rfl,rfl⟩)
  go_ret2
  exact⟨by rw[E.out];rfl,Below.refl _ _⟩
 | none =>
  rw[hsg]at S0
  obtain⟨b',s',hp⟩:∃b' s',mT s b=(b',s'):=⟨_,_,rfl⟩
  have P0:=fun w=>JX s b w hs
  rw[hp]at P0
  have hpl:=J4 s b
  rw[hp]at hpl
  obtain⟨t,below,hc⟩:∃t below,Ug s'=(t,below):=⟨_,_,rfl⟩
  have C0:=fun w=>WP s' w
  rw[hc]at C0
  have hcl:wT s'.data.toList=(t.data.toList,below):=by
   unfold Ug at hc
   obtain⟨rfl,rfl⟩:=Prod.mk.inj hc
   simp
  have e:=H7 hsg hpl hcl
  have htl:t.size<=9223372036854775807:=by
   have h1:t.data.toList.length<=s'.data.toList.length:=by
    have:t.data.toList=(wT s'.data.toList).1:=by rw[hcl]
    rw[this]
    cases s'.data.toList with
    | nil=>simp[wT]
    | cons c l=>simp only[wT];split<;>simp
   have h2:s'.data.toList.length<=s.data.toList.length:=by
    have:s'.data.toList=(vW s.data.toList b).2:=by rw[hpl]
    rw[this]
    cases s.data.toList with
    | nil=>simp[vW]
    | cons c l =>
     simp only[vW]
     repeat' split
     all_goals simp
   simp only[js]at h1 h2
   omega
  have S:=Lib.hid S0
  have P:=Lib.hid P0
  have C:=Lib.hid C0
  clear S0 hsg hp hpl hc hcl P0 C0 hs
  by_cases h0:0<t.size
  ·have te:=If t h0
   have htn:t.data.toList≠[]:=fun h=>by have:=js t;rw[h]at this;simp at this;omega
   by_cases hb:isB b'=true
   ·have E:=Lib.hid e
    have HB:=Lib.hid ((Kr b').1 hb)
    have HN:=Lib.hid htn
    have HE:=Lib.hid (Tn t.data.toList b' below hb htn)
    have HX:=Lib.hid (Tr t.data.toList b' below)
    clear e htn
    go_enter func40,ntmps40
    go_wp2_with (first
     | (go_at_call 74;refine(S.out _).mono ?_;rintro e w' ⟨rfl,rfl⟩)
     | (go_at_call 75;refine(P.out _).mono ?_;rintro e w1 ⟨rfl,n1,hw1⟩;have HW:=Lib.hid hw1;clear hw1)
     | (go_at_call 76;refine(C.out _).mono ?_;rintro e w' ⟨rfl,rfl⟩)
     | (go_at_call 77;refine(EZ b' _).mono ?_;rintro e w' ⟨rfl,rfl⟩))
    have hbel:Below w.heap.size w w1:=by rw[HW.out];exact below_drewN (Below.refl _ _) n1
    go_loopw [9] (fun n wr=>∃(pos:Nat) (m:Int),wr=w1.iter t pos/\pos<=t.size/\n=.int .i64 m/\Hid (m=wrap64 (uY b' 0 (t.data.toList.take pos)))/\Hid ((t.data.toList.take pos).all (okD b')=true)) (fun _ wr=>t.size-wr.iterPos w1.heap.size)
    case atStart=>exact⟨0,0,rfl,by omega,rfl,by show _=_;simp[uY,wrap64],by show _=_;simp⟩
    case round =>
     obtain⟨pos,m,rfl,hpos,rfl,hm,hall⟩:=hrel
     by_cases hlt:pos<t.size
     ·by_cases ha:t[pos].toNat<128
      ·have hnx:∀ty,(Instr.next (.pointer (some ⟨w1.heap.size,0,none⟩)) true ty).run prog (w1.iter t pos)=_:=fun ty=>run_next_ascii w1 t pos ty hlt ha
       obtain⟨d,hd⟩:∃d,wd (t[pos].toNat:Int)=d:=⟨_,rfl⟩
       have hr:=Yv (t[pos].toNat:Int)
       have W0:=fun w=>C3 (t[pos].toNat:Int) w (by omega) (by omega)
       rw[hd]at W0 hr
       have W:=Lib.hid W0
       by_cases hok:okD b' t[pos]=true
       ·have h2:=(Fd b' t[pos]).1 hok
        rw[hd]at h2
        obtain⟨h3,h4⟩:=h2
        have t1:decide (d<0)=false:=by simp;omega
        have t2:decide (b'<=d)=false:=by simp;omega
        have hm':Hid (wrap64 (wrap64 (m*b')+d)=wrap64 (uY b' 0 (t.data.toList.take (pos+1)))):=by
         show _=_
         rw[B7 t pos hlt,<-Au,<-hm.out,hd]
        have hall':Hid ((t.data.toList.take (pos+1)).all (okD b')=true):=by
         show _=_
         rw[B7 t pos hlt,List.all_append,hall.out]
         simp[hok]
        clear hm hall hd W0 hok
        go_wp2_with (go_at_call 78;refine(W.out _).mono ?_;rintro e w' ⟨rfl,rfl⟩)
        go_roundw
        case rel=>exact⟨pos+1,_,rfl,by omega,rfl,hm',hall'⟩
        case measure=>simp;omega
       have hno:t.data.toList.all (okD b')=false:=G8 _ t pos hlt (by simpa using hok)
       have hdd:d<0\/b'<=d:=by
        have h2:¬(0<=d/\d<b'):=by rw[<-hd,<-Fd];exact hok
        omega
       have EX:=Lib.hid (HX.out hno)
       clear hm hall hd W0 hok hno
       by_cases hd0:d<0
       ·have t1:decide (d<0)=true:=by simp;omega
        go_wp2_with (go_at_call 78;refine(W.out _).mono ?_;rintro e w' ⟨rfl,rfl⟩)
        go_ret2
        exact⟨by rw[E.out,EX.out];rfl,oq hbel _ _⟩
       have t1:decide (d<0)=false:=by simp;omega
       have t2:decide (b'<=d)=true:=by simp;omega
       go_wp2_with (go_at_call 78;refine(W.out _).mono ?_;rintro e w' ⟨rfl,rfl⟩)
       go_ret2
       exact⟨by rw[E.out,EX.out];rfl,oq hbel _ _⟩
      have hnx:∀ty,(Instr.next (.pointer (some ⟨w1.heap.size,0,none⟩)) true ty).run prog (w1.iter t pos)=_:=fun ty=>run_next_any w1 t pos ty hlt
      have hdh:=decode_high t pos hlt (by omega)
      have hdl:=decode_le t pos
      have hr:wd ((Utf8.decode t pos).1:Int) = -1:=by unfold wd;rw[if_neg (by omega),if_neg (by omega),if_neg (by omega)]
      have W0:=fun w=>C3 ((Utf8.decode t pos).1:Int) w (by omega) (by omega)
      rw[hr]at W0
      have W:=Lib.hid W0
      have hno:t.data.toList.all (okD b')=false:=G8 _ t pos hlt (by
       have:¬okD b' t[pos]=true:=by
        rw[Fd]
        have:wd (t[pos].toNat:Int) = -1:=by unfold wd;rw[if_neg (by omega),if_neg (by omega),if_neg (by omega)]
        omega
       simpa using this)
      have EX:=Lib.hid (HX.out hno)
      clear hm hall hr W0 hno hdh hdl
      generalize Utf8.decode t pos=q at *
      go_wp2_with (go_at_call 78;refine(W.out _).mono ?_;rintro e w' ⟨rfl,rfl⟩)
      go_ret2
      exact⟨by rw[E.out,EX.out];rfl,oq hbel _ _⟩
     have hnx:∀ty,(Instr.next (.pointer (some ⟨w1.heap.size,0,none⟩)) true ty).run prog (w1.iter t pos)=_:=fun ty=>run_next_end w1 t pos ty hlt
     have et:t.data.toList.take pos=t.data.toList:=List.take_of_length_le (by rw[js];omega)
     rw[et]at hm hall
     have EX:=Lib.hid (HE.out hall.out)
     clear hall et
     cases below with
     | true =>
      go_wp2
      go_ret2
      exact⟨by rw[E.out,EX.out,<-hm.out];rfl,oq hbel _ _⟩
     | false =>
      go_wp2
      go_ret2
      exact⟨by rw[E.out,EX.out,<-hm.out];rfl,oq hbel _ _⟩
   simp only[Bool.not_eq_true]at hb
   rw[NX _ _ _ hb]at e
   have E:=Lib.hid e
   clear e htn
   go_enter func40,ntmps40
   go_wp2_with (first
    | (go_at_call 74;refine(S.out _).mono ?_;rintro e w' ⟨rfl,rfl⟩)
    | (go_at_call 75;refine(P.out _).mono ?_;rintro e w1 ⟨rfl,n1,hw1⟩;have HW:=Lib.hid hw1;clear hw1)
    | (go_at_call 76;refine(C.out _).mono ?_;rintro e w' ⟨rfl,rfl⟩)
    | (go_at_call 77;refine(EZ b' _).mono ?_;rintro e w' ⟨rfl,rfl⟩))
   go_ret2
   exact⟨by rw[E.out];rfl,by rw[HW.out];exact below_drewN (Below.refl _ _) n1⟩
  have te:=CQ t (by omega)
  have htn:t.data.toList=[]:=List.eq_nil_of_length_eq_zero (by rw[js];omega)
  rw[htn,Oc]at e
  have E:=Lib.hid e
  clear e htn
  go_enter func40,ntmps40
  go_wp2_with (first
   | (go_at_call 74;refine(S.out _).mono ?_;rintro e w' ⟨rfl,rfl⟩)
   | (go_at_call 75;refine(P.out _).mono ?_;rintro e w1 ⟨rfl,n1,hw1⟩;have HW:=Lib.hid hw1;clear hw1)
   | (go_at_call 76;refine(C.out _).mono ?_;rintro e w' ⟨rfl,rfl⟩))
  go_ret2
  exact⟨by rw[E.out];rfl,by rw[HW.out];exact below_drewN (Below.refl _ _) n1⟩
end Go.Proofs.YtjcminooghmpeaaGreatDoor
namespace Go.Proofs
open Go.Shelf
def Tryz.lReverse_ren:Go.Shelf.Ren:=⟨fun|35=>380|n=>n,fun|22=>22|23=>5|3=>3|4=>4|0=>0|n=>n,fun|n=>n⟩
theorem Tryz.lReverse:Go.Proofs.SlLaysE.n35 prog Tryz.lReverse_ren:={
 mixed:=by kernel_rfl
 f35:=⟨Tryz.f380.name,by decide,func380.trans (congrArg some (by kernel_rfl))⟩
 t0:=underlying0
 a0:=Tryz.isAgg0
 z0:=Tryz.sizeOf0
 v0:=Tryz.zeroValue0
 t3:=underlying3
 a3:=Tryz.isAgg3
 z3:=Tryz.sizeOf3
 v3:=Tryz.zeroValue3
 t4:=underlying4
 a4:=Tryz.isAgg4
 z4:=Tryz.sizeOf4
 v4:=Tryz.zeroValue4
 t22:=underlying22
 a22:=Tryz.isAgg22
 z22:=Tryz.sizeOf22
 v22:=Tryz.zeroValue22
 a23:=Tryz.isAgg5
 z23:=Tryz.sizeOf5}
def Tryz.lClone_ren:Go.Shelf.Ren:=⟨fun|41=>382|n=>n,fun|22=>22|23=>5|4=>4|n=>n,fun|n=>n⟩
theorem Tryz.lClone:Go.Proofs.SlLaysE0.n41 prog Tryz.lClone_ren:={
 mixed:=by kernel_rfl
 f41:=⟨Tryz.f382.name,by decide,func382.trans (congrArg some (by kernel_rfl))⟩
 t4:=underlying4
 a4:=Tryz.isAgg4
 z4:=Tryz.sizeOf4
 v4:=Tryz.zeroValue4
 t22:=underlying22
 a22:=Tryz.isAgg22
 z22:=Tryz.sizeOf22
 v22:=Tryz.zeroValue22}
end Go.Proofs
namespace Go.Proofs.YtjcminooghmpeaaGreatDoor
open Go.RowKit
theorem XO:(prog.info? 5).map (fun i=>(i.zero,i.size,i.bytes))=some (some (.int .u8 0),1,1):=by kernel_rfl
theorem BW{w w1:World}{B e s n:Nat}{v:Value}{xs:List Value}{q:Nat}(h:w.ownsRow B e s v n xs)(hw:w1=w.drewN q):w1.ownsRow B e s v n xs:=by rw[hw];exact h
theorem BK{w0 w w1:World}{B q:Nat}(h:Below B w0 w)(hw:w1=w.drewN q):Below B w0 w1:=by rw[hw];exact below_drewN h q
theorem KT{w:World}{B e s n:Nat}{v:Value}{xs:List Value}(h:w.ownsRow B e s v n xs):∀k,v.ownBlock=some k->B<=k:=by
 intro k hk
 rcases h.2 with ⟨rfl,_⟩|⟨g,cap,cur,rfl,hb,_⟩
 ·simp[Value.ownBlock]at hk
 simp[Value.ownBlock]at hk;omega
theorem P6{w:World}{B B' e s n:Nat}{v:Value}{xs:List Value}(h:w.ownsRow B e s v n xs)(hB:B'<=B):w.ownsRow B' e s v n xs:=by
 refine⟨h.1,?_⟩
 rcases h.2 with h1|⟨g,cap,cur,e1,hb,h2⟩
 ·exact .inl h1
 exact .inr ⟨g,cap,cur,e1,by omega,h2⟩
theorem Mg(w:World)(B:Nat)(v:Value)(n:Nat)(zs:List Int)(h:w.ownsRow B 5 1 v n (zs.map (Value.int .u8)))(hn:n<=9223372036854775807):
  Calls prog 380 #[v] w fun e w'=>e=.returned (.tuple #[])/\w'.ownsRow B 5 1 v n (zs.reverse.map (Value.int .u8))/\∀w0,Below B w0 w->Below B w0 w':=by
 by_cases hv:v=.slice none 0 0
 ·have h0:n=0:=by
   rcases h.2 with ⟨_,h⟩|⟨g,cap,cur,h,_⟩
   ·exact h
   rw[h]at hv;cases hv
  have hz:zs=[]:=List.eq_nil_of_length_eq_zero (by have:=h.1;simp at this;omega)
  subst hz hv
  refine(AnyE.slices_Reverse_empty Tryz.lReverse none 0 w).mono ?_
  rintro e w' ⟨rfl,rfl⟩
  exact⟨rfl,h,fun _ hb=>hb⟩
 obtain⟨g,cap,rfl,hb,_,_,_,hl,hH⟩:=Lib.holds_of_ownsRow h hv
 subst hl
 refine(AnyE.slices_Reverse Tryz.lReverse (Value.int .u8) (fun _=>rfl) g 0 cap zs w hH hn).mono ?_
 rintro e w' ⟨rfl,q,rfl⟩
 refine⟨rfl,?_,fun w0 hw=>Lib.below_putRow hw hb⟩
 have:=Lib.ownsRow_putRow (q:=q) h (ys:=zs.reverse) (by simp) (Nat.le_refl _)
 rw[List.take_of_length_le (by simp)]at this
 exact this
theorem Fw{w:World}{B n:Nat}{v:Value}{zs:List Int}(h:w.ownsRow B 5 1 v n (zs.map (Value.int .u8))):
  (convert 22 9 v).run prog w=.ok (.string (strOfNums zs)) w:=by
 by_cases hv:v=.slice none 0 0
 ·have h0:n=0:=by
   rcases h.2 with ⟨_,h⟩|⟨g,cap,cur,h,_⟩
   ·exact h
   rw[h]at hv;cases hv
  have hz:zs=[]:=List.eq_nil_of_length_eq_zero (by have:=h.1;simp at this;omega)
  subst hz hv
  exact run_convert_bytes_nil (w:=w) 22 5 underlying22 underlying5 0 0 9 underlying9
 obtain⟨g,cap,rfl,hb,_,_,_,hl,hH⟩:=Lib.holds_of_ownsRow h hv
 subst hl
 refine run_convert_bytes_arg w 22 5 underlying22 underlying5 g 0 zs.length cap zs rfl (fun i hi=>?_) 9 underlying9
 rw[(hH i (by simpa using hi)).1]
 simp[List.getD,hi]
def Fk(ds:List Nat):List Int:=ds.map fun d:Nat=>wb (d:Int)
theorem CE(ds:List Nat)(d:Nat):Fk (ds++[d])=Fk ds++[wb (d:Int)]:=by simp[Fk]
theorem ap0{u r B:Nat}(hz:¬u/B=0)(h:u<2 ^ (r+1))(hB:2<=B):1<=r:=by
 rcases Nat.eq_zero_or_pos r with rfl|h1
 ·exact absurd (Nat.div_eq_of_lt (by simp at h;omega)) hz
 exact h1
theorem aa3{u B:Nat}(hu:u<18446744073709551616)(hz:¬u/B=0)(hB:2<=B):U (S (u/B))<U (S u):=by
 have h0:0<u:=Nat.pos_of_ne_zero (fun e=>hz (by rw[e];exact Nat.zero_div B))
 rw[U_S u hu,U_S (u/B) (Nat.lt_of_le_of_lt (Nat.div_le_self u B) hu)]
 exact Nat.div_lt_self h0 hB
def FZ(v:Value):Nat:=U (intOf v)
theorem G7(x:Int):FZ (.int .i64 x)=U x:=by unfold FZ;simp[intOf]
theorem IM{u B:Nat}(hu:Hid (u<18446744073709551616))(hz:Hid (¬u/B=0))(hB:2<=B):FZ (.int .i64 (S (u/B)))<FZ (.int .i64 (S u)):=by
 rw[G7,G7];exact aa3 hu.out hz.out hB
def al5(B u:Nat):List Nat:=tN B 64 u
theorem I1(B u:Nat):Hid ([]++tN B 64 u=al5 B u):=Lib.hid rfl
theorem NC:Hid (([]:List Nat).length+64=64):=Lib.hid rfl
theorem ME(w:World)(e:TypeId):w.ownsRow w.heap.size e 1 (.slice none 0 0) ([]:List Nat).length ((Fk []).map (Value.int .u8)):=⟨rfl,.inl ⟨rfl,rfl⟩⟩
theorem ar3{u:Nat}(h:u<18446744073709551616):Hid (u<2 ^ 64):=Lib.hid (by rw[show(2:Nat)^64=18446744073709551616 from by decide];exact h)
theorem Ov{B r u:Nat}{ds all:List Nat}(h:ds++tN B (r+1) u=all)(hz:¬u/B=0):(ds++[u%B])++tN B r (u/B)=all:=by
 rw[<-h];simp only[tN,hz,if_false,List.append_assoc,List.singleton_append]
theorem SP{B r u:Nat}{ds all:List Nat}(h:ds++tN B (r+1) u=all)(hz:u/B=0):ds++[u%B]=all:=by
 rw[<-h];simp only[tN,hz,if_true]
theorem Hg(u B:Nat)(hu:u<18446744073709551616)(h2:2<=B)(h3:B<=36):io (S u) 0 (B:Int)=(S (u/B),((u%B:Nat):Int),0):=by
 have e1:U (B:Int)=B:=by unfold U;omega
 have e2:U (0:Int)=0:=by decide
 have e3:PU (S u) 0=u:=by unfold PU;rw[U_S u hu,e2];omega
 unfold io
 rw[if_neg (by omega),e1,e2,if_neg (by omega),e3]
 have hm:=Nat.mod_lt u (show 0<B by omega)
 have:S (u%B)=((u%B:Nat):Int):=by unfold S;exact dc _ (by omega)
 rw[this]
theorem Zw{u:Nat}(h:u<18446744073709551616):S u=0↔u=0:=by unfold S wrap64;omega
theorem SZ{u r B:Nat}(h:u<2 ^ (r+1))(hB:2<=B):u/B<2 ^ r:=by
 rw[Nat.pow_succ]at h
 have:=Nat.div_le_div_left hB (show 0<2 by omega) (a:=u)
 omega
theorem Sv(ds:List Nat):strOfNums (Fk ds).reverse=⟨((ds.map chr).reverse).toArray⟩:=by
 unfold strOfNums chr Fk
 congr 1
 rw[<-List.map_reverse,List.map_map,<-List.map_reverse]
 rfl
theorem tl(n b:Int)(w:World)(hn:Fit n):Calls prog 333 #[.int .i64 n,.int .i64 b] w fun e w'=>e=.returned (.tuple #[.string ⟨(gF n b).1.toArray⟩,.int .i64 (gF n b).2])/\Below w.heap.size w w':=by
 by_cases hb:isB b=true
 ·obtain⟨B,rfl,h2,h3⟩:=Qq hb
  have e:gF n (B:Int)=(nZ (U n) B,0):=by unfold gF;rw[if_pos hb,Int.toNat_natCast]
  have E:=Lib.hid e
  have EN:=Lib.hid (S_U n hn)
  obtain⟨i0,hi,hz0,hz1,hz2⟩:=info_parts XO
  clear e
  go_enter func333,ntmps333
  go_wp2_with (go_at_call 77;refine(EZ _ _).mono ?_;rintro e w' ⟨rfl,rfl⟩)
  go_loopw [0,6] (fun n0 v wr=>∃(r u:Nat) (ds:List Nat),n0=.int .i64 (S u)/\Hid (u<18446744073709551616)/\Hid (u<2 ^ r)/\1<=r/\Hid (ds.length+r=64)/\Hid (ds++tN B r u=al5 B (U n)) /\
   wr.ownsRow w.heap.size 5 1 v ds.length ((Fk ds).map (Value.int .u8))/\Below w.heap.size w wr) (fun n0 _ _=>FZ n0)
  case atStart=>exact⟨64,U n,[],by rw[EN.out],Bd n,ar3 (Bd n),by omega,NC,I1 _ _,ME _ _,Below.refl _ _⟩
  case round =>
   obtain⟨r,u,ds,rfl,hu,hur,hr1,hlen,hds,hown,hbel⟩:=hrel
   obtain⟨r,rfl⟩:∃r',r=r'+1:=⟨r-1,by omega⟩
   have D0:=fun w=>BX (S u) 0 (B:Int) w
   rw[Hg u B hu.out h2 h3]at D0
   have D:=Lib.hid D0
   clear D0
   have hm:=Nat.mod_lt u (show 0<B by omega)
   have hq:u/B<18446744073709551616:=Nat.lt_of_le_of_lt (Nat.div_le_self _ _) hu.out
   have hds64:ds.length<=63:=by have:=hlen.out;omega
   by_cases hz:u/B=0
   ·have t:(S (u/B)==0)=true:=by rw[hz];decide +kernel
    have hds':=Lib.hid (SP hds.out hz)
    have HZ:=Lib.hid hz
    clear hq hz hds
    go_wp2_with (first
     | (go_at_call 287;refine(D.out _).mono ?_;rintro e w1 ⟨rfl,n1,hw1⟩;have hown1:=BW hown hw1;have hbel1:=BK hbel hw1;clear hw1)
     | (go_at_call 379;refine(xh _ _).mono ?_;rintro e w' ⟨rfl,rfl⟩)
     | (at_builtin;refine wpList_append_own _ rfl _ _ 22 rfl w.heap.size 5 i0 (.int .u8 0) 1 1 underlying22 hi hz0 hz1 hz2 rfl (by decide) _ _ _ rfl (hown1.alloc _) ⟨w1.heap.size,0,none⟩ 1 1 [.int .u8 (wb ((u:Int)%(B:Int)))] rfl rfl ?c1 ?c2 ?c3 ?c4 ?c5 ?_))
    case c1=>exact cell_one_new _ _ _
    case c2=>simp[Value.oneCell']
    case c3=>unfold maxLen;omega
    case c4=>omega
    case c5=>have:=hbel1.size;simp;omega
    intro v' w2 hown2 hgrow _
    have hown3:w2.ownsRow w.heap.size 5 1 v' (ds++[u%B]).length ((Fk (ds++[u%B])).map (Value.int .u8)):=by
     rw[CE,List.map_append,List.length_append];exact hown2
    have hbel2:Below w.heap.size w w2:=(hbel1.alloc hbel1.size _).grown hgrow (by have:=hbel1.size;simp;omega) (KT hown1)
    have RV:=Lib.hid (Mg w2 w.heap.size v' _ _ hown3 (by simp;omega))
    clear hown hown1 hown2 hgrow hown3
    go_wp2_with fail
    refine RV.out.mono ?_
    rintro e w3 ⟨rfl,hown5,hb5⟩
    have hbel5:=hb5 w hbel2
    have hcv:=Fw hown5
    rw[hds'.out,Sv]at hcv
    clear hown5 hb5
    go_wp2
    go_ret2
    exact⟨by rw[E.out];rfl,hbel5⟩
   have t:(S (u/B)==0)=false:=by simp only[beq_eq_false_iff_ne];intro h;exact hz ((Zw hq).1 h)
   have HQ:=Lib.hid hq
   have hds':=Lib.hid (Ov hds.out hz)
   have HZ:=Lib.hid hz
   clear hq hz hds
   go_wp2_with (first
    | (go_at_call 287;refine(D.out _).mono ?_;rintro e w1 ⟨rfl,n1,hw1⟩;have hown1:=BW hown hw1;have hbel1:=BK hbel hw1;clear hw1)
    | (go_at_call 379;refine(xh _ _).mono ?_;rintro e w' ⟨rfl,rfl⟩)
    | (at_builtin;refine wpList_append_own _ rfl _ _ 22 rfl w.heap.size 5 i0 (.int .u8 0) 1 1 underlying22 hi hz0 hz1 hz2 rfl (by decide) _ _ _ rfl (hown1.alloc _) ⟨w1.heap.size,0,none⟩ 1 1 [.int .u8 (wb ((u:Int)%(B:Int)))] rfl rfl ?c1 ?c2 ?c3 ?c4 ?c5 ?_))
   case c1=>exact cell_one_new _ _ _
   case c2=>simp[Value.oneCell']
   case c3=>unfold maxLen;omega
   case c4=>omega
   case c5=>have:=hbel1.size;simp;omega
   intro v' w2 hown2 hgrow _
   have hown3:w2.ownsRow w.heap.size 5 1 v' (ds++[u%B]).length ((Fk (ds++[u%B])).map (Value.int .u8)):=by
    rw[CE,List.map_append,List.length_append];exact hown2
   have hbel2:Below w.heap.size w w2:=(hbel1.alloc hbel1.size _).grown hgrow (by have:=hbel1.size;simp;omega) (KT hown1)
   clear hown hown1 hown2 hgrow
   go_wp2_with fail
   go_roundw
   case rel=>exact⟨r,u/B,ds++[u%B],rfl,HQ.out,SZ hur.out h2,ap0 HZ.out hur.out h2,by have:=hlen.out;show _=_;simp;omega,hds',hown3,hbel2⟩
   case measure=>exact IM hu HZ h2
 have e:gF n b=([],-24):=by unfold gF;rw[if_neg hb]
 have E:=Lib.hid e
 simp only[Bool.not_eq_true]at hb
 clear e
 go_enter func333,ntmps333
 go_wp2_with (go_at_call 77;refine(EZ _ _).mono ?_;rintro e w' ⟨rfl,rfl⟩)
 go_ret2
 exact⟨by rw[E.out];rfl,Below.refl _ _⟩
theorem ZP{a b:ByteArray}(h:a.data.toList=b.data.toList):a=b:=by
 apply ByteArray.ext;exact Array.toList_inj.1 h
theorem Yu{a b:ByteArray}{x y:Int}(h:a=b)(g:x=y):Ending.returned (.tuple #[.string a,.int .i64 x])=.returned (.tuple #[.string b,.int .i64 y]):=by rw[h,g]
theorem UO(B:Nat):∀k u,(tN B k u).length<=k:=by
 intro k
 induction k with
 | zero=>intro u;simp[tN]
 | succ k ih =>
  intro u
  simp only[tN,List.length_cons]
  split
  ·simp
  have:=ih (u/B);omega
theorem Jp(u B:Nat):(nZ u B).length<=64:=by unfold nZ;simpa using UO B 64 u
theorem R3(n b:Int)(w:World)(hn:Fit n):Calls prog 332 #[.int .i64 n,.int .i64 b] w fun e w'=>e=.returned (.tuple #[.string ⟨(iU n b).1.toArray⟩,.int .i64 (iU n b).2])/\Below w.heap.size w w':=by
 by_cases h0:0<=n
 ·have e:iU n b=gF n b:=by unfold iU gF;simp only[h0,if_true]
  rw[e]
  have H:=Lib.hid (tl n b w hn)
  go_enter func332,ntmps332
  go_wp2_with (go_at_call 333;refine H.out.mono ?_;rintro e w1 ⟨rfl,hb⟩)
  go_ret2
  exact⟨rfl,hb⟩
 have h1:decide (0<=n)=false:=by simp;omega
 by_cases hb:isB b=true
 ·have e:gF (wrap64 (-n)) b=(nZ (U (wrap64 (-n))) b.toNat,0):=by unfold gF;rw[if_pos hb]
  have e2:iU n b=(45::nZ (U (wrap64 (-n))) b.toNat,0):=by unfold iU;rw[if_pos hb];simp only[h0,if_false]
  have H0:=tl (wrap64 (-n)) b w (ii _)
  rw[e]at H0
  clear e
  have hl:=Jp (U (wrap64 (-n))) b.toNat
  generalize nZ (U (wrap64 (-n))) b.toNat=l at H0 e2 hl
  have H:=Lib.hid H0
  have E2:=Lib.hid e2
  clear e2 H0
  go_enter func332,ntmps332
  go_wp2_with (go_at_call 333;refine H.out.mono ?_;rintro e w1 ⟨rfl,hb⟩)
  go_ret2
  exact⟨by rw[E2.out];exact Yu (ZP (by simp)) rfl,hb⟩
 have e:gF (wrap64 (-n)) b=([],-24):=by unfold gF;rw[if_neg hb]
 have e2:iU n b=([],-24):=by unfold iU;rw[if_neg hb]
 have H0:=tl (wrap64 (-n)) b w (ii _)
 rw[e]at H0
 have H:=Lib.hid H0
 have E2:=Lib.hid e2
 clear e e2 H0
 go_enter func332,ntmps332
 go_wp2_with (go_at_call 333;refine H.out.mono ?_;rintro e w1 ⟨rfl,hb⟩)
 go_ret2
 exact⟨by rw[E2.out];rfl,hb⟩
def ot(r:List UInt8×Int):PV:=ic (str r.1) (i64 r.2)
@[simp] theorem Zg (r : List UInt8 × Int) : aS (ot r) := by simp [ot]
theorem Yt{P:Program}{f:FuncId}{args:List Value}{r:List UInt8×Int}(h:∀w,Calls P f args.toArray w fun e w'=>e=.returned (.tuple #[.string ⟨r.1.toArray⟩,.int .i64 r.2])/\aX w w'):ab P f (args.map .val) (ot r) :=
 dT (v:=.tuple #[.string ⟨r.1.toArray⟩,.int .i64 r.2]) (fun c=>by unfold ot ic Rep;exact⟨[_,_],rfl,aj.2 ⟨ar _ _,aj.2 ⟨ar _ _,aG.2 rfl⟩⟩⟩) h
theorem PO{w:World}{v:Value}:∀{e:Ending} {w':World},(e=.returned v/\Below w.heap.size w w')->(e=.returned v/\aX w w'):=by rintro e w' ⟨h,k⟩;exact⟨h,aX.of_below k⟩
theorem ZU(n b:Int)(hn : -9223372036854775808<=n/\n<=9223372036854775807):ab prog 332 [i64 n,i64 b] (ot (iU n b)):=Yt (args:=[.int .i64 n,.int .i64 b]) fun w=>Calls.mono (R3 n b w hn) fun _ _ h=>PO h
theorem Xh(n b:Int)(hn : -9223372036854775808<=n/\n<=9223372036854775807):ab prog 333 [i64 n,i64 b] (ot (gF n b)):=Yt (args:=[.int .i64 n,.int .i64 b]) fun w=>Calls.mono (tl n b w hn) fun _ _ h=>PO h
theorem Uw(n:Int):ab prog 379 [i64 n] (.val (.int .u8 (wb n))):=dT (args:=[.int .i64 n]) (fun c=>ar _ _) fun w=>Calls.mono (xh n w) fun _ _ h=>L8 h
theorem BA{B:Nat->Nat->Prop}{H:List Ob}{σ:Nat->Option Nat}{w w':World}(s:Sim B H σ w)(g:aX w w'){xs:List Int}{b c:Nat}(hb:w.heap.size<=b)(hl:xs.length<=c)(hc:∀i,i<xs.length->w'.cell? ⟨b,i,none⟩=some (.int .u8 (xs.getD i 0))):
  Rep (cx B H σ w') (.seq xs.length (xs.map j5) .any) (.slice (some ⟨b,0,none⟩) xs.length c):=by
 unfold Rep
 refine⟨_,c,xs.map (Value.int .u8),rfl,hl,(fun h=>by cases h),?_,fun a ha=>?_,trivial⟩
 ·clear hc hl
  induction xs with
  | nil=>exact aG.2 rfl
  | cons x l ih=>exact aj.2 ⟨ar _ _,ih⟩
 cases ha
 refine .inl ⟨rfl,fun j u hj=>⟨?_,?_⟩⟩
 ·have hjl:j<xs.length:=by have:=cV hj;simpa using this
  show w'.cell? ⟨b,0+j,none⟩=some u
  rw[Nat.zero_add,hc j hjl]
  rw[List.getElem?_map,List.getElem?_eq_getElem hjl]at hj
  simp only[Option.map_some,Option.some.injEq]at hj
  rw[<-hj];simp[List.getD,hjl]
 rintro(h|⟨i,oi,h1,h2,h3⟩)
 ·have:=s.base _ _ h;dsimp only at this;omega
 have hl:oi.live=true:=by cases oi<;>first|rfl|cases h3
 have:=(s.holds i oi h1).lt hl h2
 simp only[cx]at this;omega
theorem SA(u:Nat):∀x∈lD u,0<=x/\x<256:=by
 intro x hx
 simp only[lD,List.mem_cons,List.not_mem_nil,or_false]at hx
 omega
def tP(n:Int):List UInt8:=(lD (U n)).map fun x=>UInt8.ofNat x.toNat
theorem kx(n:Int):(tP n).length=8:=rfl
theorem TA(n:Int):PV.seq 8 ((lD (U n)).map j5) .any=sq aK (tP n):=by
 unfold sq tP
 rw[j8,List.map_map,List.map_map]
 have:∀x∈lD (U n),j5 x=(j5 ∘ (fun b:UInt8=>(b.toNat:Int)) ∘ fun x=>UInt8.ofNat x.toNat) x:=by
  intro x hx
  have:=SA (U n) x hx
  simp only[Function.comp]
  rw[UInt8.toNat_ofNat']
  congr 1
  omega
 rw[List.map_congr_left this]
 rfl
theorem Eh{f:FuncId}(n:Int)(h:∀w,Calls prog f #[.int .i64 n] w (AA (lD (U n)) w)):ab prog f [i64 n] (sq aK (tP n)):=by
 rw[<-TA]
 intro H B σ w vs s hv
 have:=s6 (l:=[.int .i64 n]) hv
 subst this
 refine Calls.mono (h w) ?_
 rintro e w' ⟨b,c,rfl,hb,hl,hc,hbel⟩
 have g:=aX.of_below hbel
 obtain⟨s',st⟩:=fH s g
 exact⟨_,σ,rfl,BA s g hb hl hc,s',st⟩
theorem C7(n:Int):ab prog 124 [i64 n] (sq aK (tP n)):=Eh n (Rz n)
def jy(l:List UInt8)(k:Nat)(b:List UInt8):List UInt8:=l.take k++b++l.drop (k+b.length)
theorem CS{l b:List UInt8}{k:Nat}(h:k+b.length<=l.length):(jy l k b).length=l.length:=by simp[jy];omega
theorem JW{xs ys:List PV}(h:ys.length=xs.length):cy xs 0 ys=ys:=by simp[cy,h]
theorem Dg(l:List UInt8)(k:Nat):(l.flatMap aK).take k=(l.take k).flatMap aK:=by
 have:=nc aK 1 (fun _=>rfl) k l
 rwa [Nat.mul_one]at this
theorem UR(l:List UInt8)(k:Nat):(l.flatMap aK).drop k=(l.drop k).flatMap aK:=by
 have:=ij aK 1 (fun _=>rfl) k l
 rwa [Nat.mul_one]at this
theorem fv(l:List UInt8):(l.flatMap aK).length=l.length:=by rw[al aK 1 (fun _=>rfl),Nat.mul_one]
theorem Nw(l b:List UInt8)(k:Nat):cy (l.flatMap aK) k (b.flatMap aK)=(jy l k b).flatMap aK:=by
 unfold cy jy
 rw[Dg,fv,UR,List.flatMap_append,List.flatMap_append]
theorem NB{l b:List UInt8}{k c:Nat}(h:k+b.length<=l.length)(hc:c=if l.length=k then 0 else 0+k*1):cy (l.flatMap aK) c ((b.flatMap aK).take (min b.length (l.length-k)*1))=(jy l k b).flatMap aK:=by
 rw[Nat.min_eq_left (by omega),Nat.mul_one,List.take_of_length_le (by rw[fv];exact Nat.le_refl _)]
 rw[<-Nw]
 split at hc
 ·have:b=[]:=List.eq_nil_of_length_eq_zero (by omega)
  subst this
  subst hc
  simp[cy]
 rw[hc];congr 1;omega
theorem Np{l:List UInt8}{d:TD}(hs:d.size=1)(hz:d.zero.length=1){e:TypeId}:[Ob.cells (l.flatMap aK) e]=[Ob.cells (cy (fq (l.length:Int).toNat d) 0 (List.take (min l.length (l.length:Int).toNat*d.size) (List.flatMap aK l))) e]:=by
 rw[Int.toNat_natCast,Nat.min_self,hs,Nat.mul_one,List.take_of_length_le (by rw[fv];exact Nat.le_refl _),JW (by rw[mj _ _ (by rw[hs,hz]),fv,hs,Nat.mul_one])]
theorem WG{l b:List UInt8}{k:Nat}(h:k+b.length<=l.length):PV.seq (l.length:Int).toNat (((jy l k b).flatMap aK).take (jy l k b).length) .any=sq aK (jy l k b):=by
 rw[Dg,List.take_length,Int.toNat_natCast]
 unfold sq
 rw[CS h]
theorem Sa(l:List UInt8)(at_:Int)(b:List UInt8)(hl:l.length<=1000000)(h0:0<=at_)(h1:at_+b.length<=l.length):ab prog 173 [sq aK l,i64 at_,sq aK b] (sq aK (jy l at_.toNat b)):=by
 refine zY func173 fun B=>?_
 refine zu1 ?_
 refine zp2 ?_
 refine z2 ?_ (q:=(by(simp_all;omega)))
 refine zs1 ?_
 refine zp2 ?_
 refine Wd rfl rfl (nt (lO tG rfl) rfl (lO tG rfl) rfl rfl rfl rfl (al _ 1 (fun _=>rfl) _) (bD _ (fun _=>rfl) _) (by rw[mj _ _ rfl];simp)) ?_
 refine jx (H':=[.cells (l.flatMap aK) 5]) (Np rfl rfl) ?_
 refine Wn<|zp2 ?_
 refine z2 ?_ (q:=(by(simp_all;omega)))
 refine z1 ?_
 refine Wd rfl rfl (nt (lO tG rfl) rfl (lO tG rfl) rfl rfl rfl rfl (al _ 1 (fun _=>rfl) _) (bD _ (fun _=>rfl) _) (by rw[fv];dsimp only;split<;>omega)) ?_
 refine jx (H':=[.cells ((jy l at_.toNat b).flatMap aK) 5]) (congrArg (fun z=>[Ob.cells z 5]) (NB (by omega) rfl).symm) ?_
 refine Wn<|zp1 ?_
 refine Wm 19 rfl (oV (Nat.le_refl _)) ?_
 refine pY 19 0 _ (jy l at_.toNat b).length rfl rfl (by rw[fv];exact Nat.le_refl _) ?_
 refine Wa 19 rfl (WG (by omega)) ?_
 refine zs1 ?_
 refine zR ?_
 rfl
structure cZ (m:bj):Prop where
 b:m.b.length<=1000000
 old:m.old.length<=1000000
def ce(m:bj)(at_:Int)(b:List UInt8):bj×Int :=
 if bp m at_ b.length then(if b=[]then(m,0)else(⟨jy m.b at_.toNat b,m.old++[⟨at_,(m.b.drop at_.toNat).take b.length⟩]⟩,0))else(m,-9)
def vq(r:bj×Int):PV:=ic (jl r.1) (i64 r.2)
@[simp] theorem aj7 (r : bj × Int) : aS (vq r) := by simp [vq]
theorem an3{n:Nat}(h:n<=1000000):ae n:=by unfold ae;omega
theorem HY{m:bj}{at_:Int}{n:Nat}(h:bp m at_ n=true)(h0:n≠0):0<=at_/\at_+n<=m.b.length:=by
 unfold bp at h
 simp only[decide_eq_true_eq]at h
 omega
theorem KE{x:Int}(h0:0<=x)(h1:x<=1000000):IntKind.i64.wrap x=x:=by rw[bS];unfold wrap64;omega
theorem KC{l:List UInt8}{a b:Nat}:(l.take b).drop a=(l.drop a).take (b-a):=by rw[List.drop_take]
theorem W8{l:List UInt8}{x:Int}{n:Nat}(h0:0<=x)(h:IntKind.i64.wrap (x+n)=x+n):sq aK ((l.take (IntKind.i64.wrap (x+n)).toNat).drop x.toNat)=sq aK ((l.drop x.toNat).take n):=by
 rw[h,KC];congr 2;omega
theorem G0{m:bj}{at_:Int}{b:List UInt8}(h:bp m at_ b.length=false):ce m at_ b=(m,-9):=by unfold ce;rw[h];rfl
theorem EV{m:bj}{at_:Int}{b:List UInt8}(h:bp m at_ b.length=true)(h0:b.length=0):ce m at_ b=(m,0):=by unfold ce;rw[h,if_pos rfl,if_pos (List.eq_nil_of_length_eq_zero h0)]
theorem Fj{m:bj}{at_:Int}{b:List UInt8}(h:bp m at_ b.length=true)(h0:b.length≠0):ce m at_ b=(⟨jy m.b at_.toNat b,m.old++[⟨at_,(m.b.drop at_.toNat).take b.length⟩]⟩,0):=by
 unfold ce;rw[h,if_pos rfl,if_neg (fun e=>h0 (by rw[e];rfl))]
theorem nI(m:bj)(at_:Int)(b:List UInt8)(hm:cZ m)(ha:ae at_)(hb:b.length<=1000000):ab prog 123 [jl m,i64 at_,sq aK b] (vq (ce m at_ b)):=by
 have hm1:=hm.b
 have hm2:=hm.old
 refine zY func123 fun B=>?_
 refine zu3 ?_
 refine Ws<|zp4 ?_
 refine zc rfl func102 ((pr m at_ b.length (by omega) ha (an3 hb)) _) ?_
 refine zs1 ?_
 refine Wi rfl (fun hi1=>?_) (fun hi1=>?_)
 ·rw[G0 (by simpa using hi1)]
  refine zu3 ?_
  refine zR ?_
  rfl
 have ht:bp m at_ b.length=true:=by simpa using hi1
 refine Wj<|Ws<|zu3 ?_
 refine Wi rfl (fun hi2=>?_) (fun hi2=>?_)
 ·rw[EV ht (by simpa using hi2)]
  refine zu3 ?_
  refine zR ?_
  rfl
 have hne:b.length≠0:=by simpa using hi2
 obtain⟨k0,k1⟩:=HY ht hne
 have k2:IntKind.i64.wrap (at_+b.length)=at_+b.length:=KE (by omega) (by omega)
 refine Wj<|Ws<|az [0,1,0,0,0,1,0,0,0,0,0,0,0,0,0,0,0,3] [0,1,2,3,4,5,6,7,8,9,10,11,12,13,14,15,16,17] mG rfl (by kernel_rfl) ?_
 refine z3 ?_
 refine z5 ?_
 refine Xc rfl rfl rfl rfl (fun _=>dC rfl func171 rfl rfl ((Et m.old (by omega)) _)) ?_
 iterate 2 refine z3 ?_
 refine z5 ?_
 iterate 5 refine z3 ?_
 refine z4 ?_ (q:=(by rw[k2];omega))
 refine Xa 30 rfl (cK aK 1 (fun _=>rfl) (by rw[k2];omega)) ?_
 refine Xc rfl rfl rfl rfl (fun _=>dC rfl func172 rfl rfl ((xO _ (by simp;omega)) _)) ?_
 refine Xa 31 rfl (W8 k0 k2) ?_
 iterate 2 refine z3 ?_
 refine Xa 33 rfl ((show PV.seq 1 _ .clip=.seq (List.length [(⟨at_,(m.b.drop at_.toNat).take b.length⟩:sW)]) (List.flatMap mF [(⟨at_,(m.b.drop at_.toNat).take b.length⟩:sW)]) .clip from rfl)) ?_
 refine gW rfl rfl rfl rfl (fun _=>cg (lO tG rfl) rfl (lO tG rfl) (lO tG rfl) rfl rfl (by exact⟨_,rfl⟩) (by exact⟨rfl,rfl,al _ 2 (fun _=>rfl) _,bD _ (fun _=>rfl) _⟩) (by exact al _ 2 (fun _=>rfl) _) (by((simp_all;omega))) (by((simp_all;omega))) (by exact fy (bt (fun x=>by simp) _) (bt (fun x=>by simp) _))) ?_
 refine Xa 34 rfl (cw mF) ?_
 refine z3 ?_
 refine dz tG rfl rfl rfl rfl rfl trivial ?_
 refine aP ?_
 refine zp4 ?_
 refine zc rfl func173 ((Sa _ _ _ hm1 k0 k1) _) ?_
 refine zs2 ?_
 refine zu3 ?_
 refine zR ?_
 rw[Fj ht hne];rfl
def loB(n:Int):UInt8:=UInt8.ofNat (n%256).toNat
theorem Pi(n:Int):IntKind.u8.wrap n=((loB n).toNat:Int):=by
 unfold loB
 rw[UInt8.toNat_ofNat']
 simp[IntKind.wrap,IntKind.bits,IntKind.signed]
 omega
theorem zH(n:Int):PV.val (.int .u8 (IntKind.u8.wrap n))=.val (.int .u8 ((loB n).toNat:Int)):=by rw[Pi]
def aF(m:bj)(at_ n:Int):bj×Int:=if cU m at_=0 then ce m at_ (tP n)else(m,cU m at_)
def m6(m:bj)(at_ n:Int):bj×Int:=ce m at_ [loB n]
def dU(m:bj)(at_:Int):Int×Int:=if bp m at_ 1 then(((m.b.getD at_.toNat 0).toNat:Int),0)else(0,-9)
def dN(m:bj)(at_ n:Int):List UInt8×Int:=if bp m at_ n then((m.b.drop at_.toNat).take n.toNat,0)else([],-9)
def m4(m:bj)(x to_ n:Int):bj×Int:=if (dN m x n).2=0 then ce m to_ (dN m x n).1 else(m,(dN m x n).2)
def m5(m:bj)(at_ n c:Int):bj×Int:=if bp m at_ n then ce m at_ (List.replicate n.toNat (loB c))else(m,-9)
def Qr(r:List UInt8×Int):PV:=ic (sq aK r.1) (i64 r.2)
@[simp] theorem YZ (r : List UInt8 × Int) : aS (Qr r) := by simp [Qr]
theorem jp(m:bj)(at_ n:Int)(hm:cZ m)(ha:ae at_):ab prog 92 [jl m,i64 at_,i64 n] (vq (aF m at_ n)):=by
 have hm1:=hm.b
 have hm2:=hm.old
 refine zY func92 fun B=>?_
 refine zu3 ?_
 refine Ws<|zp2 ?_
 refine zc rfl func72 ((zz m at_ (by omega) ha) _) ?_
 refine zs1 ?_
 refine zu2 ?_
 refine Wi rfl (fun hi1=>?_) (fun hi1=>?_)
 ·have h0:cU m at_≠0:=by simpa using hi1
  refine zu4 ?_
  refine zR ?_
  rw[aF,if_neg h0];rfl
 have h0:cU m at_=0:=by simpa using hi1
 refine Wj<|Ws<|az [1,0,0,0,0,0,0,3,0] [0,1,2,3,4,5,6,7,8] mG rfl (by kernel_rfl) ?_
 refine z5 ?_
 iterate 2 refine z3 ?_
 refine Xc rfl rfl rfl rfl (fun _=>dC rfl func124 rfl rfl ((C7 n) _)) ?_
 refine Xc rfl rfl rfl rfl (fun _=>dC rfl func123 rfl rfl ((nI m at_ (tP n) hm ha (by rw[kx];omega)) _)) ?_
 iterate 2 refine z3 ?_
 refine dz tG rfl rfl rfl rfl rfl trivial ?_
 refine z3 ?_
 refine aP ?_
 refine zR ?_
 rw[aF,if_pos h0];rfl
theorem Bo(m:bj)(at_ n:Int)(hm:cZ m)(ha:ae at_):ab prog 300 [jl m,i64 at_,i64 n] (vq (m6 m at_ n)):=by
 refine zY func300 fun B=>?_
 refine zu3 ?_
 refine zp4 ?_
 refine Wa 11 rfl (zH n) ?_
 refine z1 ?_
 refine Wa 12 rfl (bsL aK [_] rfl rfl) ?_
 refine zc rfl func123 ((nI m at_ [loB n] hm ha (by simp)) _) ?_
 refine zs4 ?_
 refine zR ?_
 rfl
theorem as7(b:UInt8):IntKind.i64.wrap (b.toNat:Int)=b.toNat:=by have:=b.toNat_lt;rw[bS];unfold wrap64;omega
theorem tY(m:bj)(at_:Int)(hm:cZ m)(ha:ae at_):ab prog 296 [jl m,i64 at_] (qP (dU m at_)):=by
 have hm1:=hm.b
 refine zY func296 fun B=>?_
 refine zu3 ?_
 refine Ws<|zp2 ?_
 refine zc rfl func102 ((pr m at_ 1 (by omega) ha (an3 (n:=1) (by omega))) _) ?_
 refine zs1 ?_
 refine Wi rfl (fun hi1=>?_) (fun hi1=>?_)
 ·refine zu2 ?_
  refine zR ?_
  rw[dU,if_neg (by simpa using hi1)];rfl
 have ht:bp m at_ 1=true:=by simpa using hi1
 obtain⟨k0,k1⟩:=HY (n:=1) ht (by omega)
 refine Wj<|zp3 ?_
 refine Wv tG rfl rfl rfl (by omega) (iR aK 1 (fun _=>rfl) 0 (by omega)) ?_
 refine zs4 ?_
 refine zR ?_
 rw[dU,if_pos ht];exact congrArg (fun z=>ic (i64 z) (i64 0)) (as7 _)
theorem Zk{m:bj}{at_ n:Int}(h:bp m at_ n=true)(h0:n≠0):0<n/\0<=at_/\at_+n<=m.b.length:=by
 unfold bp at h
 simp only[decide_eq_true_eq]at h
 omega
theorem T6{l:List UInt8}{x n:Int}(h0:0<=x)(h1:0<=n)(h:IntKind.i64.wrap (x+n)=x+n):sq aK ((l.take (IntKind.i64.wrap (x+n)).toNat).drop x.toNat)=sq aK ((l.drop x.toNat).take n.toNat):=by
 rw[h,KC];congr 2;omega
theorem zo(m:bj)(at_ n:Int)(hm:cZ m)(ha:ae at_)(hn:ae n):ab prog 257 [jl m,i64 at_,i64 n] (Qr (dN m at_ n)):=by
 have hm1:=hm.b
 refine zY func257 fun B=>?_
 refine zu3 ?_
 refine Ws<|zp3 ?_
 refine zc rfl func102 ((pr m at_ n (by omega) ha hn) _) ?_
 refine zs1 ?_
 refine Wi rfl (fun hi1=>?_) (fun hi1=>?_)
 ·have ht:¬bp m at_ n=true:=by simpa using hi1
  refine zu2 ?_
  refine zR ?_
  rw[dN,if_neg ht];rfl
 have ht:bp m at_ n=true:=by simpa using hi1
 refine Wj<|Ws<|zu2 ?_
 refine Wi rfl (fun hi2=>?_) (fun hi2=>?_)
 ·have hz:n=0:=by simpa using hi2
  refine zu2 ?_
  refine zR ?_
  rw[dN,if_pos ht,hz];rfl
 obtain⟨k0,k1,k3⟩:=Zk ht (by simpa using hi2)
 have k2:IntKind.i64.wrap (at_+n)=at_+n:=KE (by omega) (by omega)
 refine Wj<|zp5 ?_
 refine z1 ?_
 refine z2 ?_ (q:=(by rw[k2];omega))
 refine Wa 21 rfl (cK aK 1 (fun _=>rfl) (by rw[k2];omega)) ?_
 refine Wa 21 rfl (T6 k1 (by omega) k2) ?_
 refine zc rfl func172 ((xO _ (by simp;omega)) _) ?_
 refine zs2 ?_
 refine zR ?_
 rw[dN,if_pos ht];rfl
theorem GN{m:bj}{at_ n:Int}(hm:cZ m):(dN m at_ n).1.length<=1000000:=by
 have:=hm.b
 unfold dN
 split
 ·simp;omega
 simp
theorem SY(m:bj)(x to_ n:Int)(hm:cZ m)(hx:ae x)(ht:ae to_)(hn:ae n):ab prog 307 [jl m,i64 x,i64 to_,i64 n] (vq (m4 m x to_ n)):=by
 refine zY func307 fun B=>?_
 refine zu3 ?_
 refine zp3 ?_
 refine zc rfl func257 ((zo m x n hm hx hn) _) ?_
 refine zs5 ?_
 refine Ws<|zu2 ?_
 refine Wi rfl (fun hi1=>?_) (fun hi1=>?_)
 ·have h0:¬(dN m x n).2=0:=by simpa using hi1
  refine zu4 ?_
  refine zR ?_
  rw[m4,if_neg h0];rfl
 have h0:(dN m x n).2=0:=by simpa using hi1
 refine Wj<|zp3 ?_
 refine zc rfl func123 ((nI m to_ _ hm ht (GN hm)) _) ?_
 refine zs4 ?_
 refine zR ?_
 rw[m4,if_pos h0];rfl
def gC(p:dS)(c:Int):dS×Int:=if p.on=true/\p.b.length<130 then(⟨p.b++[loB c],p.on⟩,0)else(p,-17)
def oM(p:dS)(n:Int):dS×Int:=if 0<=n then(p,0)else gC p 45
def Mv(r:dS×Int):PV:=ic (yn r.1) (i64 r.2)
@[simp] theorem ah9 (r : dS × Int) : aS (Mv r) := by simp [Mv]
theorem N5:ab prog 337 [] (yn ⟨[],true⟩):=by
 refine zY func337 fun B=>?_
 refine zu1 ?_
 refine zu2 ?_
 refine zR ?_
 rfl
theorem Ay{p:dS}{c:Int}(h:¬(p.on=true/\p.b.length<130)):gC p c=(p,-17):=by unfold gC;rw[if_neg h]
theorem Ii{p:dS}{c:Int}(h:p.on=true/\p.b.length<130):gC p c=(⟨p.b++[loB c],p.on⟩,0):=by unfold gC;rw[if_pos h]
theorem AS(p:dS)(c:Int)(hp:p.b.length<=1000000):ab prog 342 [yn p,i64 c] (Mv (gC p c)):=by
 refine zY func342 fun B=>?_
 refine zu3 ?_
 refine Ws<|zp4 ?_
 refine Wb 10 rfl (fun hg1=>?_) (fun hg1=>?_)
 ·refine z6 ?_
  iterate 3 refine z6 ?_
  refine zs1 ?_
  refine Wt rfl rfl ?_
  refine zu3 ?_
  refine zR ?_
  have hno:¬(p.on=true/\p.b.length<130):=by rintro⟨q1,q2⟩;(try simp only[dnL]at *);(try simp_all)<;>omega
  rw[Ay hno];rfl
 refine zs5 ?_
 refine Wi rfl (fun hi1=>?_) (fun hi1=>?_)
 ·refine zu3 ?_
  refine zR ?_
  have hno:¬(p.on=true/\p.b.length<130):=by rintro⟨q1,q2⟩;(try simp only[dnL]at *);(try simp_all)<;>omega
  rw[Ay hno];rfl
 refine Wj<|zu4 ?_
 refine zp4 ?_
 refine z2 ?_ (q:=(by(simp_all;done)))
 refine Wa 24 rfl (cK aK 1 (fun _=>rfl) (by omega)) ?_
 refine Wa 24 rfl ((show _=sqc aK p.b by simp[sqc];rfl)) ?_
 refine zy2 ?_
 refine Wa 26 rfl (zH c) ?_
 refine z1 ?_
 refine Wa 27 rfl (bsL aK [_] rfl rfl) ?_
 refine Wd rfl rfl (cb (lO tG rfl) rfl (lO tG rfl) (lO tG rfl) rfl rfl (by exact⟨_,rfl⟩) (by exact⟨rfl,rfl,al _ 1 (fun _=>rfl) _,bD _ (fun _=>rfl) _⟩) (by exact al _ 1 (fun _=>rfl) _) (by((simp_all;omega))) (by((simp_all;omega)))) ?_
 refine Wa 28 rfl (cw aK) ?_
 refine zs2 ?_
 refine zu3 ?_
 refine zR ?_
 have hon:p.on=true:=by(try simp only[dnL]at *);simp_all
 have hyes:p.on=true/\p.b.length<130:=⟨hon,by(try simp only[dnL]at *);omega⟩
 rw[Ii hyes];rfl
inductive Op1 where
 | abs
 | neg
 | inv
 | inc
 | dec
 | dbl
 | half
 | cells
 | algn
 | cellp
 | eq0
 | lt0
 | ne0
 | gt0
deriving DecidableEq
def Pg:List (Str×Op1):=[([65,66,83],.abs),([78,69,71,65,84,69],.neg),([73,78,86,69,82,84],.inv),([49,43],.inc),([49,45],.dec),([50,42],.dbl),([50,47],.half),([67,69,76,76,83],.cells),([65,76,73,71,78,69,68],.algn),([67,69,76,76,43],.cellp),([48,61],.eq0),([48,60],.lt0),([48,60,62],.ne0),([48,62],.gt0)]
def op1(s:Str):Option Op1:=Pg.lookup s
def eZ(b:Bool):Int:=if b then -1 else 0
def one(o:Op1)(a:Int):Int:=match o with
 | .abs=>if 0<=a then a else wrap64 (-a)
 | .neg=>wrap64 (-a)
 | .inv=>-1-a
 | .inc=>wrap64 (a+1)
 | .dec=>wrap64 (a-1)
 | .dbl=>wrap64 (a+a)
 | .half=>a/2
 | .cells=>wrap64 (a*8)
 | .algn=>if a%8=0 then a else wrap64 (a-a%8+8)
 | .cellp=>wrap64 (a+8)
 | .eq0=>eZ (decide (a=0))
 | .lt0=>eZ (decide (a<0))
 | .ne0=>eZ (!decide (a=0))
 | .gt0=>eZ (decide (0<a))
def v7(name:Str)(a:Int):Int×Bool:=match op1 name with
 | some o=>(one o a,true)
 | none=>(0,false)
def jV(r:Int×Bool):PV:=ic (i64 r.1) (boo r.2)
@[simp] theorem aj4 (r : Int × Bool) : aS (jV r) := by simp [jV]
theorem kz{name:Str}{o:Op1}{a:Int}(h:op1 name=some o):v7 name a=(one o a,true):=by unfold v7;rw[h]
theorem WC{name:Str}{a:Int}(h:op1 name=none):v7 name a=(0,false):=by unfold v7;rw[h]
theorem Sw{s:Str}(h0:s≠[65,66,83])(h1:s≠[78,69,71,65,84,69])(h2:s≠[73,78,86,69,82,84])(h3:s≠[49,43])(h4:s≠[49,45])(h5:s≠[50,42])(h6:s≠[50,47])(h7:s≠[67,69,76,76,83])(h8:s≠[65,76,73,71,78,69,68])(h9:s≠[67,69,76,76,43])(h10:s≠[48,61])(h11:s≠[48,60])(h12:s≠[48,60,62])(h13:s≠[48,62]):op1 s=none:=by
 unfold op1 Pg
 simp only[List.lookup]
 simp[beq_eq_false_iff_ne.2 h0,beq_eq_false_iff_ne.2 h1,beq_eq_false_iff_ne.2 h2,beq_eq_false_iff_ne.2 h3,beq_eq_false_iff_ne.2 h4,beq_eq_false_iff_ne.2 h5,beq_eq_false_iff_ne.2 h6,beq_eq_false_iff_ne.2 h7,beq_eq_false_iff_ne.2 h8,beq_eq_false_iff_ne.2 h9,beq_eq_false_iff_ne.2 h10,beq_eq_false_iff_ne.2 h11,beq_eq_false_iff_ne.2 h12,beq_eq_false_iff_ne.2 h13]
theorem Tj(a:Int):wrap64 (0-a)=wrap64 (-a):=congrArg wrap64 (by omega)
theorem aa6{a:Int}(ha : -9223372036854775808<=a/\a<=9223372036854775807):wrap64 ((BitVec.ofInt 64 (-1) ^^^ BitVec.ofInt 64 a).toNat:Int) = -1-a:=by
 have h1:BitVec.ofInt 64 (-1)=BitVec.allOnes 64:=by decide
 rw[h1,BitVec.allOnes_xor,BitVec.toNat_not,BitVec.toNat_ofInt]
 have h2:((2 ^ 64:Nat):Int)=18446744073709551616:=by decide
 have h3:(2 ^ 64:Nat)=18446744073709551616:=by decide
 rw[h2,h3]
 unfold wrap64
 omega
theorem YD(a:Int):wrap64 (a*2 ^ min (Int.toNat 1) IntKind.i64.bits)=wrap64 (a+a):=by
 have:(2:Int) ^ min (Int.toNat 1) IntKind.i64.bits=2:=rfl
 rw[this];exact congrArg wrap64 (by omega)
theorem Xn(a:Int):a.fdiv (2 ^ min (Int.toNat 1) IntKind.i64.bits)=a/2:=by
 have:(2:Int) ^ min (Int.toNat 1) IntKind.i64.bits=2:=rfl
 rw[this,Int.fdiv_eq_ediv_of_nonneg _ (by omega)]
theorem Rl(x m:BitVec 64):(x &&& m)+(x &&& ~~~ m)=x:=by
 have h1:(x &&& m) &&& (x &&& ~~~ m)=0#64:=by
  ext i hi
  simp only[BitVec.getElem_and,BitVec.getElem_not,BitVec.getElem_zero]
  cases x[i]<;>cases m[i]<;>rfl
 rw[BitVec.add_eq_or_of_and_eq_zero _ _ h1]
 ext i hi
 simp only[BitVec.getElem_or,BitVec.getElem_and,BitVec.getElem_not]
 cases x[i]<;>cases m[i]<;>rfl
theorem af7(x:BitVec 64):(x &&& ~~~ 7#64).toNat=x.toNat-x.toNat%8:=by
 have h2:=Rl x 7#64
 have h4:=congrArg BitVec.toNat h2
 rw[BitVec.toNat_add]at h4
 have h5:(x &&& 7#64).toNat=x.toNat%8:=by rw[BitVec.toNat_and];exact Nat.and_two_pow_sub_one_eq_mod x.toNat 3
 have h6:(x &&& ~~~ 7#64).toNat<=x.toNat:=by rw[BitVec.toNat_and];exact Nat.and_le_left
 have h7:(2 ^ 64:Nat)=18446744073709551616:=by decide
 have h8:=x.isLt
 rw[h5]at h4
 rw[h7]at h4 h8
 omega
theorem WH{a:Int}(ha : -9223372036854775808<=a/\a<=9223372036854775807):wrap64 ((BitVec.ofInt 64 (IntKind.i64.wrap (IntKind.i64.wrap (a+8)-1)) &&& ~~~ BitVec.ofInt 64 7).toNat:Int)=if a%8=0 then a else wrap64 (a-a%8+8):=by
 have h1:BitVec.ofInt 64 7=7#64:=by decide
 rw[h1,af7,BitVec.toNat_ofInt]
 have h2:((2 ^ 64:Nat):Int)=18446744073709551616:=by decide
 rw[h2,bS,bS]
 unfold wrap64
 split<;>omega
theorem oh{x y:Int}(h:x=y):ic (.val (.int .i64 x)) (.val (.bool true))=jV (y,true):=by rw[h];rfl
theorem kE(b:Bool):ab prog 358 [boo b] (i64 (eZ b)):=by
 refine zY func358 fun B=>?_
 refine zu1 ?_
 refine Ws<|zu1 ?_
 refine Wi rfl (fun hi1=>?_) (fun hi1=>?_)
 ·refine zu1 ?_
  refine zR ?_
  simp_all[eZ,i64]
 refine Wj<|zu1 ?_
 refine zR ?_
 simp_all[eZ,i64]
theorem rc(b:Bool):ab prog 360 [boo b] (jV (eZ b,true)):=by
 refine zY func360 fun B=>?_
 refine zu2 ?_
 refine zp1 ?_
 refine zc rfl func358 ((kE b) _) ?_
 refine zs2 ?_
 refine zR ?_
 rfl
def Ud(name:Str)(a:Int):Int×Bool:=if name=[48,61]then(one .eq0 a,true)else if name=[48,60]then(one .lt0 a,true)else if name=[48,60,62]then(one .ne0 a,true)else if name=[48,62]then(one .gt0 a,true)else(0,false)
theorem PB{s:Str}{a:Int}(h0:s≠[65,66,83])(h1:s≠[78,69,71,65,84,69])(h2:s≠[73,78,86,69,82,84])(h3:s≠[49,43])(h4:s≠[49,45])(h5:s≠[50,42])(h6:s≠[50,47])(h7:s≠[67,69,76,76,83])(h8:s≠[65,76,73,71,78,69,68])(h9:s≠[67,69,76,76,43]):Ud s a=v7 s a:=by
 unfold Ud
 by_cases h10:s=[48,61]
 ·subst h10;rfl
 rw[if_neg h10]
 by_cases h11:s=[48,60]
 ·subst h11;rfl
 rw[if_neg h11]
 by_cases h12:s=[48,60,62]
 ·subst h12;rfl
 rw[if_neg h12]
 by_cases h13:s=[48,62]
 ·subst h13;rfl
 rw[if_neg h13]
 exact(WC (Sw h0 h1 h2 h3 h4 h5 h6 h7 h8 h9 h10 h11 h12 h13)).symm
theorem NT(name:Str)(a:Int):ab prog 275 [str name,i64 a] (jV (Ud name a)):=by
 refine zY func275 fun B=>?_
 refine zu2 ?_
 refine zu1 ?_
 refine Ws<|zu1 ?_
 refine Wl<|zp1 ?_
 refine zq 9 ?_
 refine zs1 ?_
 refine Wi rfl (fun hi1=>?_) (fun hi1=>?_)
 ·obtain rfl:=oT hi1
  refine zp3 ?_
  refine Wc rfl rfl (dW rfl rfl func360 rfl rfl (rc _ _)) ?_
  refine zs4 ?_
  refine zR ?_
  exact congrArg jV (Prod.ext (congrArg eZ (by rfl)) rfl)
 refine zp1 ?_
 refine zq 17 ?_
 refine zs1 ?_
 refine Wi rfl (fun hi2=>?_) (fun hi2=>?_)
 ·obtain rfl:=oT hi2
  refine zp3 ?_
  refine Wc rfl rfl (dW rfl rfl func360 rfl rfl (rc _ _)) ?_
  refine zs4 ?_
  refine zR ?_
  exact congrArg jV (Prod.ext (congrArg eZ (by rfl)) rfl)
 refine zp1 ?_
 refine zq 25 ?_
 refine zs1 ?_
 refine Wi rfl (fun hi3=>?_) (fun hi3=>?_)
 ·obtain rfl:=oT hi3
  refine zp3 ?_
  refine Wc rfl rfl (dW rfl rfl func360 rfl rfl (rc _ _)) ?_
  refine zs4 ?_
  refine zR ?_
  exact congrArg jV (Prod.ext (congrArg eZ (by rfl)) rfl)
 refine zp1 ?_
 refine zq 33 ?_
 refine zs1 ?_
 refine Wi rfl (fun hi4=>?_) (fun hi4=>?_)
 ·obtain rfl:=oT hi4
  refine zp3 ?_
  refine Wc rfl rfl (dW rfl rfl func360 rfl rfl (rc _ _)) ?_
  refine zs4 ?_
  refine zR ?_
  exact congrArg jV (Prod.ext (congrArg eZ (by rfl)) rfl)
 refine Wj<|zu2 ?_
 refine zR ?_
 have h1:=oF hi1
 have h2:=oF hi2
 have h3:=oF hi3
 have h4:=oF hi4
 rw[Ud,if_neg h1,if_neg h2,if_neg h3,if_neg h4];rfl
theorem KB(name:Str)(a:Int)(ha : -9223372036854775808<=a/\a<=9223372036854775807):ab prog 244 [str name,i64 a] (jV (v7 name a)):=by
 refine zY func244 fun B=>?_
 refine zu2 ?_
 refine Ws<|zu1 ?_
 refine Wl<|Ws<|Wl<|Ws<|Wl<|Ws<|Wl<|Ws<|Wl<|Ws<|Wl<|Ws<|Wl<|Ws<|Wl<|Ws<|Wl<|Ws<|Wl<|Ws<|Wl ?_
 iterate 2 refine Ws ?_
 refine zp1 ?_
 refine zq 8 ?_
 refine zs1 ?_
 refine Wi rfl (fun hi1=>?_) (fun hi1=>?_)
 ·obtain rfl:=oT hi1
  refine bf ?_
  refine zu2 ?_
  refine Wi rfl (fun hi2=>?_) (fun hi2=>?_)
  ·refine zu3 ?_
   refine zR ?_
   refine(oh (y:=one .abs a) ?_).trans (congrArg jV (kz (o:=.abs) rfl).symm)
   simp only[one];(((try simp only[dnL]at *);rw[if_pos (by omega)]))
  refine Wj<|Ws<|zu4 ?_
  refine zR ?_
  refine(oh (y:=one .abs a) ?_).trans (congrArg jV (kz (o:=.abs) rfl).symm)
  simp only[one];(((try simp only[dnL]at *);rw[if_neg (by omega),bS];exact Tj a))
 refine Wj<|Ws<|zp1 ?_
 refine zq 10 ?_
 refine zs1 ?_
 refine Wi rfl (fun hi3=>?_) (fun hi3=>?_)
 ·obtain rfl:=oT hi3
  refine bf ?_
  refine Ws<|zu4 ?_
  refine zR ?_
  refine(oh (y:=one .neg a) ?_).trans (congrArg jV (kz (o:=.neg) rfl).symm)
  simp only[one];((rw[bS];exact Tj a))
 refine Wj<|Ws<|zp1 ?_
 refine zq 12 ?_
 refine zs1 ?_
 refine Wi rfl (fun hi4=>?_) (fun hi4=>?_)
 ·obtain rfl:=oT hi4
  refine bf ?_
  refine Ws<|zu4 ?_
  refine zR ?_
  refine(oh (y:=one .inv a) ?_).trans (congrArg jV (kz (o:=.inv) rfl).symm)
  simp only[one];((rw[bS];exact aa6 ha))
 refine Wj<|Ws<|zp1 ?_
 refine zq 14 ?_
 refine zs1 ?_
 refine Wi rfl (fun hi5=>?_) (fun hi5=>?_)
 ·obtain rfl:=oT hi5
  refine bf ?_
  refine Ws<|zu4 ?_
  refine zR ?_
  refine(oh (y:=one .inc a) ?_).trans (congrArg jV (kz (o:=.inc) rfl).symm)
  simp only[one];((rw[bS];done))
 refine Wj<|Ws<|zp1 ?_
 refine zq 16 ?_
 refine zs1 ?_
 refine Wi rfl (fun hi6=>?_) (fun hi6=>?_)
 ·obtain rfl:=oT hi6
  refine bf ?_
  refine Ws<|zu4 ?_
  refine zR ?_
  refine(oh (y:=one .dec a) ?_).trans (congrArg jV (kz (o:=.dec) rfl).symm)
  simp only[one];((rw[bS];done))
 refine Wj<|Ws<|zp1 ?_
 refine zq 18 ?_
 refine zs1 ?_
 refine Wi rfl (fun hi7=>?_) (fun hi7=>?_)
 ·obtain rfl:=oT hi7
  refine bf ?_
  refine Ws<|zu4 ?_
  refine zR ?_
  refine(oh (y:=one .dbl a) ?_).trans (congrArg jV (kz (o:=.dbl) rfl).symm)
  simp only[one];((rw[bS];exact YD a))
 refine Wj<|Ws<|zp1 ?_
 refine zq 20 ?_
 refine zs1 ?_
 refine Wi rfl (fun hi8=>?_) (fun hi8=>?_)
 ·obtain rfl:=oT hi8
  refine bf ?_
  refine Ws<|zu4 ?_
  refine zR ?_
  refine(oh (y:=one .half a) ?_).trans (congrArg jV (kz (o:=.half) rfl).symm)
  simp only[one];exact Xn a
 refine Wj<|Ws<|zp1 ?_
 refine zq 22 ?_
 refine zs1 ?_
 refine Wi rfl (fun hi9=>?_) (fun hi9=>?_)
 ·obtain rfl:=oT hi9
  refine bf ?_
  refine Ws<|zu4 ?_
  refine zR ?_
  refine(oh (y:=one .cells a) ?_).trans (congrArg jV (kz (o:=.cells) rfl).symm)
  simp only[one];((rw[bS];done))
 refine Wj<|Ws<|zp1 ?_
 refine zq 24 ?_
 refine zs1 ?_
 refine Wi rfl (fun hi10=>?_) (fun hi10=>?_)
 ·obtain rfl:=oT hi10
  refine bf ?_
  refine Ws<|zp5 ?_
  refine zs1 ?_
  refine zR ?_
  refine(oh (y:=one .algn a) ?_).trans (congrArg jV (kz (o:=.algn) rfl).symm)
  simp only[one];((rw[bS];exact WH ha))
 refine Wj<|zp1 ?_
 refine zq 26 ?_
 refine zs1 ?_
 refine Wi rfl (fun hi11=>?_) (fun hi11=>?_)
 ·obtain rfl:=oT hi11
  refine bf ?_
  refine Ws<|zu4 ?_
  refine zR ?_
  refine(oh (y:=one .cellp a) ?_).trans (congrArg jV (kz (o:=.cellp) rfl).symm)
  simp only[one];((rw[bS];done))
 refine Wj<|bf ?_
 refine zp2 ?_
 refine zc rfl func275 ((NT name a) _) ?_
 refine zs4 ?_
 refine zR ?_
 rw[PB (oF hi1) (oF hi3) (oF hi4) (oF hi5) (oF hi6) (oF hi7) (oF hi8) (oF hi9) (oF hi10) (oF hi11)];rfl
inductive Op2 where
 | quo
 | rem
 | add
 | sub
 | mul
 | and
 | or
 | xor
 | shl
 | shr
 | min
 | max
 | eq
 | ne
 | lt
 | gt
 | le
 | ge
 | ult
 | ugt
deriving DecidableEq
def S5:List (Str×Op2):=[([47],.quo),([77,79,68],.rem),([43],.add),([45],.sub),([42],.mul),([65,78,68],.and),([79,82],.or),([88,79,82],.xor),([76,83,72,73,70,84],.shl),([82,83,72,73,70,84],.shr),([77,73,78],.min),([77,65,88],.max),([61],.eq),([60,62],.ne),([60],.lt),([62],.gt),([60,61],.le),([62,61],.ge),([85,60],.ult),([85,62],.ugt)]
def op2(s:Str):Option Op2:=S5.lookup s
def BF(a b:Int):Int:=wrap64 ((BitVec.ofInt 64 a &&& BitVec.ofInt 64 b).toNat:Int)
def orS(a b:Int):Int:=wrap64 ((BitVec.ofInt 64 a ||| BitVec.ofInt 64 b).toNat:Int)
def Bz(a b:Int):Int:=wrap64 ((BitVec.ofInt 64 a ^^^ BitVec.ofInt 64 b).toNat:Int)
def qr(a by_:Int)(up:Bool):Int:=if 63<U by_ then 0 else if up then S (U a*2 ^ U by_%18446744073709551616)else S (U a/2 ^ U by_)
def two(o:Op2)(a b:Int):Int×Int:=match o with
 | .quo=>((m9 a b).1,(m9 a b).2.2)
 | .rem=>((m9 a b).2.1,(m9 a b).2.2)
 | .add=>(wrap64 (a+b),0)
 | .sub=>(wrap64 (a-b),0)
 | .mul=>(wrap64 (a*b),0)
 | .and=>(BF a b,0)
 | .or=>(orS a b,0)
 | .xor=>(Bz a b,0)
 | .shl=>(qr a b true,0)
 | .shr=>(qr a b false,0)
 | .min=>(if b<a then b else a,0)
 | .max=>(if a<b then b else a,0)
 | .eq=>(eZ (decide (a=b)),0)
 | .ne=>(eZ (!decide (a=b)),0)
 | .lt=>(eZ (decide (a<b)),0)
 | .gt=>(eZ (decide (b<a)),0)
 | .le=>(eZ (decide (a<=b)),0)
 | .ge=>(eZ (decide (b<=a)),0)
 | .ult=>(eZ (decide (U a<U b)),0)
 | .ugt=>(eZ (decide (U b<U a)),0)
def lU(name:Str)(a b:Int):Int×Bool×Int:=match op2 name with
 | some o=>((two o a b).1,true,(two o a b).2)
 | none=>(0,false,0)
def xa(r:Int×Bool×Int):PV:=jW (i64 r.1) (boo r.2.1) (i64 r.2.2)
@[simp] theorem ai7 (r : Int × Bool × Int) : aS (xa r) := by simp [xa]
theorem XK{name:Str}{a b:Int}(h:op2 name=none):lU name a b=(0,false,0):=by unfold lU;rw[h]
theorem Qi{s:Str}(h0:s≠[47])(h1:s≠[77,79,68])(h2:s≠[43])(h3:s≠[45])(h4:s≠[42])(h5:s≠[65,78,68])(h6:s≠[79,82])(h7:s≠[88,79,82])(h8:s≠[76,83,72,73,70,84])(h9:s≠[82,83,72,73,70,84])(h10:s≠[77,73,78])(h11:s≠[77,65,88])(h12:s≠[61])(h13:s≠[60,62])(h14:s≠[60])(h15:s≠[62])(h16:s≠[60,61])(h17:s≠[62,61])(h18:s≠[85,60])(h19:s≠[85,62]):op2 s=none:=by
 unfold op2 S5
 simp only[List.lookup]
 simp[beq_eq_false_iff_ne.2 h0,beq_eq_false_iff_ne.2 h1,beq_eq_false_iff_ne.2 h2,beq_eq_false_iff_ne.2 h3,beq_eq_false_iff_ne.2 h4,beq_eq_false_iff_ne.2 h5,beq_eq_false_iff_ne.2 h6,beq_eq_false_iff_ne.2 h7,beq_eq_false_iff_ne.2 h8,beq_eq_false_iff_ne.2 h9,beq_eq_false_iff_ne.2 h10,beq_eq_false_iff_ne.2 h11,beq_eq_false_iff_ne.2 h12,beq_eq_false_iff_ne.2 h13,beq_eq_false_iff_ne.2 h14,beq_eq_false_iff_ne.2 h15,beq_eq_false_iff_ne.2 h16,beq_eq_false_iff_ne.2 h17,beq_eq_false_iff_ne.2 h18,beq_eq_false_iff_ne.2 h19]
def GM(name:Str)(a b:Int):Int×Bool:=if name=[61]then((two .eq a b).1,true)else if name=[60,62]then((two .ne a b).1,true)else if name=[62]then((two .gt a b).1,true)else if name=[60]then((two .lt a b).1,true)else if name=[60,61]then((two .le a b).1,true)else if name=[62,61]then((two .ge a b).1,true)else if name=[85,62]then((two .ugt a b).1,true)else if name=[85,60]then((two .ult a b).1,true)else(0,false)
theorem PA(name:Str)(a b:Int):ab prog 274 [str name,i64 a,i64 b] (jV (GM name a b)):=by
 refine zY func274 fun B=>?_
 refine zu2 ?_
 refine Ws<|zu1 ?_
 refine Wl<|Ws<|Wl<|Ws<|Wl<|Ws<|Wl<|Ws<|Wl<|Ws<|Wl<|Ws<|Wl<|Ws<|Wl<|Ws<|Wl ?_
 iterate 2 refine Ws ?_
 refine zp1 ?_
 refine zq 10 ?_
 refine zs1 ?_
 refine Wi rfl (fun hi1=>?_) (fun hi1=>?_)
 ·obtain rfl:=oT hi1
  refine bf ?_
  refine Ws<|zp3 ?_
  refine zc rfl func358 ((kE _) _) ?_
  refine zs2 ?_
  refine zR ?_
  refine congrArg jV (show(eZ _,true)=((two .eq a b).1,true) from ?_)
  simp only[two]<;>rfl
 refine Wj<|Ws<|zp1 ?_
 refine zq 12 ?_
 refine zs1 ?_
 refine Wi rfl (fun hi2=>?_) (fun hi2=>?_)
 ·obtain rfl:=oT hi2
  refine bf ?_
  refine Ws<|zp3 ?_
  refine zc rfl func358 ((kE _) _) ?_
  refine zs2 ?_
  refine zR ?_
  refine congrArg jV (show(eZ _,true)=((two .ne a b).1,true) from ?_)
  simp only[two]<;>rfl
 refine Wj<|Ws<|zp1 ?_
 refine zq 14 ?_
 refine zs1 ?_
 refine Wi rfl (fun hi3=>?_) (fun hi3=>?_)
 ·obtain rfl:=oT hi3
  refine bf ?_
  refine aa rfl ?_
  refine zs4 ?_
  refine Ws<|zp3 ?_
  refine zc rfl func358 ((kE _) _) ?_
  refine zs2 ?_
  refine zR ?_
  refine congrArg jV (show(eZ _,true)=((two .gt a b).1,true) from ?_)
  simp only[two]<;>first|rfl|(congr 2;done)|(congr 2;rw[Bool.eq_iff_iff]<;>simp)
 refine Wj<|Ws<|zp1 ?_
 refine zq 16 ?_
 refine zs1 ?_
 refine Wi rfl (fun hi4=>?_) (fun hi4=>?_)
 ·obtain rfl:=oT hi4
  refine bf ?_
  refine Ws<|zp3 ?_
  refine zc rfl func358 ((kE _) _) ?_
  refine zs2 ?_
  refine zR ?_
  refine congrArg jV (show(eZ _,true)=((two .lt a b).1,true) from ?_)
  simp only[two]<;>first|rfl|(congr 2;done)|(congr 2;rw[Bool.eq_iff_iff]<;>simp)
 refine Wj<|Ws<|zp1 ?_
 refine zq 18 ?_
 refine zs1 ?_
 refine Wi rfl (fun hi5=>?_) (fun hi5=>?_)
 ·obtain rfl:=oT hi5
  refine bf ?_
  refine aa rfl ?_
  refine zs4 ?_
  refine Ws<|zp3 ?_
  refine zc rfl func358 ((kE _) _) ?_
  refine zs2 ?_
  refine zR ?_
  refine congrArg jV (show(eZ _,true)=((two .le a b).1,true) from ?_)
  simp only[two]<;>first|rfl|(congr 2;done)|(congr 2;rw[Bool.eq_iff_iff]<;>simp)
 refine Wj<|Ws<|zp1 ?_
 refine zq 20 ?_
 refine zs1 ?_
 refine Wi rfl (fun hi6=>?_) (fun hi6=>?_)
 ·obtain rfl:=oT hi6
  refine bf ?_
  refine Ws<|zp3 ?_
  refine zc rfl func358 ((kE _) _) ?_
  refine zs2 ?_
  refine zR ?_
  refine congrArg jV (show(eZ _,true)=((two .ge a b).1,true) from ?_)
  simp only[two]<;>first|rfl|(congr 2;done)|(congr 2;rw[Bool.eq_iff_iff]<;>simp)
 refine Wj<|Ws<|zp1 ?_
 refine zq 22 ?_
 refine zs1 ?_
 refine Wi rfl (fun hi7=>?_) (fun hi7=>?_)
 ·obtain rfl:=oT hi7
  refine bf ?_
  refine aa rfl ?_
  refine zs4 ?_
  refine Ws<|zp2 ?_
  refine zc rfl func359 ((EM _ _) _) ?_
  refine zc rfl func358 ((kE _) _) ?_
  refine zs2 ?_
  refine zR ?_
  refine congrArg jV (show(eZ _,true)=((two .ugt a b).1,true) from ?_)
  simp only[two]<;>first|rfl|(congr 2;done)|(congr 2;rw[Bool.eq_iff_iff]<;>simp)
 refine Wj<|zp1 ?_
 refine zq 24 ?_
 refine zs1 ?_
 refine Wi rfl (fun hi8=>?_) (fun hi8=>?_)
 ·obtain rfl:=oT hi8
  refine bf ?_
  refine Ws<|zp2 ?_
  refine zc rfl func359 ((EM _ _) _) ?_
  refine zc rfl func358 ((kE _) _) ?_
  refine zs2 ?_
  refine zR ?_
  refine congrArg jV (show(eZ _,true)=((two .ult a b).1,true) from ?_)
  simp only[two]<;>first|rfl|(congr 2;done)|(congr 2;rw[Bool.eq_iff_iff]<;>simp)
 refine Wj<|bf ?_
 refine zu2 ?_
 refine zR ?_
 rw[GM,if_neg (oF hi1),if_neg (oF hi2),if_neg (oF hi3),if_neg (oF hi4),if_neg (oF hi5),if_neg (oF hi6),if_neg (oF hi7),if_neg (oF hi8)];rfl
theorem Ke(x lo hi:Int):ab prog 294 [i64 x,i64 lo,i64 hi] (boo (decide (U (wrap64 (x-lo))<U (wrap64 (hi-lo))))):=by
 refine zY func294 fun B=>?_
 refine zu1 ?_
 refine zp5 ?_
 refine z1 ?_
 refine zc rfl func359 ((EM _ _) _) ?_
 refine zs1 ?_
 refine zR ?_
 simp only[bS];rfl
theorem WJ{t:TypeId}{x y:Operand}{a b:Int}(h:0<=b):Jb .shl t x y (.int .u64 a) (.int .u64 b)=some (.int .u64 (IntKind.u64.wrap (a*2 ^ min b.toNat 64))):=by
 have h1:¬b<0:=by omega
 simp only[Jb,eqGuard,binOp,Op.shift,if_neg h1];rfl
theorem V2{t:TypeId}{x y:Operand}{a b:Int}(h:0<=b):Jb .shr t x y (.int .u64 a) (.int .u64 b)=some (.int .u64 (a.fdiv (2 ^ min b.toNat 64))):=by
 have h1:¬b<0:=by omega
 simp only[Jb,eqGuard,binOp,Op.shift,if_neg h1];rfl
theorem pvU(x:Int):PV.val (.int .u64 (IntKind.u64.wrap x))=.val (.int .u64 (U x:Int)):=by rw[ly]
theorem aq9(x:Int):U x<18446744073709551616:=by unfold U;omega
theorem Ub(a b:Int):IntKind.i64.wrap (IntKind.u64.wrap ((U a:Int)*2 ^ min ((U b:Int)).toNat 64))=qr a b true:=by
 unfold qr
 rw[Int.toNat_natCast,bS,IntKind.wrap_u64]
 by_cases h:63<U b
 ·rw[if_pos h,Nat.min_eq_right (by omega)]
  have e:(2:Int) ^ 64=18446744073709551616:=by decide
  rw[e,Int.mul_emod_left];unfold wrap64;omega
 rw[if_neg h,Nat.min_eq_left (by omega),if_pos rfl]
 unfold S
 congr 1
theorem Uy(a b:Int):IntKind.i64.wrap ((U a:Int).fdiv (2 ^ min ((U b:Int)).toNat 64))=qr a b false:=by
 unfold qr
 have hp:∀n:Nat,(0:Int)<=2 ^ n:=fun n=>Int.pow_nonneg (by omega)
 rw[Int.toNat_natCast,bS,Int.fdiv_eq_ediv_of_nonneg _ (hp _)]
 by_cases h:63<U b
 ·rw[if_pos h,Nat.min_eq_right (by omega)]
  have e:(2:Int) ^ 64=18446744073709551616:=by decide
  have:=aq9 a
  rw[e,Int.ediv_eq_zero_of_lt (by omega) (by omega)];unfold wrap64;omega
 rw[if_neg h,Nat.min_eq_left (by omega),if_neg (by simp)]
 unfold S
 congr 1
theorem B4(a by_:Int)(up:Bool):ab prog 273 [i64 a,i64 by_,boo up] (i64 (qr a by_ up)):=by
 refine zY func273 fun B=>?_
 refine zu1 ?_
 refine zp2 ?_
 refine Wa 9 rfl (pvU by_) ?_
 refine zs1 ?_
 refine Ws<|zu1 ?_
 refine Wi rfl (fun hi1=>?_) (fun hi1=>?_)
 ·obtain rfl:=hi1
  refine zp2 ?_
  refine Wa 12 rfl (pvU a) ?_
  refine z1 ?_
  refine Wd rfl rfl (zh rfl rfl rfl (WJ (by omega))) ?_
  refine zs2 ?_
  refine zR ?_
  exact congrArg i64 (Ub a by_)
 obtain rfl:=hi1
 refine Wj<|zp2 ?_
 refine Wa 17 rfl (pvU a) ?_
 refine z1 ?_
 refine Wd rfl rfl (zh rfl rfl rfl (V2 (by omega))) ?_
 refine zs2 ?_
 refine zR ?_
 exact congrArg i64 (Uy a by_)
end Go.Proofs.YtjcminooghmpeaaGreatDoor
