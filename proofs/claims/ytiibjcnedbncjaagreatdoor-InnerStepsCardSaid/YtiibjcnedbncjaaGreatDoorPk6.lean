import Derived.ArgAppend
import Derived.Stop.IfaceNil
import Derived.Test.YtiibjcnedbncjaaGreatDoorPk5
set_option linter.unusedVariables false
set_option linter.unusedSimpArgs false
set_option maxRecDepth 100000
set_option maxHeartbeats 40000000
namespace Go.Proofs.YtiibjcnedbncjaaGreatDoor
open Go.RowKit
namespace V
section
variable {P : Program} {B : Nat → Nat → Prop} {n : Nat} {md : Region.Mode} {ops : Array Oper} {cl : Nat → Nat}
def YU(P:Program)(B:Nat→Nat→Prop)(ops:Array Oper)(o:Oper)(T:Nat→PV)(H:List Ob)(x:PV)(H':List Ob):Prop :=
 (aj ops T o=some true∧(br P B o T H x H'∨gA P B o T H x H'))∨(aj ops T o=some false∧x=.val undef∧H'=H)
def FU(P:Program)(B:Nat→Nat→Prop)(ops:Array Oper)(c:Nat)(o:Oper)(T:Nat→PV)(H:List Ob)(x:PV)(H':List Ob):Prop :=
 match c with
 | 0=>H'=H∧∀H2,YU P B ops o T H2 x H2
 | 1=>H'=H∧∀E,YU P B ops o T (H++E) x (H++E)
 | 2=>∃E,H'=H++E
 | 3=>True
 | c+4=>match Nat.beq (c%2) 0 with
  | true=>H'=H∧c/2<H.length∧∀H2:List Ob,H2[c/2]?=H[c/2]?→YU P B ops o T H2 x H2
  | false=>∃ob,H'=H.set (c/2) ob
def rdB(c:Nat):Bool:=Nat.ble 4 c&&Nat.beq (c%2) 0
def wrB(c:Nat):Bool:=Nat.ble 4 c&&Nat.beq (c%2) 1
def blk(c:Nat):Nat:=(c-4)/2
def gI(a b:Nat):Bool:=Nat.beq a 0||Nat.beq b 0||(Nat.beq a 1&&Nat.ble b 2)||(rdB a&&(Nat.ble b 2||rdB b||(wrB b&&!Nat.beq (blk a) (blk b))))||(wrB a&&rdB b&&!Nat.beq (blk a) (blk b))
theorem YU.congr{o:Oper}{T T':Nat→PV}{H H':List Ob}{x:PV}(h:∀t∈o.looksAt ops,T' t=T t)(y:YU P B ops o T H x H'):YU P B ops o T' H x H':=by
 have hw:aj ops T' o=aj ops T o:=by
  unfold aj
  cases hg:o.guard with
  | none=>rfl
  | some q =>
   obtain⟨g,b⟩:=q
   simp only
   cases hd:(ops[g]?).bind (·.dst)with
   | none=>rfl
   | some d=>simp only;rw[h d (ll hg hd)]
 have ho:∀z∈o.op.operands.toList,opv T' z=opv T z:=fun z hz=>oG fun t ht=>h t (qn (by rw[←ht];exact hz))
 rcases y with ⟨h1,h2|h2⟩|⟨h1,h2⟩
 ·exact .inl ⟨by rw[hw];exact h1,.inl fun σ w a s k=>h2 σ w a s (fun z hz=>by rw[←ho z hz];exact k z hz)⟩
 ·exact .inl ⟨by rw[hw];exact h1,.inr fun σ w a s k=>h2 σ w a s (fun z hz=>by rw[←ho z hz];exact k z hz)⟩
 exact .inr ⟨by rw[hw];exact h1,h2⟩
theorem FU.congr{c:Nat}{o:Oper}{T T':Nat→PV}{H H':List Ob}{x:PV}(h:∀t∈o.looksAt ops,T' t=T t)(y:FU P B ops c o T H x H'):FU P B ops c o T' H x H':=by
 match c,y with
 | 0,y=>exact⟨y.1,fun H2=>(y.2 H2).congr h⟩
 | 1,y=>exact⟨y.1,fun E=>(y.2 E).congr h⟩
 | 2,y=>exact y
 | 3,_=>trivial
 | c+4,y =>
  simp only[FU]at y ⊢
  split at y
  ·exact⟨y.1,y.2.1,fun H2 h2=>(y.2.2 H2 h2).congr h⟩
  exact y
theorem FU.rd{c:Nat}{o:Oper}{T:Nat→PV}{H H':List Ob}{x:PV}(hc:rdB c=true)(f:FU P B ops c o T H x H'):H'=H∧blk c<H.length∧∀H2:List Ob,H2[blk c]?=H[blk c]?→YU P B ops o T H2 x H2:=by
 simp only[rdB,Bool.and_eq_true,Nat.ble_eq,Nat.beq_eq]at hc
 obtain⟨d,rfl⟩:∃d,c=d+4:=⟨c-4,by omega⟩
 have hd:Nat.beq (d%2) 0=true:=by rw[Nat.beq_eq];omega
 simp only[FU,hd]at f
 exact f
theorem FU.of_rd{c:Nat}{o:Oper}{T:Nat→PV}{H H':List Ob}{x:PV}(hc:rdB c=true)(f:H'=H∧blk c<H.length∧∀H2:List Ob,H2[blk c]?=H[blk c]?→YU P B ops o T H2 x H2):FU P B ops c o T H x H':=by
 simp only[rdB,Bool.and_eq_true,Nat.ble_eq,Nat.beq_eq]at hc
 obtain⟨d,rfl⟩:∃d,c=d+4:=⟨c-4,by omega⟩
 have hd:Nat.beq (d%2) 0=true:=by rw[Nat.beq_eq];omega
 simp only[FU,hd]
 exact f
theorem FU.wr{c:Nat}{o:Oper}{T:Nat→PV}{H H':List Ob}{x:PV}(hc:wrB c=true)(f:FU P B ops c o T H x H'):∃ob,H'=H.set (blk c) ob:=by
 simp only[wrB,Bool.and_eq_true,Nat.ble_eq,Nat.beq_eq]at hc
 obtain⟨d,rfl⟩:∃d,c=d+4:=⟨c-4,by omega⟩
 have hd:Nat.beq (d%2) 0=false:=by rw[←Bool.not_eq_true,Nat.beq_eq];omega
 simp only[FU,hd]at f
 exact f
theorem FU.of_wr{c:Nat}{o:Oper}{T:Nat→PV}{H H':List Ob}{x:PV}(hc:wrB c=true)(f:∃ob,H'=H.set (blk c) ob):FU P B ops c o T H x H':=by
 simp only[wrB,Bool.and_eq_true,Nat.ble_eq,Nat.beq_eq]at hc
 obtain⟨d,rfl⟩:∃d,c=d+4:=⟨c-4,by omega⟩
 have hd:Nat.beq (d%2) 0=false:=by rw[←Bool.not_eq_true,Nat.beq_eq];omega
 simp only[FU,hd]
 exact f
def qU(P:Program)(B:Nat→Nat→Prop)(ops:Array Oper)(cl:Nat→Nat)(i:Nat)(K:(Nat→PV)→List Ob→Prop)(T:Nat→PV)(H:List Ob):Prop :=
 match ops[i]? with
 | none=>K T H
 | some o=>∃x H',YU P B ops o T H x H'∧FU P B ops (cl i) o T H x H'∧K (al o.dst x T) H'
def lR(P:Program)(B:Nat→Nat→Prop)(md:Region.Mode)(ops:Array Oper)(cl:Nat→Nat)(Q:(Nat→PV)→List Ob→Prop):Nat→Array Bool→(Nat→PV)→List Ob→Prop
 | 0,listed,T,H=>Region.ready md ops listed=[]∧Q T H
 | fuel+1,listed,T,H=>(Region.ready md ops listed=[]→Q T H)∧∀i∈Region.ready md ops listed,qU P B ops cl i (lR P B md ops cl Q fuel (listed.setIfInBounds i true)) T H
theorem dN(hall:ei n ops=true){Q':Exit→Act→World→Prop}{Q:(Nat→PV)→List Ob→Prop}{H0:List Ob}{σ0:Nat→Option Nat}{w0:World}(hQ:∀T H σ w a,jz B n T H σ w a→di B H0 σ0 w0 H σ w→Q T H→Q' .normal a w):
  ∀(fuel:Nat) (listed:Array Bool) (T:Nat→PV) (H:List Ob) (σ:Nat→Option Nat) (w:World) (a:Act),jz B n T H σ w a→di B H0 σ0 w0 H σ w→lR P B md ops cl Q fuel listed T H→wpAny P md ops Q' fuel listed a w
 | 0,_,_,_,_,_,_,g,st,h=>⟨h.1,hQ _ _ _ _ _ g st h.2⟩
 | fuel+1,listed,T,H,σ,w,a,g,st,h=>by
  refine⟨fun h0=>hQ _ _ _ _ _ g st (h.1 h0),fun i hi=>?_⟩
  have h1:=h.2 i hi
  unfold qU at h1
  unfold wpOp
  cases ho:ops[i]? with
  | none=>simp only[ho]at h1 ⊢;exact dN hall hQ fuel _ T H σ w a g st h1
  | some o =>
   simp only[ho]at h1 ⊢
   obtain⟨x,H',hy,_,hk⟩:=h1
   have hd:∀j,o.dst=some j→Nat.blt j n=true:=fun j hj=>dW hall i j (by rw[ho];exact hj)
   have hgd:∀q,aj ops T o=some q→Region.wanted o (yielded ops a.tmps)=q:=fun q hq=>ku (dW hall) g hq
   rcases hy with ⟨hw,hdo|hdo⟩|⟨hw,rfl,rfl⟩
   ·rw[if_pos (hgd true hw)]
    refine .inl ?_
    obtain⟨v,w',σ',h2,h3,h4,h5⟩:=hdo σ w a g.sim (fun y _=>jG g.rep y)
    have k:=dN hall hQ fuel _ _ _ σ' w' _ (fE hd g h3 h4 h5) (st.trans h5) hk
    unfold Oper.wp
    rcases h2 with h2|⟨h2,rfl⟩
    ·rw[h2];exact k
    rw[h2];exact k
   ·rw[if_pos (hgd true hw)]
    refine .inl ?_
    obtain⟨f,args,h2,hc⟩:=hdo σ w a g.sim (fun y _=>jG g.rep y)
    unfold Oper.wp
    rw[h2]
    refine Calls.mono hc ?_
    rintro e w' ⟨v,σ',rfl,h3,h4,h5⟩
    exact dN hall hQ fuel _ _ _ σ' w' _ (fE hd g h3 h4 h5) (st.trans h5) hk
   rw[if_neg (by rw[hgd false hw];simp)]
   exact dN hall hQ fuel _ _ _ σ w _ (fE hd g (aD _ _) g.sim (di.refl _ _ _ _)) st hk
theorem Dx{ci cj:Nat}{oi oj:Oper}{T:Nat→PV}{H Hi Hj:List Ob}{x y:PV}(hc:gI ci cj=true)(h1:∀t∈oj.looksAt ops,al oi.dst x T t=T t)(h2:∀t∈oi.looksAt ops,al oj.dst y T t=T t)
  (yi:YU P B ops oi T H x Hi) (fi:FU P B ops ci oi T H x Hi) (yj:YU P B ops oj (al oi.dst x T) Hi y Hj) (fj:FU P B ops cj oj (al oi.dst x T) Hi y Hj) :
  ∃H',YU P B ops oj T H y H'∧FU P B ops cj oj T H y H'∧YU P B ops oi (al oj.dst y T) H' x Hj∧FU P B ops ci oi (al oj.dst y T) H' x Hj:=by
 have b1:∀t∈oj.looksAt ops,T t=al oi.dst x T t:=fun t ht=>(h1 t ht).symm
 have yj':=yj.congr b1
 have fj':=fj.congr b1
 simp only[gI,Bool.or_eq_true,Bool.and_eq_true,Nat.beq_eq,Nat.ble_eq]at hc
 rcases hc with (((rfl|rfl)|⟨rfl,hj⟩)|⟨hr,hj⟩)|⟨⟨hw,hr⟩,hne⟩
 ·obtain⟨rfl,hl⟩:=fi
  exact⟨Hj,yj',fj',(hl Hj).congr h2,rfl,fun H2=>(hl H2).congr h2⟩
 ·obtain⟨rfl,hl⟩:=fj'
  exact⟨H,hl H,⟨rfl,hl⟩,yi.congr h2,fi.congr h2⟩
 ·obtain⟨rfl,hl⟩:=fi
  have:∃E,Hj=Hi++E:=by
   match cj,hj,fj' with
   | 0,_,fj'=>exact⟨[],by rw[fj'.1];simp⟩
   | 1,_,fj'=>exact⟨[],by rw[fj'.1];simp⟩
   | 2,_,fj'=>exact fj'
   | c+3,hj,_=>omega
  obtain⟨E,rfl⟩:=this
  exact⟨Hi++E,yj',fj',(hl E).congr h2,rfl,fun E2=>by rw[List.append_assoc];exact(hl (E++E2)).congr h2⟩
 ·obtain⟨rfl,hlt,hl⟩:=fi.rd hr
  have key:Hj[blk ci]?=Hi[blk ci]?∧blk ci<Hj.length:=by
   rcases hj with (hj|hj)|⟨hj,hne⟩
   ·have:∃E,Hj=Hi++E:=by
     match cj,hj,fj' with
     | 0,_,fj'=>exact⟨[],by rw[fj'.1];simp⟩
     | 1,_,fj'=>exact⟨[],by rw[fj'.1];simp⟩
     | 2,_,fj'=>exact fj'
     | c+3,hj,_=>omega
    obtain⟨E,rfl⟩:=this
    exact⟨List.getElem?_append_left hlt,by simp;omega⟩
   ·obtain⟨rfl,_⟩:=fj'.rd hj
    exact⟨rfl,hlt⟩
   obtain⟨ob,rfl⟩:=fj'.wr hj
   refine⟨List.getElem?_set_ne ?_,by simpa using hlt⟩
   intro h;rw[h]at hne;simp at hne
  exact⟨Hj,yj',fj',(hl Hj key.1).congr h2,FU.of_rd hr ⟨rfl,key.2,fun H2 h3=>(hl H2 (h3.trans key.1)).congr h2⟩⟩
 obtain⟨ob,rfl⟩:=fi.wr hw
 obtain⟨rfl,hlt,hl⟩:=fj'.rd hr
 have hk:H[blk cj]?=(H.set (blk ci) ob)[blk cj]?:=by
  rw[List.getElem?_set_ne]
  intro h;rw[h]at hne;simp at hne
 exact⟨H,hl H hk,FU.of_rd hr ⟨rfl,by simpa using hlt,fun H2 h3=>hl H2 (h3.trans hk)⟩,yi.congr h2,fi.congr h2⟩
theorem pF{Q:(Nat→PV)→List Ob→Prop}{i:Nat}{oi:Oper}{x:PV}(hi:ops[i]?=some oi):∀(fuel:Nat) (listed:Array Bool) (T:Nat→PV) (H Hi:List Ob),
  (∀j oj,ops[j]?=some oj→j≠i→listed.getD j true=false→(∀e∈oj.after,Region.binds md e=true→e.on≠i)→oi.apart ops oj=true∧gI (cl i) (cl j)=true) →
  i∈Region.ready md ops listed→YU P B ops oi T H x Hi→FU P B ops (cl i) oi T H x Hi→lR P B md ops cl Q fuel (listed.setIfInBounds i true) (al oi.dst x T) Hi→lR P B md ops cl Q (fuel+1) listed T H:=by
 intro fuel
 have self:∀(fuel:Nat) (listed:Array Bool) (T:Nat→PV) (H Hi:List Ob),YU P B ops oi T H x Hi→FU P B ops (cl i) oi T H x Hi→lR P B md ops cl Q fuel (listed.setIfInBounds i true) (al oi.dst x T) Hi→qU P B ops cl i (lR P B md ops cl Q fuel (listed.setIfInBounds i true)) T H:=by
  intro fuel listed T H Hi hy hf h
  unfold qU
  simp only[hi]
  exact⟨x,Hi,hy,hf,h⟩
 induction fuel with
 | zero =>
  intro listed T H Hi _ hr hy hf h
  refine⟨fun h0=>(by rw[h0]at hr;cases hr),fun j hj=>?_⟩
  by_cases hji:j=i
  ·subst hji;exact self 0 listed T H Hi hy hf h
  have:=ready_mono hj hji
  rw[h.1]at this
  cases this
 | succ fuel ih =>
  intro listed T H Hi hfree hr hy hf h
  refine⟨fun h0=>(by rw[h0]at hr;cases hr),fun j hj=>?_⟩
  by_cases hji:j=i
  ·subst hji;exact self (fuel+1) listed T H Hi hy hf h
  have h1:=h.2 j (ready_mono hj hji)
  obtain⟨hjun,oj,hoj,hall⟩:=mem_ready.1 hj
  have hnot:∀e∈oj.after,Region.binds md e=true→e.on≠i:=fun e he hb heq=>by
   have a1:=hall e he hb
   have a0:=(mem_ready.1 hr).1
   rw[heq]at a1
   rcases Nat.lt_or_ge i listed.size with h'|h'
   ·simp[h']at a0 a1;rw[a0]at a1;cases a1
   simp[Array.getElem?_eq_none h']at a1
  obtain⟨hap,hcp⟩:=hfree j oj hoj hji hjun hnot
  obtain⟨l1,l2,l3⟩:=kX hap
  unfold qU at h1 ⊢
  simp only[hoj]at h1 ⊢
  obtain⟨y,Hj,hyj,hfj,hk⟩:=h1
  obtain⟨H',k1,k2,k3,k4⟩:=Dx hcp (fun t ht=>iD (l1 t ht)) (fun t ht=>iD (l2 t ht)) hy hf hyj hfj
  refine⟨y,H',k1,k2,ih (listed.setIfInBounds j true) _ H' Hj (fun k ok hk hki hun hno=>?_) (ready_mono hr (Ne.symm hji)) k3 k4 ?_⟩
  ·refine hfree k ok hk hki ?_ hno
   by_cases hjk:j=k
   ·subst hjk;exact hjun
   rw[getD_set_ne true hjk]at hun;exact hun
  rw[Array.setIfInBounds_comm _ _ hji,oZ _ _ _ l3]
  exact hk
def AZ(md:Region.Mode)(ops:Array Oper)(cl:Nat→Nat)(listed:Array Bool)(i:Nat)(oi:Oper):Bool :=
 ops.toList.zipIdx.all fun q=>Nat.beq q.2 i||listed.getD q.2 true||(q.1.after.any fun e=>Region.binds md e&&Nat.beq e.on i)||(oi.apart ops q.1&&gI (cl i) (cl q.2))
def uo(md:Region.Mode)(ops:Array Oper)(cl:Nat→Nat):List Nat→Array Bool→Bool
 | [],listed=>(Region.ready md ops listed).isEmpty
 | i::l,listed=>(Region.ready md ops listed).contains i&&(match ops[i]? with|some oi=>AZ md ops cl listed i oi|none=>false)&&uo md ops cl l (listed.setIfInBounds i true)
theorem pO{listed:Array Bool}{i:Nat}{oi:Oper}(h:AZ md ops cl listed i oi=true):∀j oj,ops[j]?=some oj→j≠i→listed.getD j true=false→(∀e∈oj.after,Region.binds md e=true→e.on≠i)→oi.apart ops oj=true∧gI (cl i) (cl j)=true:=by
 intro j oj hj hji hun hno
 have h1:=List.all_eq_true.1 h (oj,j) (te (by rw[Array.getElem?_toList];exact hj))
 simp only[Bool.or_eq_true,Bool.and_eq_true,Nat.beq_eq]at h1
 rcases h1 with ((h1|h1)|h1)|h1
 ·exact absurd h1 hji
 ·rw[hun]at h1;cases h1
 ·obtain⟨e,he,h3⟩:=Array.any_eq_true'.1 h1
  simp only[Bool.and_eq_true,Nat.beq_eq]at h3
  exact absurd h3.2 (hno e he h3.1)
 exact h1
def WU(P:Program)(B:Nat→Nat→Prop)(n:Nat)(ops:Array Oper)(cl:Nat→Nat):List Nat→(Nat→PV)→List Ob→((Nat→PV)→List Ob→Prop)→Prop
 | [],T,H,K=>K T H
 | i::l,T,H,K=>∃o,ops[i]?=some o∧∃x H',YU P B ops o T H x H'∧FU P B ops (cl i) o T H x H'∧WU P B n ops cl l (al o.dst x T) H' K
theorem nr{Q:(Nat→PV)→List Ob→Prop}:∀(l:List Nat) (listed:Array Bool) (T:Nat→PV) (H:List Ob),uo md ops cl l listed=true→WU P B n ops cl l T H Q→lR P B md ops cl Q l.length listed T H
 | [],listed,T,H,hB,h=>⟨by simpa[uo]using hB,h⟩
 | i::l,listed,T,H,hB,h=>by
  simp only[uo,Bool.and_eq_true]at hB
  obtain⟨⟨hr,hf⟩,hB'⟩:=hB
  obtain⟨o,ho,x,H',hy,hfu,hK⟩:=h
  rw[ho]at hf
  exact pF ho l.length listed T H H' (pO hf) (by simpa using hr) hy hfu (nr l _ _ _ hB' hK)
def Bl(l:List Nat)(i:Nat):Nat:=l.getD i 3
def zF(md:Region.Mode)(ops:Array Oper)(cl:List Nat)(ord:List Nat):Bool:=Nat.beq ord.length ops.size&&uo md ops (Bl cl) ord (Array.replicate ops.size false)
variable {T : Nat → PV} {H : List Ob} {Q : Exit → (Nat → PV) → List Ob → Prop}
theorem ai{id:Nat}(cl ord:List Nat)(hm:P.follows .mixedOrders=true)(hall:ei n ops=true)(hB:zF .any ops cl ord=true)(h:WU P B n ops (Bl cl) ord T H (fun T' H'=>Q .normal T' H')):W P B n (.region id ops true) T H Q:=by
 intro σ w a g
 simp only[zF,Bool.and_eq_true,Nat.beq_eq]at hB
 refine wp_region_any hm ?_
 have hd:bg w {w with drawn:=w.drawn+1}:=bg.drew w
 obtain⟨s',st⟩:=eM g.sim hd
 have hA:=nr (P:=P) (B:=B) (n:=n) (md:=.any) ord (Array.replicate ops.size false) T H hB.2 h
 rw[hB.1]at hA
 exact dN (P:=P) (md:=.any) hall (H0:=H) (σ0:=σ) (w0:=w) (Q':=xo B n H σ w Q) (fun T' H' σ' w' a' g' st' hq=>⟨T',H',σ',hq,g',st'⟩) ops.size _ T H σ _ a ⟨s',fun i=>(g.rep i).mono st.le,g.size,g.defers⟩ st hA
variable {o : Oper} {l : List Nat} {i : Nat} {K : (Nat → PV) → List Ob → Prop} {x : PV} {H' : List Ob} {G : List (Nat × TD)} {p : Prop} {d : Option Tmp}
theorem ah(h:K T H):WU P B n ops cl [] T H K:=h
theorem cI(h0:ops[i]?=some o)(hc:cl i=0)(hd:nfD n o.dst=some d)(hw:aj ops T o=some true)(h:∀H2,br P B o T H2 x H2)(k:WU P B n ops cl l (al d x T) H K):WU P B n ops cl (i::l) T H K :=
 ⟨o,h0,x,H,.inl ⟨hw,.inl (h H)⟩,by rw[hc];exact⟨rfl,fun H2=>.inl ⟨hw,.inl (h H2)⟩⟩,(cm hd).1▸k⟩
theorem Xc(h0:ops[i]?=some o)(hc:cl i=0)(hd:nfD n o.dst=some d)(hw:aj ops T o=some true)(h:∀H2,gA P B o T H2 x H2)(k:WU P B n ops cl l (al d x T) H K):WU P B n ops cl (i::l) T H K :=
 ⟨o,h0,x,H,.inl ⟨hw,.inr (h H)⟩,by rw[hc];exact⟨rfl,fun H2=>.inl ⟨hw,.inr (h H2)⟩⟩,(cm hd).1▸k⟩
theorem Xe(hG:cP P G=true)(h0:ops[i]?=some o)(hc:cl i=0)(hd:nfD n o.dst=some d)(hw:aj ops T o=some true)(h:∀H2,evS G T H2 o.type o.op=some (x,H2,p))(hp:p)(k:WU P B n ops cl l (al d x T) H K):WU P B n ops cl (i::l) T H K :=
 cI h0 hc hd hw (fun H2=>ek hG rfl (mX (h H2)) hp) k
theorem Xi{y:PV}(hG:cP P G=true)(h0:ops[i]?=some o)(hc:cl i=0)(hd:nfD n o.dst=some d)(hw:aj ops T o=some true)(h:∀H2,evS G T H2 o.type o.op=some (x,H2,p))(hp:p)(hi:Imp x y)(k:WU P B n ops cl l (al d y T) H K):WU P B n ops cl (i::l) T H K :=
 cI h0 hc hd hw (fun H2=>(ek hG rfl (mX (h H2)) hp).imp hi) k
theorem xW(h0:ops[i]?=some o)(hc:Nat.ble (cl i) 3=true)(hd:nfD n o.dst=some d)(hw:aj ops T o=some false)(k:WU P B n ops cl l (al d (.val undef) T) H K):WU P B n ops cl (i::l) T H K:=by
 refine⟨o,h0,_,H,.inr ⟨hw,rfl,rfl⟩,?_,(cm hd).1▸k⟩
 generalize cl i=q at hc
 match q,hc with
 | 0,_=>exact⟨rfl,fun H2=>.inr ⟨hw,rfl,rfl⟩⟩
 | 1,_=>exact⟨rfl,fun E=>.inr ⟨hw,rfl,rfl⟩⟩
 | 2,_=>exact⟨[],by simp⟩
 | 3,_=>trivial
 | c+4,hc=>rw[Nat.ble_eq]at hc;omega
theorem Xf(hG:cP P G=true)(h0:ops[i]?=some o)(hc:cl i=1)(hd:nfD n o.dst=some d)(hw:aj ops T o=some true)(h:∀E,evS G T (H++E) o.type o.op=some (x,H++E,p))(hp:p)(k:WU P B n ops cl l (al d x T) H K):WU P B n ops cl (i::l) T H K :=
 ⟨o,h0,x,H,.inl ⟨hw,.inl (by have:=ek (P:=P) (B:=B) (o:=o) hG rfl (mX (h [])) hp;rwa [List.append_nil]at this)⟩,by rw[hc];exact⟨rfl,fun E=>.inl ⟨hw,.inl (ek hG rfl (mX (h E)) hp)⟩⟩,(cm hd).1▸k⟩
theorem kw{E:List Ob}(hG:cP P G=true)(h0:ops[i]?=some o)(hc:cl i=2)(hd:nfD n o.dst=some d)(hw:aj ops T o=some true)(h:evN G T H o.type o.op=some (x,H',p))(hp:p)(hH:H'=H++E)(k:WU P B n ops cl l (al d x T) H' K):WU P B n ops cl (i::l) T H K :=
 ⟨o,h0,x,H',.inl ⟨hw,.inl (ek hG rfl (nd h) hp)⟩,by rw[hc];exact⟨E,hH⟩,(cm hd).1▸k⟩
theorem aZ(hG:cP P G=true)(h0:ops[i]?=some o)(hc:cl i=3)(hd:nfD n o.dst=some d)(hw:aj ops T o=some true)(h:evN G T H o.type o.op=some (x,H',p))(hp:p)(k:WU P B n ops cl l (al d x T) H' K):WU P B n ops cl (i::l) T H K :=
 ⟨o,h0,x,H',.inl ⟨hw,.inl (ek hG rfl (nd h) hp)⟩,by rw[hc];trivial,(cm hd).1▸k⟩
theorem ej(h0:ops[i]?=some o)(hc:cl i=3)(hd:nfD n o.dst=some d)(hw:aj ops T o=some true)(h:br P B o T H x H')(k:WU P B n ops cl l (al d x T) H' K):WU P B n ops cl (i::l) T H K :=
 ⟨o,h0,x,H',.inl ⟨hw,.inl h⟩,by rw[hc];trivial,(cm hd).1▸k⟩
theorem kK(h0:ops[i]?=some o)(hc:cl i=3)(hd:nfD n o.dst=some d)(hw:aj ops T o=some true)(h:gA P B o T H x H')(k:WU P B n ops cl l (al d x T) H' K):WU P B n ops cl (i::l) T H K :=
 ⟨o,h0,x,H',.inl ⟨hw,.inr h⟩,by rw[hc];trivial,(cm hd).1▸k⟩
theorem bZ(d:Nat){b:Bool}(hT:T d=.val (.bool b))(h1:b=true→WU P B n ops cl l (upd d (.val (.bool true)) T) H K)(h2:b=false→WU P B n ops cl l (upd d (.val (.bool false)) T) H K):WU P B n ops cl l T H K:=by
 have e:∀q,b=q→upd d (.val (.bool q)) T=T:=by
  rintro q rfl
  funext i
  by_cases hi:i=d
  ·subst hi;rw[dt,hT]
  rw[cp _ _ _ _ hi]
 cases hb:b with
 | true=>have:=h1 hb;rwa [e true hb]at this
 | false=>have:=h2 hb;rwa [e false hb]at this
theorem Xa(d:Nat){x y:PV}(hT:T d=x)(hxy:x=y)(h1:WU P B n ops cl l (upd d y T) H K):WU P B n ops cl l T H K:=by
 have e:upd d y T=T:=by
  funext i
  by_cases hi:i=d
  ·subst hi;rw[dt,hT,hxy]
  rw[cp _ _ _ _ hi]
 rwa [e]at h1
theorem J6{H':List Ob}(hH:H'=H)(h1:WU P B n ops cl l T H' K):WU P B n ops cl l T H K:=by subst hH;exact h1
theorem gu(b:Nat){ob:Ob}(h0:ops[i]?=some o)(hc:cl i=4+2*b)(hd:nfD n o.dst=some d)(hw:aj ops T o=some true)(hb:H[b]?=some ob)(h:∀H2:List Ob,H2[b]?=some ob→br P B o T H2 x H2)(k:WU P B n ops cl l (al d x T) H K):WU P B n ops cl (i::l) T H K:=by
 have hk:blk (4+2*b)=b:=by unfold blk;omega
 exact⟨o,h0,x,H,.inl ⟨hw,.inl (h H hb)⟩,by rw[hc];exact FU.of_rd (by simp only[rdB,Bool.and_eq_true,Nat.ble_eq,Nat.beq_eq];omega) ⟨rfl,by rw[hk];exact cn hb,fun H2 h2=>.inl ⟨hw,.inl (h H2 (by rw[hk,hb]at h2;exact h2))⟩⟩,(cm hd).1▸k⟩
theorem lM(b:Nat){ob:Ob}(hG:cP P G=true)(h0:ops[i]?=some o)(hc:cl i=5+2*b)(hd:nfD n o.dst=some d)(hw:aj ops T o=some true)(h:evN G T H o.type o.op=some (x,H',p))(hp:p)(hH:H'=H.set b ob)(k:WU P B n ops cl l (al d x T) H' K):WU P B n ops cl (i::l) T H K:=by
 have hk:blk (5+2*b)=b:=by unfold blk;omega
 exact⟨o,h0,x,H',.inl ⟨hw,.inl (ek hG rfl (nd h) hp)⟩,by rw[hc];exact FU.of_wr (by simp only[wrB,Bool.and_eq_true,Nat.ble_eq,Nat.beq_eq];omega) ⟨ob,by rw[hk];exact hH⟩,(cm hd).1▸k⟩
theorem Og(b:Nat){ob:Ob}(h0:ops[i]?=some o)(hc:cl i=5+2*b)(hd:nfD n o.dst=some d)(hw:aj ops T o=some true)(h:gA P B o T H x H')(hH:H'=H.set b ob)(k:WU P B n ops cl l (al d x T) H' K):WU P B n ops cl (i::l) T H K:=by
 have hk:blk (5+2*b)=b:=by unfold blk;omega
 exact⟨o,h0,x,H',.inl ⟨hw,.inr h⟩,by rw[hc];exact FU.of_wr (by simp only[wrB,Bool.and_eq_true,Nat.ble_eq,Nat.beq_eq];omega) ⟨ob,by rw[hk];exact hH⟩,(cm hd).1▸k⟩
end
section
variable {B : Nat → Nat → Prop} {n : Nat} {all ops : Array Oper} {cl : Nat → Nat} {i : Nat} {li : List Nat} {T : Nat → PV} {H H' : List Ob} {K : (Nat → PV) → List Ob → Prop} {Q : Exit → (Nat → PV) → List Ob → Prop} {l : List Oper} {o : Oper} {x : PV} {d : Option Tmp} {p : Prop}
theorem z3(k:WU Tryz.prog B n ops cl li (al d x T) H K)(h0:ops[i]?=some o:=by exact rfl)(hc:cl i=0:=by exact rfl)(hd:nfD n o.dst=some d:=by exact rfl)(hw:aj ops T o=some true:=by exact rfl)(h:∀H2,evS tys T H2 o.type o.op=some (x,H2,True):=by exact fun _=>rfl):WU Tryz.prog B n ops cl (i::li) T H K :=
 Xe tG h0 hc hd hw h trivial k
theorem z4(k:WU Tryz.prog B n ops cl li (al d x T) H K)(h0:ops[i]?=some o:=by exact rfl)(hc:cl i=0:=by exact rfl)(hd:nfD n o.dst=some d:=by exact rfl)(hw:aj ops T o=some true:=by exact rfl)(h:∀H2,evS tys T H2 o.type o.op=some (x,H2,p):=by exact fun _=>rfl)(q:p):WU Tryz.prog B n ops cl (i::li) T H K :=
 Xe tG h0 hc hd hw h q k
theorem z5(k:WU Tryz.prog B n ops cl li (al d x T) H K)(h0:ops[i]?=some o:=by exact rfl)(hc:cl i=1:=by exact rfl)(hd:nfD n o.dst=some d:=by exact rfl)(hw:aj ops T o=some true:=by exact rfl)(h:∀E,evS tys T (H++E) o.type o.op=some (x,H++E,True):=by exact fun _=>rfl):WU Tryz.prog B n ops cl (i::li) T H K :=
 Xf tG h0 hc hd hw h trivial k
theorem z7(k:WU Tryz.prog B n ops cl li (al d (.val undef) T) H K)(h0:ops[i]?=some o:=by exact rfl)(hc:Nat.ble (cl i) 3=true:=by exact rfl)(hd:nfD n o.dst=some d:=by exact rfl)(hw:aj ops T o=some false:=by exact rfl):WU Tryz.prog B n ops cl (i::li) T H K :=
 xW h0 hc hd hw k
end
end V
open Go.RowKit
namespace V
section
variable {P : Program} {B : Nat → Nat → Prop} {n : Nat} {ops : Array Oper} {cl : Nat → Nat} {md : Region.Mode}
theorem zU{Q:(Nat→PV)→List Ob→Prop}{i:Nat}{oi:Oper}{x:PV}(hi:ops[i]?=some oi)(D:List Nat)(hDi:i∈D)(hD:∀j∈D,j≠i→∃oj e,ops[j]?=some oj∧e∈oj.after∧Region.binds md e=true∧e.on∈D):∀(fuel:Nat) (listed:Array Bool) (T:Nat→PV) (H Hi:List Ob),
  (∀j∈D,listed.getD j true=false) →
  (∀j oj,ops[j]?=some oj→j∉D→listed.getD j true=false→oi.apart ops oj=true∧gI (cl i) (cl j)=true) →
  i∈Region.ready md ops listed→YU P B ops oi T H x Hi→FU P B ops (cl i) oi T H x Hi→lR P B md ops cl Q fuel (listed.setIfInBounds i true) (al oi.dst x T) Hi→lR P B md ops cl Q (fuel+1) listed T H:=by
 intro fuel
 have self:∀(fuel:Nat) (listed:Array Bool) (T:Nat→PV) (H Hi:List Ob),YU P B ops oi T H x Hi→FU P B ops (cl i) oi T H x Hi→lR P B md ops cl Q fuel (listed.setIfInBounds i true) (al oi.dst x T) Hi→qU P B ops cl i (lR P B md ops cl Q fuel (listed.setIfInBounds i true)) T H:=by
  intro fuel listed T H Hi hy hf h
  unfold qU
  simp only[hi]
  exact⟨x,Hi,hy,hf,h⟩
 induction fuel with
 | zero =>
  intro listed T H Hi _ _ hr hy hf h
  refine⟨fun h0=>(by rw[h0]at hr;cases hr),fun j hj=>?_⟩
  by_cases hji:j=i
  ·subst hji;exact self 0 listed T H Hi hy hf h
  have:=ready_mono hj hji
  rw[h.1]at this
  cases this
 | succ fuel ih =>
  intro listed T H Hi hun0 hfree hr hy hf h
  refine⟨fun h0=>(by rw[h0]at hr;cases hr),fun j hj=>?_⟩
  by_cases hji:j=i
  ·subst hji;exact self (fuel+1) listed T H Hi hy hf h
  have h1:=h.2 j (ready_mono hj hji)
  obtain⟨hjun,oj,hoj,hall⟩:=mem_ready.1 hj
  have hnot:j∉D:=fun hjD=>by
   obtain⟨oj2,e,k1,k2,k3,k4⟩:=hD j hjD hji
   rw[hoj]at k1
   obtain rfl:=Option.some.inj k1
   have a1:=hall e k2 k3
   have a0:=hun0 e.on k4
   rcases Nat.lt_or_ge e.on listed.size with h'|h'
   ·simp[h']at a0 a1;rw[a0]at a1;cases a1
   simp[Array.getElem?_eq_none h']at a1
  obtain⟨hap,hcp⟩:=hfree j oj hoj hnot hjun
  obtain⟨l1,l2,l3⟩:=kX hap
  unfold qU at h1 ⊢
  simp only[hoj]at h1 ⊢
  obtain⟨y,Hj,hyj,hfj,hk⟩:=h1
  obtain⟨H',k1,k2,k3,k4⟩:=Dx hcp (fun t ht=>iD (l1 t ht)) (fun t ht=>iD (l2 t ht)) hy hf hyj hfj
  refine⟨y,H',k1,k2,ih (listed.setIfInBounds j true) _ H' Hj (fun k hk=>?_) (fun k ok hk hki hun=>?_) (ready_mono hr (Ne.symm hji)) k3 k4 ?_⟩
  ·rw[getD_set_ne true (by rintro rfl;exact hnot hk)];exact hun0 k hk
  ·refine hfree k ok hk hki ?_
   by_cases hjk:j=k
   ·subst hjk;exact hjun
   rw[getD_set_ne true hjk]at hun;exact hun
  rw[Array.setIfInBounds_comm _ _ hji,oZ _ _ _ l3]
  exact hk
def IO(md:Region.Mode)(ops:Array Oper):Nat→List Nat→List Nat
 | 0,D=>D
 | k+1,D=>IO md ops k (D++((ops.toList.zipIdx.filter fun q=>!D.contains q.2&&(q.1.after.any fun e=>Region.binds md e&&D.contains e.on)).map (·.2)))
def NH(md:Region.Mode)(ops:Array Oper)(cl:Nat→Nat)(listed:Array Bool)(i:Nat)(oi:Oper)(D:List Nat):Bool :=
 D.contains i&&(D.all fun j=>Nat.beq j i||(match ops[j]? with|some oj=>oj.after.any fun e=>Region.binds md e&&D.contains e.on|none=>false))&&(D.all fun j=>!listed.getD j true) &&
  ops.toList.zipIdx.all fun q=>D.contains q.2||listed.getD q.2 true||(oi.apart ops q.1&&gI (cl i) (cl q.2))
def IT(md:Region.Mode)(ops:Array Oper)(cl:Nat→Nat):List Nat→Array Bool→Bool
 | [],listed=>(Region.ready md ops listed).isEmpty
 | i::l,listed=>(Region.ready md ops listed).contains i&&(match ops[i]? with|some oi=>NH md ops cl listed i oi (IO md ops 6 [i])|none=>false)&&IT md ops cl l (listed.setIfInBounds i true)
theorem wi{Q:(Nat→PV)→List Ob→Prop}:∀(l:List Nat) (listed:Array Bool) (T:Nat→PV) (H:List Ob),IT md ops cl l listed=true→WU P B n ops cl l T H Q→lR P B md ops cl Q l.length listed T H
 | [],listed,T,H,hB,h=>⟨by simpa[IT]using hB,h⟩
 | i::l,listed,T,H,hB,h=>by
  simp only[IT,Bool.and_eq_true]at hB
  obtain⟨⟨hr,hf⟩,hB'⟩:=hB
  obtain⟨o,ho,x,H',hy,hfu,hK⟩:=h
  rw[ho]at hf
  simp only[NH,Bool.and_eq_true]at hf
  obtain⟨⟨⟨f1,f2⟩,f3⟩,f4⟩:=hf
  refine zU ho (IO md ops 6 [i]) (by simpa using f1) (fun j hj hji=>?_) l.length listed T H H' (fun j hj=>?_) (fun j oj hj hjD hun=>?_) (by simpa using hr) hy hfu (wi l _ _ _ hB' hK)
  ·have:=List.all_eq_true.1 f2 j hj
   rw[Bool.or_eq_true,Nat.beq_eq]at this
   rcases this with h|h
   ·exact absurd h hji
   cases hoj:ops[j]? with
   | none=>rw[hoj]at h;cases h
   | some oj =>
    rw[hoj]at h
    obtain⟨e,he,h3⟩:=Array.any_eq_true'.1 h
    rw[Bool.and_eq_true]at h3
    exact⟨oj,e,rfl,he,h3.1,by simpa using h3.2⟩
  ·have:=List.all_eq_true.1 f3 j hj
   simpa using this
  have h1:=List.all_eq_true.1 f4 (oj,j) (te (by rw[Array.getElem?_toList];exact hj))
  simp only[Bool.or_eq_true,Bool.and_eq_true]at h1
  rcases h1 with (h1|h1)|h1
  ·exact absurd (by simpa using h1) hjD
  ·rw[hun]at h1;cases h1
  exact h1
def N5(md:Region.Mode)(ops:Array Oper)(cl:List Nat)(ord:List Nat):Bool:=Nat.beq ord.length ops.size&&IT md ops (Bl cl) ord (Array.replicate ops.size false)
variable {T : Nat → PV} {H : List Ob} {Q : Exit → (Nat → PV) → List Ob → Prop}
theorem dL{id:Nat}(cl ord:List Nat)(hm:P.follows .mixedOrders=true)(hall:ei n ops=true)(hB:N5 .any ops cl ord=true)(h:WU P B n ops (Bl cl) ord T H (fun T' H'=>Q .normal T' H')):W P B n (.region id ops true) T H Q:=by
 intro σ w a g
 simp only[N5,Bool.and_eq_true,Nat.beq_eq]at hB
 refine wp_region_any hm ?_
 have hd:bg w {w with drawn:=w.drawn+1}:=bg.drew w
 obtain⟨s',st⟩:=eM g.sim hd
 have hA:=wi (P:=P) (B:=B) (n:=n) (md:=.any) ord (Array.replicate ops.size false) T H hB.2 h
 rw[hB.1]at hA
 exact dN (P:=P) (md:=.any) hall (H0:=H) (σ0:=σ) (w0:=w) (Q':=xo B n H σ w Q) (fun T' H' σ' w' a' g' st' hq=>⟨T',H',σ',hq,g',st'⟩) ops.size _ T H σ _ a ⟨s',fun i=>(g.rep i).mono st.le,g.size,g.defers⟩ st hA
theorem je{o:Oper}{E:List Ob}{x:PV}{i:Nat}{l:List Nat}{d:Option Tmp}{K:(Nat→PV)→List Ob→Prop}(h0:ops[i]?=some o)(hc:cl i=2)(hd:nfD n o.dst=some d)(hw:aj ops T o=some true)(h:br P B o T H x (H++E))(k:WU P B n ops cl l (al d x T) (H++E) K):WU P B n ops cl (i::l) T H K :=
 ⟨o,h0,x,H++E,.inl ⟨hw,.inl h⟩,by rw[hc];exact⟨E,rfl⟩,(cm hd).1▸k⟩
end
end V
open Go.RowKit
section
variable {P : Program} {B : Nat → Nat → Prop} {n : Nat} {all : Array Oper} {T : Nat → PV} {H : List Ob} {o : Oper}
theorem u4{t g j:Nat}{td:TD}{u:Value}(f:ap P t td)(ha:td.agg=false)(ho:o.op=.load t (.global g))(hj:H[j]?=some (.glob g u)):br P B o T H (.val u) H :=
 aI fun σ w a s h=>by
  obtain⟨q1,_⟩:=s.holds j _ hj
  obtain⟨v,h2,h3⟩:=il (P:=P) (w:=w) (b:=g) (off:=0) (k:=0) (x:=.val u) f (c:=cx B H σ w) (am.2 ⟨aD _ u,ax.2 rfl⟩) (fun i u' hi=>by
   match i,hi with
   | 0,hi=>cases hi;exact q1
   | i+1,hi=>simp at hi) (by unfold mu;rw[ha];rfl)
  have h1:a.eval (.global g)=.pointer (some ⟨g,0,none⟩):=rfl
  exact⟨v,by simp[execOp,ho,h1,Instr.loadAt,Instr.sureAddr,h2],h3⟩
theorem vj{t:TypeId}{x:Operand}{v:PV}(ho:o.op=.makeInterface t x)(hc:P.concrete t=true)(hx:opv T x=v):br P B o T H (.ifc t v) H :=
 aI fun σ w a s h=>by
  have h1:=h x (by simp[ho,Op.operands])
  rw[hx]at h1
  exact⟨.iface t (a.eval x),by simp[execOp,ho,run_makeInterface w t (a.eval x) hc],by unfold Rep;exact⟨_,rfl,h1⟩⟩
def uW:PV→Option Bool
 | .val .nilIface=>some true
 | .val (.iface _ _)=>some false
 | .ifc _ _=>some false
 | _=>none
theorem zD{c:Cx}{x:PV}{v:Value}{b:Bool}(h:uW x=some b)(k:Rep c x v):(v=.nilIface∧b=true)∨∃t u,v=.iface t u∧b=false:=by
 unfold uW at h
 split at h
 ·unfold Rep at k;cases h;exact .inl ⟨k,rfl⟩
 ·unfold Rep at k;cases h;exact .inr ⟨_,_,k,rfl⟩
 ·unfold Rep at k;obtain⟨u,k1,_⟩:=k;cases h;exact .inr ⟨_,u,k1,rfl⟩
 cases h
theorem ct{t yt:TypeId}{x:Operand}{y:PV}{b:Bool}(ho:o.op=.binOp .eql t x (.const .nilIface) yt)(ht:P.isIface t=true)(hx:opv T x=y)(hy:uW y=some b):br P B o T H (.val (.bool b)) H :=
 aI fun σ w a s h=>by
  have h1:=h x (by simp[ho,Op.operands])
  rw[hx]at h1
  have hc:a.eval (.const .nilIface)=.nilIface:=rfl
  rcases zD hy h1 with ⟨h2,rfl⟩|⟨u,z,h2,rfl⟩
  ·exact⟨_,by simp[execOp,ho,h2,hc,eqGuard,run_eql_nil_nil_at w t ht],aD _ _⟩
  exact⟨_,by simp[execOp,ho,h2,hc,eqGuard,run_eql_iface_nil w t ht],aD _ _⟩
theorem uH{t yt:TypeId}{x:Operand}{y:PV}{b:Bool}(ho:o.op=.binOp .neq t x (.const .nilIface) yt)(ht:P.isIface t=true)(hx:opv T x=y)(hy:uW y=some b):br P B o T H (.val (.bool (!b))) H :=
 aI fun σ w a s h=>by
  have h1:=h x (by simp[ho,Op.operands])
  rw[hx]at h1
  have hc:a.eval (.const .nilIface)=.nilIface:=rfl
  rcases zD hy h1 with ⟨h2,rfl⟩|⟨u,z,h2,rfl⟩
  ·exact⟨_,by simp[execOp,ho,h2,hc,eqGuard,run_neq_nil_nil_at w t ht],aD _ _⟩
  exact⟨_,by simp[execOp,ho,h2,hc,eqGuard,run_neq_iface_nil w t ht],aD _ _⟩
theorem co{n:Nat}{all:Array Oper}{K:(Nat→PV)→List Ob→Prop}{l:List Oper}{dd:Option Tmp}{H':List Ob}{t:TypeId}{d:TD}{x y:Operand}{i off:Nat}{xs ys zs:List PV}{e:TypeId}(f:ap P t d)(ho:o.op=.store t x y)(hx:opv T x=.ptr i off)(hi:H[i]?=some (.cells xs e))(hy:mr (opv T y)=some ys)(hl:Nat.beq ys.length d.size=true)(hok:ys.all okC=true)
  (hle:Nat.ble (off+ys.length) xs.length=true) (hz:cK xs off ys=zs) (hH:nfH (H.set i (.cells zs e))=some H') (hd:nfD n o.dst=some dd) (hw:aj all T o=some true) (k:WO P B n all l (al dd (.val undef) T) H' K):WO P B n all (o::l) T H K :=
 Wd hd hw (bH f ho hx hi hy hl hok hle) (by rw[hz,←ry hH];exact k)
theorem xG{n:Nat}{σ:Nat→Option Nat}{w:World}{a:Act}(g:jz B n T H σ w a){d i m q:Nat}{xs:List PV}{e:TypeId}(hT:T d=.arr i 0 m m)(hi:H[i]?=some (.cells xs e))(hq:q≤xs.length):
  jz B n (upd d (.seq m (xs.take q) .clip) T) (H.set i .dead) σ w a∧di B H σ w (H.set i .dead) σ w:=by
 obtain⟨s',st⟩:=l9 g.sim hi
 refine⟨⟨s',fun j=>?_,g.size,g.defers⟩,st⟩
 by_cases hj:j=d
 ·subst hj
  rw[dt]
  have h1:=g.rep j
  rw[hT]at h1
  unfold Rep at h1
  obtain⟨_,b,hb,hv⟩:=h1
  obtain⟨b',vs,fr,hb',hg,_,hp⟩:=g.sim.holds i _ hi
  simp only[cx]at hb hb' hg
  rw[hb]at hb'
  cases hb'
  rw[hv]
  unfold Rep
  refine⟨_,m,vs.take q,rfl,Nat.le_refl _,(fun h=>by cases h),an.mono st.le (hp.take hq),fun b1 hb1=>.inl ?_,rfl⟩
  cases hb1
  refine⟨rfl,fun j' u hu=>⟨?_,?_⟩⟩
  ·rw[List.getElem?_take]at hu
   split at hu
   ·show w.cell? ⟨b,0+j',none⟩=some u
    rw[Nat.zero_add,fL hg];exact hu
   cases hu
  rintro(h2|⟨k,ok,h2,h3,h4⟩)
  ·exact g.sim.sep i b _ hi rfl hb _ h2
  have hlk:ok.live=true:=by cases ok<;>first|rfl|cases h4
  by_cases hki:k=i
  ·subst hki
   rw[List.getElem?_set_self (cn hi)]at h2;cases h2;cases h4
  rw[List.getElem?_set_ne (Ne.symm hki)]at h2
  exact hki (g.sim.inj k i b _ _ h2 hi hlk rfl h3 hb)
 rw[cp _ _ _ _ hj];exact(g.rep j).mono st.le
theorem B2{n:Nat}{all:Array Oper}{K:(Nat→PV)→List Ob→Prop}{l:List Oper}(d i m q:Nat){xs:List PV}{e:TypeId}(hT:T d=.arr i 0 m m)(hi:H[i]?=some (.cells xs e))(hq:q≤xs.length)(h1:WO P B n all l (upd d (.seq m (xs.take q) .clip) T) (H.set i .dead) K):WO P B n all l T H K:=by
 intro hall σ w a g
 obtain⟨g',st⟩:=xG g hT hi hq
 exact eR (fun _ _ _ h=>gS st (fun _ _ _ h=>h) h) _ _ _ (h1 hall σ w a g')
theorem xg{c:Cx}:∀l:List Value,an c (l.map .val) l
 | []=>ax.2 rfl
 | x::l=>am.2 ⟨aD _ _,xg l⟩
theorem nZ{f:FuncId}{args:List PV}{l:List Value}{r:PV}{v:Value}(hl:∀(c:Cx) vs,an c args vs→vs=l)(hr:∀c,Rep c r v)(h:∀w,Calls P f l.toArray w fun e w'=>e=.returned v∧bg w w'):ab P f args r:=by
 intro H B σ w vs s hv
 have:=hl _ _ hv
 subst this
 exact dA (args:=vs) hr h H B σ w vs s (xg vs)
end
open Go.RowKit
theorem Gl(l:List Int)(hl:l.length≤1000000):ab Tryz.prog 176 [sq af l] (sqc af l):=by
 refine pW tG (rs:=[.tmp 2]) Tryz.func176 rfl rfl rfl (by simp) (by simp) (fun B=>?_)
 refine zu1 ?_
 refine zp5 ?_
 refine z2 ?_ (q:=(by(simp_all;done)))
 refine Wa 8 rfl (bM af 1 (fun _=>rfl) (by omega)) ?_
 refine zs1 ?_
 refine Wq ?_
 exact pv rfl (by simp[sqc];rfl)
@[simp] theorem Oe (l : List dE) : aQ (sqc bA l) := lV (fun x => by simp) l
theorem sf(l:List dE)(hl:l.length≤1000000):ab Tryz.prog 158 [sq bA l] (sqc bA l):=by
 refine pW tG (rs:=[.tmp 2]) Tryz.func158 rfl rfl rfl (by simp) (by simp) (fun B=>?_)
 refine zu1 ?_
 refine zp5 ?_
 refine z2 ?_ (q:=(by(simp_all;done)))
 refine Wa 8 rfl (bM bA 3 (fun _=>rfl) (by omega)) ?_
 refine zs1 ?_
 refine Wq ?_
 exact pv rfl (by simp[sqc];rfl)
def DG(r:List Int×Int):PV:=dm (sq af r.1) (i64 r.2)
@[simp] theorem PJ (r : List Int × Int) : aQ (DG r) := by simp [DG]
theorem AV(s:List Int)(n limit:Int)(hs:s.length≤100000)(hm:ae limit):ab Tryz.prog 134 [sq af s,i64 n,i64 limit] (DG (eQ s n limit)):=by
 unfold ae at hm
 refine pW tG (rs:=[.tmp 6,.tmp 7]) Tryz.func134 rfl rfl rfl (by simp) (by simp) (fun B=>?_)
 refine zu2 ?_
 refine Ws ?_
 refine zu4 ?_
 refine Wi rfl (fun hi1=>?_) (fun hi1=>?_)
 ·have h0:limit≤(s.length:Int):=by(try simp only[dnL]at *);omega
  refine zu3 ?_
  refine zR ?_
  rw[eQ,if_pos h0];rfl
 have h0:¬limit≤(s.length:Int):=by(try simp only[dnL]at *);omega
 refine Wj ?_
 refine zp1 ?_
 refine zc rfl Tryz.func176 ((Gl s (by omega)) _) ?_
 refine zy2 ?_
 refine Wa 16 rfl (bsL af [_] rfl rfl) ?_
 refine Wd rfl rfl (aC (lO tG rfl) rfl (lO tG rfl) (lO tG rfl) rfl rfl (by exact⟨_,rfl⟩) (by exact⟨rfl,rfl,ag _ 1 (fun _=>rfl) _,aB _ (fun _=>rfl) _⟩) (by exact ag _ 1 (fun _=>rfl) _) (by((simp_all;omega))) (by((simp_all;omega)))) ?_
 refine Wa 17 rfl (aM af) ?_
 refine zs2 ?_
 refine zR ?_
 rw[eQ,if_neg h0];rfl
def xh(r:Int×VVm×Int):PV:=da (i64 r.1) (eVm r.2.1) (i64 r.2.2)
@[simp] theorem QP (r : Int × VVm × Int) : aQ (xh r) := by simp [xh]
theorem LS(v:VVm)(n:Int)(hs:v.d.length≤100000)(hm:ae v.conf.data):ab Tryz.prog 97 [eVm v,i64 n] (tVm (it v n)):=by
 refine pW tG (rs:=[.cell 4 36,.tmp 5]) Tryz.func97 rfl rfl rfl (by simp) (by simp) (fun B=>?_)
 refine zu3 ?_
 refine zp5 ?_
 refine z1 ?_
 refine zc rfl Tryz.func134 ((AV v.d n v.conf.data hs hm) _) ?_
 refine zs5 ?_
 refine zu3 ?_
 refine zu4 ?_
 refine zR ?_
 rfl
theorem PI(v:VVm)(hs:v.d.length≤100000):ab Tryz.prog 154 [eVm v] (xh (iQ v)):=by
 refine pW tG (rs:=[.tmp 2,.cell 3 36,.tmp 4]) Tryz.func154 rfl rfl rfl (by simp) (by simp) (fun B=>?_)
 refine zu4 ?_
 refine zp2 ?_
 refine zc rfl Tryz.func177 ((xU v.d hs) _) ?_
 refine zy5 ?_
 refine zs2 ?_
 refine zu3 ?_
 refine Ws ?_
 refine ai [0,1,0,0,3,0] [0,1,2,3,4,5] mG rfl (by kernel_rfl) ?_
 refine z3 ?_
 refine z5 ?_
 iterate 2 refine z3 ?_
 refine aZ tG rfl rfl rfl rfl rfl trivial ?_
 refine z3 ?_
 refine ah ?_
 refine zR ?_
 rfl
def sx(e:Int):Int:=if e = -3 then -5 else if e = -4 then -6 else e
theorem DT(e:Int):ab Tryz.prog 135 [i64 e] (i64 (sx e)):=by
 refine pW tG (rs:=[.tmp 2]) Tryz.func135 rfl rfl rfl (by simp) (by simp) (fun B=>?_)
 refine zu1 ?_
 refine Ws ?_
 refine zu1 ?_
 refine Wl ?_
 refine zu2 ?_
 refine Wi rfl (fun hi1=>?_) (fun hi1=>?_)
 ·refine zu1 ?_
  refine zR ?_
  exact congrArg i64 (by unfold sx;(try simp only[dnL]at *);split<;>(try split)<;>omega)
 refine zu2 ?_
 refine Wi rfl (fun hi2=>?_) (fun hi2=>?_)
 ·refine zu1 ?_
  refine zR ?_
  exact congrArg i64 (by unfold sx;(try simp only[dnL]at *);split<;>(try split)<;>omega)
 refine Wj ?_
 refine zu2 ?_
 refine zR ?_
 exact congrArg i64 (by unfold sx;(try simp only[dnL]at *);split<;>(try split)<;>omega)
theorem KU(v:VVm)(n:Int):gp v n=({v with r:=(eQ v.r n v.conf.ret).1},sx (eQ v.r n v.conf.ret).2):=by
 unfold gp eQ sx;split<;>rfl
theorem Mb(v:VVm):eW v=((ba v.r).1,{v with r:=(ba v.r).2.1},sx (ba v.r).2.2):=by
 unfold eW ba sx;split<;>rfl
theorem Lb(v:VVm)(n:Int)(hs:v.r.length≤100000)(hm:ae v.conf.ret):ab Tryz.prog 96 [eVm v,i64 n] (tVm (gp v n)):=by
 rw[KU]
 refine pW tG (rs:=[.cell 4 36,.tmp 5]) Tryz.func96 rfl rfl rfl (by simp) (by simp) (fun B=>?_)
 refine zu3 ?_
 refine zp5 ?_
 refine z1 ?_
 refine zc rfl Tryz.func134 ((AV v.r n v.conf.ret hs hm) _) ?_
 refine zs5 ?_
 refine zu3 ?_
 refine Ws ?_
 refine ai [1,0,0,3,0] [0,1,2,3,4] mG rfl (by kernel_rfl) ?_
 refine z5 ?_
 refine z3 ?_
 refine Xc rfl rfl rfl rfl (fun _=>dC rfl Tryz.func135 rfl rfl ((DT _) _)) ?_
 refine aZ tG rfl rfl rfl rfl rfl trivial ?_
 refine z3 ?_
 refine ah ?_
 refine zR ?_
 rfl
theorem L6(v:VVm)(hs:v.r.length≤100000):ab Tryz.prog 153 [eVm v] (xh (eW v)):=by
 rw[Mb]
 refine pW tG (rs:=[.tmp 2,.cell 3 36,.tmp 4]) Tryz.func153 rfl rfl rfl (by simp) (by simp) (fun B=>?_)
 refine zu4 ?_
 refine zp2 ?_
 refine zc rfl Tryz.func177 ((xU v.r hs) _) ?_
 refine zy5 ?_
 refine zs2 ?_
 refine zu3 ?_
 refine Ws ?_
 refine ai [0,1,0,0,0,3,0] [0,1,2,3,4,5,6] mG rfl (by kernel_rfl) ?_
 refine z3 ?_
 refine z5 ?_
 refine z3 ?_
 refine Xc rfl rfl rfl rfl (fun _=>dC rfl Tryz.func135 rfl rfl ((DT _) _)) ?_
 refine z3 ?_
 refine aZ tG rfl rfl rfl rfl rfl trivial ?_
 refine z3 ?_
 refine ah ?_
 refine zR ?_
 rfl
theorem I0(i l n:Int):ab Tryz.prog 156 [i64 i,i64 l,i64 n] (dH (dQ i l n)):=by
 refine pW tG (rs:=[.tmp 6,.tmp 7]) Tryz.func156 rfl rfl rfl (by simp) (by simp) (fun B=>?_)
 refine zu2 ?_
 refine zu4 ?_
 refine Ws ?_
 refine zu2 ?_
 refine Wi rfl (fun hi1=>?_) (fun hi1=>?_)
 ·have h0:0≤n:=by(try simp only[dnL]at *);omega
  refine zp5 ?_
  refine z1 ?_
  refine Wb 19 rfl (fun hg1=>?_) (fun hg1=>?_)
  ·have q1:decide (W64 (i-l)<0)=true:=hg1
   refine zy5 ?_
   refine zs2 ?_
   refine zR ?_
   (rw[dQ,if_pos h0,q1];rfl)
  have q1:decide (W64 (i-l)<0)=false:=hg1
  iterate 4 refine z6 ?_
  refine zs3 ?_
  refine zR ?_
  (rw[dQ,if_pos h0,q1];rfl)
 have h0:¬0≤n:=by(try simp only[dnL]at *);omega
 refine Wj ?_
 refine zp5 ?_
 refine z1 ?_
 refine Wb 30 rfl (fun hg2=>?_) (fun hg2=>?_)
 ·have q1:decide (0≤W64 (i-l))=true:=hg2
  refine zy5 ?_
  refine zs2 ?_
  refine zR ?_
  (rw[dQ,if_neg h0,q1];rfl)
 have q1:decide (0≤W64 (i-l))=false:=hg2
 iterate 4 refine z6 ?_
 refine zs3 ?_
 refine zR ?_
 (rw[dQ,if_neg h0,q1];rfl)
def haltV(a:Addr):Value:=.iface 342 (.pointer (some a))
def vK(a:Addr):sT→PV
 | .ok=>.val .nilIface
 | .bad e=>.ifc 73 (.agg [i64 e])
 | .halt=>.val (haltV a)
@[simp] theorem Q5 (a : Addr) (e : sT) : aQ (vK a e) := by cases e <;> simp [vK, aQ, aL]
theorem oX(a:Addr)(e:sT):uW (vK a e)=some (fI e):=by cases e<;>rfl
def cPW(a:Addr)(k:PW):List PV:=iz k.r++[vK a k.err]
@[simp] theorem Sa (a : Addr) (k : PW) : aL (cPW a k) := by simp [cPW, iz, cVm]
def zd(e:Int):sT:=if e=0 then .ok else .bad e
theorem tN(a:Addr)(e:Int):ab Tryz.prog 93 [i64 e] (vK a (zd e)):=by
 refine pW tG (rs:=[.tmp 2]) Tryz.func93 rfl rfl rfl (by simp) (by simp) (fun B=>?_)
 refine zu1 ?_
 refine Ws ?_
 refine zu2 ?_
 refine Wi rfl (fun hi1=>?_) (fun hi1=>?_)
 ·have h0:e=0:=by(try simp only[dnL]at *);omega
  refine zu1 ?_
  refine zR ?_
  rw[zd,if_pos h0];rfl
 have h0:¬e=0:=by(try simp only[dnL]at *);omega
 refine Wj ?_
 refine zp2 ?_
 refine Wd rfl rfl (vj rfl (by kernel_rfl) rfl) ?_
 refine zs1 ?_
 refine zR ?_
 rw[zd,if_neg h0];rfl
section
variable (a : Addr)
theorem Ls(r:bx)(v:VVm):∀(H:List Ob) (i:Nat),H[i]?=some (.cells (cPW a ⟨r,.ok⟩) 67)→HC Tryz.prog 46 (.ptr i 0::[eVm v,i64 0]) H (boo true) (H.set i (.cells (cPW a ⟨{r with vm:=v},.ok⟩) 67)):=by
 refine aO tG (rs:=[.tmp 6]) Tryz.func46 rfl rfl rfl (by simp) (by simp) (by simp) (by simp) (fun B=>?_)
 refine zu2 ?_
 refine Ws ?_
 refine zp4 ?_
 refine Wd rfl rfl (ct rfl (by kernel_rfl) rfl (by rfl)) ?_
 refine Wn ?_
 refine Wt rfl (by rfl) ?_
 refine aa rfl ?_
 refine zy2 ?_
 refine zc rfl Tryz.func93 ((tN a 0) _) ?_
 refine Wa 14 rfl ((show _=PV.val .nilIface from rfl)) ?_
 refine zs3 ?_
 refine Ws ?_
 refine zp4 ?_
 refine Wd rfl rfl (ct rfl (by kernel_rfl) rfl (by rfl)) ?_
 refine Wn ?_
 refine Wt rfl (by rfl) ?_
 refine aa rfl ?_
 refine zy5 ?_
 refine zs1 ?_
 refine zp4 ?_
 refine Wd rfl rfl (ct rfl (by kernel_rfl) rfl (by rfl)) ?_
 refine zs1 ?_
 refine Wq ?_
 refine bj rfl rfl ?_ ?_
 ·rfl
 rfl
theorem Ka(r:bx)(v:VVm)(e:Int)(he:e≠0):∀(H:List Ob) (i:Nat),H[i]?=some (.cells (cPW a ⟨r,.ok⟩) 67)→HC Tryz.prog 46 (.ptr i 0::[eVm v,i64 e]) H (boo false) (H.set i (.cells (cPW a ⟨r,.bad e⟩) 67)):=by
 have hm:vK a (zd e)=.ifc 73 (.agg [i64 e]):=by rw[zd,if_neg he];rfl
 refine aO tG (rs:=[.tmp 6]) Tryz.func46 rfl rfl rfl (by simp) (by simp) (by simp) (by simp) (fun B=>?_)
 refine zu2 ?_
 refine Ws ?_
 refine zp4 ?_
 refine Wd rfl rfl (ct rfl (by kernel_rfl) rfl (by rfl)) ?_
 refine Wn ?_
 refine Wt rfl (by rfl) ?_
 refine aa rfl ?_
 refine zy2 ?_
 refine zc rfl Tryz.func93 ((tN a e) _) ?_
 refine Wa 14 rfl (hm) ?_
 refine zs3 ?_
 refine Ws ?_
 refine zp4 ?_
 refine Wd rfl rfl (ct rfl (by kernel_rfl) rfl (by rfl)) ?_
 refine Wn ?_
 refine Wf rfl (by rfl) ?_
 refine Wj ?_
 refine zp4 ?_
 refine Wd rfl rfl (ct rfl (by kernel_rfl) rfl (by rfl)) ?_
 refine zs1 ?_
 refine Wq ?_
 refine bj rfl rfl ?_ ?_
 ·rfl
 rfl
theorem NC(r:bx)(v:VVm)(e c:Int):∀(H:List Ob) (i:Nat),H[i]?=some (.cells (cPW a ⟨r,.bad c⟩) 67)→HC Tryz.prog 46 (.ptr i 0::[eVm v,i64 e]) H (boo false) (H.set i (.cells (cPW a ⟨r,.bad c⟩) 67)):=by
 refine aO tG (rs:=[.tmp 6]) Tryz.func46 rfl rfl rfl (by simp) (by simp) (by simp) (by simp) (fun B=>?_)
 refine zu2 ?_
 refine Ws ?_
 refine zp4 ?_
 refine Wd rfl rfl (ct rfl (by kernel_rfl) rfl (by rfl)) ?_
 refine Wn ?_
 refine Wf rfl (by rfl) ?_
 refine Wj ?_
 refine Ws ?_
 refine zp4 ?_
 refine Wd rfl rfl (ct rfl (by kernel_rfl) rfl (by rfl)) ?_
 refine Wn ?_
 refine Wf rfl (by rfl) ?_
 refine Wj ?_
 refine zp4 ?_
 refine Wd rfl rfl (ct rfl (by kernel_rfl) rfl (by rfl)) ?_
 refine zs1 ?_
 refine Wq ?_
 refine bj rfl rfl ?_ ?_
 ·rfl
 rfl
theorem Li(r:bx)(v:VVm)(e:Int):∀(H:List Ob) (i:Nat),H[i]?=some (.cells (cPW a ⟨r,.halt⟩) 67)→HC Tryz.prog 46 (.ptr i 0::[eVm v,i64 e]) H (boo false) (H.set i (.cells (cPW a ⟨r,.halt⟩) 67)):=by
 refine aO tG (rs:=[.tmp 6]) Tryz.func46 rfl rfl rfl (by simp) (by simp) (by simp) (by simp) (fun B=>?_)
 refine zu2 ?_
 refine Ws ?_
 refine zp4 ?_
 refine Wd rfl rfl (ct rfl (by kernel_rfl) rfl (by rfl)) ?_
 refine Wn ?_
 refine Wf rfl (by rfl) ?_
 refine Wj ?_
 refine Ws ?_
 refine zp4 ?_
 refine Wd rfl rfl (ct rfl (by kernel_rfl) rfl (by rfl)) ?_
 refine Wn ?_
 refine Wf rfl (by rfl) ?_
 refine Wj ?_
 refine zp4 ?_
 refine Wd rfl rfl (ct rfl (by kernel_rfl) rfl (by rfl)) ?_
 refine zs1 ?_
 refine Wq ?_
 refine bj rfl rfl ?_ ?_
 ·rfl
 rfl
theorem mQ(k:PW)(v:VVm)(e:Int):∀(H:List Ob) (i:Nat),H[i]?=some (.cells (cPW a k) 67)→HC Tryz.prog 46 (.ptr i 0::[eVm v,i64 e]) H (boo (fI (pOk k v e).err)) (H.set i (.cells (cPW a (pOk k v e)) 67)):=by
 intro H i hi
 obtain⟨r,err⟩:=k
 cases err with
 | ok =>
  by_cases he:e=0
  ·subst he;exact Ls a r v H i hi
  have e1:pOk ⟨r,.ok⟩ v e=⟨r,.bad e⟩:=by unfold pOk;dsimp only;rw[if_neg he]
  rw[e1];exact Ka a r v e he H i hi
 | bad c=>exact NC a r v e c H i hi
 | halt=>exact Li a r v e H i hi
end
open Go.RowKit
def K7(w:World)(size:Nat)(sl:Value)(n:Nat)(xs:List Value):Prop :=
 xs.length=n*size∧∃(a:Option Addr) (cap:Nat),sl=.slice a n cap∧(a=none→n=0∧cap=0)∧n≤cap∧∀b,a=some b→∀(j:Nat) (u:Value),xs[j]?=some u→w.cell? (b.add j)=some u
def qf(w:World)(sl:Value)(xs:List Int):Prop:=K7 w 1 sl xs.length (xs.map (Value.int .u8))∧∀x∈xs,0≤x∧x<256
theorem zN{w w':World}{size n:Nat}{sl:Value}{xs:List Value}(h:K7 w size sl n xs)(hb:Below w.heap.size w w'):K7 w' size sl n xs:=by
 obtain⟨hl,a,cap,rfl,hn,hc,hx⟩:=h
 refine⟨hl,a,cap,rfl,hn,hc,fun b hb' j u hj=>?_⟩
 have h1:=hx b hb' j u hj
 rw[hb.cell (World.block_lt_of_cell? w (b.add j) h1)]
 exact h1
theorem vx{w w':World}{sl:Value}{xs:List Int}(h:qf w sl xs)(hb:Below w.heap.size w w'):qf w' sl xs:=⟨zN h.1 hb,h.2⟩
abbrev PT:=List Int×Bool
def So(w:World)(v:Value)(p:PT):Prop:=∃sl,v=.agg #[sl,.bool p.2]∧qf w sl p.1
theorem KR(w:World)(sl:Value)(xs:List Int)(h:qf w sl xs)(hl:xs.length≤140737488355328):
  Calls Tryz.prog 324 #[sl] w fun e w'=>∃v',e=.returned v'∧w'.ownsRow w.heap.size 5 1 v' xs.length (xs.map (Value.int .u8))∧Below w.heap.size w w':=by
 obtain⟨⟨hlen,a,cap,rfl,hn,hc,hx⟩,_⟩:=h
 match a with
 | none =>
  obtain⟨h0,rfl⟩:=hn rfl
  refine(AnyE.slices_Clone_nil Tryz.lClone xs.length 0 w).mono ?_
  rintro e w' ⟨rfl,rfl⟩
  have hx0:xs=[]:=List.eq_nil_of_length_eq_zero h0
  subst hx0
  exact⟨_,rfl,⟨rfl,.inl ⟨rfl,rfl⟩⟩,Below.refl _ _⟩
 | some ad =>
  obtain⟨i0,hi,hz0,hz1,hz2⟩:=info_parts NW
  have q22:∀(w:World) (a:Option Addr) (n c n' c':Nat),(binOp .eql 24 (.slice a n c) (.slice none n' c')).run Tryz.prog w=.ok (.bool a.isNone) w:=fun w a n c n' c'=>Lib.run_eql_slice_nil w _ _ a n c n' c' Tryz.underlying24
  have HX:=Lib.hid (hx ad rfl)
  have HL:=Lib.hid hlen
  clear hx hlen
  go_enter Tryz.func324,Tryz.ntmps324
  go_wp2_with (at_builtin;refine wpList_append_own _ rfl _ _ 24 rfl w.heap.size 5 i0 (.int .u8 0) 1 1 Tryz.underlying24 hi hz0 hz1 hz2 rfl (by decide) _ _ _ rfl (World.ownsRow_made w #[] 0 (Nat.le_refl _) (Nat.zero_le _) (by simp)) ad xs.length cap (xs.map (Value.int .u8)) rfl ?qc1 ?qc2 ?qc3 ?qc4 ?qc5 ?qc6 ?_)
  case qc1=>exact HL.out
  case qc2=>intro j u hj;exact Lib.cell?_alloc_some _ (HX.out j u hj)
  case qc3=>simp[Value.oneCell']
  case qc4=>unfold maxLen;omega
  case qc5=>omega
  case qc6=>simp
  intro v' w1 hown hgrow _
  go_wp2
  go_ret
  refine⟨v',rfl,by simpa using hown,?_⟩
  exact((Below.refl _ w).alloc (Nat.le_refl _) _).grown hgrow (by simp) (by intro k hk;simp[Value.ownBlock]at hk;omega)
def Lx(p:PT):List UInt8×Int:=if p.2 then((p.1.map (fun n=>UInt8.ofNat n.toNat)).reverse,0)else([],-17)
theorem Hv(xs:List Int):strOfNums xs.reverse=⟨((xs.map (fun n=>UInt8.ofNat n.toNat)).reverse).toArray⟩:=by unfold strOfNums;rw[List.map_reverse]
theorem Su(v:Value)(p:PT)(w:World)(h:So w v p)(hl:p.1.length≤140737488355328):Calls Tryz.prog 257 #[v] w fun e w'=>e=.returned (.tuple #[.string ⟨(Lx p).1.toArray⟩,.int .i64 (Lx p).2])∧Below w.heap.size w w':=by
 obtain⟨sl,rfl,hs⟩:=h
 obtain⟨xs,on⟩:=p
 have b0:=fun o=>(Below.refl w.heap.size w).alloc (Nat.le_refl _) o
 cases on with
 | false =>
  go_enter Tryz.func257,Tryz.ntmps257
  go_wp2
  go_ret2
  exact⟨rfl,b0 _⟩
 | true =>
  have hC:=fun o=>KR (w.alloc o) sl xs (vx hs (b0 o)) hl
  have HC:=Lib.hid hC
  have HL:=Lib.hid hl
  clear hC hs hl
  go_enter Tryz.func257,Tryz.ntmps257
  go_wp2_with fail
  refine(HC.out _).mono ?_
  rintro e w1 ⟨v',rfl,hown,hb1⟩
  have c1:=(b0 _).trans (hb1.mono (b0 _).size)
  have hown1:=I4 hown (b0 _).size
  have HR:=Lib.hid (Dm w1 _ v' _ xs hown1 (Nat.le_trans HL.out (by omega)))
  clear hown hown1 hb1 b0
  go_wp2_with fail
  refine HR.out.mono ?_
  rintro e w2 ⟨rfl,hown2,hb2⟩
  have c2:=hb2 w c1
  have hcv:=Ab hown2
  rw[Hv]at hcv
  clear hown2 hb2 c1 HR
  go_wp2
  go_ret2
  exact⟨rfl,c2⟩
theorem Fj{c:Cx}{l:List UInt8}{v:Value}(h:Rep c (sq av l) v):qf c.w v (l.map fun b=>(b.toNat:Int)):=by
 unfold sq at h
 obtain⟨ad,cap,vs,hv,hle,hnil,hrl,hlies,hk⟩:=fa h
 have hvs:vs=(l.map fun b=>(b.toNat:Int)).map (Value.int .u8):=by
  rw[kh]at hrl
  have:((l.map fun b=>(b.toNat:Int)).map j4)=((l.map fun b=>(b.toNat:Int)).map (Value.int .u8)).map PV.val:=by simp only[List.map_map];rfl
  rw[this]at hrl
  exact oS hrl
 refine⟨⟨by simp,ad,cap,by rw[hv];simp,(fun h=>by have:=hnil h;exact⟨by simpa using this.1,this.2.1⟩),by simpa using hle,fun b hb j u hj=>?_⟩,fun x hx=>?_⟩
 ·rw[←hvs]at hj
  have hL:=(hlies b hb).resolve_right (by rintro⟨_,h3⟩;rw[h3]at hj;simp at hj)
  rw[gj hL,Addr.add_lit]
  exact(hL.2 j u hj).1
 obtain⟨b,_,rfl⟩:=List.mem_map.1 hx
 have:=b.toNat_lt
 omega
theorem MB(p:ca)(hp:p.b.length≤1000000):ab Tryz.prog 257 [jY p] (jl (fK p)):=by
 intro H B σ w vs s hr
 match vs,hr with
 | [],hr=>unfold an at hr;obtain⟨u,us,h1,_⟩:=hr;cases h1
 | v::v2::vs,hr=>rw[am]at hr;have:=an.length hr.2;simp at this
 | [v],hr =>
 rw[am]at hr
 have h1:=hr.1
 unfold jY Rep at h1
 obtain⟨us,rfl,h2⟩:=h1
 match us,h2 with
 | [],h2=>unfold m0 an at h2;obtain⟨u,us,h1,_⟩:=h2;cases h1
 | [a],h2=>have:=an.length h2;simp[m0]at this
 | a::b::d::us,h2=>have:=an.length h2;simp[m0]at this
 | [a,b],h2 =>
 unfold m0 at h2
 rw[am,am]at h2
 have h3:=Fj h2.1
 have h4:=h2.2.1
 unfold boo Rep at h4
 subst h4
 have hw:=Su (.agg #[a,.bool p.on]) (List.map (fun b:UInt8=>(b.toNat:Int)) p.b,p.on) w ⟨a,rfl,h3⟩ (by simp;omega)
 refine Calls.mono hw ?_
 rintro e w' ⟨rfl,hb⟩
 obtain⟨s',st⟩:=eM s (bg.of_below hb)
 refine⟨_,σ,rfl,?_,s',st⟩
 have e1:Lx (List.map (fun b:UInt8=>(b.toNat:Int)) p.b,p.on)=fK p:=by
  unfold Lx fK
  cases p.on with
  | true=>simp[List.map_map,Function.comp_def]
  | false=>rfl
 rw[e1]
 unfold jl dm Rep
 exact⟨[_,_],rfl,am.2 ⟨by unfold str;exact aD _ _,am.2 ⟨by unfold i64;exact aD _ _,ax.2 rfl⟩⟩⟩
theorem zh{p:ca}{c:Int}(h:(eT p c).2=0):(eT p c).1.b.length=p.b.length+1∧p.b.length<130:=by
 unfold eT at h ⊢
 split at h
 ·rename_i hc;rw[if_pos hc];simp[hc.2]
 cases h
theorem dR{q:ca}{lo hi base:Int}(h:(aw q lo hi base).2.2.2=0):(aw q lo hi base).1.b.length=q.b.length+1∧q.b.length<130:=by
 unfold aw at h ⊢
 split at h
 ·cases h
 rename_i hb
 rw[if_neg hb]
 split at h
 ·rename_i h0
  rw[if_pos h0]
  exact zh h0
 rename_i h0;exact absurd h h0
theorem mD{q:ca}{lo hi base:Int}(h:¬(aw q lo hi base).2.2.2=0):(aw q lo hi base).1=q:=by
 unfold aw at h ⊢
 split at h
 ·rename_i hb;rw[if_pos hb]
 rename_i hb
 rw[if_neg hb]
 split at h
 ·exact absurd rfl h
 rename_i h0;rw[if_neg h0]
theorem i6(q:ca)(lo hi base:Int):j5 q lo hi base=if (aw q lo hi base).2.2.2≠0 then(q,(aw q lo hi base).2.2.2)else if (aw q lo hi base).2.1=0∧(aw q lo hi base).2.2.1=0 then((aw q lo hi base).1,0)else j5 (aw q lo hi base).1 (aw q lo hi base).2.1 (aw q lo hi base).2.2.1 base:=by
 by_cases h:(aw q lo hi base).2.2.2=0
 ·obtain⟨h1,h2⟩:=dR h
  unfold j5
  rw[h1,show 131-q.b.length=(131-(q.b.length+1))+1 by omega]
  rfl
 rw[if_pos h]
 unfold j5
 cases hn:131-q.b.length with
 | zero=>rfl
 | succ n=>unfold mH;rw[if_pos h]
def F9:List PV:=[.seq 0 [] .clip,.val (.bool false)]
@[simp] theorem S4 {n : Nat} : mS n F9 := by unfold F9; exact ⟨CJ, Ji (.bool false), trivial⟩
theorem Hl(p q:ca)(lo hi base:Int)(hq:q.b.length≤1000000):
  HC Tryz.prog 323 [.ptr 5 0,.ptr 1 0,.ptr 2 0,.ptr 3 0] [.cells (m0 p) 32,.cells [i64 lo] 3,.cells [i64 hi] 3,.cells [i64 base] 3,.cells F9 32,.cells (m0 q) 32] (i64 (aw q lo hi base).2.2.2)
   [.cells (m0 p) 32,.cells [i64 (aw q lo hi base).2.1] 3,.cells [i64 (aw q lo hi base).2.2.1] 3,.cells [i64 base] 3,.cells F9 32,.cells (m0 (aw q lo hi base).1) 32,.cells (m0 (aw q lo hi base).1) 32]:=by
 refine Ii tG (rs:=[.tmp 4]) Tryz.func323 rfl rfl rfl (fun B=>?_)
 refine zu1 ?_
 refine zp4 ?_
 refine zc rfl Tryz.func251 ((vW q lo hi base hq) _) ?_
 refine zy5 ?_
 refine zs5 ?_
 refine zp5 ?_
 refine zs1 ?_
 refine zu2 ?_
 refine Wq ?_
 refine RU rfl ?_ ?_
 ·rfl
 rfl
theorem LE(p:ca)(lo hi base:Int)(hp:p.b.length≤1000000):ab Tryz.prog 253 [jY p,i64 lo,i64 hi,i64 base] (xz (lp p lo hi base)):=by
 refine pW tG (rs:=[.cell 8 32,.tmp 9]) Tryz.func253 rfl rfl rfl (by simp) (by simp) (fun B=>?_)
 refine zp5 ?_
 refine zs1 ?_
 refine zu3 ?_
 refine zu2 ?_
 refine Wl ?_
 show W _ _ _ _ _ _ _
 refine bG (fun(v:ca×Int×Int)=>[(4,.ptr 0 0),(5,.ptr 1 0),(6,.ptr 2 0),(8,.ptr 4 0),(10,.ptr 5 0),(11,.fn (.func 323) [] [.ptr 5 0,.ptr 1 0,.ptr 2 0,.ptr 3 0])]) (fun(v:ca×Int×Int)=>[.cells (m0 p) 32,.cells [i64 v.2.1] 3,.cells [i64 v.2.2] 3,.cells [i64 base] 3,.cells F9 32,.cells (m0 v.1) 32]) (fun(v:ca×Int×Int)=>[]) (fun(v:ca×Int×Int)=>v.1.b.length≤1000000∧lp p lo hi base=rK p (j5 v.1 v.2.1 v.2.2 base)) (fun(v:ca×Int×Int)=>131-v.1.b.length) ((p,lo,hi)) (by exact⟨hp,rfl⟩) [] ?_ ?_
 ·exact bu
 intro v hv
 refine Wl ?_
 refine Ws ?_
 refine zp1 ?_
 refine Wc rfl rfl (dq rfl rfl Tryz.func323 rfl rfl (Hl p v.1 v.2.1 v.2.2 base hv.1)) ?_
 refine zs1 ?_
 refine zu2 ?_
 refine Wi rfl (fun hi1=>?_) (fun hi1=>?_)
 ·have h0:(aw v.1 v.2.1 v.2.2 base).2.2.2≠0:=by simpa using hi1
  refine zu4 ?_
  refine zR ?_
  rw[hv.2,i6,if_pos h0,rK,if_neg h0];rfl
 have h0:(aw v.1 v.2.1 v.2.2 base).2.2.2=0:=by simpa using hi1
 have hl:=dR h0
 refine Wj ?_
 refine zp3 ?_
 refine Wb 23 rfl (fun hg1=>?_) (fun hg1=>?_)
 ·have h1:(aw v.1 v.2.1 v.2.2 base).2.1=0:=by simpa using hg1
  refine zs3 ?_
  refine Wi rfl (fun hi2=>?_) (fun hi2=>?_)
  ·have h2:(aw v.1 v.2.1 v.2.2 base).2.1=0∧(aw v.1 v.2.1 v.2.2 base).2.2.1=0:=by(try simp only[dnL]at *);exact⟨h1,hi2⟩
   refine zu3 ?_
   refine zR ?_
   rw[hv.2,i6,if_neg (by rw[h0];simp),if_pos h2,rK,if_pos rfl];rfl
  have h2:¬((aw v.1 v.2.1 v.2.2 base).2.1=0∧(aw v.1 v.2.1 v.2.2 base).2.2.1=0):=by rintro⟨q1,q2⟩;(try simp only[dnL]at *);exact hi2 q2
  refine Wj ?_
  exact⟨((aw v.1 v.2.1 v.2.2 base).1,(aw v.1 v.2.1 v.2.2 base).2.1,(aw v.1 v.2.1 v.2.2 base).2.2.1),[],(by exact⟨by show(aw v.1 v.2.1 v.2.2 base).1.b.length≤_;omega,by rw[hv.2,i6,if_neg (by rw[h0];simp),if_neg (by exact h2)]⟩),(by show 131-(aw v.1 v.2.1 v.2.2 base).1.b.length<_;omega),bu⟩
 have h1:¬(aw v.1 v.2.1 v.2.2 base).2.1=0:=by simpa using hg1
 iterate 2 refine z6 ?_
 refine zs1 ?_
 refine Wf rfl rfl ?_
 refine Wj ?_
 exact⟨((aw v.1 v.2.1 v.2.2 base).1,(aw v.1 v.2.1 v.2.2 base).2.1,(aw v.1 v.2.1 v.2.2 base).2.2.1),[],(by exact⟨by show(aw v.1 v.2.1 v.2.2 base).1.b.length≤_;omega,by rw[hv.2,i6,if_neg (by rw[h0];simp),if_neg (by(rintro⟨q1,q2⟩;exact h1 q1))]⟩),(by show 131-(aw v.1 v.2.1 v.2.2 base).1.b.length<_;omega),bu⟩
def sQ(base:Int)(r:ca×Int×Int×Int):ca×Int:=if r.2.2.2≠0 then(r.1,r.2.2.2)else if r.2.1=0∧r.2.2.1=0 then(r.1,0)else j5 r.1 r.2.1 r.2.2.1 base
theorem rP(p q:ca)(lo hi base:Int):rK p (j5 q lo hi base)=rK p (sQ base (aw q lo hi base)):=by
 rw[i6]
 unfold sQ
 by_cases h:(aw q lo hi base).2.2.2=0
 ·simp only[h,ne_eq,not_true_eq_false,if_false]
 rw[if_pos h,if_pos h]
 unfold rK
 rw[if_neg h,if_neg h]
theorem Mo(p:ca)(lo hi base:Int)(hp:p.b.length≤1000000):ab Tryz.prog 291 [jY p,i64 lo,i64 hi,i64 base] (xz (lp p lo hi base)):=by
 have hd0:(aw p lo hi base).2.2.2=0→(aw p lo hi base).1.b.length≤130:=fun h=>by have:=dR h;omega
 have hd1:(aw p lo hi base).1.b.length≤1000000:=by
  by_cases h:(aw p lo hi base).2.2.2=0
  ·have:=hd0 h;omega
  rw[mD h];exact hp
 obtain⟨r0,hr0⟩:∃r,r=aw p lo hi base:=⟨_,rfl⟩
 have C1:ab Tryz.prog 290 [jY p,i64 lo,i64 hi,i64 base] (Fm r0):=by rw[hr0];exact pC p lo hi base hp
 have C2:∀q lo hi,q.b.length≤1000000→∃r,r=aw q lo hi base∧ab Tryz.prog 290 [jY q,i64 lo,i64 hi,i64 base] (Fm r):=fun q lo hi h=>⟨_,rfl,pC q lo hi base h⟩
 rw[←hr0]at hd0 hd1
 have hf0:lp p lo hi base=rK p (sQ base r0):=by rw[hr0];exact rP p p lo hi base
 refine pW tG (rs:=[.cell 8 32,.tmp 9]) Tryz.func291 rfl rfl rfl (by simp) (by simp) (fun B=>?_)
 refine zu3 ?_
 refine zp4 ?_
 refine zc rfl Tryz.func290 ((C1) _) ?_
 refine zy5 ?_
 refine zs5 ?_
 refine Ws ?_
 refine Wl ?_
 show W _ _ _ _ _ _ _
 refine bG (fun(v:ca×Int×Int×Int)=>[(3,i64 base),(4,.ptr 0 0),(8,.ptr 1 0),(10,.ptr 2 0),(11,i64 v.2.1),(12,i64 v.2.2.1),(13,i64 v.2.2.2)]) (fun(v:ca×Int×Int×Int)=>[.cells (m0 p) 32,.cells F9 32,.cells (m0 v.1) 32]) (fun(v:ca×Int×Int×Int)=>[]) (fun(v:ca×Int×Int×Int)=>(v.1.b.length≤1000000∧(v.2.2.2=0→v.1.b.length≤130))∧lp p lo hi base=rK p (sQ base v)) (fun(v:ca×Int×Int×Int)=>if v.2.2.2=0 then 132-v.1.b.length else 0) (r0) (by exact⟨⟨hd1,hd0⟩,hf0⟩) [] ?_ ?_
 ·exact bu
 intro v hv
 obtain⟨r2,hr2,C3⟩:=C2 v.1 v.2.1 v.2.2.1 hv.1.1
 refine Ws ?_
 refine zp3 ?_
 refine Wb 30 rfl (fun hg1=>?_) (fun hg1=>?_)
 ·have h0:v.2.2.2=0:=by simpa using hg1
  refine zy3 ?_
  refine Wb 33 rfl (fun hg2=>?_) (fun hg2=>?_)
  ·have h1:¬v.2.1=0:=by simpa using hg2
   have h2:¬(v.2.1=0∧v.2.2.1=0):=fun h=>h1 h.1
   iterate 2 refine z6 ?_
   refine zs2 ?_
   refine Wt rfl rfl ?_
   refine Wj ?_
   refine Wl ?_
   refine zp4 ?_
   refine zc rfl Tryz.func290 ((C3) _) ?_
   refine zy5 ?_
   refine zs5 ?_
   refine zu2 ?_
   refine zu2 ?_
   refine zu2 ?_
   refine aa rfl ?_
   refine zs2 ?_
   exact⟨r2,[],(by exact⟨⟨by rw[hr2];by_cases hq:(aw v.1 v.2.1 v.2.2.1 base).2.2.2=0;(have:=dR hq;omega);(rw[mD hq];exact hv.1.1),fun h=>by rw[hr2]at h ⊢;have:=dR h;omega⟩,by rw[hv.2,hr2,←rP];unfold sQ;rw[if_neg (by rw[h0];simp),if_neg h2]⟩),(by rw[if_pos h0,hr2];have:=hv.1.2 h0;split;(rename_i hq;have:=dR hq;omega);omega),bu⟩
  have h1:v.2.1=0:=by simpa using hg2
  refine zs4 ?_
  refine Wi rfl (fun hi1=>?_) (fun hi1=>?_)
  ·have h2:¬(v.2.1=0∧v.2.2.1=0):=fun h=>(by simpa using hi1:¬v.2.2.1=0) h.2
   refine Wj ?_
   refine Wl ?_
   refine zp4 ?_
   refine zc rfl Tryz.func290 ((C3) _) ?_
   refine zy5 ?_
   refine zs5 ?_
   refine zu2 ?_
   refine zu2 ?_
   refine zu2 ?_
   refine aa rfl ?_
   refine zs2 ?_
   exact⟨r2,[],(by exact⟨⟨by rw[hr2];by_cases hq:(aw v.1 v.2.1 v.2.2.1 base).2.2.2=0;(have:=dR hq;omega);(rw[mD hq];exact hv.1.1),fun h=>by rw[hr2]at h ⊢;have:=dR h;omega⟩,by rw[hv.2,hr2,←rP];unfold sQ;rw[if_neg (by rw[h0];simp),if_neg h2]⟩),(by rw[if_pos h0,hr2];have:=hv.1.2 h0;split;(rename_i hq;have:=dR hq;omega);omega),bu⟩
  have h2:v.2.1=0∧v.2.2.1=0:=⟨h1,by simpa using hi1⟩
  refine aN ?_
  refine Ws ?_
  refine zu2 ?_
  refine Wf rfl (by(simp only[dnL]at *;omega)) ?_
  refine Wj ?_
  refine zu3 ?_
  refine zR ?_
  rw[hv.2,sQ,if_neg (by rw[h0];simp),if_pos h2,rK,if_pos rfl];rfl
 have h0:¬v.2.2.2=0:=by simpa using hg1
 iterate 6 refine z6 ?_
 refine zs1 ?_
 refine Wf rfl rfl ?_
 refine aN ?_
 refine Ws ?_
 refine zu2 ?_
 refine Wt rfl (by(simp only[dnL]at *;omega)) ?_
 refine zu4 ?_
 refine zR ?_
 rw[hv.2,sQ,if_pos h0,rK,if_neg h0];rfl
@[simp] theorem S5 {f : Fn} {a b : List PV} : aQ (.fn f a b) ↔ aL a ∧ aL b := by rw [aQ]
@[simp] theorem Sz {a : List PV} : aQ (.row a) ↔ aL a := by rw [aQ]
abbrev fnP(g:FuncId)(cap:List PV):PV:=.fn (.func g) [] cap
abbrev bb(k:Int)(f:FuncId)(cap:List PV):PV:=.agg [i64 k,fnP f cap]
abbrev pd(g:FuncId)(args:List PV)(res:PV):Prop:=∀H,uF Tryz.prog g args H res H
theorem jy(l:List Int):ab Tryz.prog 144 [sq af l] (tLv (l,0)):=by
 refine pW tG (rs:=[.tmp 2,.tmp 3]) Tryz.func144 rfl rfl rfl (by simp) (by simp) (fun B=>?_)
 refine zu2 ?_
 refine zu3 ?_
 refine zR ?_
 rfl
theorem vS(b:Bool):ab Tryz.prog 199 [boo b] (i64 (dc b)):=by
 refine pW tG (rs:=[.tmp 2]) Tryz.func199 rfl rfl rfl (by simp) (by simp) (fun B=>?_)
 refine zu1 ?_
 refine Ws ?_
 refine zu1 ?_
 refine Wi rfl (fun hi1=>?_) (fun hi1=>?_)
 ·refine zu1 ?_
  refine zR ?_
  rw[hi1];rfl
 refine Wj ?_
 refine zu1 ?_
 refine zR ?_
 rw[hi1];rfl
theorem gJ(k:Int)(g:FuncId)(cap:List PV)(hc:aL cap):ab Tryz.prog 139 [i64 k,fnP g cap] (bb k 178 [.row [fnP g cap]]):=by
 refine pW tG (rs:=[.cell 4 155]) Tryz.func139 rfl rfl rfl (by simp[hc]) (by simp[hc]) (fun B=>?_)
 refine zp1 ?_
 refine bJ 3 _ rfl rfl rfl ?_
 refine zs1 ?_
 refine zu4 ?_
 refine zR ?_
 rfl
theorem jx(g:FuncId)(cap:List PV)(v:VVm)(x:List Int)(r:List Int×Int)(hc:aL cap)(hg:pd g ([sq af x]++cap) (tLv r)):
  ∀(H:List Ob) (i:Nat),H[i]?=some (.cells (cVm v) 36)→HC Tryz.prog 178 (.ptr i 0::[sq af x,.row [fnP g cap]]) H (tLv r) (H.set i (.cells (cVm v) 36)):=by
 refine aO tG (rs:=[.tmp 5,.tmp 6]) Tryz.func178 rfl rfl rfl (by simp[hc]) (by simp[hc]) (by simp[hc]) (by simp[hc]) (fun B=>?_)
 refine zu2 ?_
 refine zp2 ?_
 refine Wc rfl rfl (fb rfl rfl (hg _)) ?_
 refine zs4 ?_
 refine Wq ?_
 refine bj rfl rfl ?_ ?_
 ·rfl
 rfl
theorem nK(g:FuncId)(cap:List PV)(hc:aL cap):ab Tryz.prog 221 [fnP g cap] (bb 0 309 [.row [fnP g cap]]):=by
 refine pW tG (rs:=[.cell 2 155]) Tryz.func221 rfl rfl rfl (by simp[hc]) (by simp[hc]) (fun B=>?_)
 refine zp1 ?_
 refine bJ 1 _ rfl rfl rfl ?_
 refine zs1 ?_
 refine zu3 ?_
 refine zR ?_
 rfl
theorem j8(g:FuncId)(cap:List PV)(v:VVm)(x:List Int)(n:Int)(hc:aL cap)(hg:pd g ([eVm v]++cap) (i64 n)):
  ∀(H:List Ob) (i:Nat),H[i]?=some (.cells (cVm v) 36)→HC Tryz.prog 309 (.ptr i 0::[sq af x,.row [fnP g cap]]) H (tLv ([n],0)) (H.set i (.cells (cVm v) 36)):=by
 refine aO tG (rs:=[.tmp 5,.tmp 6]) Tryz.func309 rfl rfl rfl (by simp[hc]) (by simp[hc]) (by simp[hc]) (by simp[hc]) (fun B=>?_)
 refine zu2 ?_
 refine Ws ?_
 refine ai [1,0,0,1,0,0,0,0,0,0,0] [0,1,2,3,4,5,6,7,8,9,10] mG rfl (by kernel_rfl) ?_
 refine z5 ?_
 iterate 2 refine z3 ?_
 refine z5 ?_
 refine Xc rfl rfl rfl rfl (fun _=>fb rfl rfl (hg _)) ?_
 refine z3 ?_
 refine Xa 12 rfl (bsL af [_] rfl rfl) ?_
 refine Xc rfl rfl rfl rfl (fun _=>dC rfl Tryz.func144 rfl rfl ((jy [n]) _)) ?_
 iterate 4 refine z3 ?_
 refine ah ?_
 refine Wq ?_
 refine bj rfl rfl ?_ ?_
 ·rfl
 rfl
theorem px(g:FuncId)(cap:List PV)(hc:aL cap):ab Tryz.prog 202 [fnP g cap] (bb 1 305 [.row [fnP g cap]]):=by
 refine pW tG (rs:=[.cell 2 155]) Tryz.func202 rfl rfl rfl (by simp[hc]) (by simp[hc]) (fun B=>?_)
 refine zp1 ?_
 refine bJ 1 _ rfl rfl rfl ?_
 refine zs1 ?_
 refine zu3 ?_
 refine zR ?_
 rfl
theorem rN(g:FuncId)(cap:List PV)(v:VVm)(x:List Int)(r:Int×Int)(hx:1≤x.length)(hc:aL cap)(hg:pd g ([dr v.mem,i64 (xat x 0)]++cap) (iu r)):
  ∀(H:List Ob) (i:Nat),H[i]?=some (.cells (cVm v) 36)→HC Tryz.prog 305 (.ptr i 0::[sq af x,.row [fnP g cap]]) H (tLv ([r.1],r.2)) (H.set i (.cells (cVm v) 36)):=by
 refine aO tG (rs:=[.tmp 5,.tmp 6]) Tryz.func305 rfl rfl rfl (by simp[hc]) (by simp[hc]) (by simp[hc]) (by simp[hc]) (fun B=>?_)
 refine zu2 ?_
 refine Ws ?_
 refine ai [1,0,0,0,1,0,0,1,0,0,0,0,0,0] [0,1,2,3,4,5,6,7,8,9,10,11,12,13] mG rfl (by kernel_rfl) ?_
 refine z5 ?_
 iterate 3 refine z3 ?_
 refine z5 ?_
 refine z3 ?_
 refine z9i ?_
 refine z5 ?_
 refine Xc rfl rfl rfl rfl (fun _=>fb rfl rfl (hg _)) ?_
 iterate 5 refine z3 ?_
 refine ah ?_
 refine zp2 ?_
 refine Wa 22 rfl (bsL af [_] rfl rfl) ?_
 refine zs3 ?_
 refine Wq ?_
 refine bj rfl rfl ?_ ?_
 ·rfl
 rfl
theorem jv(k:Int)(g:FuncId)(cap:List PV)(hc:aL cap):ab Tryz.prog 204 [i64 k,fnP g cap] (bb k 306 [.row [fnP g cap]]):=by
 refine pW tG (rs:=[.cell 4 155]) Tryz.func204 rfl rfl rfl (by simp[hc]) (by simp[hc]) (fun B=>?_)
 refine zp1 ?_
 refine bJ 3 _ rfl rfl rfl ?_
 refine zs1 ?_
 refine zu4 ?_
 refine zR ?_
 rfl
theorem kd(g:FuncId)(cap:List PV)(v:VVm)(x:List Int)(r:aV×Int)(hc:aL cap)(hg:pd g ([dr v.mem,sq af x]++cap) (mJ r)):
  ∀(H:List Ob) (i:Nat),H[i]?=some (.cells (cVm v) 36)→HC Tryz.prog 306 (.ptr i 0::[sq af x,.row [fnP g cap]]) H (tLv ([],r.2)) (H.set i (.cells (cVm (lf v r.1)) 36)):=by
 refine aO tG (rs:=[.tmp 5,.tmp 6]) Tryz.func306 rfl rfl rfl (by simp[hc]) (by simp[hc]) (by simp[hc]) (by simp[hc]) (fun B=>?_)
 refine zu2 ?_
 refine Ws ?_
 refine ai [1,0,0,0,1,0,0,0,0,0,2,3,0] [0,1,2,3,4,5,6,7,8,9,10,11,12] mG rfl (by kernel_rfl) ?_
 refine z5 ?_
 iterate 3 refine z3 ?_
 refine z5 ?_
 refine z3 ?_
 refine Xc rfl rfl rfl rfl (fun _=>fb rfl rfl (hg _)) ?_
 iterate 3 refine z3 ?_
 refine kw tG rfl rfl rfl rfl rfl trivial rfl ?_
 refine aZ tG rfl rfl rfl rfl rfl trivial ?_
 refine z3 ?_
 refine ah ?_
 refine zu5 ?_
 refine zu3 ?_
 refine Wq ?_
 refine bj rfl rfl ?_ ?_
 ·rfl
 rfl
theorem s6(k:Int)(g:FuncId)(cap:List PV)(hc:aL cap):ab Tryz.prog 224 [i64 k,fnP g cap] (bb k 310 [.row [fnP g cap]]):=by
 refine pW tG (rs:=[.cell 4 155]) Tryz.func224 rfl rfl rfl (by simp[hc]) (by simp[hc]) (fun B=>?_)
 refine zp1 ?_
 refine bJ 3 _ rfl rfl rfl ?_
 refine zs1 ?_
 refine zu4 ?_
 refine zR ?_
 rfl
theorem yk(g:FuncId)(cap:List PV)(v:VVm)(x:List Int)(r:aV×Int×Int)(hc:aL cap)(hg:pd g ([dr v.mem,i64 v.here,sq af x]++cap) (rL r)):
  ∀(H:List Ob) (i:Nat),H[i]?=some (.cells (cVm v) 36)→HC Tryz.prog 310 (.ptr i 0::[sq af x,.row [fnP g cap]]) H (tLv ([],r.2.2)) (H.set i (.cells (cVm (dB v r).1) 36)):=by
 refine aO tG (rs:=[.tmp 5,.tmp 6]) Tryz.func310 rfl rfl rfl (by simp[hc]) (by simp[hc]) (by simp[hc]) (by simp[hc]) (fun B=>?_)
 refine zu2 ?_
 refine Ws ?_
 refine ai [1,0,0,0,1,0,0,0,1,0,0,0,0,0,0,2,3,0,0] [0,1,2,3,4,5,6,7,8,9,10,11,12,13,14,15,16,17,18] mG rfl (by kernel_rfl) ?_
 refine z5 ?_
 iterate 3 refine z3 ?_
 refine z5 ?_
 iterate 3 refine z3 ?_
 refine z5 ?_
 refine z3 ?_
 refine Xc rfl rfl rfl rfl (fun _=>fb rfl rfl (hg _)) ?_
 iterate 4 refine z3 ?_
 refine kw tG rfl rfl rfl rfl rfl trivial rfl ?_
 refine aZ tG rfl rfl rfl rfl rfl trivial ?_
 iterate 2 refine z3 ?_
 refine ah ?_
 refine zp5 ?_
 refine zs5 ?_
 refine zu3 ?_
 refine Wq ?_
 refine bj rfl rfl ?_ ?_
 ·rfl
 rfl
theorem qz(k:Int)(g:FuncId)(cap:List PV)(hc:aL cap):ab Tryz.prog 235 [i64 k,fnP g cap] (bb k 312 [.row [fnP g cap]]):=by
 refine pW tG (rs:=[.cell 4 155]) Tryz.func235 rfl rfl rfl (by simp[hc]) (by simp[hc]) (fun B=>?_)
 refine zp1 ?_
 refine bJ 3 _ rfl rfl rfl ?_
 refine zs1 ?_
 refine zu4 ?_
 refine zR ?_
 rfl
theorem qb(g:FuncId)(cap:List PV)(v:VVm)(x:List Int)(r:Str×Int)(ho:0≤v.conf.out∧v.conf.out≤1000000)(hl:v.out.length≤1000000)(hr:r.1.length≤140737488355328)(hc:aL cap)(hg:pd g ([eVm v,sq af x]++cap) (jl r)):
  ∀(H:List Ob) (i:Nat),H[i]?=some (.cells (cVm v) 36)→HC Tryz.prog 312 (.ptr i 0::[sq af x,.row [fnP g cap]]) H (tLv (cZ v r).2) (H.set i (.cells (cVm (cZ v r).1) 36)):=by
 refine aO tG (rs:=[.tmp 5,.tmp 6]) Tryz.func312 rfl rfl rfl (by simp[hc]) (by simp[hc]) (by simp[hc]) (by simp[hc]) (fun B=>?_)
 refine zu2 ?_
 refine Ws ?_
 refine ai [1,0,0,1,0,0,0,0,0,0,0] [0,1,2,3,4,5,6,7,8,9,10] mG rfl (by kernel_rfl) ?_
 refine z5 ?_
 iterate 2 refine z3 ?_
 refine z5 ?_
 refine z3 ?_
 refine Xc rfl rfl rfl rfl (fun _=>fb rfl rfl (hg _)) ?_
 iterate 5 refine z3 ?_
 refine ah ?_
 refine Ws ?_
 refine zu2 ?_
 refine Wi rfl (fun hi1=>?_) (fun hi1=>?_)
 ·have h0:¬r.2=0:=by simpa using hi1
  refine zu3 ?_
  refine Wq ?_
  refine bj rfl rfl ?_ ?_
  ·rw[cZ,if_neg h0];rfl
  rw[cZ,if_neg h0];rfl
 have h0:r.2=0:=by simpa using hi1
 refine Wj ?_
 refine zp4 ?_
 refine zc rfl Tryz.func313 ((KN v r.1 ho hl hr) _) ?_
 refine zy5 ?_
 refine zs1 ?_
 refine zu4 ?_
 refine zu3 ?_
 refine Wq ?_
 refine bj rfl rfl ?_ ?_
 ·rw[cZ,if_pos h0];rfl
 rw[cZ,if_pos h0];rfl
theorem rG(v:VVm)(hm:v.mem.b.length≤140737488355328):ab Tryz.prog 237 [eVm v] (i64 (eO v)):=by
 refine pW tG (rs:=[.tmp 2]) Tryz.func237 rfl rfl rfl (by simp) (by simp) (fun B=>?_)
 refine zu2 ?_
 refine zp2 ?_
 refine zc rfl Tryz.func45 ((gT v.mem 0 hm (by unfold ae;omega)) _) ?_
 refine zs5 ?_
 refine zu2 ?_
 refine zR ?_
 rfl
theorem wE(g:FuncId)(cap:List PV)(hc:aL cap):ab Tryz.prog 234 [fnP g cap] (bb 1 312 [.row [fnP 236 [.row [fnP g cap]]]]):=by
 refine pW tG (rs:=[.cell 2 155]) Tryz.func234 rfl rfl rfl (by simp[hc]) (by simp[hc]) (fun B=>?_)
 refine zp1 ?_
 refine bJ 1 _ rfl rfl rfl ?_
 refine zs1 ?_
 refine zp1 ?_
 refine zc rfl Tryz.func235 ((qz 1 236 [.row [fnP g cap]] (by simp[hc])) _) ?_
 refine zs1 ?_
 refine zR ?_
 rfl
theorem za(g:FuncId)(cap:List PV)(v:VVm)(x:List Int)(r:Str×Int)(hx:1≤x.length)(hm:v.mem.b.length≤140737488355328)(hr:r.1.length≤140737488355328)(hc:aL cap)(hg:pd g ([i64 (xat x 0),i64 (eO v)]++cap) (jl r)):
  ab Tryz.prog 236 [eVm v,sq af x,.row [fnP g cap]] (jl (uU r)):=by
 refine pW tG (rs:=[.tmp 5,.tmp 6]) Tryz.func236 rfl rfl rfl (by simp[hc]) (by simp[hc]) (fun B=>?_)
 refine zu3 ?_
 refine Ws ?_
 refine ai [1,0,0,1,1,0,0,0,0,0,0,0] [0,1,2,3,4,5,6,7,8,9,10,11] mG rfl (by kernel_rfl) ?_
 refine z5 ?_
 refine z3 ?_
 refine z9i ?_
 iterate 2 refine z5 ?_
 refine Xc rfl rfl rfl rfl (fun _=>dC rfl Tryz.func237 rfl rfl ((rG v hm) _)) ?_
 refine Xc rfl rfl rfl rfl (fun _=>fb rfl rfl (hg _)) ?_
 iterate 5 refine z3 ?_
 refine ah ?_
 refine zp1 ?_
 refine z2 ?_ (q:=(by simp only[gF];((simp_all;omega))))
 refine Wa 20 rfl (mo _ _) ?_
 refine zs3 ?_
 refine zR ?_
 rfl
theorem DE(s:Str):ab Tryz.prog 238 [str s] (bb 0 312 [.row [fnP 239 [.row [str s]]]]):=by
 refine pW tG (rs:=[.cell 2 155]) Tryz.func238 rfl rfl rfl (by simp) (by simp) (fun B=>?_)
 refine zp1 ?_
 refine bJ 1 _ rfl rfl rfl ?_
 refine zs1 ?_
 refine zp1 ?_
 refine zc rfl Tryz.func235 ((qz 0 239 [.row [str s]] (by simp)) _) ?_
 refine zs1 ?_
 refine zR ?_
 rfl
theorem KO(s:Str)(v:VVm)(x:List Int):ab Tryz.prog 239 [eVm v,sq af x,.row [str s]] (jl (s,0)):=by
 refine pW tG (rs:=[.tmp 5,.tmp 6]) Tryz.func239 rfl rfl rfl (by simp) (by simp) (fun B=>?_)
 refine zu3 ?_
 refine zu3 ?_
 refine zR ?_
 rfl
theorem Kd(g:FuncId)(cap:List PV)(hc:aL cap):ab Tryz.prog 246 [fnP g cap] (bb 1 247 [.row [fnP g cap]]):=by
 refine pW tG (rs:=[.cell 2 155]) Tryz.func246 rfl rfl rfl (by simp[hc]) (by simp[hc]) (fun B=>?_)
 refine zp1 ?_
 refine bJ 1 _ rfl rfl rfl ?_
 refine zs1 ?_
 refine zu3 ?_
 refine zR ?_
 rfl
theorem Od(g:FuncId)(cap:List PV)(v:VVm)(x:List Int)(r:ca×Int)(hx:1≤x.length)(hc:aL cap)(hg:pd g ([jY v.pic,i64 (xat x 0)]++cap) (xz r)):
  ∀(H:List Ob) (i:Nat),H[i]?=some (.cells (cVm v) 36)→HC Tryz.prog 247 (.ptr i 0::[sq af x,.row [fnP g cap]]) H (tLv ([],r.2)) (H.set i (.cells (cVm (o8 v r.1)) 36)):=by
 refine aO tG (rs:=[.tmp 5,.tmp 6]) Tryz.func247 rfl rfl rfl (by simp[hc]) (by simp[hc]) (by simp[hc]) (by simp[hc]) (fun B=>?_)
 refine zu2 ?_
 refine Ws ?_
 refine ai [1,0,0,0,1,0,0,1,0,0,0,0,2,3,0] [0,1,2,3,4,5,6,7,8,9,10,11,12,13,14] mG rfl (by kernel_rfl) ?_
 refine z5 ?_
 iterate 3 refine z3 ?_
 refine z5 ?_
 refine z3 ?_
 refine z9i ?_
 refine z5 ?_
 refine Xc rfl rfl rfl rfl (fun _=>fb rfl rfl (hg _)) ?_
 iterate 3 refine z3 ?_
 refine kw tG rfl rfl rfl rfl rfl trivial rfl ?_
 refine aZ tG rfl rfl rfl rfl rfl trivial ?_
 refine z3 ?_
 refine ah ?_
 refine zu5 ?_
 refine zu3 ?_
 refine Wq ?_
 refine bj rfl rfl ?_ ?_
 ·rfl
 rfl
theorem pV(v:VVm)(a n:Int)(hm:cb v.mem)(ha:ae a):∀(H:List Ob) (i:Nat),H[i]?=some (.cells (cVm v) 36)→HC Tryz.prog 219 (.ptr i 0::[i64 a,i64 n]) H (i64 (aG v.mem a n).2) (H.set i (.cells (cVm (lf v (aG v.mem a n).1)) 36)):=by
 refine aO tG (rs:=[.tmp 6]) Tryz.func219 rfl rfl rfl (by simp) (by simp) (by simp) (by simp) (fun B=>?_)
 refine zu1 ?_
 refine zp5 ?_
 refine z1 ?_
 refine zc rfl Tryz.func206 ((kc v.mem a n hm ha) _) ?_
 refine zy5 ?_
 refine zs1 ?_
 refine zu5 ?_
 refine zu2 ?_
 refine Wq ?_
 refine bj rfl rfl ?_ ?_
 ·rfl
 rfl
theorem Es(n:Int):ab Tryz.prog 217 [i64 n] (bb 0 218 [.row [i64 n]]):=by
 refine pW tG (rs:=[.cell 2 155]) Tryz.func217 rfl rfl rfl (by simp) (by simp) (fun B=>?_)
 refine zp1 ?_
 refine bJ 1 _ rfl rfl rfl ?_
 refine zs1 ?_
 refine zu3 ?_
 refine zR ?_
 rfl
theorem JN(v:VVm)(x:List Int)(n:Int)(hm:cb v.mem):∀(H:List Ob) (i:Nat),H[i]?=some (.cells (cVm v) 36)→HC Tryz.prog 218 (.ptr i 0::[sq af x,.row [i64 n]]) H (tLv (cu v (aG v.mem 0 n)).2) (H.set i (.cells (cVm (cu v (aG v.mem 0 n)).1) 36)):=by
 refine aO tG (rs:=[.tmp 5,.tmp 6]) Tryz.func218 rfl rfl rfl (by simp) (by simp) (by simp) (by simp) (fun B=>?_)
 refine zu2 ?_
 refine zp2 ?_
 refine zc rfl Tryz.func219 ((pV v 0 n hm (by unfold ae;omega)) _ _ rfl) ?_
 refine zs2 ?_
 refine Wq ?_
 refine bj rfl rfl ?_ ?_
 ·rfl
 rfl
theorem lJ(n:Int):ab Tryz.prog 220 [i64 n] (bb 0 309 [.row [fnP 222 [.row [i64 n]]]]):=by
 refine pW tG (rs:=[.cell 2 155]) Tryz.func220 rfl rfl rfl (by simp) (by simp) (fun B=>?_)
 refine zp1 ?_
 refine bJ 1 _ rfl rfl rfl ?_
 refine zs1 ?_
 refine zp1 ?_
 refine zc rfl Tryz.func221 ((nK 222 [.row [i64 n]] (by simp)) _) ?_
 refine zs1 ?_
 refine zR ?_
 rfl
theorem nV(v:VVm)(n:Int):ab Tryz.prog 222 [eVm v,.row [i64 n]] (i64 n):=by
 refine pW tG (rs:=[.tmp 3]) Tryz.func222 rfl rfl rfl (by simp) (by simp) (fun B=>?_)
 refine zu2 ?_
 refine zu2 ?_
 refine zR ?_
 rfl
theorem sB(v:VVm)(s b:Int)(hm:v.mem.b.length≤140737488355328)(hs:ae s):∀(H:List Ob) (i:Nat),H[i]?=some (.cells (cVm v) 36)→HC Tryz.prog 266 (.ptr i 0::[i64 s,i64 b]) H (i64 (cR v s b)) (H.set i (.cells (cVm v) 36)):=by
 have hb:ae (W64 (b+8)):=by unfold ae W64;rw[aK];unfold wrap64;omega
 refine aO tG (rs:=[.tmp 6]) Tryz.func266 rfl rfl rfl (by simp) (by simp) (by simp) (by simp) (fun B=>?_)
 refine zu1 ?_
 refine zp5 ?_
 refine z1 ?_
 refine zc rfl Tryz.func45 ((gT v.mem _ hm hb) _) ?_
 refine zs5 ?_
 refine Ws ?_
 refine zp3 ?_
 refine Wb 21 rfl (fun hg1=>?_) (fun hg1=>?_)
 ·have h0:(au v.mem (W64 (b+8))).2=0:=by simpa using hg1
  refine zy3 ?_
  refine Wb 24 rfl (fun hg2=>?_) (fun hg2=>?_)
  ·have h1:s<0:=by simpa using hg2
   iterate 3 refine z6 ?_
   refine zs2 ?_
   refine Wt rfl rfl ?_
   refine zu1 ?_
   refine Wq ?_
   refine bj rfl rfl ?_ ?_
   ·rw[cR,if_pos h0,if_pos (.inl h1)];rfl
   rfl
  have h1:¬s<0:=by simpa using hg2
  refine zs5 ?_
  refine Wi rfl (fun hi1=>?_) (fun hi1=>?_)
  ·have h2:(au v.mem (W64 (b+8))).1≤s:=by simpa using hi1
   refine zu1 ?_
   refine Wq ?_
   refine bj rfl rfl ?_ ?_
   ·rw[cR,if_pos h0,if_pos (.inr h2)];rfl
   rfl
  have h2:¬(au v.mem (W64 (b+8))).1≤s:=by simpa using hi1
  refine Wj ?_
  refine zu2 ?_
  refine Wq ?_
  refine bj rfl rfl ?_ ?_
  ·rw[cR,if_pos h0,if_neg (by rintro(h|h)<;>contradiction),←h0];rfl
  rfl
 have h0:¬(au v.mem (W64 (b+8))).2=0:=by simpa using hg1
 iterate 7 refine z6 ?_
 refine zs1 ?_
 refine Wf rfl rfl ?_
 refine Wj ?_
 refine zu2 ?_
 refine Wq ?_
 refine bj rfl rfl ?_ ?_
 ·rw[cR,if_neg h0];rfl
 rfl
theorem uu{a b:Int}(ha:Fit a)(hb:Fit b):Fit (kQ a b).1∧Fit (kQ a b).2:=by
 have h:(a*b).natAbs≤9223372036854775808*9223372036854775808:=by rw[Int.natAbs_mul];exact Nat.mul_le_mul (by omega) (by omega)
 refine⟨by show Fit (wrap64 _);unfold wrap64;omega,?_⟩
 show Fit (a*b/18446744073709551616)
 omega
def XOk(k:Nat)(x:List Int):Prop:=k≤x.length∧∀a∈x,ae a
theorem XOk.fit{k:Nat}{x:List Int}(h:XOk k x)(i:Nat):ae (xat x i):=by
 unfold xat List.getD
 cases hi:x[i]? with
 | none=>simp[ae]
 | some a=>exact h.2 a (List.mem_of_getElem? hi)
theorem XOk.len{k:Nat}{x:List Int}(h:XOk k x):k≤x.length:=h.1
theorem Iz(q r e:Int):ab Tryz.prog 183 [i64 q,i64 r,i64 e] (tLv ([r,q],e)):=by
 refine pW tG (rs:=[.tmp 6,.tmp 7]) Tryz.func183 rfl rfl rfl (by simp) (by simp) (fun B=>?_)
 refine zu2 ?_
 refine zp3 ?_
 refine Wa 10 rfl (bsL af [_,_] rfl rfl) ?_
 refine zs3 ?_
 refine zR ?_
 rfl
theorem LR(x:List Int)(hx:XOk 3 x):ab Tryz.prog 184 [sq af x] (t3i (tJ x)):=by
 have hl:=hx.len
 have hf:=uu (hx.fit 0) (hx.fit 1)
 refine pW tG (rs:=[.tmp 2,.tmp 3,.tmp 4]) Tryz.func184 rfl rfl rfl (by simp) (by simp) (fun B=>?_)
 refine zu3 ?_
 refine Ws ?_
 refine ai [0,0,1,0,0,1,0,0,0,0,0,0] [0,1,2,3,4,5,6,7,8,9,10,11] mG rfl (by kernel_rfl) ?_
 refine z3 ?_
 refine z9i ?_
 refine z5 ?_
 refine z3 ?_
 refine z9i ?_
 refine z5 ?_
 refine Xc rfl rfl rfl rfl (fun _=>dC rfl Tryz.func185 rfl rfl ((NS _ _ (hx.fit 0) (hx.fit 1)) _)) ?_
 iterate 5 refine z3 ?_
 refine ah ?_
 refine zp3 ?_
 refine Wv tG rfl rfl rfl (by omega) (iN af 1 (fun _=>rfl) 0 (by(simp only[dnL]at *;omega))) ?_
 refine z1 ?_
 refine zc rfl Tryz.func186 ((KW _ _ _ hf.2 (hx.fit 2)) _) ?_
 refine zy5 ?_
 refine zs1 ?_
 refine zR ?_
 rfl
theorem oe(q r e:Int):pd 183 [i64 q,i64 r,i64 e] (tLv ([r,q],e)):=fun H=>⟨⟨_,Tryz.func183,rfl,rfl⟩,Iz q r e H⟩
theorem Df(x:List Int)(hx:XOk 3 x):pd 184 [sq af x] (t3i (tJ x)):=fun H=>⟨⟨_,Tryz.func184,rfl,rfl⟩,LR x hx H⟩
abbrev mg:List PV:=[.row [fnP 183 []]]
abbrev H7:List PV:=[.row [fnP 184 []]]
abbrev Bd:List PV:=[.row [fnP 183 []],.row [fnP 184 []]]
theorem Tn(x:List Int)(hx:XOk 2 x):ab Tryz.prog 187 ([sq af x]++mg) (tLv (bp x)):=by
 have hl:=hx.len
 refine pW tG (rs:=[.tmp 3,.tmp 4]) Tryz.func187 rfl rfl rfl (by simp) (by simp) (fun B=>?_)
 refine zu2 ?_
 refine Ws ?_
 refine ai [1,0,0,1,0,0,1,0,0,0,0,0,0,0,0,0] [0,1,2,3,4,5,6,7,8,9,10,11,12,13,14,15] mG rfl (by kernel_rfl) ?_
 refine z5 ?_
 refine z3 ?_
 refine z9i ?_
 refine z5 ?_
 refine z3 ?_
 refine z9i ?_
 refine z5 ?_
 refine Xc rfl rfl rfl rfl (fun _=>dC rfl Tryz.func179 rfl rfl ((IV _ _ (hx.fit 1)) _)) ?_
 iterate 3 refine z3 ?_
 refine Xc rfl rfl rfl rfl (fun _=>fb rfl rfl (oe _ _ _ _)) ?_
 iterate 4 refine z3 ?_
 refine ah ?_
 refine zR ?_
 rfl
theorem Ti(x:List Int)(hx:XOk 3 x):ab Tryz.prog 188 ([sq af x]++Bd) (tLv (aW x)):=by
 refine pW tG (rs:=[.tmp 4,.tmp 5]) Tryz.func188 rfl rfl rfl (by simp) (by simp) (fun B=>?_)
 refine zu2 ?_
 refine Ws ?_
 refine ai [1,1,0,0,0,0,0,0,0,0,0,0] [0,1,2,3,4,5,6,7,8,9,10,11] mG rfl (by kernel_rfl) ?_
 iterate 2 refine z5 ?_
 refine z3 ?_
 refine Xc rfl rfl rfl rfl (fun _=>fb rfl rfl (Df x hx _)) ?_
 iterate 3 refine z3 ?_
 refine Xc rfl rfl rfl rfl (fun _=>fb rfl rfl (oe _ _ _ _)) ?_
 iterate 4 refine z3 ?_
 refine ah ?_
 refine zR ?_
 rfl
theorem Te(x:List Int)(hx:XOk 3 x):ab Tryz.prog 189 ([sq af x]++H7) (tLv (cw x)):=by
 refine pW tG (rs:=[.tmp 3,.tmp 4]) Tryz.func189 rfl rfl rfl (by simp) (by simp) (fun B=>?_)
 refine zu2 ?_
 refine zp2 ?_
 refine Wc rfl rfl (fb rfl rfl (Df x hx _)) ?_
 refine zy5 ?_
 refine zs2 ?_
 refine zp2 ?_
 refine Wa 16 rfl (bsL af [_] rfl rfl) ?_
 refine zs3 ?_
 refine zR ?_
 rfl
theorem TO(x:List Int)(hx:XOk 2 x):ab Tryz.prog 190 [sq af x] (tLv (pUM x)):=by
 have hl:=hx.len
 refine pW tG (rs:=[.tmp 2,.tmp 3]) Tryz.func190 rfl rfl rfl (by simp) (by simp) (fun B=>?_)
 refine zu2 ?_
 refine Ws ?_
 refine ai [0,0,1,0,0,1,0,0,0,0,0,0] [0,1,2,3,4,5,6,7,8,9,10,11] mG rfl (by kernel_rfl) ?_
 refine z3 ?_
 refine z9i ?_
 refine z5 ?_
 refine z3 ?_
 refine z9i ?_
 refine z5 ?_
 refine Xc rfl rfl rfl rfl (fun _=>dC rfl Tryz.func191 rfl rfl ((OC _ _) _)) ?_
 iterate 5 refine z3 ?_
 refine ah ?_
 refine zp3 ?_
 refine Wa 18 rfl (bsL af [_,_] rfl rfl) ?_
 refine zc rfl Tryz.func144 ((jy _) _) ?_
 refine zs4 ?_
 refine zR ?_
 rfl
theorem Tz(x:List Int)(hx:XOk 2 x):ab Tryz.prog 192 [sq af x] (tLv (pM x)):=by
 have hl:=hx.len
 refine pW tG (rs:=[.tmp 2,.tmp 3]) Tryz.func192 rfl rfl rfl (by simp) (by simp) (fun B=>?_)
 refine zu2 ?_
 refine Ws ?_
 refine ai [0,0,1,0,0,1,0,0,0,0,0,0] [0,1,2,3,4,5,6,7,8,9,10,11] mG rfl (by kernel_rfl) ?_
 refine z3 ?_
 refine z9i ?_
 refine z5 ?_
 refine z3 ?_
 refine z9i ?_
 refine z5 ?_
 refine Xc rfl rfl rfl rfl (fun _=>dC rfl Tryz.func185 rfl rfl ((NS _ _ (hx.fit 0) (hx.fit 1)) _)) ?_
 iterate 5 refine z3 ?_
 refine ah ?_
 refine zp3 ?_
 refine Wa 18 rfl (bsL af [_,_] rfl rfl) ?_
 refine zc rfl Tryz.func144 ((jy _) _) ?_
 refine zs4 ?_
 refine zR ?_
 rfl
theorem TH(x:List Int)(hx:XOk 3 x):ab Tryz.prog 193 ([sq af x]++mg) (tLv (cy x)):=by
 have hl:=hx.len
 refine pW tG (rs:=[.tmp 3,.tmp 4]) Tryz.func193 rfl rfl rfl (by simp) (by simp) (fun B=>?_)
 refine zu2 ?_
 refine Ws ?_
 refine ai [1,0,0,1,0,0,1,0,0,1,0,0,0,0,0,0,0,0,0] [0,1,2,3,4,5,6,7,8,9,10,11,12,13,14,15,16,17,18] mG rfl (by kernel_rfl) ?_
 refine z5 ?_
 refine z3 ?_
 refine z9i ?_
 refine z5 ?_
 refine z3 ?_
 refine z9i ?_
 refine z5 ?_
 refine z3 ?_
 refine z9i ?_
 refine z5 ?_
 refine Xc rfl rfl rfl rfl (fun _=>dC rfl Tryz.func194 rfl rfl ((BP _ _ _) _)) ?_
 iterate 3 refine z3 ?_
 refine Xc rfl rfl rfl rfl (fun _=>fb rfl rfl (oe _ _ _ _)) ?_
 iterate 4 refine z3 ?_
 refine ah ?_
 refine zR ?_
 rfl
theorem S8(x:List Int)(hx:XOk 3 x):ab Tryz.prog 195 ([sq af x]++mg) (tLv (cB x)):=by
 have hl:=hx.len
 refine pW tG (rs:=[.tmp 3,.tmp 4]) Tryz.func195 rfl rfl rfl (by simp) (by simp) (fun B=>?_)
 refine zu2 ?_
 refine Ws ?_
 refine ai [1,0,0,1,0,0,1,0,0,1,0,0,0,0,0,0,0,0,0] [0,1,2,3,4,5,6,7,8,9,10,11,12,13,14,15,16,17,18] mG rfl (by kernel_rfl) ?_
 refine z5 ?_
 refine z3 ?_
 refine z9i ?_
 refine z5 ?_
 refine z3 ?_
 refine z9i ?_
 refine z5 ?_
 refine z3 ?_
 refine z9i ?_
 refine z5 ?_
 refine Xc rfl rfl rfl rfl (fun _=>dC rfl Tryz.func196 rfl rfl ((P6 _ _ _ (hx.fit 1) (hx.fit 2)) _)) ?_
 iterate 3 refine z3 ?_
 refine Xc rfl rfl rfl rfl (fun _=>fb rfl rfl (oe _ _ _ _)) ?_
 iterate 4 refine z3 ?_
 refine ah ?_
 refine zR ?_
 rfl
theorem SP(x:List Int)(hx:XOk 3 x):ab Tryz.prog 197 ([sq af x]++mg) (tLv (cz x)):=by
 have hl:=hx.len
 refine pW tG (rs:=[.tmp 3,.tmp 4]) Tryz.func197 rfl rfl rfl (by simp) (by simp) (fun B=>?_)
 refine zu2 ?_
 refine Ws ?_
 refine ai [1,0,0,1,0,0,1,0,0,1,0,0,0,0,0,0,0,0,0] [0,1,2,3,4,5,6,7,8,9,10,11,12,13,14,15,16,17,18] mG rfl (by kernel_rfl) ?_
 refine z5 ?_
 refine z3 ?_
 refine z9i ?_
 refine z5 ?_
 refine z3 ?_
 refine z9i ?_
 refine z5 ?_
 refine z3 ?_
 refine z9i ?_
 refine z5 ?_
 refine Xc rfl rfl rfl rfl (fun _=>dC rfl Tryz.func186 rfl rfl ((KW _ _ _ (hx.fit 1) (hx.fit 2)) _)) ?_
 iterate 3 refine z3 ?_
 refine Xc rfl rfl rfl rfl (fun _=>fb rfl rfl (oe _ _ _ _)) ?_
 iterate 4 refine z3 ?_
 refine ah ?_
 refine zR ?_
 rfl
theorem RO(x:List Int)(hx:XOk 1 x):ab Tryz.prog 198 [sq af x] (tLv (pSD x)):=by
 have hl:=hx.len
 refine pW tG (rs:=[.tmp 2,.tmp 3]) Tryz.func198 rfl rfl rfl (by simp) (by simp) (fun B=>?_)
 refine zu2 ?_
 refine Ws ?_
 refine ai [0,0,1,0,0,1,0,0,0,0,0,0,0,0] [0,1,2,3,4,5,6,7,8,9,10,11,12,13] mG rfl (by kernel_rfl) ?_
 refine z3 ?_
 refine z9i ?_
 refine z5 ?_
 refine z3 ?_
 refine z9i ?_
 refine z5 ?_
 refine z3 ?_
 refine Xc rfl rfl rfl rfl (fun _=>dC rfl Tryz.func199 rfl rfl ((vS _) _)) ?_
 refine z3 ?_
 refine Xa 12 rfl (bsL af [_,_] rfl rfl) ?_
 refine Xc rfl rfl rfl rfl (fun _=>dC rfl Tryz.func144 rfl rfl ((jy _) _)) ?_
 iterate 4 refine z3 ?_
 refine ah ?_
 refine zR ?_
 rfl
theorem Sq(x:List Int)(hx:XOk 3 x):ab Tryz.prog 200 [sq af x] (tLv (bq x)):=by
 have hl:=hx.len
 refine pW tG (rs:=[.tmp 2,.tmp 3]) Tryz.func200 rfl rfl rfl (by simp) (by simp) (fun B=>?_)
 refine zu2 ?_
 refine Ws ?_
 refine ai [0,0,1,0,0,1,0,0,1,0,0,0,0,0,0,0,0] [0,1,2,3,4,5,6,7,8,9,10,11,12,13,14,15,16] mG rfl (by kernel_rfl) ?_
 refine z3 ?_
 refine z9i ?_
 refine z5 ?_
 refine z3 ?_
 refine z9i ?_
 refine z5 ?_
 refine z3 ?_
 refine z9i ?_
 refine z5 ?_
 refine Xc rfl rfl rfl rfl (fun _=>dC rfl Tryz.func201 rfl rfl ((Bp _ _ _) _)) ?_
 refine Xc rfl rfl rfl rfl (fun _=>dC rfl Tryz.func199 rfl rfl ((vS _) _)) ?_
 refine z3 ?_
 refine Xa 15 rfl (bsL af [_] rfl rfl) ?_
 refine Xc rfl rfl rfl rfl (fun _=>dC rfl Tryz.func144 rfl rfl ((jy _) _)) ?_
 iterate 4 refine z3 ?_
 refine ah ?_
 refine zR ?_
 rfl
theorem TQ(v:VVm)(x:List Int)(hm:cb v.mem)(hx:XOk 2 x):ab Tryz.prog 205 [dr v.mem,sq af x] (mJ (aG v.mem (xat x 1) (xat x 0))):=by
 have hl:=hx.len
 refine pW tG (rs:=[.cell 4 27,.tmp 5]) Tryz.func205 rfl rfl rfl (by simp) (by simp) (fun B=>?_)
 refine zu3 ?_
 refine Ws ?_
 refine ai [1,0,0,1,0,0,1,0,0,0,3,0] [0,1,2,3,4,5,6,7,8,9,10,11] mG rfl (by kernel_rfl) ?_
 refine z5 ?_
 refine z3 ?_
 refine z9i ?_
 refine z5 ?_
 refine z3 ?_
 refine z9i ?_
 refine z5 ?_
 refine Xc rfl rfl rfl rfl (fun _=>dC rfl Tryz.func206 rfl rfl ((kc _ _ _ hm (hx.fit 1)) _)) ?_
 iterate 2 refine z3 ?_
 refine aZ tG rfl rfl rfl rfl rfl trivial ?_
 refine z3 ?_
 refine ah ?_
 refine zR ?_
 rfl
theorem Tm(v:VVm)(x:List Int)(hm:cb v.mem)(hx:XOk 2 x):ab Tryz.prog 207 [dr v.mem,sq af x] (mJ (jc v.mem (xat x 1) (xat x 0))):=by
 have hl:=hx.len
 refine pW tG (rs:=[.cell 4 27,.tmp 5]) Tryz.func207 rfl rfl rfl (by simp) (by simp) (fun B=>?_)
 refine zu3 ?_
 refine Ws ?_
 refine ai [1,0,0,1,0,0,1,0,0,0,3,0] [0,1,2,3,4,5,6,7,8,9,10,11] mG rfl (by kernel_rfl) ?_
 refine z5 ?_
 refine z3 ?_
 refine z9i ?_
 refine z5 ?_
 refine z3 ?_
 refine z9i ?_
 refine z5 ?_
 refine Xc rfl rfl rfl rfl (fun _=>dC rfl Tryz.func208 rfl rfl ((vt _ _ _ hm (hx.fit 1)) _)) ?_
 iterate 2 refine z3 ?_
 refine aZ tG rfl rfl rfl rfl rfl trivial ?_
 refine z3 ?_
 refine ah ?_
 refine zR ?_
 rfl
theorem eK{m:aV}(hm:cb m):m.b.length≤140737488355328:=by have:=hm.b;omega
theorem TP(v:VVm)(x:List Int)(hm:cb v.mem)(hx:XOk 2 x):ab Tryz.prog 209 [dr v.mem,sq af x] (mJ (kG v x)):=by
 have hl:=hx.len
 refine pW tG (rs:=[.cell 4 27,.tmp 5]) Tryz.func209 rfl rfl rfl (by simp) (by simp) (fun B=>?_)
 refine zu3 ?_
 refine Ws ?_
 refine ai [1,0,0,1,0,0,0,0,0,0] [0,1,2,3,4,5,6,7,8,9] mG rfl (by kernel_rfl) ?_
 refine z5 ?_
 refine z3 ?_
 refine z9i ?_
 refine z5 ?_
 refine Xc rfl rfl rfl rfl (fun _=>dC rfl Tryz.func45 rfl rfl ((gT _ _ (eK hm) (hx.fit 1)) _)) ?_
 iterate 5 refine z3 ?_
 refine ah ?_
 refine Ws ?_
 refine zu2 ?_
 refine Wi rfl (fun hi1=>?_) (fun hi1=>?_)
 ·have h0:¬(au v.mem (xat x 1)).2=0:=bne_iff_ne.1 hi1
  refine zu4 ?_
  refine zR ?_
  rw[kG,if_neg h0];rfl
 have h0:(au v.mem (xat x 1)).2=0:=bne_eq_false_iff_eq.1 hi1
 refine Wj ?_
 refine Ws ?_
 refine ai [1,0,0,1,0,0,0,1,0,0,0,0,3,0] [0,1,2,3,4,5,6,7,8,9,10,11,12,13] mG rfl (by kernel_rfl) ?_
 refine z5 ?_
 refine z3 ?_
 refine z9i ?_
 refine z5 ?_
 iterate 2 refine z3 ?_
 refine z9i ?_
 refine z5 ?_
 refine z3 ?_
 refine Xc rfl rfl rfl rfl (fun _=>dC rfl Tryz.func206 rfl rfl ((kc _ _ _ hm (hx.fit 1)) _)) ?_
 iterate 2 refine z3 ?_
 refine aZ tG rfl rfl rfl rfl rfl trivial ?_
 refine z3 ?_
 refine ah ?_
 refine zR ?_
 rw[kG,if_pos h0];rfl
theorem gO(n:Int):ae (W64 n):=by unfold ae W64;rw[aK];unfold wrap64;omega
theorem To(v:VVm)(x:List Int)(hm:cb v.mem)(hx:XOk 1 x):∀(H:List Ob) (i:Nat),H[i]?=some (.cells (cVm v) 36)→HC Tryz.prog 210 (.ptr i 0::[sq af x]) H (tLv (fH v x).2) (H.set i (.cells (cVm (fH v x).1) 36)):=by
 have hl:=hx.len
 refine aO tG (rs:=[.tmp 4,.tmp 5]) Tryz.func210 rfl rfl rfl (by simp) (by simp) (by simp) (by simp) (fun B=>?_)
 refine zu2 ?_
 refine Ws ?_
 refine ai [0,0,0,1,0,0,1,0,0,0,0,0,0] [0,1,2,3,4,5,6,7,8,9,10,11,12] mG rfl (by kernel_rfl) ?_
 iterate 3 refine z3 ?_
 refine z5 ?_
 refine z3 ?_
 refine z9i ?_
 refine z5 ?_
 refine Xc rfl rfl rfl rfl (fun _=>dC rfl Tryz.func45 rfl rfl ((gT _ _ (eK hm) (hx.fit 0)) _)) ?_
 iterate 5 refine z3 ?_
 refine ah ?_
 refine Ws ?_
 refine zu2 ?_
 refine Wi rfl (fun hi1=>?_) (fun hi1=>?_)
 ·have h0:¬(au v.mem (xat x 0)).2=0:=bne_iff_ne.1 hi1
  refine zu3 ?_
  refine Wq ?_
  refine bj rfl rfl ?_ ?_
  ·rw[fH,if_neg h0];rfl
  rw[fH,if_neg h0];rfl
 have h0:(au v.mem (xat x 0)).2=0:=bne_eq_false_iff_eq.1 hi1
 refine Wj ?_
 refine Ws ?_
 refine ai [0,0,0,1,0,0,1,0,0,0,0,0,0,0] [0,1,2,3,4,5,6,7,8,9,10,11,12,13] mG rfl (by kernel_rfl) ?_
 iterate 3 refine z3 ?_
 refine z5 ?_
 refine z3 ?_
 refine z9i ?_
 refine z5 ?_
 refine z3 ?_
 refine Xc rfl rfl rfl rfl (fun _=>dC rfl Tryz.func45 rfl rfl ((gT _ _ (eK hm) (gO _)) _)) ?_
 iterate 5 refine z3 ?_
 refine ah ?_
 refine zp3 ?_
 refine Wa 37 rfl (bsL af [_,_] rfl rfl) ?_
 refine zs3 ?_
 refine Wq ?_
 refine bj rfl rfl ?_ ?_
 ·rw[fH,if_pos h0];rfl
 rw[fH,if_pos h0];rfl
theorem qL{m:aV}{a n:Int}(h:ay m a n=true):n=0∨(0<n∧0≤a∧a+n≤m.b.length):=by unfold ay at h;exact oT h
theorem Cl{l b:List UInt8}{k:Nat}(h:k+b.length≤l.length):(dy l k b).length=l.length:=by unfold dy;simp only[List.length_append,List.length_take,List.length_drop];omega
theorem qq(m:aV)(a:Int)(b:List UInt8):(bK m a b).1.b.length=m.b.length:=by
 unfold bK
 split
 ·rename_i h
  split
  ·rfl
  rename_i hb
  have:=List.length_pos_iff.2 hb
  rcases qL h with h|⟨h1,h2,h3⟩
  ·omega
  exact Cl (by omega)
 rfl
theorem qC(m:aV)(a:Int)(b:List UInt8):(bK m a b).1.old.length≤m.old.length+1:=by
 unfold bK
 split
 ·split
  ·exact Nat.le_succ _
  simp
 exact Nat.le_succ _
theorem zi{m:aV}(hm:cb m)(a:Int)(b:List UInt8)(h:m.old.length+1≤1000000):cb (bK m a b).1 :=
 ⟨by rw[qq];exact hm.b,Nat.le_trans (qC m a b) h⟩
theorem sR{m:aV}(hm:cb m)(a n:Int)(h:m.old.length+1≤1000000):cb (aG m a n).1:=by
 unfold aG
 split
 ·exact zi hm _ _ h
 exact hm
theorem TG(v:VVm)(x:List Int)(hm:cb v.mem)(ho:v.mem.old.length+1≤1000000)(hx:XOk 3 x):ab Tryz.prog 211 [dr v.mem,sq af x] (mJ (jb v x)):=by
 have hl:=hx.len
 refine pW tG (rs:=[.cell 4 27,.tmp 5]) Tryz.func211 rfl rfl rfl (by simp) (by simp) (fun B=>?_)
 refine zu3 ?_
 refine Ws ?_
 refine ai [1,0,0,1,0,0,1,0,0,0,0,3,0] [0,1,2,3,4,5,6,7,8,9,10,11,12] mG rfl (by kernel_rfl) ?_
 refine z5 ?_
 refine z3 ?_
 refine z9i ?_
 refine z5 ?_
 refine z3 ?_
 refine z9i ?_
 refine z5 ?_
 refine Xc rfl rfl rfl rfl (fun _=>dC rfl Tryz.func206 rfl rfl ((kc _ _ _ hm (hx.fit 2)) _)) ?_
 iterate 3 refine z3 ?_
 refine aZ tG rfl rfl rfl rfl rfl trivial ?_
 refine z3 ?_
 refine ah ?_
 refine Ws ?_
 refine zu2 ?_
 refine Wi rfl (fun hi1=>?_) (fun hi1=>?_)
 ·have h0:¬(aG v.mem (xat x 2) (xat x 1)).2=0:=bne_iff_ne.1 hi1
  refine zu4 ?_
  refine zR ?_
  rw[jb,if_neg h0];rfl
 have h0:(aG v.mem (xat x 2) (xat x 1)).2=0:=bne_eq_false_iff_eq.1 hi1
 refine Wj ?_
 refine Ws ?_
 refine ai [1,0,0,1,0,0,0,1,0,0,0,3,0] [0,1,2,3,4,5,6,7,8,9,10,11,12] mG rfl (by kernel_rfl) ?_
 refine z5 ?_
 refine z3 ?_
 refine z9i ?_
 refine z5 ?_
 iterate 2 refine z3 ?_
 refine z9i ?_
 refine z5 ?_
 refine Xc rfl rfl rfl rfl (fun _=>dC rfl Tryz.func206 rfl rfl ((kc _ _ _ (sR hm _ _ ho) (gO _)) _)) ?_
 iterate 2 refine z3 ?_
 refine aZ tG rfl rfl rfl rfl rfl trivial ?_
 refine z3 ?_
 refine ah ?_
 refine zR ?_
 rw[jb,if_pos h0];rfl
theorem S7(v:VVm)(x:List Int)(hm:cb v.mem)(hx:XOk 3 x):ab Tryz.prog 212 [dr v.mem,sq af x] (mJ (im v.mem (xat x 0) (xat x 1) (xat x 2))):=by
 have hl:=hx.len
 refine pW tG (rs:=[.cell 4 27,.tmp 5]) Tryz.func212 rfl rfl rfl (by simp) (by simp) (fun B=>?_)
 refine zu3 ?_
 refine Ws ?_
 refine ai [1,0,0,1,0,0,1,0,0,1,0,0,0,3,0] [0,1,2,3,4,5,6,7,8,9,10,11,12,13,14] mG rfl (by kernel_rfl) ?_
 refine z5 ?_
 refine z3 ?_
 refine z9i ?_
 refine z5 ?_
 refine z3 ?_
 refine z9i ?_
 refine z5 ?_
 refine z3 ?_
 refine z9i ?_
 refine z5 ?_
 refine Xc rfl rfl rfl rfl (fun _=>dC rfl Tryz.func213 rfl rfl ((IR _ _ _ _ hm (hx.fit 0) (hx.fit 1)) _)) ?_
 iterate 2 refine z3 ?_
 refine aZ tG rfl rfl rfl rfl rfl trivial ?_
 refine z3 ?_
 refine ah ?_
 refine zR ?_
 rfl
theorem Ts(v:VVm)(x:List Int)(hm:cb v.mem)(hx:XOk 3 x):ab Tryz.prog 214 [dr v.mem,sq af x] (mJ (ik v.mem (xat x 0) (xat x 1) (xat x 2))):=by
 have hl:=hx.len
 refine pW tG (rs:=[.cell 4 27,.tmp 5]) Tryz.func214 rfl rfl rfl (by simp) (by simp) (fun B=>?_)
 refine zu3 ?_
 refine Ws ?_
 refine ai [1,0,0,1,0,0,1,0,0,1,0,0,0,3,0] [0,1,2,3,4,5,6,7,8,9,10,11,12,13,14] mG rfl (by kernel_rfl) ?_
 refine z5 ?_
 refine z3 ?_
 refine z9i ?_
 refine z5 ?_
 refine z3 ?_
 refine z9i ?_
 refine z5 ?_
 refine z3 ?_
 refine z9i ?_
 refine z5 ?_
 refine Xc rfl rfl rfl rfl (fun _=>dC rfl Tryz.func215 rfl rfl ((Kt _ _ _ _ hm (hx.fit 0) (hx.fit 1) (hx.fit 2)) _)) ?_
 iterate 2 refine z3 ?_
 refine aZ tG rfl rfl rfl rfl rfl trivial ?_
 refine z3 ?_
 refine ah ?_
 refine zR ?_
 rfl
theorem TJ(v:VVm)(x:List Int)(hm:cb v.mem)(hx:XOk 1 x):∀(H:List Ob) (i:Nat),H[i]?=some (.cells (cVm v) 36)→HC Tryz.prog 216 (.ptr i 0::[sq af x]) H (tLv (bO v x).2) (H.set i (.cells (cVm v) 36)):=by
 have hl:=hx.len
 refine aO tG (rs:=[.tmp 4,.tmp 5]) Tryz.func216 rfl rfl rfl (by simp) (by simp) (by simp) (by simp) (fun B=>?_)
 refine zu2 ?_
 refine Ws ?_
 refine ai [0,0,0,1,0,0,1,0,0,0,0,0,0] [0,1,2,3,4,5,6,7,8,9,10,11,12] mG rfl (by kernel_rfl) ?_
 iterate 3 refine z3 ?_
 refine z5 ?_
 refine z3 ?_
 refine z9i ?_
 refine z5 ?_
 refine Xc rfl rfl rfl rfl (fun _=>dC rfl Tryz.func203 rfl rfl ((pb _ _ hm (hx.fit 0)) _)) ?_
 iterate 5 refine z3 ?_
 refine ah ?_
 refine zp1 ?_
 refine Wv tG rfl rfl rfl (by omega) (iN af 1 (fun _=>rfl) 0 (by(simp only[dnL]at *;omega))) ?_
 refine zy4 ?_
 refine Wa 24 rfl (bsL af [_,_] rfl rfl) ?_
 refine zs3 ?_
 refine Wq ?_
 refine bj rfl rfl ?_ ?_
 ·rfl
 rfl
theorem Tg(v:VVm):ab Tryz.prog 223 [eVm v] (i64 v.here):=by
 refine pW tG (rs:=[.tmp 2]) Tryz.func223 rfl rfl rfl (by simp) (by simp) (fun B=>?_)
 refine zu2 ?_
 refine zu3 ?_
 refine zR ?_
 rfl
theorem TR(v:VVm)(x:List Int)(hm:cb v.mem)(hh:g6 v.mem v.here)(hx:XOk 1 x):ab Tryz.prog 225 [dr v.mem,i64 v.here,sq af x] (rL (pj v x)):=by
 have hl:=hx.len
 refine pW tG (rs:=[.cell 6 27,.tmp 7,.tmp 8]) Tryz.func225 rfl rfl rfl (by simp) (by simp) (fun B=>?_)
 refine zu4 ?_
 refine Ws ?_
 refine ai [1,0,0,0,0,1,0,0,0,0,0,0] [0,1,2,3,4,5,6,7,8,9,10,11] mG rfl (by kernel_rfl) ?_
 refine z5 ?_
 refine Xc rfl rfl rfl rfl (fun _=>dC rfl Tryz.func227 rfl rfl ((IU) _)) ?_
 iterate 2 refine z3 ?_
 refine z9i ?_
 refine z5 ?_
 refine Xc rfl rfl rfl rfl (fun _=>dC rfl Tryz.func226 rfl rfl ((GR _ _ _ _ hm hh (by unfold ae;omega) (hx.fit 0)) _)) ?_
 iterate 5 refine z3 ?_
 refine ah ?_
 refine zp5 ?_
 refine zs1 ?_
 refine zR ?_
 rfl
theorem Tl(v:VVm)(x:List Int)(hm:cb v.mem)(hh:g6 v.mem v.here)(hx:XOk 1 x):ab Tryz.prog 228 [dr v.mem,i64 v.here,sq af x] (rL (gf v.mem v.here (xat x 0))):=by
 have hl:=hx.len
 refine pW tG (rs:=[.cell 6 27,.tmp 7,.tmp 8]) Tryz.func228 rfl rfl rfl (by simp) (by simp) (fun B=>?_)
 refine zu4 ?_
 refine Ws ?_
 refine ai [1,0,0,0,1,0,0,0,0,3,0,0] [0,1,2,3,4,5,6,7,8,9,10,11] mG rfl (by kernel_rfl) ?_
 refine z5 ?_
 iterate 2 refine z3 ?_
 refine z9i ?_
 refine z5 ?_
 refine Xc rfl rfl rfl rfl (fun _=>dC rfl Tryz.func229 rfl rfl ((GA _ _ _ hm hh) _)) ?_
 iterate 3 refine z3 ?_
 refine aZ tG rfl rfl rfl rfl rfl trivial ?_
 iterate 2 refine z3 ?_
 refine ah ?_
 refine zR ?_
 rfl
theorem S6(v:VVm)(x:List Int)(hm:cb v.mem)(hh:g6 v.mem v.here)(hx:XOk 1 x):ab Tryz.prog 230 [dr v.mem,i64 v.here,sq af x] (rL (gl v.mem v.here [loB (xat x 0)])):=by
 have hl:=hx.len
 refine pW tG (rs:=[.cell 6 27,.tmp 7,.tmp 8]) Tryz.func230 rfl rfl rfl (by simp) (by simp) (fun B=>?_)
 refine zu4 ?_
 refine Ws ?_
 refine ai [1,0,0,0,1,0,0,0,0,0,0,3,0,0] [0,1,2,3,4,5,6,7,8,9,10,11,12,13] mG rfl (by kernel_rfl) ?_
 refine z5 ?_
 iterate 2 refine z3 ?_
 refine z9i ?_
 refine z5 ?_
 refine z3 ?_
 refine Xa 14 rfl (lm _) ?_
 refine z3 ?_
 refine Xa 15 rfl (bsL av [_] rfl rfl) ?_
 refine Xc rfl rfl rfl rfl (fun _=>dC rfl Tryz.func231 rfl rfl ((xZ _ _ [loB (xat x 0)] hm hh (by simp)) _)) ?_
 iterate 3 refine z3 ?_
 refine aZ tG rfl rfl rfl rfl rfl trivial ?_
 iterate 2 refine z3 ?_
 refine ah ?_
 refine zR ?_
 rfl
theorem Tj(v:VVm)(x:List Int)(hm:cb v.mem)(hh:g6 v.mem v.here):ab Tryz.prog 232 [dr v.mem,i64 v.here,sq af x] (rL (l5 v.mem v.here)):=by
 refine pW tG (rs:=[.cell 6 27,.tmp 7,.tmp 8]) Tryz.func232 rfl rfl rfl (by simp) (by simp) (fun B=>?_)
 refine zu4 ?_
 refine zp2 ?_
 refine zc rfl Tryz.func233 ((An _ _ hm hh) _) ?_
 refine zy5 ?_
 refine zs1 ?_
 refine zR ?_
 rfl
theorem TM(v:VVm)(x:List Int)(hx:XOk 1 x):ab Tryz.prog 240 [eVm v,sq af x] (jl ([loB (xat x 0)],0)):=by
 have hl:=hx.len
 refine pW tG (rs:=[.tmp 4,.tmp 5]) Tryz.func240 rfl rfl rfl (by simp) (by simp) (fun B=>?_)
 refine zu3 ?_
 refine zp1 ?_
 refine Wv tG rfl rfl rfl (by omega) (iN af 1 (fun _=>rfl) 0 (by(simp only[dnL]at *;omega))) ?_
 refine zy2 ?_
 refine Wa 9 rfl (lm _) ?_
 refine z1 ?_
 refine Wa 10 rfl (bsL av [_] rfl rfl) ?_
 refine Wd rfl rfl (bI (lO tG rfl) rfl (lO tG rfl) rfl (lO tG rfl) rfl rfl rfl) ?_
 refine zs2 ?_
 refine zR ?_
 rfl
theorem ye(n:Nat):Lib.repeatL [32] n=List.replicate n 32:=by
 induction n with
 | zero=>rfl
 | succ n ih=>show [32]++Lib.repeatL [32] n=_;rw[ih];rfl
theorem tL(n:Nat)(hn:n≤1000000):ab Tryz.prog 242 [str [32],i64 n] (str (List.replicate n 32)):=by
 refine dA (args:=[.string ⟨#[32]⟩,.int .i64 n]) (fun c=>aD _ _) fun w=>Calls.mono (Tryz.strings_Repeat ⟨#[32]⟩ n w (by omega) (by show 1*n≤_;omega)) ?_
 rintro e w' ⟨rfl,hb⟩
 have h1:(⟨#[32]⟩:ByteArray).data.toList=[32]:=rfl
 rw[h1,ye]
 exact⟨rfl,bg.of_below hb⟩
theorem Gh(a b:Int):(if b<if 0>a then 0 else a then b else if 0>a then 0 else a)=min (max a 0) b:=by
 by_cases h:0>a
 ·simp only[if_pos h];split<;>omega
 simp only[if_neg h];split<;>omega
theorem Tf(v:VVm)(x:List Int)(ho:0≤v.conf.out∧v.conf.out≤900000)(hx:XOk 1 x):ab Tryz.prog 241 [eVm v,sq af x] (jl (j6 v x,0)):=by
 have hl:=hx.len
 have h0:=hx.fit 0
 have w1:IntKind.i64.wrap (v.conf.out+1)=v.conf.out+1:=by((rw[aK];unfold wrap64;(try simp only[dnL]at *);omega))
 have w2:min (max (xat x 0) 0) (v.conf.out+1)=((min (max (xat x 0) 0) (v.conf.out+1)).toNat:Int):=by omega
 refine pW tG (rs:=[.tmp 4,.tmp 5]) Tryz.func241 rfl rfl rfl (by simp) (by simp) (fun B=>?_)
 refine zu3 ?_
 refine Ws ?_
 refine ai [0,0,1,0,0,0,1,0,0,0,0,0] [0,1,2,3,4,5,6,7,8,9,10,11] mG rfl (by kernel_rfl) ?_
 refine z3 ?_
 refine z9i ?_
 refine z5 ?_
 iterate 3 refine z3 ?_
 refine z5 ?_
 refine z3 ?_
 refine Xa 13 rfl (congrArg (fun z=>PV.val (Value.int .i64 z)) w1) ?_
 refine z3 ?_
 refine Xa 14 rfl (congrArg (fun z=>PV.val (Value.int .i64 z)) ((Gh (xat x 0) (v.conf.out+1)).trans w2)) ?_
 refine Xc rfl rfl rfl rfl (fun _=>dC rfl Tryz.func242 rfl rfl ((tL _ (by omega)) _)) ?_
 iterate 2 refine z3 ?_
 refine ah ?_
 refine zR ?_
 rfl
theorem Tk(v:VVm)(x:List Int)(hm:cb v.mem)(hx:XOk 2 x):ab Tryz.prog 243 [eVm v,sq af x] (jl (bT v.mem (xat x 0) (xat x 1))):=by
 have hl:=hx.len
 refine pW tG (rs:=[.tmp 4,.tmp 5]) Tryz.func243 rfl rfl rfl (by simp) (by simp) (fun B=>?_)
 refine zu3 ?_
 refine Ws ?_
 refine ai [0,1,0,0,1,0,0,1,0,0,0,0,0,0] [0,1,2,3,4,5,6,7,8,9,10,11,12,13] mG rfl (by kernel_rfl) ?_
 refine z3 ?_
 refine z5 ?_
 refine z3 ?_
 refine z9i ?_
 refine z5 ?_
 refine z3 ?_
 refine z9i ?_
 refine z5 ?_
 refine Xc rfl rfl rfl rfl (fun _=>dC rfl Tryz.func157 rfl rfl ((tC _ _ _ hm (hx.fit 0) (hx.fit 1)) _)) ?_
 iterate 5 refine z3 ?_
 refine ah ?_
 refine zp1 ?_
 refine Wd rfl rfl (bI (lO tG rfl) rfl (lO tG rfl) rfl (lO tG rfl) rfl rfl rfl) ?_
 refine zs3 ?_
 refine zR ?_
 rfl
theorem Th(v:VVm)(x:List Int):∀(H:List Ob) (i:Nat),H[i]?=some (.cells (cVm v) 36)→HC Tryz.prog 248 (.ptr i 0::[sq af x]) H (tLv ([],0)) (H.set i (.cells (cVm (o8 v ⟨[],true⟩)) 36)):=by
 refine aO tG (rs:=[.tmp 4,.tmp 5]) Tryz.func248 rfl rfl rfl (by simp) (by simp) (by simp) (by simp) (fun B=>?_)
 refine zu2 ?_
 refine zp1 ?_
 refine zc rfl Tryz.func249 ((Fg) _) ?_
 refine zs3 ?_
 refine zu2 ?_
 refine Wq ?_
 refine bj rfl rfl ?_ ?_
 ·rfl
 rfl
theorem TK(v:VVm)(x:List Int)(hp:v.pic.b.length≤1000000)(hm:v.mem.b.length≤140737488355328)(hx:XOk 2 x):∀(H:List Ob) (i:Nat),H[i]?=some (.cells (cVm v) 36)→HC Tryz.prog 250 (.ptr i 0::[sq af x]) H (tLv (eo v x).2) (H.set i (.cells (cVm (eo v x).1) 36)):=by
 have hl:=hx.len
 refine aO tG (rs:=[.tmp 4,.tmp 5]) Tryz.func250 rfl rfl rfl (by simp) (by simp) (by simp) (by simp) (fun B=>?_)
 refine zu2 ?_
 refine Ws ?_
 refine ai [0,0,0,1,0,0,1,0,0,1,0,0,1,0,0,0,0,0,0,0,2,3,0,0,0] [0,1,2,3,4,5,6,7,8,9,10,11,12,13,14,15,16,17,18,19,20,21,22,23,24] mG rfl (by kernel_rfl) ?_
 iterate 3 refine z3 ?_
 refine z5 ?_
 refine z3 ?_
 refine z9i ?_
 refine z5 ?_
 refine z3 ?_
 refine z9i ?_
 refine z5 ?_
 iterate 2 refine z3 ?_
 refine z5 ?_
 refine Xc rfl rfl rfl rfl (fun _=>dC rfl Tryz.func237 rfl rfl ((rG v hm) _)) ?_
 refine Xc rfl rfl rfl rfl (fun _=>dC rfl Tryz.func251 rfl rfl ((vW _ _ _ _ hp) _)) ?_
 iterate 5 refine z3 ?_
 refine kw tG rfl rfl rfl rfl rfl trivial rfl ?_
 refine aZ tG rfl rfl rfl rfl rfl trivial ?_
 iterate 3 refine z3 ?_
 refine ah ?_
 refine zu5 ?_
 refine zp3 ?_
 refine Wa 36 rfl (bsL af [_,_] rfl rfl) ?_
 refine zs3 ?_
 refine Wq ?_
 refine bj rfl rfl ?_ ?_
 ·rfl
 rfl
theorem TE(v:VVm)(x:List Int)(hp:v.pic.b.length≤1000000)(hm:v.mem.b.length≤140737488355328)(hx:XOk 2 x):∀(H:List Ob) (i:Nat),H[i]?=some (.cells (cVm v) 36)→HC Tryz.prog 252 (.ptr i 0::[sq af x]) H (tLv (d7 v x).2) (H.set i (.cells (cVm (d7 v x).1) 36)):=by
 have hl:=hx.len
 refine aO tG (rs:=[.tmp 4,.tmp 5]) Tryz.func252 rfl rfl rfl (by simp) (by simp) (by simp) (by simp) (fun B=>?_)
 refine zu2 ?_
 refine Ws ?_
 refine ai [0,0,0,1,0,0,1,0,0,1,0,0,1,0,0,0,0,0,2,3,0] [0,1,2,3,4,5,6,7,8,9,10,11,12,13,14,15,16,17,18,19,20] mG rfl (by kernel_rfl) ?_
 iterate 3 refine z3 ?_
 refine z5 ?_
 refine z3 ?_
 refine z9i ?_
 refine z5 ?_
 refine z3 ?_
 refine z9i ?_
 refine z5 ?_
 iterate 2 refine z3 ?_
 refine z5 ?_
 refine Xc rfl rfl rfl rfl (fun _=>dC rfl Tryz.func237 rfl rfl ((rG v hm) _)) ?_
 refine Xc rfl rfl rfl rfl (fun _=>dC rfl Tryz.func253 rfl rfl ((LE _ _ _ _ hp) _)) ?_
 iterate 3 refine z3 ?_
 refine kw tG rfl rfl rfl rfl rfl trivial rfl ?_
 refine aZ tG rfl rfl rfl rfl rfl trivial ?_
 refine z3 ?_
 refine ah ?_
 refine zu5 ?_
 refine zp1 ?_
 refine Wa 30 rfl (bsL af [_,_] rfl rfl) ?_
 refine zs3 ?_
 refine Wq ?_
 refine bj rfl rfl ?_ ?_
 ·rfl
 rfl
theorem pE(p:ca):(fK p).1.length≤p.b.length:=by unfold fK;split<;>simp
theorem Tw(v:VVm)(x:List Int)(hp:v.pic.b.length≤1000000)(hm:cb v.mem):∀(H:List Ob) (i:Nat),H[i]?=some (.cells (cVm v) 36)→HC Tryz.prog 256 (.ptr i 0::[sq af x]) H (tLv (nH v).2) (H.set i (.cells (cVm (nH v).1) 36)):=by
 have hl:=pE v.pic
 refine aO tG (rs:=[.tmp 4,.tmp 5]) Tryz.func256 rfl rfl rfl (by simp) (by simp) (by simp) (by simp) (fun B=>?_)
 refine zu2 ?_
 refine zp4 ?_
 refine zc rfl Tryz.func257 ((MB _ hp) _) ?_
 refine zs5 ?_
 refine Ws ?_
 refine zu2 ?_
 refine Wi rfl (fun hi1=>?_) (fun hi1=>?_)
 ·have h0:¬(fK v.pic).2=0:=bne_iff_ne.1 hi1
  refine zu3 ?_
  refine Wq ?_
  refine bj rfl rfl ?_ ?_
  ·rw[nH,if_neg h0];rfl
  rw[nH,if_neg h0];rfl
 have h0:(fK v.pic).2=0:=bne_eq_false_iff_eq.1 hi1
 refine Wj ?_
 refine zp5 ?_
 refine zs2 ?_
 refine zp5 ?_
 refine zy3 ?_
 refine Wa 34 rfl (rW _) ?_
 refine zc rfl Tryz.func258 ((kj _ _ _ hm (gO _) (by omega)) _) ?_
 refine zy5 ?_
 refine zs2 ?_
 refine zu5 ?_
 refine zp3 ?_
 refine Wa 46 rfl (kW _) ?_
 refine z1 ?_
 refine Wa 47 rfl (bsL af [_,_] rfl rfl) ?_
 refine zs3 ?_
 refine Wq ?_
 refine bj rfl rfl ?_ ?_
 ·rw[nH,if_pos h0];rfl
 rw[nH,if_pos h0];rfl
def bB(v:VVm)(x:List Int):List Int×Int:=([W64 (xat x 0+16)],if (aq v (xat x 0)).2=0∧((aq v (xat x 0)).1<257∨260<(aq v (xat x 0)).1)then -31 else(aq v (xat x 0)).2)
theorem Ty(v:VVm)(x:List Int)(hm:v.mem.b.length≤140737488355328)(hx:XOk 1 x):∀(H:List Ob) (i:Nat),H[i]?=some (.cells (cVm v) 36)→HC Tryz.prog 259 (.ptr i 0::[sq af x]) H (tLv (bB v x)) (H.set i (.cells (cVm v) 36)):=by
 have hl:=hx.len
 refine aO tG (rs:=[.tmp 4,.tmp 5]) Tryz.func259 rfl rfl rfl (by simp) (by simp) (by simp) (by simp) (fun B=>?_)
 refine zu2 ?_
 refine Ws ?_
 refine ai [0,0,1,0,0,1,0,0,0,0,0,0] [0,1,2,3,4,5,6,7,8,9,10,11] mG rfl (by kernel_rfl) ?_
 iterate 2 refine z3 ?_
 refine z5 ?_
 refine z3 ?_
 refine z9i ?_
 refine z5 ?_
 refine Xc rfl rfl rfl rfl (fun _=>dC rfl Tryz.func47 rfl rfl ((yN v _ hm (hx.fit 0)) _)) ?_
 iterate 5 refine z3 ?_
 refine ah ?_
 refine Ws ?_
 refine zp3 ?_
 refine Wb 20 rfl (fun hg1=>?_) (fun hg1=>?_)
 ·have h0:(aq v (xat x 0)).2=0:=beq_iff_eq.1 hg1
  refine zy3 ?_
  refine Wb 23 rfl (fun hg2=>?_) (fun hg2=>?_)
  ·have h1:(aq v (xat x 0)).1<257:=oT hg2
   iterate 2 refine z6 ?_
   refine zs2 ?_
   refine Wt rfl rfl ?_
   refine aa rfl ?_
   refine zs1 ?_
   refine zp1 ?_
   refine Wv tG rfl rfl rfl (by omega) (iN af 1 (fun _=>rfl) 0 (by(simp only[dnL]at *;omega))) ?_
   refine zy3 ?_
   refine Wa 32 rfl (bsL af [_] rfl rfl) ?_
   refine zs3 ?_
   refine Wq ?_
   refine bj rfl rfl ?_ ?_
   ·(rw[bB,if_pos ⟨h0,by omega⟩];rfl)
   rfl
  have h1:¬(aq v (xat x 0)).1<257:=oF hg2
  refine zs4 ?_
  refine Wi rfl (fun hi1=>?_) (fun hi1=>?_)
  ·have h2:260<(aq v (xat x 0)).1:=oT hi1
   refine aa rfl ?_
   refine zs1 ?_
   refine zp1 ?_
   refine Wv tG rfl rfl rfl (by omega) (iN af 1 (fun _=>rfl) 0 (by(simp only[dnL]at *;omega))) ?_
   refine zy3 ?_
   refine Wa 32 rfl (bsL af [_] rfl rfl) ?_
   refine zs3 ?_
   refine Wq ?_
   refine bj rfl rfl ?_ ?_
   ·(rw[bB,if_pos ⟨h0,by omega⟩];rfl)
   rfl
  have h2:¬260<(aq v (xat x 0)).1:=oF hi1
  refine Wj ?_
  refine zp1 ?_
  refine Wv tG rfl rfl rfl (by omega) (iN af 1 (fun _=>rfl) 0 (by(simp only[dnL]at *;omega))) ?_
  refine zy3 ?_
  refine Wa 32 rfl (bsL af [_] rfl rfl) ?_
  refine zs3 ?_
  refine Wq ?_
  refine bj rfl rfl ?_ ?_
  ·(rw[bB,if_neg (fun h=>by omega)];rfl)
  rfl
 have h0:¬(aq v (xat x 0)).2=0:=beq_eq_false_iff_ne.1 hg1
 iterate 6 refine z6 ?_
 refine zs1 ?_
 refine Wf rfl rfl ?_
 refine Wj ?_
 refine zp1 ?_
 refine Wv tG rfl rfl rfl (by omega) (iN af 1 (fun _=>rfl) 0 (by(simp only[dnL]at *;omega))) ?_
 refine zy3 ?_
 refine Wa 32 rfl (bsL af [_] rfl rfl) ?_
 refine zs3 ?_
 refine Wq ?_
 refine bj rfl rfl ?_ ?_
 ·(rw[bB,if_neg (fun h=>by omega)];rfl)
 rfl
theorem TA(x:List Int):ab Tryz.prog 260 [sq af x] (tLv ([],-1)):=by
 refine pW tG (rs:=[.tmp 2,.tmp 3]) Tryz.func260 rfl rfl rfl (by simp) (by simp) (fun B=>?_)
 refine zu2 ?_
 refine zu2 ?_
 refine zR ?_
 rfl
theorem Tc(v:VVm):ab Tryz.prog 262 [eVm v] (i64 v.arg):=by
 refine pW tG (rs:=[.tmp 2]) Tryz.func262 rfl rfl rfl (by simp) (by simp) (fun B=>?_)
 refine zu2 ?_
 refine zu3 ?_
 refine zR ?_
 rfl
theorem Td(v:VVm):ab Tryz.prog 263 [eVm v] (i64 v.self):=by
 refine pW tG (rs:=[.tmp 2]) Tryz.func263 rfl rfl rfl (by simp) (by simp) (fun B=>?_)
 refine zu2 ?_
 refine zu3 ?_
 refine zR ?_
 rfl
theorem Tt(v:VVm):ab Tryz.prog 264 [eVm v] (i64 v.now):=by
 refine pW tG (rs:=[.tmp 2]) Tryz.func264 rfl rfl rfl (by simp) (by simp) (fun B=>?_)
 refine zu2 ?_
 refine zu3 ?_
 refine zR ?_
 rfl
theorem S9(v:VVm)(x:List Int)(hm:cb v.mem)(hx:XOk 2 x):∀(H:List Ob) (i:Nat),H[i]?=some (.cells (cVm v) 36)→HC Tryz.prog 265 (.ptr i 0::[sq af x]) H (tLv (cU v x).2) (H.set i (.cells (cVm (cU v x).1) 36)):=by
 have hl:=hx.len
 refine aO tG (rs:=[.tmp 4,.tmp 5]) Tryz.func265 rfl rfl rfl (by simp) (by simp) (by simp) (by simp) (fun B=>?_)
 refine zu2 ?_
 iterate 2 refine Ws ?_
 refine ai [0,0,0,1,0,0,1,3,0] [0,1,2,3,4,5,6,7,8] mG rfl (by kernel_rfl) ?_
 iterate 2 refine z3 ?_
 refine z9i ?_
 refine z5 ?_
 refine z3 ?_
 refine z9i ?_
 refine z5 ?_
 refine kK rfl rfl rfl rfl (dC rfl Tryz.func266 rfl rfl ((sB v _ _ (eK hm) (hx.fit 0)) _ _ rfl)) ?_
 refine z3 ?_
 refine ah ?_
 refine zu2 ?_
 refine Wi rfl (fun hi1=>?_) (fun hi1=>?_)
 ·have h0:¬cR v (xat x 0) (xat x 1)=0:=bne_iff_ne.1 hi1
  refine zu3 ?_
  refine Wq ?_
  refine bj rfl rfl ?_ ?_
  ·rw[cU,if_neg h0];rfl
  rw[cU,if_neg h0];rfl
 have h0:cR v (xat x 0) (xat x 1)=0:=bne_eq_false_iff_eq.1 hi1
 refine Wj ?_
 refine Ws ?_
 refine ai [0,0,0,1,0,0,1,3,0,0] [0,1,2,3,4,5,6,7,8,9] mG rfl (by kernel_rfl) ?_
 iterate 2 refine z3 ?_
 refine z9i ?_
 refine z5 ?_
 refine z3 ?_
 refine z9i ?_
 refine z5 ?_
 refine kK rfl rfl rfl rfl (dC rfl Tryz.func219 rfl rfl ((pV v _ _ hm (hx.fit 1)) _ _ rfl)) ?_
 iterate 2 refine z3 ?_
 refine ah ?_
 refine Wq ?_
 refine bj rfl rfl ?_ ?_
 ·rw[cU,if_pos h0];rfl
 rw[cU,if_pos h0];rfl
theorem Tb(v:VVm)(x:List Int)(hm:cb v.mem)(hx:XOk 3 x):∀(H:List Ob) (i:Nat),H[i]?=some (.cells (cVm v) 36)→HC Tryz.prog 267 (.ptr i 0::[sq af x]) H (tLv (dG v x).2) (H.set i (.cells (cVm (dG v x).1) 36)):=by
 have hl:=hx.len
 refine aO tG (rs:=[.tmp 4,.tmp 5]) Tryz.func267 rfl rfl rfl (by simp) (by simp) (by simp) (by simp) (fun B=>?_)
 refine zu2 ?_
 iterate 2 refine Ws ?_
 refine ai [0,0,0,1,0,0,1,3,0] [0,1,2,3,4,5,6,7,8] mG rfl (by kernel_rfl) ?_
 iterate 2 refine z3 ?_
 refine z9i ?_
 refine z5 ?_
 refine z3 ?_
 refine z9i ?_
 refine z5 ?_
 refine kK rfl rfl rfl rfl (dC rfl Tryz.func266 rfl rfl ((sB v _ _ (eK hm) (hx.fit 1)) _ _ rfl)) ?_
 refine z3 ?_
 refine ah ?_
 refine zu2 ?_
 refine Wi rfl (fun hi1=>?_) (fun hi1=>?_)
 ·have h0:¬cR v (xat x 1) (xat x 2)=0:=bne_iff_ne.1 hi1
  refine zu3 ?_
  refine Wq ?_
  refine bj rfl rfl ?_ ?_
  ·rw[dG,if_neg h0];rfl
  rw[dG,if_neg h0];rfl
 have h0:cR v (xat x 1) (xat x 2)=0:=bne_eq_false_iff_eq.1 hi1
 refine Wj ?_
 refine Ws ?_
 refine ai [0,0,0,0,0,0,0,0,0,0,0,0,0,3,0,0] [0,1,2,3,4,5,6,7,8,9,10,11,12,13,14,15] mG rfl (by kernel_rfl) ?_
 iterate 2 refine z3 ?_
 refine z9i ?_
 iterate 3 refine z3 ?_
 refine z9i ?_
 iterate 4 refine z3 ?_
 refine z9i ?_
 refine z3 ?_
 refine kK rfl rfl rfl rfl (dC rfl Tryz.func219 rfl rfl ((pV v _ _ hm (gO _)) _ _ rfl)) ?_
 iterate 2 refine z3 ?_
 refine ah ?_
 refine Wq ?_
 refine bj rfl rfl ?_ ?_
 ·rw[dG,if_pos h0];rfl
 rw[dG,if_pos h0];rfl
end Go.Proofs.YtiibjcnedbncjaaGreatDoor
