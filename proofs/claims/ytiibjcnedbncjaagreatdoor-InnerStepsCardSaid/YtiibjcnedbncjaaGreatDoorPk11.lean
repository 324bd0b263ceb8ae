import Derived.Test.YtiibjcnedbncjaaGreatDoorPk10
set_option linter.unusedVariables false
set_option linter.unusedSimpArgs false
set_option linter.unusedSectionVars false
set_option maxRecDepth 100000
set_option maxHeartbeats 40000000
namespace Go.Proofs.YtiibjcnedbncjaaGreatDoor
open Go.RowKit
namespace V3
section
variable {P : Program} {B : Nat → Nat → Prop} {n : Nat} {md : Region.Mode} {ops : Array Oper} {cl : Nat → Nat}
def o6(P:Program)(B:Nat→Nat→Prop)(ops:Array Oper)(o:Oper)(T:Nat→PV)(H:List Ob)(x:PV)(H':List Ob):Prop :=
 (aj ops T o=some true∧(br P B o T H x H'∨gA P B o T H x H'))∨(aj ops T o=some false∧x=.val undef∧H'=H)
def jj(P:Program)(B:Nat→Nat→Prop)(ops:Array Oper)(c:Nat)(o:Oper)(T:Nat→PV)(H:List Ob)(x:PV)(H':List Ob):Prop :=
 match c with
 | 0=>H'=H∧∀H2,o6 P B ops o T H2 x H2
 | 1=>H'=H∧∀E,o6 P B ops o T (H++E) x (H++E)
 | 2=>∃E,H'=H++E
 | 3=>True
 | c+4=>match Nat.beq (c%2) 0 with
  | true=>H'=H∧c/2<H.length∧∀H2:List Ob,H2[c/2]?=H[c/2]?→o6 P B ops o T H2 x H2
  | false=>∃ob E,H'=H.set (c/2) ob++E
def vg(c:Nat):Bool:=Nat.ble 4 c&&Nat.beq (c%2) 0
def uc(c:Nat):Bool:=Nat.ble 4 c&&Nat.beq (c%2) 1
def i7(c:Nat):Nat:=(c-4)/2
def oy(a b:Nat):Bool:=Nat.beq a 0||Nat.beq b 0||(Nat.beq a 1&&Nat.ble b 2)||(vg a&&(Nat.ble b 2||vg b||(uc b&&!Nat.beq (i7 a) (i7 b))))
theorem o6.congr{o:Oper}{T T':Nat→PV}{H H':List Ob}{x:PV}(h:∀t∈o.looksAt ops,T' t=T t)(y:o6 P B ops o T H x H'):o6 P B ops o T' H x H':=by
 have hw:aj ops T' o=aj ops T o:=by
  unfold aj
  cases hg:o.guard with
  | none=>rfl
  | some q =>
   obtain⟨g,b⟩:=q
   simp only
   cases hd:(ops[g]?).bind (·.dst)with
   | none=>rfl
   | some d=>simp only;rw[h d (ll hg hd)]
 have ho:∀z∈o.op.operands.toList,opv T' z=opv T z:=fun z hz=>oG fun t ht=>h t (qn (by rw[←ht];exact hz))
 rcases y with ⟨h1,h2|h2⟩|⟨h1,h2⟩
 ·exact .inl ⟨by rw[hw];exact h1,.inl fun σ w a s k=>h2 σ w a s (fun z hz=>by rw[←ho z hz];exact k z hz)⟩
 ·exact .inl ⟨by rw[hw];exact h1,.inr fun σ w a s k=>h2 σ w a s (fun z hz=>by rw[←ho z hz];exact k z hz)⟩
 exact .inr ⟨by rw[hw];exact h1,h2⟩
theorem jj.congr{c:Nat}{o:Oper}{T T':Nat→PV}{H H':List Ob}{x:PV}(h:∀t∈o.looksAt ops,T' t=T t)(y:jj P B ops c o T H x H'):jj P B ops c o T' H x H':=by
 match c,y with
 | 0,y=>exact⟨y.1,fun H2=>(y.2 H2).congr h⟩
 | 1,y=>exact⟨y.1,fun E=>(y.2 E).congr h⟩
 | 2,y=>exact y
 | 3,_=>trivial
 | c+4,y =>
  simp only[jj]at y ⊢
  split at y
  ·exact⟨y.1,y.2.1,fun H2 h2=>(y.2.2 H2 h2).congr h⟩
  exact y
theorem jj.rd{c:Nat}{o:Oper}{T:Nat→PV}{H H':List Ob}{x:PV}(hc:vg c=true)(f:jj P B ops c o T H x H'):H'=H∧i7 c<H.length∧∀H2:List Ob,H2[i7 c]?=H[i7 c]?→o6 P B ops o T H2 x H2:=by
 simp only[vg,Bool.and_eq_true,Nat.ble_eq,Nat.beq_eq]at hc
 obtain⟨d,rfl⟩:∃d,c=d+4:=⟨c-4,by omega⟩
 have hd:Nat.beq (d%2) 0=true:=by rw[Nat.beq_eq];omega
 simp only[jj,hd]at f
 exact f
theorem jj.of_rd{c:Nat}{o:Oper}{T:Nat→PV}{H H':List Ob}{x:PV}(hc:vg c=true)(f:H'=H∧i7 c<H.length∧∀H2:List Ob,H2[i7 c]?=H[i7 c]?→o6 P B ops o T H2 x H2):jj P B ops c o T H x H':=by
 simp only[vg,Bool.and_eq_true,Nat.ble_eq,Nat.beq_eq]at hc
 obtain⟨d,rfl⟩:∃d,c=d+4:=⟨c-4,by omega⟩
 have hd:Nat.beq (d%2) 0=true:=by rw[Nat.beq_eq];omega
 simp only[jj,hd]
 exact f
theorem jj.wr{c:Nat}{o:Oper}{T:Nat→PV}{H H':List Ob}{x:PV}(hc:uc c=true)(f:jj P B ops c o T H x H'):∃ob E,H'=H.set (i7 c) ob++E:=by
 simp only[uc,Bool.and_eq_true,Nat.ble_eq,Nat.beq_eq]at hc
 obtain⟨d,rfl⟩:∃d,c=d+4:=⟨c-4,by omega⟩
 have hd:Nat.beq (d%2) 0=false:=by rw[←Bool.not_eq_true,Nat.beq_eq];omega
 simp only[jj,hd]at f
 exact f
theorem jj.of_wr{c:Nat}{o:Oper}{T:Nat→PV}{H H':List Ob}{x:PV}(hc:uc c=true)(f:∃ob E,H'=H.set (i7 c) ob++E):jj P B ops c o T H x H':=by
 simp only[uc,Bool.and_eq_true,Nat.ble_eq,Nat.beq_eq]at hc
 obtain⟨d,rfl⟩:∃d,c=d+4:=⟨c-4,by omega⟩
 have hd:Nat.beq (d%2) 0=false:=by rw[←Bool.not_eq_true,Nat.beq_eq];omega
 simp only[jj,hd]
 exact f
def Jm(P:Program)(B:Nat→Nat→Prop)(ops:Array Oper)(cl:Nat→Nat)(i:Nat)(K:(Nat→PV)→List Ob→Prop)(T:Nat→PV)(H:List Ob):Prop :=
 match ops[i]? with
 | none=>K T H
 | some o=>∃x H',o6 P B ops o T H x H'∧jj P B ops (cl i) o T H x H'∧K (al o.dst x T) H'
def pz(P:Program)(B:Nat→Nat→Prop)(md:Region.Mode)(ops:Array Oper)(cl:Nat→Nat)(Q:(Nat→PV)→List Ob→Prop):Nat→Array Bool→(Nat→PV)→List Ob→Prop
 | 0,listed,T,H=>Region.ready md ops listed=[]∧Q T H
 | fuel+1,listed,T,H=>(Region.ready md ops listed=[]→Q T H)∧∀i∈Region.ready md ops listed,Jm P B ops cl i (pz P B md ops cl Q fuel (listed.setIfInBounds i true)) T H
theorem jd(hall:ei n ops=true){Q':Exit→Act→World→Prop}{Q:(Nat→PV)→List Ob→Prop}{H0:List Ob}{σ0:Nat→Option Nat}{w0:World}(hQ:∀T H σ w a,jz B n T H σ w a→di B H0 σ0 w0 H σ w→Q T H→Q' .normal a w):
  ∀(fuel:Nat) (listed:Array Bool) (T:Nat→PV) (H:List Ob) (σ:Nat→Option Nat) (w:World) (a:Act),jz B n T H σ w a→di B H0 σ0 w0 H σ w→pz P B md ops cl Q fuel listed T H→wpAny P md ops Q' fuel listed a w
 | 0,_,_,_,_,_,_,g,st,h=>⟨h.1,hQ _ _ _ _ _ g st h.2⟩
 | fuel+1,listed,T,H,σ,w,a,g,st,h=>by
  refine⟨fun h0=>hQ _ _ _ _ _ g st (h.1 h0),fun i hi=>?_⟩
  have h1:=h.2 i hi
  unfold Jm at h1
  unfold wpOp
  cases ho:ops[i]? with
  | none=>simp only[ho]at h1 ⊢;exact jd hall hQ fuel _ T H σ w a g st h1
  | some o =>
   simp only[ho]at h1 ⊢
   obtain⟨x,H',hy,_,hk⟩:=h1
   have hd:∀j,o.dst=some j→Nat.blt j n=true:=fun j hj=>dW hall i j (by rw[ho];exact hj)
   have hgd:∀q,aj ops T o=some q→Region.wanted o (yielded ops a.tmps)=q:=fun q hq=>ku (dW hall) g hq
   rcases hy with ⟨hw,hdo|hdo⟩|⟨hw,rfl,rfl⟩
   ·rw[if_pos (hgd true hw)]
    refine .inl ?_
    obtain⟨v,w',σ',h2,h3,h4,h5⟩:=hdo σ w a g.sim (fun y _=>jG g.rep y)
    have k:=jd hall hQ fuel _ _ _ σ' w' _ (fE hd g h3 h4 h5) (st.trans h5) hk
    unfold Oper.wp
    rcases h2 with h2|⟨h2,rfl⟩
    ·rw[h2];exact k
    rw[h2];exact k
   ·rw[if_pos (hgd true hw)]
    refine .inl ?_
    obtain⟨f,args,h2,hc⟩:=hdo σ w a g.sim (fun y _=>jG g.rep y)
    unfold Oper.wp
    rw[h2]
    refine Calls.mono hc ?_
    rintro e w' ⟨v,σ',rfl,h3,h4,h5⟩
    exact jd hall hQ fuel _ _ _ σ' w' _ (fE hd g h3 h4 h5) (st.trans h5) hk
   rw[if_neg (by rw[hgd false hw];simp)]
   exact jd hall hQ fuel _ _ _ σ w _ (fE hd g (aD _ _) g.sim (di.refl _ _ _ _)) st hk
theorem Mr{ci cj:Nat}{oi oj:Oper}{T:Nat→PV}{H Hi Hj:List Ob}{x y:PV}(hc:oy ci cj=true)(h1:∀t∈oj.looksAt ops,al oi.dst x T t=T t)(h2:∀t∈oi.looksAt ops,al oj.dst y T t=T t)
  (yi:o6 P B ops oi T H x Hi) (fi:jj P B ops ci oi T H x Hi) (yj:o6 P B ops oj (al oi.dst x T) Hi y Hj) (fj:jj P B ops cj oj (al oi.dst x T) Hi y Hj) :
  ∃H',o6 P B ops oj T H y H'∧jj P B ops cj oj T H y H'∧o6 P B ops oi (al oj.dst y T) H' x Hj∧jj P B ops ci oi (al oj.dst y T) H' x Hj:=by
 have b1:∀t∈oj.looksAt ops,T t=al oi.dst x T t:=fun t ht=>(h1 t ht).symm
 have yj':=yj.congr b1
 have fj':=fj.congr b1
 simp only[oy,Bool.or_eq_true,Bool.and_eq_true,Nat.beq_eq,Nat.ble_eq]at hc
 rcases hc with ((rfl|rfl)|⟨rfl,hj⟩)|⟨hr,hj⟩
 ·obtain⟨rfl,hl⟩:=fi
  exact⟨Hj,yj',fj',(hl Hj).congr h2,rfl,fun H2=>(hl H2).congr h2⟩
 ·obtain⟨rfl,hl⟩:=fj'
  exact⟨H,hl H,⟨rfl,hl⟩,yi.congr h2,fi.congr h2⟩
 ·obtain⟨rfl,hl⟩:=fi
  have:∃E,Hj=Hi++E:=by
   match cj,hj,fj' with
   | 0,_,fj'=>exact⟨[],by rw[fj'.1];simp⟩
   | 1,_,fj'=>exact⟨[],by rw[fj'.1];simp⟩
   | 2,_,fj'=>exact fj'
   | c+3,hj,_=>omega
  obtain⟨E,rfl⟩:=this
  exact⟨Hi++E,yj',fj',(hl E).congr h2,rfl,fun E2=>by rw[List.append_assoc];exact(hl (E++E2)).congr h2⟩
 obtain⟨rfl,hlt,hl⟩:=fi.rd hr
 have key:Hj[i7 ci]?=Hi[i7 ci]?∧i7 ci<Hj.length:=by
  rcases hj with (hj|hj)|⟨hj,hne⟩
  ·have:∃E,Hj=Hi++E:=by
    match cj,hj,fj' with
    | 0,_,fj'=>exact⟨[],by rw[fj'.1];simp⟩
    | 1,_,fj'=>exact⟨[],by rw[fj'.1];simp⟩
    | 2,_,fj'=>exact fj'
    | c+3,hj,_=>omega
   obtain⟨E,rfl⟩:=this
   exact⟨List.getElem?_append_left hlt,by simp;omega⟩
  ·obtain⟨rfl,_⟩:=fj'.rd hj
   exact⟨rfl,hlt⟩
  obtain⟨ob,E,rfl⟩:=fj'.wr hj
  refine⟨?_,by simp;omega⟩
  rw[List.getElem?_append_left (by simpa using hlt)]
  refine List.getElem?_set_ne ?_
  intro h;rw[h]at hne;simp at hne
 exact⟨Hj,yj',fj',(hl Hj key.1).congr h2,jj.of_rd hr ⟨rfl,key.2,fun H2 h3=>(hl H2 (h3.trans key.1)).congr h2⟩⟩
def jO(P:Program)(B:Nat→Nat→Prop)(n:Nat)(ops:Array Oper)(cl:Nat→Nat):List Nat→(Nat→PV)→List Ob→((Nat→PV)→List Ob→Prop)→Prop
 | [],T,H,K=>K T H
 | i::l,T,H,K=>∃o,ops[i]?=some o∧∃x H',o6 P B ops o T H x H'∧jj P B ops (cl i) o T H x H'∧jO P B n ops cl l (al o.dst x T) H' K
def Ks(l:List Nat)(i:Nat):Nat:=l.getD i 3
variable {T : Nat → PV} {H : List Ob} {Q : Exit → (Nat → PV) → List Ob → Prop}
variable {o : Oper} {l : List Nat} {i : Nat} {K : (Nat → PV) → List Ob → Prop} {x : PV} {H' : List Ob} {G : List (Nat × TD)} {p : Prop} {d : Option Tmp}
theorem kE(h:K T H):jO P B n ops cl [] T H K:=h
theorem C0(h0:ops[i]?=some o)(hc:cl i=0)(hd:nfD n o.dst=some d)(hw:aj ops T o=some true)(h:∀H2,br P B o T H2 x H2)(k:jO P B n ops cl l (al d x T) H K):jO P B n ops cl (i::l) T H K :=
 ⟨o,h0,x,H,.inl ⟨hw,.inl (h H)⟩,by rw[hc];exact⟨rfl,fun H2=>.inl ⟨hw,.inl (h H2)⟩⟩,(cm hd).1▸k⟩
theorem u7(h0:ops[i]?=some o)(hc:cl i=0)(hd:nfD n o.dst=some d)(hw:aj ops T o=some true)(h:∀H2,gA P B o T H2 x H2)(k:jO P B n ops cl l (al d x T) H K):jO P B n ops cl (i::l) T H K :=
 ⟨o,h0,x,H,.inl ⟨hw,.inr (h H)⟩,by rw[hc];exact⟨rfl,fun H2=>.inl ⟨hw,.inr (h H2)⟩⟩,(cm hd).1▸k⟩
theorem Hg(hG:cP P G=true)(h0:ops[i]?=some o)(hc:cl i=0)(hd:nfD n o.dst=some d)(hw:aj ops T o=some true)(h:∀H2,evS G T H2 o.type o.op=some (x,H2,p))(hp:p)(k:jO P B n ops cl l (al d x T) H K):jO P B n ops cl (i::l) T H K :=
 C0 h0 hc hd hw (fun H2=>ek hG rfl (mX (h H2)) hp) k
theorem qo(hG:cP P G=true)(h0:ops[i]?=some o)(hc:cl i=3)(hd:nfD n o.dst=some d)(hw:aj ops T o=some true)(h:evN G T H o.type o.op=some (x,H',p))(hp:p)(k:jO P B n ops cl l (al d x T) H' K):jO P B n ops cl (i::l) T H K :=
 ⟨o,h0,x,H',.inl ⟨hw,.inl (ek hG rfl (nd h) hp)⟩,by rw[hc];trivial,(cm hd).1▸k⟩
theorem gP(d:Nat){x y:PV}(hT:T d=x)(hxy:x=y)(h1:jO P B n ops cl l (upd d y T) H K):jO P B n ops cl l T H K:=by
 have e:upd d y T=T:=by
  funext i
  by_cases hi:i=d
  ·subst hi;rw[dt,hT,hxy]
  rw[cp _ _ _ _ hi]
 rwa [e]at h1
theorem cW(b:Nat){ob:Ob}(h0:ops[i]?=some o)(hc:cl i=4+2*b)(hd:nfD n o.dst=some d)(hw:aj ops T o=some true)(hb:H[b]?=some ob)(h:∀H2:List Ob,H2[b]?=some ob→br P B o T H2 x H2)(k:jO P B n ops cl l (al d x T) H K):jO P B n ops cl (i::l) T H K:=by
 have hk:i7 (4+2*b)=b:=by unfold i7;omega
 exact⟨o,h0,x,H,.inl ⟨hw,.inl (h H hb)⟩,by rw[hc];exact jj.of_rd (by simp only[vg,Bool.and_eq_true,Nat.ble_eq,Nat.beq_eq];omega) ⟨rfl,by rw[hk];exact cn hb,fun H2 h2=>.inl ⟨hw,.inl (h H2 (by rw[hk,hb]at h2;exact h2))⟩⟩,(cm hd).1▸k⟩
theorem ya(b:Nat){ob:Ob}(hG:cP P G=true)(h0:ops[i]?=some o)(hc:cl i=5+2*b)(hd:nfD n o.dst=some d)(hw:aj ops T o=some true)(h:evN G T H o.type o.op=some (x,H',p))(hp:p)(hH:H'=H.set b ob)(k:jO P B n ops cl l (al d x T) H' K):jO P B n ops cl (i::l) T H K:=by
 have hk:i7 (5+2*b)=b:=by unfold i7;omega
 exact⟨o,h0,x,H',.inl ⟨hw,.inl (ek hG rfl (nd h) hp)⟩,by rw[hc];exact jj.of_wr (by simp only[uc,Bool.and_eq_true,Nat.ble_eq,Nat.beq_eq];omega) ⟨ob,[],by rw[hk,List.append_nil];exact hH⟩,(cm hd).1▸k⟩
theorem ud{E:List Ob}(h0:ops[i]?=some o)(hc:cl i=2)(hd:nfD n o.dst=some d)(hw:aj ops T o=some true)(h:gA P B o T H x (H++E))(k:jO P B n ops cl l (al d x T) (H++E) K):jO P B n ops cl (i::l) T H K :=
 ⟨o,h0,x,H++E,.inl ⟨hw,.inr h⟩,by rw[hc];exact⟨E,rfl⟩,(cm hd).1▸k⟩
theorem vp(b:Nat){ob:Ob}{E:List Ob}(h0:ops[i]?=some o)(hc:cl i=5+2*b)(hd:nfD n o.dst=some d)(hw:aj ops T o=some true)(h:br P B o T H x (H.set b ob++E))(k:jO P B n ops cl l (al d x T) (H.set b ob++E) K):jO P B n ops cl (i::l) T H K:=by
 have hk:i7 (5+2*b)=b:=by unfold i7;omega
 exact⟨o,h0,x,_,.inl ⟨hw,.inl h⟩,by rw[hc];exact jj.of_wr (by simp only[uc,Bool.and_eq_true,Nat.ble_eq,Nat.beq_eq];omega) ⟨ob,E,by rw[hk]⟩,(cm hd).1▸k⟩
end
section
variable {B : Nat → Nat → Prop} {n : Nat} {all ops : Array Oper} {cl : Nat → Nat} {i : Nat} {li : List Nat} {T : Nat → PV} {H H' : List Ob} {K : (Nat → PV) → List Ob → Prop} {Q : Exit → (Nat → PV) → List Ob → Prop} {l : List Oper} {o : Oper} {x : PV} {d : Option Tmp} {p : Prop}
theorem gm(k:jO Tryz.prog B n ops cl li (al d x T) H K)(h0:ops[i]?=some o:=by exact rfl)(hc:cl i=0:=by exact rfl)(hd:nfD n o.dst=some d:=by exact rfl)(hw:aj ops T o=some true:=by exact rfl)(h:∀H2,evS tys T H2 o.type o.op=some (x,H2,True):=by exact fun _=>rfl):jO Tryz.prog B n ops cl (i::li) T H K :=
 Hg tG h0 hc hd hw h trivial k
end
section
variable {P : Program} {B : Nat → Nat → Prop} {n : Nat} {ops : Array Oper} {cl : Nat → Nat} {md : Region.Mode}
theorem vM{Q:(Nat→PV)→List Ob→Prop}{i:Nat}{oi:Oper}{x:PV}(hi:ops[i]?=some oi)(D:List Nat)(hDi:i∈D)(hD:∀j∈D,j≠i→∃oj e,ops[j]?=some oj∧e∈oj.after∧Region.binds md e=true∧e.on∈D):∀(fuel:Nat) (listed:Array Bool) (T:Nat→PV) (H Hi:List Ob),
  (∀j∈D,listed.getD j true=false) →
  (∀j oj,ops[j]?=some oj→j∉D→listed.getD j true=false→oi.apart ops oj=true∧oy (cl i) (cl j)=true) →
  i∈Region.ready md ops listed→o6 P B ops oi T H x Hi→jj P B ops (cl i) oi T H x Hi→pz P B md ops cl Q fuel (listed.setIfInBounds i true) (al oi.dst x T) Hi→pz P B md ops cl Q (fuel+1) listed T H:=by
 intro fuel
 have self:∀(fuel:Nat) (listed:Array Bool) (T:Nat→PV) (H Hi:List Ob),o6 P B ops oi T H x Hi→jj P B ops (cl i) oi T H x Hi→pz P B md ops cl Q fuel (listed.setIfInBounds i true) (al oi.dst x T) Hi→Jm P B ops cl i (pz P B md ops cl Q fuel (listed.setIfInBounds i true)) T H:=by
  intro fuel listed T H Hi hy hf h
  unfold Jm
  simp only[hi]
  exact⟨x,Hi,hy,hf,h⟩
 induction fuel with
 | zero =>
  intro listed T H Hi _ _ hr hy hf h
  refine⟨fun h0=>(by rw[h0]at hr;cases hr),fun j hj=>?_⟩
  by_cases hji:j=i
  ·subst hji;exact self 0 listed T H Hi hy hf h
  have:=ready_mono hj hji
  rw[h.1]at this
  cases this
 | succ fuel ih =>
  intro listed T H Hi hun0 hfree hr hy hf h
  refine⟨fun h0=>(by rw[h0]at hr;cases hr),fun j hj=>?_⟩
  by_cases hji:j=i
  ·subst hji;exact self (fuel+1) listed T H Hi hy hf h
  have h1:=h.2 j (ready_mono hj hji)
  obtain⟨hjun,oj,hoj,hall⟩:=mem_ready.1 hj
  have hnot:j∉D:=fun hjD=>by
   obtain⟨oj2,e,k1,k2,k3,k4⟩:=hD j hjD hji
   rw[hoj]at k1
   obtain rfl:=Option.some.inj k1
   have a1:=hall e k2 k3
   have a0:=hun0 e.on k4
   rcases Nat.lt_or_ge e.on listed.size with h'|h'
   ·simp[h']at a0 a1;rw[a0]at a1;cases a1
   simp[Array.getElem?_eq_none h']at a1
  obtain⟨hap,hcp⟩:=hfree j oj hoj hnot hjun
  obtain⟨l1,l2,l3⟩:=kX hap
  unfold Jm at h1 ⊢
  simp only[hoj]at h1 ⊢
  obtain⟨y,Hj,hyj,hfj,hk⟩:=h1
  obtain⟨H',k1,k2,k3,k4⟩:=Mr hcp (fun t ht=>iD (l1 t ht)) (fun t ht=>iD (l2 t ht)) hy hf hyj hfj
  refine⟨y,H',k1,k2,ih (listed.setIfInBounds j true) _ H' Hj (fun k hk=>?_) (fun k ok hk hki hun=>?_) (ready_mono hr (Ne.symm hji)) k3 k4 ?_⟩
  ·rw[getD_set_ne true (by rintro rfl;exact hnot hk)];exact hun0 k hk
  ·refine hfree k ok hk hki ?_
   by_cases hjk:j=k
   ·subst hjk;exact hjun
   rw[getD_set_ne true hjk]at hun;exact hun
  rw[Array.setIfInBounds_comm _ _ hji,oZ _ _ _ l3]
  exact hk
def xy(md:Region.Mode)(ops:Array Oper):Nat→List Nat→List Nat
 | 0,D=>D
 | k+1,D=>xy md ops k (D++((ops.toList.zipIdx.filter fun q=>!D.contains q.2&&(q.1.after.any fun e=>Region.binds md e&&D.contains e.on)).map (·.2)))
def En(md:Region.Mode)(ops:Array Oper)(cl:Nat→Nat)(listed:Array Bool)(i:Nat)(oi:Oper)(D:List Nat):Bool :=
 D.contains i&&(D.all fun j=>Nat.beq j i||(match ops[j]? with|some oj=>oj.after.any fun e=>Region.binds md e&&D.contains e.on|none=>false))&&(D.all fun j=>!listed.getD j true) &&
  ops.toList.zipIdx.all fun q=>D.contains q.2||listed.getD q.2 true||(oi.apart ops q.1&&oy (cl i) (cl q.2))
def vf(md:Region.Mode)(ops:Array Oper)(cl:Nat→Nat):List Nat→Array Bool→Bool
 | [],listed=>(Region.ready md ops listed).isEmpty
 | i::l,listed=>(Region.ready md ops listed).contains i&&(match ops[i]? with|some oi=>En md ops cl listed i oi (xy md ops 6 [i])|none=>false)&&vf md ops cl l (listed.setIfInBounds i true)
theorem sJ{Q:(Nat→PV)→List Ob→Prop}:∀(l:List Nat) (listed:Array Bool) (T:Nat→PV) (H:List Ob),vf md ops cl l listed=true→jO P B n ops cl l T H Q→pz P B md ops cl Q l.length listed T H
 | [],listed,T,H,hB,h=>⟨by simpa[vf]using hB,h⟩
 | i::l,listed,T,H,hB,h=>by
  simp only[vf,Bool.and_eq_true]at hB
  obtain⟨⟨hr,hf⟩,hB'⟩:=hB
  obtain⟨o,ho,x,H',hy,hfu,hK⟩:=h
  rw[ho]at hf
  simp only[En,Bool.and_eq_true]at hf
  obtain⟨⟨⟨f1,f2⟩,f3⟩,f4⟩:=hf
  refine vM ho (xy md ops 6 [i]) (by simpa using f1) (fun j hj hji=>?_) l.length listed T H H' (fun j hj=>?_) (fun j oj hj hjD hun=>?_) (by simpa using hr) hy hfu (sJ l _ _ _ hB' hK)
  ·have:=List.all_eq_true.1 f2 j hj
   rw[Bool.or_eq_true,Nat.beq_eq]at this
   rcases this with h|h
   ·exact absurd h hji
   cases hoj:ops[j]? with
   | none=>rw[hoj]at h;cases h
   | some oj =>
    rw[hoj]at h
    obtain⟨e,he,h3⟩:=Array.any_eq_true'.1 h
    rw[Bool.and_eq_true]at h3
    exact⟨oj,e,rfl,he,h3.1,by simpa using h3.2⟩
  ·have:=List.all_eq_true.1 f3 j hj
   simpa using this
  have h1:=List.all_eq_true.1 f4 (oj,j) (te (by rw[Array.getElem?_toList];exact hj))
  simp only[Bool.or_eq_true,Bool.and_eq_true]at h1
  rcases h1 with (h1|h1)|h1
  ·exact absurd (by simpa using h1) hjD
  ·rw[hun]at h1;cases h1
  exact h1
def D2(md:Region.Mode)(ops:Array Oper)(cl:List Nat)(ord:List Nat):Bool:=Nat.beq ord.length ops.size&&vf md ops (Ks cl) ord (Array.replicate ops.size false)
variable {T : Nat → PV} {H : List Ob} {Q : Exit → (Nat → PV) → List Ob → Prop}
theorem jp{id:Nat}(cl ord:List Nat)(hm:P.follows .mixedOrders=true)(hall:ei n ops=true)(hB:D2 .any ops cl ord=true)(h:jO P B n ops (Ks cl) ord T H (fun T' H'=>Q .normal T' H')):W P B n (.region id ops true) T H Q:=by
 intro σ w a g
 simp only[D2,Bool.and_eq_true,Nat.beq_eq]at hB
 refine wp_region_any hm ?_
 have hd:bg w {w with drawn:=w.drawn+1}:=bg.drew w
 obtain⟨s',st⟩:=eM g.sim hd
 have hA:=sJ (P:=P) (B:=B) (n:=n) (md:=.any) ord (Array.replicate ops.size false) T H hB.2 h
 rw[hB.1]at hA
 exact jd (P:=P) (md:=.any) hall (H0:=H) (σ0:=σ) (w0:=w) (Q':=xo B n H σ w Q) (fun T' H' σ' w' a' g' st' hq=>⟨T',H',σ',hq,g',st'⟩) ops.size _ T H σ _ a ⟨s',fun i=>(g.rep i).mono st.le,g.size,g.defers⟩ st hA
theorem tF{o:Oper}{E:List Ob}{x:PV}{i:Nat}{l:List Nat}{d:Option Tmp}{K:(Nat→PV)→List Ob→Prop}(h0:ops[i]?=some o)(hc:cl i=2)(hd:nfD n o.dst=some d)(hw:aj ops T o=some true)(h:br P B o T H x (H++E))(k:jO P B n ops cl l (al d x T) (H++E) K):jO P B n ops cl (i::l) T H K :=
 ⟨o,h0,x,H++E,.inl ⟨hw,.inl h⟩,by rw[hc];exact⟨E,rfl⟩,(cm hd).1▸k⟩
end
end V3
open Go.RowKit
theorem Sg(x:dE):PV.seq 1 [i64 x.d,i64 x.r,i64 x.ip] .clip=.seq (List.length [x]) (List.flatMap bA [x]) .clip:=rfl
theorem GY{k:VWk}{name:Str}(h1:¬name=[69,88,69,67,85,84,69])(h2:¬name=[67,65,84,67,72])(h3:¬name=[84,72,82,79,87])(h4:¬name=[73])(h5:¬name=[82,64])(h6:¬name=[74])(h7:¬name=[85,78,76,79,79,80])(h8:¬name=[62,82])(h9:¬name=[82,62])(h10:¬name=[50,62,82])(h11:¬name=[50,82,62]):sy k name=k:=by
 unfold sy
 rw[if_neg h1,if_neg h2,if_neg h3,if_neg (fun q=>q.elim h4 h5),if_neg h6,if_neg h7,if_neg h8,if_neg h9,if_neg h10,if_neg h11]
section
variable (k : VWk) {M : Nat} (h : KD M k) (hM : M ≤ 900000)
def cF(b:VWk):VWk:={b with ip:=24,v:={b.v with f:=b.v.f++[⟨(b.v.d.length:Int),(b.v.r.length:Int),b.ip⟩]}}
theorem M7(q:64≤((bt k).1.v.f.length:Int)):sy k [67,65,84,67,72]=sL (cF (bL (bt k).1 (-5))) (bt k).2:=by show pA k=_;unfold pA;dsimp only;rw[if_pos q];rfl
theorem Lw(q:¬64≤((bt k).1.v.f.length:Int)):sy k [67,65,84,67,72]=sL (cF (bt k).1) (bt k).2:=by show pA k=_;unfold pA;dsimp only;rw[if_neg q];rfl
include h hM
theorem Pr(name:Str):∀(H:List Ob) (i:Nat),H[i]?=some (.cells (cWk k) 80)→HC Tryz.prog 71 (.ptr i 0::[str name]) H (.tup []) (H.set i (.cells (cWk (sy k name)) 80)):=by
 have p1:=rR h
 have p2:=rR p1.1
 have r1:=lj h
 have r2:=lj r1.1
 have u1:=pu h 0
 have u2:=pu h 2
 have u3:=pu h 1
 have hf:=p1.1.v.f
 have hd:=p1.1.v.d
 have hr:=p1.1.v.r
 have c7:=yS k h 0 (by decide)
 have c9:=yS k h 2 (by decide)
 have c11:=yS k h 1 (by decide)
 refine aO tG (rs:=[]) Tryz.func71 rfl rfl rfl (by simp) (by simp) (by simp) (by simp) (fun B=>?_)
 refine zu1 ?_
 refine Wl ?_
 refine zp1 ?_
 refine zq 17 ?_
 refine zs1 ?_
 refine Wi rfl (fun hi1=>?_) (fun hi1=>?_)
 ·obtain rfl:=oT hi1
  refine zp1 ?_
  refine zc rfl Tryz.func121 ((no k h) _ _ rfl) ?_
  refine zs1 ?_
  refine aa rfl ?_
  refine zy2 ?_
  refine zc rfl Tryz.func114 ((rH _ _) _ _ rfl) ?_
  refine Wn ?_
  refine cd rfl rfl ?_ ?_
  ·rfl
  rfl
 refine zp1 ?_
 refine zq 24 ?_
 refine zs1 ?_
 refine Wi rfl (fun hi2=>?_) (fun hi2=>?_)
 ·obtain rfl:=oT hi2
  refine zp1 ?_
  refine zc rfl Tryz.func121 ((no k h) _ _ rfl) ?_
  refine zs1 ?_
  refine Ws ?_
  refine zp5 ?_
  refine zs2 ?_
  refine Wi rfl (fun hi3=>?_) (fun hi3=>?_)
  ·have q3:64≤((bt k).1.v.f.length:Int):=oT hi3
   have hf2:(bL (bt k).1 (-5)).v.f.length≤300:=by rw[yH];exact hf
   refine aa rfl ?_
   refine z1 ?_
   refine zc rfl Tryz.func63 ((fM _ (-5)) _ _ rfl) ?_
   refine Wn ?_
   refine Ws ?_
   refine V3.jp [0,0,0,0,0,0,4,2,0,0,0,0,4,0,0,0,0,0,4,0,0,0,0,4,0,0,7,0,0,0,3] [0,1,2,3,4,5,6,8,9,10,11,12,13,14,15,16,17,18,19,20,21,22,23,24,25,7,26,27,28,29,30] mG rfl (by kernel_rfl) ?_
   iterate 2 refine V3.gm ?_
   refine V3.gP 37 rfl (my) ?_
   iterate 4 refine V3.gm ?_
   refine V3.cW 0 rfl rfl rfl rfl rfl (fun H2 h2=>ak (lO tG rfl) rfl rfl h2 rfl) ?_
   iterate 4 refine V3.gm ?_
   refine V3.cW 0 rfl rfl rfl rfl rfl (fun H2 h2=>ak (lO tG rfl) rfl rfl h2 rfl) ?_
   iterate 5 refine V3.gm ?_
   refine V3.cW 0 rfl rfl rfl rfl rfl (fun H2 h2=>ak (lO tG rfl) rfl rfl h2 rfl) ?_
   iterate 4 refine V3.gm ?_
   refine V3.cW 0 rfl rfl rfl rfl rfl (fun H2 h2=>ak (lO tG rfl) rfl rfl h2 rfl) ?_
   iterate 2 refine V3.gm ?_
   refine V3.gP 61 rfl (Sg ⟨_,_,_⟩) ?_
   refine V3.tF rfl rfl rfl rfl (aC (lO tG rfl) rfl (lO tG rfl) (lO tG rfl) rfl rfl (by exact⟨_,rfl⟩) (by exact⟨rfl,rfl,ag _ 3 (fun _=>rfl) _,aB _ (fun _=>rfl) _⟩) (by exact ag _ 3 (fun _=>rfl) _) (by(simp;omega)) (by(simp;omega))) ?_
   refine V3.gP 43 rfl (aM bA) ?_
   refine V3.vp 1 rfl rfl rfl rfl (br.imp (aF (lO tG rfl) rfl (lO tG rfl) (lO tG rfl) rfl rfl rfl rfl (by simp) (by exact⟨_,rfl⟩) (by exact⟨rfl,rfl,ag _ 3 (fun _=>rfl) _,aB _ (fun _=>rfl) _⟩) (by(simp;omega)) (by(simp;omega))) (jB _ _ _)) ?_
   refine V3.gP 62 rfl (aM bA) ?_
   iterate 3 refine V3.gm ?_
   refine V3.qo tG rfl rfl rfl rfl rfl trivial ?_
   refine V3.kE ?_
   refine zu4 ?_
   refine aa rfl ?_
   refine zy2 ?_
   refine zc rfl Tryz.func114 ((rH (cF (bL (bt k).1 (-5))) _) _ _ rfl) ?_
   refine Wn ?_
   refine cd rfl rfl ?_ ?_
   ·rfl
   (rw[M7 k q3];rfl)
  have q3:¬64≤((bt k).1.v.f.length:Int):=oF hi3
  refine Wj ?_
  refine Ws ?_
  refine V3.jp [0,0,0,0,0,0,4,2,0,0,0,0,4,0,0,0,0,0,4,0,0,0,0,4,0,0,7,0,0,0,3] [0,1,2,3,4,5,6,8,9,10,11,12,13,14,15,16,17,18,19,20,21,22,23,24,25,7,26,27,28,29,30] mG rfl (by kernel_rfl) ?_
  iterate 2 refine V3.gm ?_
  refine V3.gP 37 rfl (my) ?_
  iterate 4 refine V3.gm ?_
  refine V3.cW 0 rfl rfl rfl rfl rfl (fun H2 h2=>ak (lO tG rfl) rfl rfl h2 rfl) ?_
  iterate 4 refine V3.gm ?_
  refine V3.cW 0 rfl rfl rfl rfl rfl (fun H2 h2=>ak (lO tG rfl) rfl rfl h2 rfl) ?_
  iterate 5 refine V3.gm ?_
  refine V3.cW 0 rfl rfl rfl rfl rfl (fun H2 h2=>ak (lO tG rfl) rfl rfl h2 rfl) ?_
  iterate 4 refine V3.gm ?_
  refine V3.cW 0 rfl rfl rfl rfl rfl (fun H2 h2=>ak (lO tG rfl) rfl rfl h2 rfl) ?_
  iterate 2 refine V3.gm ?_
  refine V3.gP 61 rfl (Sg ⟨_,_,_⟩) ?_
  refine V3.tF rfl rfl rfl rfl (aC (lO tG rfl) rfl (lO tG rfl) (lO tG rfl) rfl rfl (by exact⟨_,rfl⟩) (by exact⟨rfl,rfl,ag _ 3 (fun _=>rfl) _,aB _ (fun _=>rfl) _⟩) (by exact ag _ 3 (fun _=>rfl) _) (by(simp;omega)) (by(simp;omega))) ?_
  refine V3.gP 43 rfl (aM bA) ?_
  refine V3.vp 1 rfl rfl rfl rfl (br.imp (aF (lO tG rfl) rfl (lO tG rfl) (lO tG rfl) rfl rfl rfl rfl (by simp) (by exact⟨_,rfl⟩) (by exact⟨rfl,rfl,ag _ 3 (fun _=>rfl) _,aB _ (fun _=>rfl) _⟩) (by(simp;omega)) (by(simp;omega))) (jB _ _ _)) ?_
  refine V3.gP 62 rfl (aM bA) ?_
  iterate 3 refine V3.gm ?_
  refine V3.qo tG rfl rfl rfl rfl rfl trivial ?_
  refine V3.kE ?_
  refine zu4 ?_
  refine aa rfl ?_
  refine zy2 ?_
  refine zc rfl Tryz.func114 ((rH (cF (bt k).1) _) _ _ rfl) ?_
  refine Wn ?_
  refine cd rfl rfl ?_ ?_
  ·rfl
  (rw[Lw k q3];rfl)
 refine zp1 ?_
 refine zq 73 ?_
 refine zs1 ?_
 refine Wi rfl (fun hi4=>?_) (fun hi4=>?_)
 ·obtain rfl:=oT hi4
  refine zp1 ?_
  refine zc rfl Tryz.func121 ((no k h) _ _ rfl) ?_
  refine zs1 ?_
  refine aa rfl ?_
  refine zy2 ?_
  refine zc rfl Tryz.func63 ((fM _ _) _ _ rfl) ?_
  refine Wn ?_
  refine cd rfl rfl ?_ ?_
  ·rfl
  rfl
 refine Ws ?_
 refine zp1 ?_
 refine zq 80 ?_
 refine zs1 ?_
 refine Wi rfl (fun hi5=>?_) (fun hi5=>?_)
 ·obtain rfl:=oT hi5
  refine Wj ?_
  refine Wt rfl hi5 ?_
  refine zp1 ?_
  refine zc rfl Tryz.func126 ((c7) _ _ rfl) ?_
  refine zs1 ?_
  refine aa rfl ?_
  refine zy2 ?_
  refine zc rfl Tryz.func66 ((iv _ u1.1 _) _ _ rfl) ?_
  refine Wn ?_
  refine cd rfl rfl ?_ ?_
  ·rfl
  rfl
 refine aa rfl ?_
 refine z1 ?_
 refine zq 81 ?_
 refine zs1 ?_
 refine Wi rfl (fun hi6=>?_) (fun hi6=>?_)
 ·obtain rfl:=oT hi6
  refine zp1 ?_
  refine zc rfl Tryz.func126 ((c7) _ _ rfl) ?_
  refine zs1 ?_
  refine aa rfl ?_
  refine zy2 ?_
  refine zc rfl Tryz.func66 ((iv _ u1.1 _) _ _ rfl) ?_
  refine Wn ?_
  refine cd rfl rfl ?_ ?_
  ·rfl
  rfl
 refine zp1 ?_
 refine zq 88 ?_
 refine zs1 ?_
 refine Wi rfl (fun hi7=>?_) (fun hi7=>?_)
 ·obtain rfl:=oT hi7
  refine zp1 ?_
  refine zc rfl Tryz.func126 ((c9) _ _ rfl) ?_
  refine zs1 ?_
  refine aa rfl ?_
  refine zy2 ?_
  refine zc rfl Tryz.func66 ((iv _ u2.1 _) _ _ rfl) ?_
  refine Wn ?_
  refine cd rfl rfl ?_ ?_
  ·rfl
  rfl
 refine zp1 ?_
 refine zq 95 ?_
 refine zs1 ?_
 refine Wi rfl (fun hi8=>?_) (fun hi8=>?_)
 ·obtain rfl:=oT hi8
  refine zp1 ?_
  refine zc rfl Tryz.func126 ((c11) _ _ rfl) ?_
  refine Wn ?_
  refine zp1 ?_
  refine zc rfl Tryz.func119 ((lx _ u3.1) _ _ rfl) ?_
  refine Wn ?_
  refine aa rfl ?_
  refine z1 ?_
  refine zc rfl Tryz.func119 ((lx _ (lj u3.1).1) _ _ rfl) ?_
  refine Wn ?_
  refine cd rfl rfl ?_ ?_
  ·rfl
  rfl
 refine zp1 ?_
 refine zq 103 ?_
 refine zs1 ?_
 refine Wi rfl (fun hi9=>?_) (fun hi9=>?_)
 ·obtain rfl:=oT hi9
  refine zp1 ?_
  refine zc rfl Tryz.func121 ((no k h) _ _ rfl) ?_
  refine zs1 ?_
  refine aa rfl ?_
  refine zy2 ?_
  refine zc rfl Tryz.func65 ((jF _ p1.1 _) _ _ rfl) ?_
  refine Wn ?_
  refine cd rfl rfl ?_ ?_
  ·rfl
  rfl
 refine zp1 ?_
 refine zq 110 ?_
 refine zs1 ?_
 refine Wi rfl (fun hi10=>?_) (fun hi10=>?_)
 ·obtain rfl:=oT hi10
  refine zp1 ?_
  refine zc rfl Tryz.func119 ((lx k h) _ _ rfl) ?_
  refine zs1 ?_
  refine aa rfl ?_
  refine zy2 ?_
  refine zc rfl Tryz.func66 ((iv _ r1.1 _) _ _ rfl) ?_
  refine Wn ?_
  refine cd rfl rfl ?_ ?_
  ·rfl
  rfl
 refine zp1 ?_
 refine zq 117 ?_
 refine zs1 ?_
 refine Wi rfl (fun hi11=>?_) (fun hi11=>?_)
 ·obtain rfl:=oT hi11
  refine zp1 ?_
  refine zc rfl Tryz.func121 ((no k h) _ _ rfl) ?_
  refine zs1 ?_
  refine zp1 ?_
  refine zc rfl Tryz.func121 ((no _ p1.1) _ _ rfl) ?_
  refine zs1 ?_
  refine zp2 ?_
  refine zc rfl Tryz.func65 ((jF _ p2.1 _) _ _ rfl) ?_
  refine Wn ?_
  refine aa rfl ?_
  refine zy2 ?_
  refine zc rfl Tryz.func65 ((jF _ (iU p2.1 p2.2) _) _ _ rfl) ?_
  refine Wn ?_
  refine cd rfl rfl ?_ ?_
  ·rfl
  rfl
 refine zp1 ?_
 refine zq 129 ?_
 refine zs1 ?_
 refine Wi rfl (fun hi12=>?_) (fun hi12=>?_)
 ·obtain rfl:=oT hi12
  refine zp1 ?_
  refine zc rfl Tryz.func119 ((lx k h) _ _ rfl) ?_
  refine zs1 ?_
  refine zp1 ?_
  refine zc rfl Tryz.func119 ((lx _ r1.1) _ _ rfl) ?_
  refine zs1 ?_
  refine zp2 ?_
  refine zc rfl Tryz.func66 ((iv _ r2.1 _) _ _ rfl) ?_
  refine Wn ?_
  refine aa rfl ?_
  refine zy2 ?_
  refine zc rfl Tryz.func66 ((iv _ (jA r2.1 r2.2) _) _ _ rfl) ?_
  refine Wn ?_
  refine cd rfl rfl ?_ ?_
  ·rfl
  rfl
 refine Wj ?_
 refine cd rfl rfl ?_ ?_
 ·rfl
 (rw[GY (oF hi1) (oF hi2) (oF hi4) (oF hi5) (oF hi6) (oF hi7) (oF hi8) (oF hi9) (oF hi10) (oF hi11) (oF hi12)];rfl)
end
open Go.RowKit
theorem DY{a b:Int}(ha:ae a)(hb:ae b):ae (kQ a b).2:=by
 show ae (a*b/18446744073709551616)
 unfold ae at *
 have h:(a*b).natAbs≤9223372036854775808*9223372036854775808:=by
  rw[Int.natAbs_mul];exact Nat.mul_le_mul (by omega) (by omega)
 generalize a*b=P at h
 omega
theorem pJ(n:Int):ab Tryz.prog 115 [i64 n] (boo (decide (23≤n∧n≤129))):=by
 refine pW tG (rs:=[.tmp 2]) Tryz.func115 rfl rfl rfl (by simp) (by simp) (fun B=>?_)
 refine zu1 ?_
 refine zp3 ?_
 refine Wb 5 rfl (fun hg1=>?_) (fun hg1=>?_)
 ·refine zs4 ?_
  refine zR ?_
  refine congrArg boo ?_;(try simp only[dnL]at *);rw[Bool.eq_iff_iff];(try simp only[dnL]at *);omega
 refine z6 ?_
 refine z6 ?_
 refine zs2 ?_
 refine zR ?_
 refine congrArg boo ?_;(try simp only[dnL]at *);rw[Bool.eq_iff_iff];(try simp only[dnL]at *);omega
theorem Dy(b:Bool):ab Tryz.prog 275 [boo b] (i64 (dc b)):=by
 refine pW tG (rs:=[.tmp 2]) Tryz.func275 rfl rfl rfl (by simp) (by simp) (fun B=>?_)
 refine zu1 ?_
 refine Ws ?_
 refine zu1 ?_
 refine Wi rfl (fun hi1=>?_) (fun hi1=>?_)
 ·refine zu1 ?_
  refine zR ?_
  rw[hi1];rfl
 refine Wj ?_
 refine zu1 ?_
 refine zR ?_
 rw[hi1];rfl
theorem uN(v:VVm)(hm:cb v.mem):ab Tryz.prog 286 [eVm v] (i64 (eO v)):=by
 refine pW tG (rs:=[.tmp 2]) Tryz.func286 rfl rfl rfl (by simp) (by simp) (fun B=>?_)
 refine zu2 ?_
 refine zp2 ?_
 refine zc rfl Tryz.func62 ((gg v.mem 0 (by have:=hm.b;omega) (by unfold ae;omega)) _) ?_
 refine zs5 ?_
 refine zu2 ?_
 refine zR ?_
 rfl
def bw(name:Str):Nat :=
 if name=[65,70,84,69,82]∨name=[69,86,69,82,89]then 4 else
 if name=[42,47]∨name=[42,47,77,79,68]∨name=[85,77,47,77,79,68]∨name=[83,77,47,82,69,77]∨name=[70,77,47,77,79,68]∨name=[87,73,84,72,73,78]∨name=[50,33]∨name=[70,73,76,76]∨name=[77,79,86,69]∨name=[80,79,83,84]∨name=[65,84,45,83,84,65,84,69]then 3 else
 if name=[47,77,79,68]∨name=[85,77,42]∨name=[77,42]∨name=[33]∨name=[67,33]∨name=[43,33]∨name=[84,89,80,69]∨name=[35]∨name=[35,83]∨name=[35,62]∨name=[83,69,84,45,83,84,65,84,69]then 2 else
 if name=[83,62,68]∨name=[64]∨name=[67,64]∨name=[50,64]∨name=[67,79,85,78,84]∨name=[65,76,76,79,84]∨name=[44]∨name=[67,44]∨name=[69,77,73,84]∨name=[83,80,65,67,69,83]∨name=[46]∨name=[85,46]∨name=[72,79,76,68]∨name=[83,73,71,78]∨name=[62,66,79,68,89]∨name=[67,65,78,67,69,76]∨name=[71,69,84,45,83,84,65,84,69]then 1 else 0
theorem aP(n:Int)(name:Str):aU n name=if n≤58 then 2 else if n≤72 then 1 else bw name:=rfl
theorem Jt:∀name:Str,¬name=[65,70,84,69,82]→¬name=[69,86,69,82,89]→¬name=[42,47]→¬name=[42,47,77,79,68]→¬name=[85,77,47,77,79,68]→¬name=[83,77,47,82,69,77]→¬name=[70,77,47,77,79,68]→¬name=[87,73,84,72,73,78]→¬name=[50,33]→¬name=[70,73,76,76]→¬name=[77,79,86,69]→¬name=[80,79,83,84]→¬name=[65,84,45,83,84,65,84,69]→¬name=[47,77,79,68]→¬name=[85,77,42]→¬name=[77,42]→¬name=[33]→¬name=[67,33]→¬name=[43,33]→¬name=[84,89,80,69]→¬name=[35]→¬name=[35,83]→¬name=[35,62]→¬name=[83,69,84,45,83,84,65,84,69]→¬name=[83,62,68]→¬name=[64]→¬name=[67,64]→¬name=[50,64]→¬name=[67,79,85,78,84]→¬name=[65,76,76,79,84]→¬name=[44]→¬name=[67,44]→¬name=[69,77,73,84]→¬name=[83,80,65,67,69,83]→¬name=[46]→¬name=[85,46]→¬name=[72,79,76,68]→¬name=[83,73,71,78]→¬name=[62,66,79,68,89]→¬name=[67,65,78,67,69,76]→¬name=[71,69,84,45,83,84,65,84,69]→bw name=0:=by
 intro name n0 n1 n2 n3 n4 n5 n6 n7 n8 n9 n10 n11 n12 n13 n14 n15 n16 n17 n18 n19 n20 n21 n22 n23 n24 n25 n26 n27 n28 n29 n30 n31 n32 n33 n34 n35 n36 n37 n38 n39 n40
 unfold bw
 simp only[n0,n1,n2,n3,n4,n5,n6,n7,n8,n9,n10,n11,n12,n13,n14,n15,n16,n17,n18,n19,n20,n21,n22,n23,n24,n25,n26,n27,n28,n29,n30,n31,n32,n33,n34,n35,n36,n37,n38,n39,n40,or_self,if_false]
theorem AN(n:Int)(name:Str):ab Tryz.prog 117 [i64 n,str name] (i64 ((aU n name:Nat):Int)):=by
 refine pW tG (rs:=[.tmp 4]) Tryz.func117 rfl rfl rfl (by simp) (by simp) (fun B=>?_)
 refine zu1 ?_
 refine Ws ?_
 refine zu2 ?_
 refine Wi rfl (fun hi1=>?_) (fun hi1=>?_)
 ·have q1:n≤58:=oT hi1
  refine zu1 ?_
  refine zR ?_
  rw[aP,if_pos q1];rfl
 have q1:¬n≤58:=oF hi1
 refine Wj ?_
 refine Ws ?_
 refine zu2 ?_
 refine Wi rfl (fun hi2=>?_) (fun hi2=>?_)
 ·have q2:n≤72:=oT hi2
  refine zu1 ?_
  refine zR ?_
  rw[aP,if_neg q1,if_pos q2];rfl
 have q2:¬n≤72:=oF hi2
 refine Wj ?_
 refine Ws ?_
 refine zu1 ?_
 refine Wl ?_
 refine Ws ?_
 refine zp1 ?_
 refine zq 11 ?_
 refine zs1 ?_
 refine Wi rfl (fun hi3=>?_) (fun hi3=>?_)
 ·obtain rfl:=oT hi3
  refine Wj ?_
  refine Wt rfl hi3 ?_
  refine zu1 ?_
  refine zR ?_
  rw[aP,if_neg q1,if_neg q2];kernel_rfl
 have n0:=oF hi3
 refine aa rfl ?_
 refine z1 ?_
 refine zq 12 ?_
 refine zs1 ?_
 refine Wi rfl (fun hi4=>?_) (fun hi4=>?_)
 ·obtain rfl:=oT hi4
  refine zu1 ?_
  refine zR ?_
  rw[aP,if_neg q1,if_neg q2];kernel_rfl
 have n1:=oF hi4
 refine Ws ?_
 refine zp1 ?_
 refine zq 14 ?_
 refine zs1 ?_
 refine Wi rfl (fun hi5=>?_) (fun hi5=>?_)
 ·obtain rfl:=oT hi5
  refine Wj ?_
  refine Wt rfl hi5 ?_
  refine zu1 ?_
  refine zR ?_
  rw[aP,if_neg q1,if_neg q2];kernel_rfl
 have n2:=oF hi5
 refine zp1 ?_
 refine zq 15 ?_
 refine zs1 ?_
 refine Wi rfl (fun hi6=>?_) (fun hi6=>?_)
 ·obtain rfl:=oT hi6
  refine Wj ?_
  refine Wt rfl hi6 ?_
  refine zu1 ?_
  refine zR ?_
  rw[aP,if_neg q1,if_neg q2];kernel_rfl
 have n3:=oF hi6
 refine zp1 ?_
 refine zq 16 ?_
 refine zs1 ?_
 refine Wi rfl (fun hi7=>?_) (fun hi7=>?_)
 ·obtain rfl:=oT hi7
  refine Wj ?_
  refine Wt rfl hi7 ?_
  refine zu1 ?_
  refine zR ?_
  rw[aP,if_neg q1,if_neg q2];kernel_rfl
 have n4:=oF hi7
 refine zp1 ?_
 refine zq 17 ?_
 refine zs1 ?_
 refine Wi rfl (fun hi8=>?_) (fun hi8=>?_)
 ·obtain rfl:=oT hi8
  refine Wj ?_
  refine Wt rfl hi8 ?_
  refine zu1 ?_
  refine zR ?_
  rw[aP,if_neg q1,if_neg q2];kernel_rfl
 have n5:=oF hi8
 refine zp1 ?_
 refine zq 18 ?_
 refine zs1 ?_
 refine Wi rfl (fun hi9=>?_) (fun hi9=>?_)
 ·obtain rfl:=oT hi9
  refine Wj ?_
  refine Wt rfl hi9 ?_
  refine zu1 ?_
  refine zR ?_
  rw[aP,if_neg q1,if_neg q2];kernel_rfl
 have n6:=oF hi9
 refine zp1 ?_
 refine zq 19 ?_
 refine zs1 ?_
 refine Wi rfl (fun hi10=>?_) (fun hi10=>?_)
 ·obtain rfl:=oT hi10
  refine Wj ?_
  refine Wt rfl hi10 ?_
  refine zu1 ?_
  refine zR ?_
  rw[aP,if_neg q1,if_neg q2];kernel_rfl
 have n7:=oF hi10
 refine zp1 ?_
 refine zq 20 ?_
 refine zs1 ?_
 refine Wi rfl (fun hi11=>?_) (fun hi11=>?_)
 ·obtain rfl:=oT hi11
  refine Wj ?_
  refine Wt rfl hi11 ?_
  refine zu1 ?_
  refine zR ?_
  rw[aP,if_neg q1,if_neg q2];kernel_rfl
 have n8:=oF hi11
 refine zp1 ?_
 refine zq 21 ?_
 refine zs1 ?_
 refine Wi rfl (fun hi12=>?_) (fun hi12=>?_)
 ·obtain rfl:=oT hi12
  refine Wj ?_
  refine Wt rfl hi12 ?_
  refine zu1 ?_
  refine zR ?_
  rw[aP,if_neg q1,if_neg q2];kernel_rfl
 have n9:=oF hi12
 refine zp1 ?_
 refine zq 22 ?_
 refine zs1 ?_
 refine Wi rfl (fun hi13=>?_) (fun hi13=>?_)
 ·obtain rfl:=oT hi13
  refine Wj ?_
  refine Wt rfl hi13 ?_
  refine zu1 ?_
  refine zR ?_
  rw[aP,if_neg q1,if_neg q2];kernel_rfl
 have n10:=oF hi13
 refine zp1 ?_
 refine zq 23 ?_
 refine zs1 ?_
 refine Wi rfl (fun hi14=>?_) (fun hi14=>?_)
 ·obtain rfl:=oT hi14
  refine Wj ?_
  refine Wt rfl hi14 ?_
  refine zu1 ?_
  refine zR ?_
  rw[aP,if_neg q1,if_neg q2];kernel_rfl
 have n11:=oF hi14
 refine aa rfl ?_
 refine z1 ?_
 refine zq 24 ?_
 refine zs1 ?_
 refine Wi rfl (fun hi15=>?_) (fun hi15=>?_)
 ·obtain rfl:=oT hi15
  refine zu1 ?_
  refine zR ?_
  rw[aP,if_neg q1,if_neg q2];kernel_rfl
 have n12:=oF hi15
 refine Ws ?_
 refine zp1 ?_
 refine zq 26 ?_
 refine zs1 ?_
 refine Wi rfl (fun hi16=>?_) (fun hi16=>?_)
 ·obtain rfl:=oT hi16
  refine Wj ?_
  refine Wt rfl hi16 ?_
  refine zu1 ?_
  refine zR ?_
  rw[aP,if_neg q1,if_neg q2];kernel_rfl
 have n13:=oF hi16
 refine zp1 ?_
 refine zq 27 ?_
 refine zs1 ?_
 refine Wi rfl (fun hi17=>?_) (fun hi17=>?_)
 ·obtain rfl:=oT hi17
  refine Wj ?_
  refine Wt rfl hi17 ?_
  refine zu1 ?_
  refine zR ?_
  rw[aP,if_neg q1,if_neg q2];kernel_rfl
 have n14:=oF hi17
 refine zp1 ?_
 refine zq 28 ?_
 refine zs1 ?_
 refine Wi rfl (fun hi18=>?_) (fun hi18=>?_)
 ·obtain rfl:=oT hi18
  refine Wj ?_
  refine Wt rfl hi18 ?_
  refine zu1 ?_
  refine zR ?_
  rw[aP,if_neg q1,if_neg q2];kernel_rfl
 have n15:=oF hi18
 refine zp1 ?_
 refine zq 29 ?_
 refine zs1 ?_
 refine Wi rfl (fun hi19=>?_) (fun hi19=>?_)
 ·obtain rfl:=oT hi19
  refine Wj ?_
  refine Wt rfl hi19 ?_
  refine zu1 ?_
  refine zR ?_
  rw[aP,if_neg q1,if_neg q2];kernel_rfl
 have n16:=oF hi19
 refine zp1 ?_
 refine zq 30 ?_
 refine zs1 ?_
 refine Wi rfl (fun hi20=>?_) (fun hi20=>?_)
 ·obtain rfl:=oT hi20
  refine Wj ?_
  refine Wt rfl hi20 ?_
  refine zu1 ?_
  refine zR ?_
  rw[aP,if_neg q1,if_neg q2];kernel_rfl
 have n17:=oF hi20
 refine zp1 ?_
 refine zq 31 ?_
 refine zs1 ?_
 refine Wi rfl (fun hi21=>?_) (fun hi21=>?_)
 ·obtain rfl:=oT hi21
  refine Wj ?_
  refine Wt rfl hi21 ?_
  refine zu1 ?_
  refine zR ?_
  rw[aP,if_neg q1,if_neg q2];kernel_rfl
 have n18:=oF hi21
 refine zp1 ?_
 refine zq 32 ?_
 refine zs1 ?_
 refine Wi rfl (fun hi22=>?_) (fun hi22=>?_)
 ·obtain rfl:=oT hi22
  refine Wj ?_
  refine Wt rfl hi22 ?_
  refine zu1 ?_
  refine zR ?_
  rw[aP,if_neg q1,if_neg q2];kernel_rfl
 have n19:=oF hi22
 refine zp1 ?_
 refine zq 33 ?_
 refine zs1 ?_
 refine Wi rfl (fun hi23=>?_) (fun hi23=>?_)
 ·obtain rfl:=oT hi23
  refine Wj ?_
  refine Wt rfl hi23 ?_
  refine zu1 ?_
  refine zR ?_
  rw[aP,if_neg q1,if_neg q2];kernel_rfl
 have n20:=oF hi23
 refine zp1 ?_
 refine zq 34 ?_
 refine zs1 ?_
 refine Wi rfl (fun hi24=>?_) (fun hi24=>?_)
 ·obtain rfl:=oT hi24
  refine Wj ?_
  refine Wt rfl hi24 ?_
  refine zu1 ?_
  refine zR ?_
  rw[aP,if_neg q1,if_neg q2];kernel_rfl
 have n21:=oF hi24
 refine zp1 ?_
 refine zq 35 ?_
 refine zs1 ?_
 refine Wi rfl (fun hi25=>?_) (fun hi25=>?_)
 ·obtain rfl:=oT hi25
  refine Wj ?_
  refine Wt rfl hi25 ?_
  refine zu1 ?_
  refine zR ?_
  rw[aP,if_neg q1,if_neg q2];kernel_rfl
 have n22:=oF hi25
 refine aa rfl ?_
 refine z1 ?_
 refine zq 36 ?_
 refine zs1 ?_
 refine Wi rfl (fun hi26=>?_) (fun hi26=>?_)
 ·obtain rfl:=oT hi26
  refine zu1 ?_
  refine zR ?_
  rw[aP,if_neg q1,if_neg q2];kernel_rfl
 have n23:=oF hi26
 refine Ws ?_
 refine zp1 ?_
 refine zq 38 ?_
 refine zs1 ?_
 refine Wi rfl (fun hi27=>?_) (fun hi27=>?_)
 ·obtain rfl:=oT hi27
  refine Wj ?_
  refine Wt rfl hi27 ?_
  refine zu1 ?_
  refine zR ?_
  rw[aP,if_neg q1,if_neg q2];kernel_rfl
 have n24:=oF hi27
 refine zp1 ?_
 refine zq 39 ?_
 refine zs1 ?_
 refine Wi rfl (fun hi28=>?_) (fun hi28=>?_)
 ·obtain rfl:=oT hi28
  refine Wj ?_
  refine Wt rfl hi28 ?_
  refine zu1 ?_
  refine zR ?_
  rw[aP,if_neg q1,if_neg q2];kernel_rfl
 have n25:=oF hi28
 refine zp1 ?_
 refine zq 40 ?_
 refine zs1 ?_
 refine Wi rfl (fun hi29=>?_) (fun hi29=>?_)
 ·obtain rfl:=oT hi29
  refine Wj ?_
  refine Wt rfl hi29 ?_
  refine zu1 ?_
  refine zR ?_
  rw[aP,if_neg q1,if_neg q2];kernel_rfl
 have n26:=oF hi29
 refine zp1 ?_
 refine zq 41 ?_
 refine zs1 ?_
 refine Wi rfl (fun hi30=>?_) (fun hi30=>?_)
 ·obtain rfl:=oT hi30
  refine Wj ?_
  refine Wt rfl hi30 ?_
  refine zu1 ?_
  refine zR ?_
  rw[aP,if_neg q1,if_neg q2];kernel_rfl
 have n27:=oF hi30
 refine zp1 ?_
 refine zq 42 ?_
 refine zs1 ?_
 refine Wi rfl (fun hi31=>?_) (fun hi31=>?_)
 ·obtain rfl:=oT hi31
  refine Wj ?_
  refine Wt rfl hi31 ?_
  refine zu1 ?_
  refine zR ?_
  rw[aP,if_neg q1,if_neg q2];kernel_rfl
 have n28:=oF hi31
 refine zp1 ?_
 refine zq 43 ?_
 refine zs1 ?_
 refine Wi rfl (fun hi32=>?_) (fun hi32=>?_)
 ·obtain rfl:=oT hi32
  refine Wj ?_
  refine Wt rfl hi32 ?_
  refine zu1 ?_
  refine zR ?_
  rw[aP,if_neg q1,if_neg q2];kernel_rfl
 have n29:=oF hi32
 refine zp1 ?_
 refine zq 44 ?_
 refine zs1 ?_
 refine Wi rfl (fun hi33=>?_) (fun hi33=>?_)
 ·obtain rfl:=oT hi33
  refine Wj ?_
  refine Wt rfl hi33 ?_
  refine zu1 ?_
  refine zR ?_
  rw[aP,if_neg q1,if_neg q2];kernel_rfl
 have n30:=oF hi33
 refine zp1 ?_
 refine zq 45 ?_
 refine zs1 ?_
 refine Wi rfl (fun hi34=>?_) (fun hi34=>?_)
 ·obtain rfl:=oT hi34
  refine Wj ?_
  refine Wt rfl hi34 ?_
  refine zu1 ?_
  refine zR ?_
  rw[aP,if_neg q1,if_neg q2];kernel_rfl
 have n31:=oF hi34
 refine zp1 ?_
 refine zq 46 ?_
 refine zs1 ?_
 refine Wi rfl (fun hi35=>?_) (fun hi35=>?_)
 ·obtain rfl:=oT hi35
  refine Wj ?_
  refine Wt rfl hi35 ?_
  refine zu1 ?_
  refine zR ?_
  rw[aP,if_neg q1,if_neg q2];kernel_rfl
 have n32:=oF hi35
 refine zp1 ?_
 refine zq 47 ?_
 refine zs1 ?_
 refine Wi rfl (fun hi36=>?_) (fun hi36=>?_)
 ·obtain rfl:=oT hi36
  refine Wj ?_
  refine Wt rfl hi36 ?_
  refine zu1 ?_
  refine zR ?_
  rw[aP,if_neg q1,if_neg q2];kernel_rfl
 have n33:=oF hi36
 refine zp1 ?_
 refine zq 48 ?_
 refine zs1 ?_
 refine Wi rfl (fun hi37=>?_) (fun hi37=>?_)
 ·obtain rfl:=oT hi37
  refine Wj ?_
  refine Wt rfl hi37 ?_
  refine zu1 ?_
  refine zR ?_
  rw[aP,if_neg q1,if_neg q2];kernel_rfl
 have n34:=oF hi37
 refine zp1 ?_
 refine zq 49 ?_
 refine zs1 ?_
 refine Wi rfl (fun hi38=>?_) (fun hi38=>?_)
 ·obtain rfl:=oT hi38
  refine Wj ?_
  refine Wt rfl hi38 ?_
  refine zu1 ?_
  refine zR ?_
  rw[aP,if_neg q1,if_neg q2];kernel_rfl
 have n35:=oF hi38
 refine zp1 ?_
 refine zq 50 ?_
 refine zs1 ?_
 refine Wi rfl (fun hi39=>?_) (fun hi39=>?_)
 ·obtain rfl:=oT hi39
  refine Wj ?_
  refine Wt rfl hi39 ?_
  refine zu1 ?_
  refine zR ?_
  rw[aP,if_neg q1,if_neg q2];kernel_rfl
 have n36:=oF hi39
 refine zp1 ?_
 refine zq 51 ?_
 refine zs1 ?_
 refine Wi rfl (fun hi40=>?_) (fun hi40=>?_)
 ·obtain rfl:=oT hi40
  refine Wj ?_
  refine Wt rfl hi40 ?_
  refine zu1 ?_
  refine zR ?_
  rw[aP,if_neg q1,if_neg q2];kernel_rfl
 have n37:=oF hi40
 refine zp1 ?_
 refine zq 52 ?_
 refine zs1 ?_
 refine Wi rfl (fun hi41=>?_) (fun hi41=>?_)
 ·obtain rfl:=oT hi41
  refine Wj ?_
  refine Wt rfl hi41 ?_
  refine zu1 ?_
  refine zR ?_
  rw[aP,if_neg q1,if_neg q2];kernel_rfl
 have n38:=oF hi41
 refine zp1 ?_
 refine zq 53 ?_
 refine zs1 ?_
 refine Wi rfl (fun hi42=>?_) (fun hi42=>?_)
 ·obtain rfl:=oT hi42
  refine Wj ?_
  refine Wt rfl hi42 ?_
  refine zu1 ?_
  refine zR ?_
  rw[aP,if_neg q1,if_neg q2];kernel_rfl
 have n39:=oF hi42
 refine aa rfl ?_
 refine z1 ?_
 refine zq 54 ?_
 refine zs1 ?_
 refine Wi rfl (fun hi43=>?_) (fun hi43=>?_)
 ·obtain rfl:=oT hi43
  refine zu1 ?_
  refine zR ?_
  rw[aP,if_neg q1,if_neg q2];kernel_rfl
 have n40:=oF hi43
 refine Wj ?_
 refine zu1 ?_
 refine zR ?_
 rw[aP,if_neg q1,if_neg q2,Jt name n0 n1 n2 n3 n4 n5 n6 n7 n8 n9 n10 n11 n12 n13 n14 n15 n16 n17 n18 n19 n20 n21 n22 n23 n24 n25 n26 n27 n28 n29 n30 n31 n32 n33 n34 n35 n36 n37 n38 n39 n40];rfl
def tRk(r:Option (List Int×Int)):PV:=match r with
 | some q=>da (sq af q.1) (i64 q.2) (boo true)
 | none=>da (sq af []) (i64 0) (boo false)
@[simp] theorem RB (r : Option (List Int × Int)) : aQ (tRk r) := by cases r <;> simp [tRk]
theorem Jq:∀(name:Str) (x:List Int),¬name=[47,77,79,68]→¬name=[42,47]→¬name=[42,47,77,79,68]→¬name=[85,77,42]→¬name=[77,42]→¬name=[85,77,47,77,79,68]→¬name=[83,77,47,82,69,77]→¬name=[70,77,47,77,79,68]→¬name=[83,62,68]→¬name=[87,73,84,72,73,78]→¬name=[84,82,85,69]→¬name=[66,65,83,69]→¬name=[70,65,76,83,69]→¬name=[83,84,65,84,69]→¬name=[66,76]→dn name x=none:=by
 intro name x n0 n1 n2 n3 n4 n5 n6 n7 n8 n9 n10 n11 n12 n13 n14
 unfold dn
 simp only[n0,n1,n2,n3,n4,n5,n6,n7,n8,n9,n10,n11,n12,n13,n14,if_false]
theorem CF(name:Str)(x:List Int)(hx:∀i,ae (xat x i))(hn:bw name≤x.length):ab Tryz.prog 163 [str name,sq af x] (tRk (dn name x)):=by
 have f0:=hx 0
 have f1:=hx 1
 have f2:=hx 2
 refine pW tG (rs:=[.tmp 4,.tmp 5,.tmp 6]) Tryz.func163 rfl rfl rfl (by simp) (by simp) (fun B=>?_)
 refine zu3 ?_
 refine Ws ?_
 refine zu1 ?_
 refine Wl ?_
 refine zp1 ?_
 refine zq 30 ?_
 refine zs1 ?_
 refine Wi rfl (fun hi1=>?_) (fun hi1=>?_)
 ·obtain rfl:=oT hi1
  have h:bw [47,77,79,68]=2:=by kernel_rfl
  have hl:2≤x.length:=by omega
  refine Ws ?_
  refine ai [0,0,1,0,0,1,0,0,0,0,0,0,0,0] [0,1,2,3,4,5,6,7,8,9,10,11,12,13] mG rfl (by kernel_rfl) ?_
  refine z3 ?_
  refine z9i ?_
  refine z5 ?_
  refine z3 ?_
  refine z9i ?_
  refine z5 ?_
  refine Xc rfl rfl rfl rfl (fun _=>dC rfl Tryz.func174 rfl rfl ((Ee (xat x 0) (xat x 1) f0 f1) _)) ?_
  iterate 7 refine z3 ?_
  refine ah ?_
  refine zp3 ?_
  refine Wa 44 rfl (bsL af [_,_] rfl rfl) ?_
  refine zs4 ?_
  refine zR ?_
  kernel_rfl
 have n0:=oF hi1
 refine Ws ?_
 refine zp1 ?_
 refine zq 47 ?_
 refine zs1 ?_
 refine Wi rfl (fun hi2=>?_) (fun hi2=>?_)
 ·obtain rfl:=oT hi2
  have h:bw [42,47]=3:=by kernel_rfl
  have hl:3≤x.length:=by omega
  refine Wj ?_
  refine Wt rfl hi2 ?_
  refine Ws ?_
  refine ai [0,0,1,0,0,1,0,0,0,0,0,0] [0,1,2,3,4,5,6,7,8,9,10,11] mG rfl (by kernel_rfl) ?_
  refine z3 ?_
  refine z9i ?_
  refine z5 ?_
  refine z3 ?_
  refine z9i ?_
  refine z5 ?_
  refine Xc rfl rfl rfl rfl (fun _=>dC rfl Tryz.func270 rfl rfl ((Kf (xat x 0) (xat x 1) f0 f1) _)) ?_
  iterate 5 refine z3 ?_
  refine ah ?_
  refine zp3 ?_
  refine Wv tG rfl rfl rfl (by omega) (iN af 1 (fun _=>rfl) 0 (by(simp only[dnL]at *;omega))) ?_
  refine z1 ?_
  refine zc rfl Tryz.func271 ((Bf (kQ (xat x 0) (xat x 1)).1 (kQ (xat x 0) (xat x 1)).2 (xat x 2) (DY f0 f1) f2) _) ?_
  refine zy5 ?_
  refine zs2 ?_
  refine Ws ?_
  refine zp2 ?_
  refine zq 70 ?_
  refine Wn ?_
  refine Wt rfl (by rfl) ?_
  refine zp2 ?_
  refine Wa 72 rfl (bsL af [_] rfl rfl) ?_
  refine zs4 ?_
  refine zR ?_
  kernel_rfl
 have n1:=oF hi2
 refine aa rfl ?_
 refine z1 ?_
 refine zq 48 ?_
 refine zs1 ?_
 refine Wi rfl (fun hi4=>?_) (fun hi4=>?_)
 ·obtain rfl:=oT hi4
  have h:bw [42,47,77,79,68]=3:=by kernel_rfl
  have hl:3≤x.length:=by omega
  refine Ws ?_
  refine ai [0,0,1,0,0,1,0,0,0,0,0,0] [0,1,2,3,4,5,6,7,8,9,10,11] mG rfl (by kernel_rfl) ?_
  refine z3 ?_
  refine z9i ?_
  refine z5 ?_
  refine z3 ?_
  refine z9i ?_
  refine z5 ?_
  refine Xc rfl rfl rfl rfl (fun _=>dC rfl Tryz.func270 rfl rfl ((Kf (xat x 0) (xat x 1) f0 f1) _)) ?_
  iterate 5 refine z3 ?_
  refine ah ?_
  refine zp3 ?_
  refine Wv tG rfl rfl rfl (by omega) (iN af 1 (fun _=>rfl) 0 (by(simp only[dnL]at *;omega))) ?_
  refine z1 ?_
  refine zc rfl Tryz.func271 ((Bf (kQ (xat x 0) (xat x 1)).1 (kQ (xat x 0) (xat x 1)).2 (xat x 2) (DY f0 f1) f2) _) ?_
  refine zy5 ?_
  refine zs2 ?_
  refine Ws ?_
  refine zp2 ?_
  refine zq 70 ?_
  refine Wn ?_
  refine Wf rfl (by rfl) ?_
  refine Wj ?_
  refine zp3 ?_
  refine Wa 76 rfl (bsL af [_,_] rfl rfl) ?_
  refine zs4 ?_
  refine zR ?_
  kernel_rfl
 have n2:=oF hi4
 refine zp1 ?_
 refine zq 79 ?_
 refine zs1 ?_
 refine Wi rfl (fun hi5=>?_) (fun hi5=>?_)
 ·obtain rfl:=oT hi5
  have h:bw [85,77,42]=2:=by kernel_rfl
  have hl:2≤x.length:=by omega
  refine Ws ?_
  refine ai [0,0,1,0,0,1,0,0,0,0,0,0] [0,1,2,3,4,5,6,7,8,9,10,11] mG rfl (by kernel_rfl) ?_
  refine z3 ?_
  refine z9i ?_
  refine z5 ?_
  refine z3 ?_
  refine z9i ?_
  refine z5 ?_
  refine Xc rfl rfl rfl rfl (fun _=>dC rfl Tryz.func272 rfl rfl ((Qr (xat x 0) (xat x 1)) _)) ?_
  iterate 5 refine z3 ?_
  refine ah ?_
  refine zp3 ?_
  refine Wa 92 rfl (bsL af [_,_] rfl rfl) ?_
  refine zs3 ?_
  refine zR ?_
  kernel_rfl
 have n3:=oF hi5
 refine zp1 ?_
 refine zq 94 ?_
 refine zs1 ?_
 refine Wi rfl (fun hi6=>?_) (fun hi6=>?_)
 ·obtain rfl:=oT hi6
  have h:bw [77,42]=2:=by kernel_rfl
  have hl:2≤x.length:=by omega
  refine Ws ?_
  refine ai [0,0,1,0,0,1,0,0,0,0,0,0] [0,1,2,3,4,5,6,7,8,9,10,11] mG rfl (by kernel_rfl) ?_
  refine z3 ?_
  refine z9i ?_
  refine z5 ?_
  refine z3 ?_
  refine z9i ?_
  refine z5 ?_
  refine Xc rfl rfl rfl rfl (fun _=>dC rfl Tryz.func270 rfl rfl ((Kf (xat x 0) (xat x 1) f0 f1) _)) ?_
  iterate 5 refine z3 ?_
  refine ah ?_
  refine zp3 ?_
  refine Wa 107 rfl (bsL af [_,_] rfl rfl) ?_
  refine zs3 ?_
  refine zR ?_
  kernel_rfl
 have n4:=oF hi6
 refine zp1 ?_
 refine zq 109 ?_
 refine zs1 ?_
 refine Wi rfl (fun hi7=>?_) (fun hi7=>?_)
 ·obtain rfl:=oT hi7
  have h:bw [85,77,47,77,79,68]=3:=by kernel_rfl
  have hl:3≤x.length:=by omega
  refine Ws ?_
  refine ai [0,0,1,0,0,1,0,0,1,0,0,0,0,0,0,0,0] [0,1,2,3,4,5,6,7,8,9,10,11,12,13,14,15,16] mG rfl (by kernel_rfl) ?_
  refine z3 ?_
  refine z9i ?_
  refine z5 ?_
  refine z3 ?_
  refine z9i ?_
  refine z5 ?_
  refine z3 ?_
  refine z9i ?_
  refine z5 ?_
  refine Xc rfl rfl rfl rfl (fun _=>dC rfl Tryz.func273 rfl rfl ((Ie (xat x 0) (xat x 1) (xat x 2)) _)) ?_
  iterate 7 refine z3 ?_
  refine ah ?_
  refine zp3 ?_
  refine Wa 126 rfl (bsL af [_,_] rfl rfl) ?_
  refine zs4 ?_
  refine zR ?_
  kernel_rfl
 have n5:=oF hi7
 refine zp1 ?_
 refine zq 129 ?_
 refine zs1 ?_
 refine Wi rfl (fun hi8=>?_) (fun hi8=>?_)
 ·obtain rfl:=oT hi8
  have h:bw [83,77,47,82,69,77]=3:=by kernel_rfl
  have hl:3≤x.length:=by omega
  refine Ws ?_
  refine ai [0,0,1,0,0,1,0,0,1,0,0,0,0,0,0,0,0] [0,1,2,3,4,5,6,7,8,9,10,11,12,13,14,15,16] mG rfl (by kernel_rfl) ?_
  refine z3 ?_
  refine z9i ?_
  refine z5 ?_
  refine z3 ?_
  refine z9i ?_
  refine z5 ?_
  refine z3 ?_
  refine z9i ?_
  refine z5 ?_
  refine Xc rfl rfl rfl rfl (fun _=>dC rfl Tryz.func274 rfl rfl ((Po (xat x 0) (xat x 1) (xat x 2) f1 f2) _)) ?_
  iterate 7 refine z3 ?_
  refine ah ?_
  refine zp3 ?_
  refine Wa 146 rfl (bsL af [_,_] rfl rfl) ?_
  refine zs4 ?_
  refine zR ?_
  kernel_rfl
 have n6:=oF hi8
 refine zp1 ?_
 refine zq 149 ?_
 refine zs1 ?_
 refine Wi rfl (fun hi9=>?_) (fun hi9=>?_)
 ·obtain rfl:=oT hi9
  have h:bw [70,77,47,77,79,68]=3:=by kernel_rfl
  have hl:3≤x.length:=by omega
  refine Ws ?_
  refine ai [0,0,1,0,0,1,0,0,1,0,0,0,0,0,0,0,0] [0,1,2,3,4,5,6,7,8,9,10,11,12,13,14,15,16] mG rfl (by kernel_rfl) ?_
  refine z3 ?_
  refine z9i ?_
  refine z5 ?_
  refine z3 ?_
  refine z9i ?_
  refine z5 ?_
  refine z3 ?_
  refine z9i ?_
  refine z5 ?_
  refine Xc rfl rfl rfl rfl (fun _=>dC rfl Tryz.func271 rfl rfl ((Bf (xat x 0) (xat x 1) (xat x 2) f1 f2) _)) ?_
  iterate 7 refine z3 ?_
  refine ah ?_
  refine zp3 ?_
  refine Wa 166 rfl (bsL af [_,_] rfl rfl) ?_
  refine zs4 ?_
  refine zR ?_
  kernel_rfl
 have n7:=oF hi9
 refine zp1 ?_
 refine zq 169 ?_
 refine zs1 ?_
 refine Wi rfl (fun hi10=>?_) (fun hi10=>?_)
 ·obtain rfl:=oT hi10
  have h:bw [83,62,68]=1:=by kernel_rfl
  have hl:1≤x.length:=by omega
  refine Ws ?_
  refine ai [0,0,1,0,0,1,0,0,0,0,0,0] [0,1,2,3,4,5,6,7,8,9,10,11] mG rfl (by kernel_rfl) ?_
  refine z3 ?_
  refine z9i ?_
  refine z5 ?_
  refine z3 ?_
  refine z9i ?_
  refine z5 ?_
  refine z3 ?_
  refine Xc rfl rfl rfl rfl (fun _=>dC rfl Tryz.func275 rfl rfl ((Dy (decide (xat x 0<0))) _)) ?_
  refine z3 ?_
  refine Xa 178 rfl (bsL af [_,_] rfl rfl) ?_
  iterate 3 refine z3 ?_
  refine ah ?_
  refine zR ?_
  kernel_rfl
 have n8:=oF hi10
 refine zp1 ?_
 refine zq 180 ?_
 refine zs1 ?_
 refine Wi rfl (fun hi11=>?_) (fun hi11=>?_)
 ·obtain rfl:=oT hi11
  have h:bw [87,73,84,72,73,78]=3:=by kernel_rfl
  have hl:3≤x.length:=by omega
  refine Ws ?_
  refine ai [0,0,1,0,0,1,0,0,1,0,0,0,0,0,0] [0,1,2,3,4,5,6,7,8,9,10,11,12,13,14] mG rfl (by kernel_rfl) ?_
  refine z3 ?_
  refine z9i ?_
  refine z5 ?_
  refine z3 ?_
  refine z9i ?_
  refine z5 ?_
  refine z3 ?_
  refine z9i ?_
  refine z5 ?_
  refine Xc rfl rfl rfl rfl (fun _=>dC rfl Tryz.func276 rfl rfl ((Ce (xat x 0) (xat x 1) (xat x 2)) _)) ?_
  refine Xc rfl rfl rfl rfl (fun _=>dC rfl Tryz.func275 rfl rfl ((Dy (decide (U (wrap64 (xat x 0-xat x 1))<U (wrap64 (xat x 2-xat x 1))))) _)) ?_
  refine z3 ?_
  refine Xa 192 rfl (bsL af [_] rfl rfl) ?_
  iterate 3 refine z3 ?_
  refine ah ?_
  refine zR ?_
  kernel_rfl
 have n9:=oF hi11
 refine zp1 ?_
 refine zq 194 ?_
 refine zs1 ?_
 refine Wi rfl (fun hi12=>?_) (fun hi12=>?_)
 ·obtain rfl:=oT hi12
  have h:bw [84,82,85,69]=0:=by kernel_rfl
  have hl:0≤x.length:=by omega
  refine zp1 ?_
  refine Wa 195 rfl (bsL af [_] rfl rfl) ?_
  refine zs3 ?_
  refine zR ?_
  kernel_rfl
 have n10:=oF hi12
 refine Ws ?_
 refine zp1 ?_
 refine zq 197 ?_
 refine zs1 ?_
 refine Wi rfl (fun hi13=>?_) (fun hi13=>?_)
 ·obtain rfl:=oT hi13
  have h:bw [66,65,83,69]=0:=by kernel_rfl
  have hl:0≤x.length:=by omega
  refine Wj ?_
  refine Wt rfl hi13 ?_
  refine zp1 ?_
  refine Wa 199 rfl (bsL af [_] rfl rfl) ?_
  refine zs3 ?_
  refine zR ?_
  kernel_rfl
 have n11:=oF hi13
 refine aa rfl ?_
 refine z1 ?_
 refine zq 198 ?_
 refine zs1 ?_
 refine Wi rfl (fun hi14=>?_) (fun hi14=>?_)
 ·obtain rfl:=oT hi14
  have h:bw [70,65,76,83,69]=0:=by kernel_rfl
  have hl:0≤x.length:=by omega
  refine zp1 ?_
  refine Wa 199 rfl (bsL af [_] rfl rfl) ?_
  refine zs3 ?_
  refine zR ?_
  kernel_rfl
 have n12:=oF hi14
 refine zp1 ?_
 refine zq 201 ?_
 refine zs1 ?_
 refine Wi rfl (fun hi15=>?_) (fun hi15=>?_)
 ·obtain rfl:=oT hi15
  have h:bw [83,84,65,84,69]=0:=by kernel_rfl
  have hl:0≤x.length:=by omega
  refine zp1 ?_
  refine Wa 202 rfl (bsL af [_] rfl rfl) ?_
  refine zs3 ?_
  refine zR ?_
  kernel_rfl
 have n13:=oF hi15
 refine zp1 ?_
 refine zq 204 ?_
 refine zs1 ?_
 refine Wi rfl (fun hi16=>?_) (fun hi16=>?_)
 ·obtain rfl:=oT hi16
  have h:bw [66,76]=0:=by kernel_rfl
  have hl:0≤x.length:=by omega
  refine zp1 ?_
  refine Wa 205 rfl (bsL af [_] rfl rfl) ?_
  refine zs3 ?_
  refine zR ?_
  kernel_rfl
 have n14:=oF hi16
 refine Wj ?_
 refine zu3 ?_
 refine zR ?_
 rw[Jq name x n0 n1 n2 n3 n4 n5 n6 n7 n8 n9 n10 n11 n12 n13 n14];rfl
def tSp(v:VVm)(r:Option (VVm×List Int×Int)):PV:=match r with
 | some q=>da (eVm q.1) (i64 q.2.2) (boo true)
 | none=>da (eVm v) (i64 0) (boo false)
@[simp] theorem RW (v : VVm) (r : Option (VVm × List Int × Int)) : aQ (tSp v r) := by cases r <;> simp [tSp]
theorem Nt:∀(v:VVm) (name:Str) (x:List Int),¬name=[65,76,76,79,84]→¬name=[44]→¬name=[67,44]→¬name=[65,76,73,71,78]→fw v name x=none:=by
 intro v name x n0 n1 n2 n3
 unfold fw
 simp only[n0,n1,n2,n3,if_false]
theorem Fa(v:VVm)(hv:bX v)(name:Str)(x:List Int)(hx:∀i,ae (xat x i))(hn:bw name≤x.length):ab Tryz.prog 165 [eVm v,str name,sq af x] (tSp v (fw v name x)):=by
 have f0:=hx 0
 refine pW tG (rs:=[.cell 6 36,.tmp 7,.tmp 8]) Tryz.func165 rfl rfl rfl (by simp) (by simp) (fun B=>?_)
 refine zu4 ?_
 refine zu4 ?_
 refine zu3 ?_
 refine zu1 ?_
 refine Ws ?_
 refine zu1 ?_
 refine Wl ?_
 refine zp1 ?_
 refine zq 19 ?_
 refine zs1 ?_
 refine Wi rfl (fun hi1=>?_) (fun hi1=>?_)
 ·obtain rfl:=oT hi1
  have h:bw [65,76,76,79,84]=1:=by kernel_rfl
  have hl:1≤x.length:=by omega
  refine ai [1,0,0,0,0,0,0,0,0,0,0,0] [0,1,2,3,4,5,6,7,8,9,10,11] mG rfl (by kernel_rfl) ?_
  refine z5 ?_
  refine Xc rfl rfl rfl rfl (fun _=>dC rfl Tryz.func282 rfl rfl ((Gq) _)) ?_
  iterate 2 refine z3 ?_
  refine z9i ?_
  refine z3 ?_
  refine Xc rfl rfl rfl rfl (fun _=>dC rfl Tryz.func281 rfl rfl ((GV v.mem 1368 v.here (xat x 0) hv.mem hv.here (by unfold ae;omega) f0) _)) ?_
  iterate 5 refine z3 ?_
  refine ah ?_
  refine zu3 ?_
  refine zu3 ?_
  refine zu5 ?_
  refine zR ?_
  kernel_rfl
 have n0:=oF hi1
 refine zp1 ?_
 refine zq 31 ?_
 refine zs1 ?_
 refine Wi rfl (fun hi2=>?_) (fun hi2=>?_)
 ·obtain rfl:=oT hi2
  have h:bw [44]=1:=by kernel_rfl
  have hl:1≤x.length:=by omega
  refine ai [1,0,0,0,0,0,0,0,0,0,3,0,0] [0,1,2,3,4,5,6,7,8,9,10,11,12] mG rfl (by kernel_rfl) ?_
  refine z5 ?_
  iterate 2 refine z3 ?_
  refine z9i ?_
  refine z3 ?_
  refine Xc rfl rfl rfl rfl (fun _=>dC rfl Tryz.func283 rfl rfl ((FH v.mem v.here (xat x 0) hv.mem hv.here) _)) ?_
  iterate 4 refine z3 ?_
  refine aZ tG rfl rfl rfl rfl rfl trivial ?_
  iterate 2 refine z3 ?_
  refine ah ?_
  refine zu3 ?_
  refine zu3 ?_
  refine zu5 ?_
  refine zR ?_
  kernel_rfl
 have n1:=oF hi2
 refine zp1 ?_
 refine zq 43 ?_
 refine zs1 ?_
 refine Wi rfl (fun hi3=>?_) (fun hi3=>?_)
 ·obtain rfl:=oT hi3
  have h:bw [67,44]=1:=by kernel_rfl
  have hl:1≤x.length:=by omega
  refine ai [1,0,0,0,0,0,0,0,0,0,0,0,3,0,0] [0,1,2,3,4,5,6,7,8,9,10,11,12,13,14] mG rfl (by kernel_rfl) ?_
  refine z5 ?_
  iterate 2 refine z3 ?_
  refine z9i ?_
  iterate 2 refine z3 ?_
  refine Xa 50 rfl (lm _) ?_
  refine z3 ?_
  refine Xa 51 rfl (bsL av [_] rfl rfl) ?_
  refine Xc rfl rfl rfl rfl (fun _=>dC rfl Tryz.func284 rfl rfl ((xQ v.mem v.here [loB (xat x 0)] hv.mem hv.here (by simp)) _)) ?_
  iterate 4 refine z3 ?_
  refine aZ tG rfl rfl rfl rfl rfl trivial ?_
  iterate 2 refine z3 ?_
  refine ah ?_
  refine zu3 ?_
  refine zu3 ?_
  refine zu5 ?_
  refine zR ?_
  kernel_rfl
 have n2:=oF hi3
 refine zp1 ?_
 refine zq 57 ?_
 refine zs1 ?_
 refine Wi rfl (fun hi4=>?_) (fun hi4=>?_)
 ·obtain rfl:=oT hi4
  refine aa rfl ?_
  refine zy2 ?_
  refine zc rfl Tryz.func285 ((Ax v.mem v.here hv.mem hv.here) _) ?_
  refine zy5 ?_
  refine zs2 ?_
  refine zu3 ?_
  refine zu3 ?_
  refine zu5 ?_
  refine zR ?_
  kernel_rfl
 have n3:=oF hi4
 refine zu4 ?_
 refine zR ?_
 rw[Nt v name x n0 n1 n2 n3];rfl
def tTx(r:Option (Str×Int)):PV:=match r with
 | some q=>da (str q.1) (i64 q.2) (boo true)
 | none=>da (str []) (i64 0) (boo false)
@[simp] theorem Rv (r : Option (Str × Int)) : aQ (tTx r) := by cases r <;> simp [tTx]
theorem PA:∀(v:VVm) (name:Str) (x:List Int),¬name=[69,77,73,84]→¬name=[67,82]→¬name=[83,80,65,67,69]→¬name=[83,80,65,67,69,83]→¬name=[84,89,80,69]→¬name=[46]→¬name=[85,46]→i8 v name x=none:=by
 intro v name x n0 n1 n2 n3 n4 n5 n6
 unfold i8
 simp only[n0,n1,n2,n3,n4,n5,n6,if_false]
theorem Ei(v:VVm)(x:List Int)(k:Nat)(h:(min (max (xat x 0) 0) (v.conf.out+1)).toNat=k):i8 v [83,80,65,67,69,83] x=some (List.replicate k 32,0):=by
 have e:i8 v [83,80,65,67,69,83] x=some (j6 v x,0):=by kernel_rfl
 rw[e,j6,h]
theorem Lm(v:VVm)(hv:bX v)(name:Str)(x:List Int)(hx:∀i,ae (xat x i))(hn:bw name≤x.length):ab Tryz.prog 166 [eVm v,str name,sq af x] (tTx (i8 v name x)):=by
 have f0:=hx 0
 have f1:=hx 1
 have ho:=hv.out2
 have hs:=oR (xat x 0) (eO v)
 have hu:=mO (xat x 0) (eO v)
 refine pW tG (rs:=[.tmp 6,.tmp 7,.tmp 8]) Tryz.func166 rfl rfl rfl (by simp) (by simp) (fun B=>?_)
 refine zu4 ?_
 refine zp1 ?_
 refine zc rfl Tryz.func286 ((uN v hv.mem) _) ?_
 refine zs1 ?_
 refine Ws ?_
 refine zu1 ?_
 refine Wl ?_
 refine zp1 ?_
 refine zq 22 ?_
 refine zs1 ?_
 refine Wi rfl (fun hi1=>?_) (fun hi1=>?_)
 ·obtain rfl:=oT hi1
  have h:bw [69,77,73,84]=1:=by kernel_rfl
  have hl:1≤x.length:=by omega
  refine zp1 ?_
  refine Wv tG rfl rfl rfl (by omega) (iN af 1 (fun _=>rfl) 0 (by(simp only[dnL]at *;omega))) ?_
  refine zy2 ?_
  refine Wa 26 rfl (lm _) ?_
  refine z1 ?_
  refine Wa 27 rfl (bsL av [_] rfl rfl) ?_
  refine Wd rfl rfl (bI (lO tG rfl) rfl (lO tG rfl) rfl (lO tG rfl) rfl rfl rfl) ?_
  refine zs3 ?_
  refine zR ?_
  kernel_rfl
 have n0:=oF hi1
 refine zp1 ?_
 refine zq 30 ?_
 refine zs1 ?_
 refine Wi rfl (fun hi2=>?_) (fun hi2=>?_)
 ·obtain rfl:=oT hi2
  refine zu3 ?_
  refine zR ?_
  kernel_rfl
 have n1:=oF hi2
 refine zp1 ?_
 refine zq 32 ?_
 refine zs1 ?_
 refine Wi rfl (fun hi3=>?_) (fun hi3=>?_)
 ·obtain rfl:=oT hi3
  refine zu3 ?_
  refine zR ?_
  kernel_rfl
 have n2:=oF hi3
 refine zp1 ?_
 refine zq 34 ?_
 refine zs1 ?_
 refine Wi rfl (fun hi4=>?_) (fun hi4=>?_)
 ·obtain rfl:=oT hi4
  have h:bw [83,80,65,67,69,83]=1:=by kernel_rfl
  have hl:1≤x.length:=by omega
  refine zu1 ?_
  refine Ws ?_
  refine zu1 ?_
  refine Wl ?_
  show W _ _ _ _ _ _ _
  refine bG (fun(k:Nat)=>[(2,sq af x),(3,.ptr 0 0),(10,str (List.replicate k 32)),(11,i64 k)]) (fun(k:Nat)=>[.cells (cVm v) 36]) (fun(k:Nat)=>[]) (fun(k:Nat)=>(k:Int)≤min (max (xat x 0) 0) (v.conf.out+1)) (fun(k:Nat)=>(v.conf.out+1-k).toNat) (0) (by omega) [] ?_ ?_
  ·exact bu
  intro k hk
  refine Ws ?_
  refine zp2 ?_
  refine Wv tG rfl rfl rfl (by omega) (iN af 1 (fun _=>rfl) 0 (by(simp only[dnL]at *;omega))) ?_
  refine z1 ?_
  refine Wa 38 rfl ((show i64 (x.getD 0 default)=i64 (xat x 0) from rfl)) ?_
  refine zy2 ?_
  refine Wb 40 rfl (fun hg1=>?_) (fun hg1=>?_)
  ·have q1:(k:Int)<xat x 0:=oT hg1
   refine zy5 ?_
   refine zs1 ?_
   refine Wi rfl (fun hi5=>?_) (fun hi5=>?_)
   ·have q2:(k:Int)≤v.conf.out:=oT hi5
    refine Wj ?_
    refine Ws ?_
    refine Wl ?_
    refine aa rfl ?_
    refine z1 ?_
    refine z2 ?_ (q:=(by simp only[gF];simp;omega))
    refine Wa 50 rfl (mo _ _) ?_
    refine zs1 ?_
    refine aa rfl ?_
    refine zs3 ?_
    exact⟨k+1,[],(by omega),(by omega),(bu (sub:=by repeat (first|exact bo|refine aX (by first|exact aH rfl|exact aH (show str (List.replicate k 32++[32])=str (List.replicate (k+1) 32) by rw[List.replicate_succ'])|exact aH (congrArg i64 (by(rw[aK];unfold wrap64;omega)))) ?_)))⟩
   have q2:¬(k:Int)≤v.conf.out:=oF hi5
   refine aN ?_
   refine zu4 ?_
   refine zR ?_
   rw[Ei v x k (by omega)];rfl
  have q1:¬(k:Int)<xat x 0:=oF hg1
  iterate 5 refine z6 ?_
  refine zs1 ?_
  refine Wf rfl rfl ?_
  refine aN ?_
  refine zu4 ?_
  refine zR ?_
  rw[Ei v x k (by omega)];rfl
 have n3:=oF hi4
 refine zp1 ?_
 refine zq 53 ?_
 refine zs1 ?_
 refine Wi rfl (fun hi6=>?_) (fun hi6=>?_)
 ·obtain rfl:=oT hi6
  have h:bw [84,89,80,69]=2:=by kernel_rfl
  have hl:2≤x.length:=by omega
  refine Ws ?_
  refine ai [0,1,0,0,1,0,0,1,0,0,0,0,0,0] [0,1,2,3,4,5,6,7,8,9,10,11,12,13] mG rfl (by kernel_rfl) ?_
  refine z3 ?_
  refine z5 ?_
  refine z3 ?_
  refine z9i ?_
  refine z5 ?_
  refine z3 ?_
  refine z9i ?_
  refine z5 ?_
  refine Xc rfl rfl rfl rfl (fun _=>dC rfl Tryz.func132 rfl rfl ((uv v.mem (xat x 0) (xat x 1) hv.mem f0 f1) _)) ?_
  iterate 5 refine z3 ?_
  refine ah ?_
  refine zp1 ?_
  refine Wd rfl rfl (bI (lO tG rfl) rfl (lO tG rfl) rfl (lO tG rfl) rfl rfl rfl) ?_
  refine zs4 ?_
  refine zR ?_
  kernel_rfl
 have n4:=oF hi6
 refine zp1 ?_
 refine zq 70 ?_
 refine zs1 ?_
 refine Wi rfl (fun hi7=>?_) (fun hi7=>?_)
 ·obtain rfl:=oT hi7
  have h:bw [46]=1:=by kernel_rfl
  have hl:1≤x.length:=by omega
  refine zp1 ?_
  refine Wv tG rfl rfl rfl (by omega) (iN af 1 (fun _=>rfl) 0 (by(simp only[dnL]at *;omega))) ?_
  refine zy2 ?_
  refine zc rfl Tryz.func287 ((QN (xat x 0) (eO v) f0) _) ?_
  refine zs5 ?_
  refine zp1 ?_
  refine z2 ?_ (q:=(by simp only[gF];((simp_all;omega))))
  refine Wa 80 rfl (mo _ _) ?_
  refine zs4 ?_
  refine zR ?_
  kernel_rfl
 have n5:=oF hi7
 refine zp1 ?_
 refine zq 83 ?_
 refine zs1 ?_
 refine Wi rfl (fun hi8=>?_) (fun hi8=>?_)
 ·obtain rfl:=oT hi8
  have h:bw [85,46]=1:=by kernel_rfl
  have hl:1≤x.length:=by omega
  refine zp1 ?_
  refine Wv tG rfl rfl rfl (by omega) (iN af 1 (fun _=>rfl) 0 (by(simp only[dnL]at *;omega))) ?_
  refine zy2 ?_
  refine zc rfl Tryz.func288 ((Nr (xat x 0) (eO v)) _) ?_
  refine zs5 ?_
  refine zp1 ?_
  refine z2 ?_ (q:=(by simp only[gF];((simp_all;omega))))
  refine Wa 93 rfl (mo _ _) ?_
  refine zs4 ?_
  refine zR ?_
  kernel_rfl
 have n6:=oF hi8
 refine Wj ?_
 refine zu3 ?_
 refine zR ?_
 rw[PA v name x n0 n1 n2 n3 n4 n5 n6];rfl
def tNm(v:VVm)(r:Option (VVm×List Int×Int)):PV:=match r with
 | some q=>uZ (eVm q.1) (sq af q.2.1) (i64 q.2.2) (boo true)
 | none=>uZ (eVm v) (sq af []) (i64 0) (boo false)
@[simp] theorem Ry (v : VVm) (r : Option (VVm × List Int × Int)) : aQ (tNm v r) := by cases r <;> simp [tNm]
theorem Oq:∀(v:VVm) (name:Str) (x:List Int),¬name=[60,35]→¬name=[35]→¬name=[35,83]→¬name=[72,79,76,68]→¬name=[83,73,71,78]→¬name=[35,62]→jm v name x=none:=by
 intro v name x n0 n1 n2 n3 n4 n5
 unfold jm
 simp only[n0,n1,n2,n3,n4,n5,if_false]
theorem zB(v:VVm)(x:List Int):jm v [35,62] x=some (nH v):=by kernel_rfl
theorem B1(v:VVm)(hv:bX v)(hc:ae v.conf.mem)(name:Str)(x:List Int)(hx:∀i,ae (xat x i))(hn:bw name≤x.length):ab Tryz.prog 168 [eVm v,str name,sq af x] (tNm v (jm v name x)):=by
 have f0:=hx 0
 have f1:=hx 1
 have he:=pE v.pic
 have hp:=hv.pic
 refine pW tG (rs:=[.cell 6 36,.tmp 7,.tmp 8,.tmp 9]) Tryz.func168 rfl rfl rfl (by simp) (by simp) (fun B=>?_)
 refine zu5 ?_
 refine zu4 ?_
 refine zu1 ?_
 refine zu1 ?_
 refine Ws ?_
 refine zu1 ?_
 refine Wl ?_
 refine zp1 ?_
 refine zq 26 ?_
 refine zs1 ?_
 refine Wi rfl (fun hi1=>?_) (fun hi1=>?_)
 ·obtain rfl:=oT hi1
  refine aa rfl ?_
  refine zc rfl Tryz.func289 ((E5) _) ?_
  refine zs1 ?_
  refine zu3 ?_
  refine zp5 ?_
  refine zs2 ?_
  refine zR ?_
  kernel_rfl
 have n0:=oF hi1
 refine zp1 ?_
 refine zq 29 ?_
 refine zs1 ?_
 refine Wi rfl (fun hi2=>?_) (fun hi2=>?_)
 ·obtain rfl:=oT hi2
  have h:bw [35]=2:=by kernel_rfl
  have hl:2≤x.length:=by omega
  refine Ws ?_
  refine ai [1,0,0,0,0,0,0,1,0,0,0,0,0,0,0,2,3,0,0,0] [0,1,2,3,4,5,6,7,8,9,10,11,12,13,14,15,16,17,18,19] mG rfl (by kernel_rfl) ?_
  refine z5 ?_
  refine z3 ?_
  refine z9i ?_
  iterate 2 refine z3 ?_
  refine z9i ?_
  refine z3 ?_
  refine z5 ?_
  refine Xc rfl rfl rfl rfl (fun _=>dC rfl Tryz.func286 rfl rfl ((uN v hv.mem) _)) ?_
  refine Xc rfl rfl rfl rfl (fun _=>dC rfl Tryz.func290 rfl rfl ((pC v.pic (xat x 0) (xat x 1) (eO v) hp) _)) ?_
  iterate 5 refine z3 ?_
  refine kw tG rfl rfl rfl rfl rfl trivial rfl ?_
  refine aZ tG rfl rfl rfl rfl rfl trivial ?_
  iterate 3 refine z3 ?_
  refine ah ?_
  refine zu2 ?_
  refine zu2 ?_
  refine aa rfl ?_
  refine zy3 ?_
  refine Wa 49 rfl (bsL af [_,_] rfl rfl) ?_
  refine zs1 ?_
  refine zu3 ?_
  refine zp5 ?_
  refine zs2 ?_
  refine zR ?_
  kernel_rfl
 have n1:=oF hi2
 refine zp1 ?_
 refine zq 51 ?_
 refine zs1 ?_
 refine Wi rfl (fun hi3=>?_) (fun hi3=>?_)
 ·obtain rfl:=oT hi3
  have h:bw [35,83]=2:=by kernel_rfl
  have hl:2≤x.length:=by omega
  refine Ws ?_
  refine ai [1,0,0,0,0,0,0,1,0,0,0,0,0,3,0] [0,1,2,3,4,5,6,7,8,9,10,11,12,13,14] mG rfl (by kernel_rfl) ?_
  refine z5 ?_
  refine z3 ?_
  refine z9i ?_
  iterate 2 refine z3 ?_
  refine z9i ?_
  refine z3 ?_
  refine z5 ?_
  refine Xc rfl rfl rfl rfl (fun _=>dC rfl Tryz.func286 rfl rfl ((uN v hv.mem) _)) ?_
  refine Xc rfl rfl rfl rfl (fun _=>dC rfl Tryz.func291 rfl rfl ((Mo v.pic (xat x 0) (xat x 1) (eO v) hp) _)) ?_
  iterate 3 refine z3 ?_
  refine aZ tG rfl rfl rfl rfl rfl trivial ?_
  refine z3 ?_
  refine ah ?_
  refine aa rfl ?_
  refine z1 ?_
  refine Wa 65 rfl (bsL af [_,_] rfl rfl) ?_
  refine zs1 ?_
  refine zu3 ?_
  refine zp5 ?_
  refine zs2 ?_
  refine zR ?_
  kernel_rfl
 have n2:=oF hi3
 refine zp1 ?_
 refine zq 67 ?_
 refine zs1 ?_
 refine Wi rfl (fun hi4=>?_) (fun hi4=>?_)
 ·obtain rfl:=oT hi4
  have h:bw [72,79,76,68]=1:=by kernel_rfl
  have hl:1≤x.length:=by omega
  refine ai [1,0,0,0,0,0,0,0,3,0] [0,1,2,3,4,5,6,7,8,9] mG rfl (by kernel_rfl) ?_
  refine z5 ?_
  refine z3 ?_
  refine z9i ?_
  refine z3 ?_
  refine Xc rfl rfl rfl rfl (fun _=>dC rfl Tryz.func292 rfl rfl ((uj v.pic (xat x 0) hp) _)) ?_
  iterate 3 refine z3 ?_
  refine aZ tG rfl rfl rfl rfl rfl trivial ?_
  refine z3 ?_
  refine ah ?_
  refine zu3 ?_
  refine zp5 ?_
  refine zs2 ?_
  refine zR ?_
  kernel_rfl
 have n3:=oF hi4
 refine zp1 ?_
 refine zq 77 ?_
 refine zs1 ?_
 refine Wi rfl (fun hi5=>?_) (fun hi5=>?_)
 ·obtain rfl:=oT hi5
  have h:bw [83,73,71,78]=1:=by kernel_rfl
  have hl:1≤x.length:=by omega
  refine ai [1,0,0,0,0,0,0,0,3,0] [0,1,2,3,4,5,6,7,8,9] mG rfl (by kernel_rfl) ?_
  refine z5 ?_
  refine z3 ?_
  refine z9i ?_
  refine z3 ?_
  refine Xc rfl rfl rfl rfl (fun _=>dC rfl Tryz.func293 rfl rfl ((Ju v.pic (xat x 0) hp) _)) ?_
  iterate 3 refine z3 ?_
  refine aZ tG rfl rfl rfl rfl rfl trivial ?_
  refine z3 ?_
  refine ah ?_
  refine zu3 ?_
  refine zp5 ?_
  refine zs2 ?_
  refine zR ?_
  kernel_rfl
 have n4:=oF hi5
 refine zp1 ?_
 refine zq 87 ?_
 refine zs1 ?_
 refine Wi rfl (fun hi6=>?_) (fun hi6=>?_)
 ·obtain rfl:=oT hi6
  refine zp1 ?_
  refine zc rfl Tryz.func294 ((LJ v.pic hp) _) ?_
  refine zs5 ?_
  refine Ws ?_
  refine zu2 ?_
  refine Wi rfl (fun hi7=>?_) (fun hi7=>?_)
  ·have z:¬(fK v.pic).2=0:=by simpa using hi7
   refine zp5 ?_
   refine zs1 ?_
   refine zR ?_
   rw[zB,nH,if_neg z];rfl
  have z:(fK v.pic).2=0:=by simpa using hi7
  refine Wj ?_
  refine zp5 ?_
  refine zy3 ?_
  refine Wa 105 rfl (rW _) ?_
  refine zc rfl Tryz.func89 ((km v.mem (W64 (v.conf.mem-136)) (fK v.pic).1 hv.mem (gO _) (by omega)) _) ?_
  refine zy5 ?_
  refine zs1 ?_
  refine zu3 ?_
  refine zu2 ?_
  refine zu2 ?_
  refine aa rfl ?_
  refine zy5 ?_
  refine z1 ?_
  refine Wa 118 rfl (kW _) ?_
  refine z1 ?_
  refine Wa 119 rfl (bsL af [_,_] rfl rfl) ?_
  refine zs1 ?_
  refine zu3 ?_
  refine zp5 ?_
  refine zs2 ?_
  refine zR ?_
  rw[zB,nH,if_pos z];rfl
 have n5:=oF hi6
 refine zu5 ?_
 refine zR ?_
 rw[Oq v name x n0 n1 n2 n3 n4 n5];rfl
def tRs(r:VVm×List Int×Int):PV:=da (eVm r.1) (sq af r.2.1) (i64 r.2.2)
@[simp] theorem RK (r : VVm × List Int × Int) : aQ (tRs r) := by simp [tRs]
theorem Qs:∀(v:VVm) (name:Str) (x:List Int),¬name=[72,69,82,69]→¬name=[65,82,71]→¬name=[83,69,76,70]→¬name=[78,79,87]→¬name=[62,66,79,68,89]→ng v name x=(v,[],-1):=by
 intro v name x n0 n1 n2 n3 n4
 unfold ng
 simp only[n0,n1,n2,n3,n4,if_false]
theorem ox(v:VVm)(x:List Int):ng v [62,66,79,68,89] x=kz v x:=by kernel_rfl
theorem IX(v:VVm)(hm:v.mem.b.length≤140737488355328)(name:Str)(x:List Int)(hx:∀i,ae (xat x i))(hn:bw name≤x.length):ab Tryz.prog 170 [eVm v,str name,sq af x] (tRs (ng v name x)):=by
 have f0:=hx 0
 refine pW tG (rs:=[.cell 6 36,.tmp 7,.tmp 8]) Tryz.func170 rfl rfl rfl (by simp) (by simp) (fun B=>?_)
 refine zu4 ?_
 refine Ws ?_
 refine zu1 ?_
 refine Wl ?_
 refine zp1 ?_
 refine zq 13 ?_
 refine zs1 ?_
 refine Wi rfl (fun hi1=>?_) (fun hi1=>?_)
 ·obtain rfl:=oT hi1
  refine Ws ?_
  refine V.ai [4,0,4,0,7,0,0] [0,1,2,3,4,5,6] mG rfl (by kernel_rfl) ?_
  refine V.gu 0 rfl rfl rfl rfl rfl (fun H2 h2=>ak (lO tG rfl) rfl rfl h2 rfl) ?_
  refine V.z3 ?_
  refine V.gu 0 rfl rfl rfl rfl rfl (fun H2 h2=>ak (lO tG rfl) rfl rfl h2 rfl) ?_
  refine V.z3 ?_
  refine V.Xa 17 rfl (bsL af [_] rfl rfl) ?_
  refine V.lM 1 tG rfl rfl rfl rfl rfl trivial rfl ?_
  iterate 2 refine V.z3 ?_
  refine V.ah ?_
  refine zR ?_
  kernel_rfl
 have n0:=oF hi1
 refine zp1 ?_
 refine zq 19 ?_
 refine zs1 ?_
 refine Wi rfl (fun hi2=>?_) (fun hi2=>?_)
 ·obtain rfl:=oT hi2
  refine Ws ?_
  refine V.ai [4,0,4,0,7,0,0] [0,1,2,3,4,5,6] mG rfl (by kernel_rfl) ?_
  refine V.gu 0 rfl rfl rfl rfl rfl (fun H2 h2=>ak (lO tG rfl) rfl rfl h2 rfl) ?_
  refine V.z3 ?_
  refine V.gu 0 rfl rfl rfl rfl rfl (fun H2 h2=>ak (lO tG rfl) rfl rfl h2 rfl) ?_
  refine V.z3 ?_
  refine V.Xa 23 rfl (bsL af [_] rfl rfl) ?_
  refine V.lM 1 tG rfl rfl rfl rfl rfl trivial rfl ?_
  iterate 2 refine V.z3 ?_
  refine V.ah ?_
  refine zR ?_
  kernel_rfl
 have n1:=oF hi2
 refine zp1 ?_
 refine zq 25 ?_
 refine zs1 ?_
 refine Wi rfl (fun hi3=>?_) (fun hi3=>?_)
 ·obtain rfl:=oT hi3
  refine Ws ?_
  refine V.ai [4,0,4,0,7,0,0] [0,1,2,3,4,5,6] mG rfl (by kernel_rfl) ?_
  refine V.gu 0 rfl rfl rfl rfl rfl (fun H2 h2=>ak (lO tG rfl) rfl rfl h2 rfl) ?_
  refine V.z3 ?_
  refine V.gu 0 rfl rfl rfl rfl rfl (fun H2 h2=>ak (lO tG rfl) rfl rfl h2 rfl) ?_
  refine V.z3 ?_
  refine V.Xa 29 rfl (bsL af [_] rfl rfl) ?_
  refine V.lM 1 tG rfl rfl rfl rfl rfl trivial rfl ?_
  iterate 2 refine V.z3 ?_
  refine V.ah ?_
  refine zR ?_
  kernel_rfl
 have n2:=oF hi3
 refine zp1 ?_
 refine zq 31 ?_
 refine zs1 ?_
 refine Wi rfl (fun hi4=>?_) (fun hi4=>?_)
 ·obtain rfl:=oT hi4
  refine Ws ?_
  refine V.ai [4,0,4,0,7,0,0] [0,1,2,3,4,5,6] mG rfl (by kernel_rfl) ?_
  refine V.gu 0 rfl rfl rfl rfl rfl (fun H2 h2=>ak (lO tG rfl) rfl rfl h2 rfl) ?_
  refine V.z3 ?_
  refine V.gu 0 rfl rfl rfl rfl rfl (fun H2 h2=>ak (lO tG rfl) rfl rfl h2 rfl) ?_
  refine V.z3 ?_
  refine V.Xa 35 rfl (bsL af [_] rfl rfl) ?_
  refine V.lM 1 tG rfl rfl rfl rfl rfl trivial rfl ?_
  iterate 2 refine V.z3 ?_
  refine V.ah ?_
  refine zR ?_
  kernel_rfl
 have n3:=oF hi4
 refine zp1 ?_
 refine zq 37 ?_
 refine zs1 ?_
 refine Wi rfl (fun hi5=>?_) (fun hi5=>?_)
 ·obtain rfl:=oT hi5
  have h:bw [62,66,79,68,89]=1:=by kernel_rfl
  have hl:1≤x.length:=by omega
  refine Ws ?_
  refine V.ai [4,0,0,0,0,0,0,0,0,0] [0,1,2,3,4,5,6,7,8,9] mG rfl (by kernel_rfl) ?_
  refine V.gu 0 rfl rfl rfl rfl rfl (fun H2 h2=>ak (lO tG rfl) rfl rfl h2 rfl) ?_
  refine V.z3 ?_
  refine V.Xi tG rfl rfl rfl rfl (fun _=>rfl) (by omega) (iN af 1 (fun _=>rfl) 0 (by(simp only[dnL]at *;omega))) ?_
  refine V.z3 ?_
  refine V.Xc rfl rfl rfl rfl (fun _=>dC rfl Tryz.func64 rfl rfl ((uV v (xat x 0) hm f0) _)) ?_
  iterate 5 refine V.z3 ?_
  refine V.ah ?_
  refine Ws ?_
  refine zp3 ?_
  refine Wb 48 rfl (fun hg1=>?_) (fun hg1=>?_)
  ·have h0:(aq v (xat x 0)).2=0:=beq_iff_eq.1 hg1
   refine zy3 ?_
   refine Wb 51 rfl (fun hg2=>?_) (fun hg2=>?_)
   ·have h1:(aq v (xat x 0)).1<257:=oT hg2
    iterate 2 refine z6 ?_
    refine zs2 ?_
    refine Wt rfl rfl ?_
    refine zu4 ?_
    refine zR ?_
    (rw[ox,kz,if_pos ⟨h0,by omega⟩];rfl)
   have h1:¬(aq v (xat x 0)).1<257:=oF hg2
   refine zs4 ?_
   refine Wi rfl (fun hi6=>?_) (fun hi6=>?_)
   ·have h2:260<(aq v (xat x 0)).1:=oT hi6
    refine zu4 ?_
    refine zR ?_
    (rw[ox,kz,if_pos ⟨h0,by omega⟩];rfl)
   have h2:¬260<(aq v (xat x 0)).1:=oF hi6
   refine Wj ?_
   refine Ws ?_
   refine V.ai [4,0,0,0,0,0,0,7,0,0] [0,1,2,3,4,5,6,7,8,9] mG rfl (by kernel_rfl) ?_
   refine V.gu 0 rfl rfl rfl rfl rfl (fun H2 h2=>ak (lO tG rfl) rfl rfl h2 rfl) ?_
   refine V.z3 ?_
   refine V.Xi tG rfl rfl rfl rfl (fun _=>rfl) (by omega) (iN af 1 (fun _=>rfl) 0 (by(simp only[dnL]at *;omega))) ?_
   iterate 3 refine V.z3 ?_
   refine V.Xa 62 rfl (bsL af [_] rfl rfl) ?_
   refine V.z3 ?_
   refine V.lM 1 tG rfl rfl rfl rfl rfl trivial rfl ?_
   iterate 2 refine V.z3 ?_
   refine V.ah ?_
   refine zR ?_
   (rw[ox,kz,if_neg (fun h=>by omega)];rfl)
  have h0:¬(aq v (xat x 0)).2=0:=beq_eq_false_iff_ne.1 hg1
  iterate 6 refine z6 ?_
  refine zs1 ?_
  refine Wf rfl rfl ?_
  refine Wj ?_
  refine Ws ?_
  refine V.ai [4,0,0,0,0,0,0,7,0,0] [0,1,2,3,4,5,6,7,8,9] mG rfl (by kernel_rfl) ?_
  refine V.gu 0 rfl rfl rfl rfl rfl (fun H2 h2=>ak (lO tG rfl) rfl rfl h2 rfl) ?_
  refine V.z3 ?_
  refine V.Xi tG rfl rfl rfl rfl (fun _=>rfl) (by omega) (iN af 1 (fun _=>rfl) 0 (by(simp only[dnL]at *;omega))) ?_
  iterate 3 refine V.z3 ?_
  refine V.Xa 62 rfl (bsL af [_] rfl rfl) ?_
  refine V.z3 ?_
  refine V.lM 1 tG rfl rfl rfl rfl rfl trivial rfl ?_
  iterate 2 refine V.z3 ?_
  refine V.ah ?_
  refine zR ?_
  (rw[ox,kz,if_neg (fun h=>by omega)];rfl)
 have n4:=oF hi5
 refine Wj ?_
 refine zu4 ?_
 refine zR ?_
 (rw[Qs v name x n0 n1 n2 n3 n4];rfl)
theorem Jz:∀(v:VVm) (name:Str) (x:List Int),¬name=[64]→¬name=[71,69,84,45,83,84,65,84,69]→¬name=[67,64]→¬name=[33]→¬name=[67,33]→¬name=[43,33]→¬name=[50,64]→¬name=[50,33]→¬name=[70,73,76,76]→¬name=[77,79,86,69]→¬name=[67,79,85,78,84]→¬name=[68,69,67,73,77,65,76]→¬name=[72,69,88]→¬name=[83,69,84,45,83,84,65,84,69]→¬name=[65,84,45,83,84,65,84,69]→cM v name x=none:=by
 intro v name x n0 n1 n2 n3 n4 n5 n6 n7 n8 n9 n10 n11 n12 n13 n14
 unfold cM
 simp only[n0,n1,n2,n3,n4,n5,n6,n7,n8,n9,n10,n11,n12,n13,n14,or_self,if_false]
theorem JE(v:VVm)(x:List Int):cM v [43,33] x=some (cu v (kG v x)):=by kernel_rfl
theorem NT(v:VVm)(x:List Int):cM v [50,64] x=some (fH v x):=by kernel_rfl
theorem N1(v:VVm)(x:List Int):cM v [50,33] x=some (cu v (jb v x)):=by kernel_rfl
theorem yf(v:VVm)(x:List Int):cM v [83,69,84,45,83,84,65,84,69] x=some (cU v x):=by kernel_rfl
theorem DR(v:VVm)(x:List Int):cM v [65,84,45,83,84,65,84,69] x=some (dG v x):=by kernel_rfl
theorem CS(v:VVm)(hv:bX v)(name:Str)(x:List Int)(hx:∀i,ae (xat x i))(hn:bw name≤x.length):ab Tryz.prog 164 [eVm v,str name,sq af x] (tNm v (cM v name x)):=by
 have f0:=hx 0
 have f1:=hx 1
 have f2:=hx 2
 have hb:v.mem.b.length≤140737488355328:=by have:=hv.mem.b;omega
 refine pW tG (rs:=[.cell 6 36,.tmp 7,.tmp 8,.tmp 9]) Tryz.func164 rfl rfl rfl (by simp) (by simp) (fun B=>?_)
 refine zu5 ?_
 refine zu4 ?_
 refine zu1 ?_
 refine zu1 ?_
 refine zu1 ?_
 refine Ws ?_
 refine zu1 ?_
 refine Wl ?_
 refine Ws ?_
 refine zp1 ?_
 refine zq 21 ?_
 refine zs1 ?_
 refine Wi rfl (fun hi1=>?_) (fun hi1=>?_)
 ·obtain rfl:=oT hi1
  have h:bw [64]=1:=by kernel_rfl
  have hl:1≤x.length:=by omega
  refine Wj ?_
  refine Wt rfl hi1 ?_
  refine Ws ?_
  refine ai [1,0,0,1,0,0,0,0,0,0] [0,1,2,3,4,5,6,7,8,9] mG rfl (by kernel_rfl) ?_
  refine z5 ?_
  refine z3 ?_
  refine z9i ?_
  refine z5 ?_
  refine Xc rfl rfl rfl rfl (fun _=>dC rfl Tryz.func62 rfl rfl ((gg v.mem (xat x 0) hb f0) _)) ?_
  iterate 5 refine z3 ?_
  refine ah ?_
  refine aa rfl ?_
  refine zy2 ?_
  refine Wa 32 rfl (bsL af [_] rfl rfl) ?_
  refine zs1 ?_
  refine zu3 ?_
  refine zp5 ?_
  refine zs2 ?_
  refine zR ?_
  kernel_rfl
 have n0:=oF hi1
 refine aa rfl ?_
 refine z1 ?_
 refine zq 22 ?_
 refine zs1 ?_
 refine Wi rfl (fun hi2=>?_) (fun hi2=>?_)
 ·obtain rfl:=oT hi2
  have h:bw [71,69,84,45,83,84,65,84,69]=1:=by kernel_rfl
  have hl:1≤x.length:=by omega
  refine Ws ?_
  refine ai [1,0,0,1,0,0,0,0,0,0] [0,1,2,3,4,5,6,7,8,9] mG rfl (by kernel_rfl) ?_
  refine z5 ?_
  refine z3 ?_
  refine z9i ?_
  refine z5 ?_
  refine Xc rfl rfl rfl rfl (fun _=>dC rfl Tryz.func62 rfl rfl ((gg v.mem (xat x 0) hb f0) _)) ?_
  iterate 5 refine z3 ?_
  refine ah ?_
  refine aa rfl ?_
  refine zy2 ?_
  refine Wa 32 rfl (bsL af [_] rfl rfl) ?_
  refine zs1 ?_
  refine zu3 ?_
  refine zp5 ?_
  refine zs2 ?_
  refine zR ?_
  kernel_rfl
 have n1:=oF hi2
 refine zp1 ?_
 refine zq 34 ?_
 refine zs1 ?_
 refine Wi rfl (fun hi3=>?_) (fun hi3=>?_)
 ·obtain rfl:=oT hi3
  have h:bw [67,64]=1:=by kernel_rfl
  have hl:1≤x.length:=by omega
  refine Ws ?_
  refine ai [1,0,0,1,0,0,0,0,0,0] [0,1,2,3,4,5,6,7,8,9] mG rfl (by kernel_rfl) ?_
  refine z5 ?_
  refine z3 ?_
  refine z9i ?_
  refine z5 ?_
  refine Xc rfl rfl rfl rfl (fun _=>dC rfl Tryz.func277 rfl rfl ((pg v.mem (xat x 0) hv.mem f0) _)) ?_
  iterate 5 refine z3 ?_
  refine ah ?_
  refine aa rfl ?_
  refine zy2 ?_
  refine Wa 44 rfl (bsL af [_] rfl rfl) ?_
  refine zs1 ?_
  refine zu3 ?_
  refine zp5 ?_
  refine zs2 ?_
  refine zR ?_
  kernel_rfl
 have n2:=oF hi3
 refine zp1 ?_
 refine zq 46 ?_
 refine zs1 ?_
 refine Wi rfl (fun hi4=>?_) (fun hi4=>?_)
 ·obtain rfl:=oT hi4
  have h:bw [33]=2:=by kernel_rfl
  have hl:2≤x.length:=by omega
  refine ai [1,0,0,1,0,0,1,0,0,0,0,3,0] [0,1,2,3,4,5,6,7,8,9,10,11,12] mG rfl (by kernel_rfl) ?_
  refine z5 ?_
  refine z3 ?_
  refine z9i ?_
  refine z5 ?_
  refine z3 ?_
  refine z9i ?_
  refine z5 ?_
  refine Xc rfl rfl rfl rfl (fun _=>dC rfl Tryz.func42 rfl rfl ((fy v.mem (xat x 1) (xat x 0) hv.mem f1) _)) ?_
  iterate 3 refine z3 ?_
  refine aZ tG rfl rfl rfl rfl rfl trivial ?_
  refine z3 ?_
  refine ah ?_
  refine zu3 ?_
  refine zp5 ?_
  refine zs2 ?_
  refine zR ?_
  kernel_rfl
 have n3:=oF hi4
 refine zp1 ?_
 refine zq 59 ?_
 refine zs1 ?_
 refine Wi rfl (fun hi5=>?_) (fun hi5=>?_)
 ·obtain rfl:=oT hi5
  have h:bw [67,33]=2:=by kernel_rfl
  have hl:2≤x.length:=by omega
  refine ai [1,0,0,1,0,0,1,0,0,0,0,3,0] [0,1,2,3,4,5,6,7,8,9,10,11,12] mG rfl (by kernel_rfl) ?_
  refine z5 ?_
  refine z3 ?_
  refine z9i ?_
  refine z5 ?_
  refine z3 ?_
  refine z9i ?_
  refine z5 ?_
  refine Xc rfl rfl rfl rfl (fun _=>dC rfl Tryz.func278 rfl rfl ((vy v.mem (xat x 1) (xat x 0) hv.mem f1) _)) ?_
  iterate 3 refine z3 ?_
  refine aZ tG rfl rfl rfl rfl rfl trivial ?_
  refine z3 ?_
  refine ah ?_
  refine zu3 ?_
  refine zp5 ?_
  refine zs2 ?_
  refine zR ?_
  kernel_rfl
 have n4:=oF hi5
 refine zp1 ?_
 refine zq 72 ?_
 refine zs1 ?_
 refine Wi rfl (fun hi6=>?_) (fun hi6=>?_)
 ·obtain rfl:=oT hi6
  have h:bw [43,33]=2:=by kernel_rfl
  have hl:2≤x.length:=by omega
  refine Ws ?_
  refine ai [1,0,0,1,0,0,0,0,0,0] [0,1,2,3,4,5,6,7,8,9] mG rfl (by kernel_rfl) ?_
  refine z5 ?_
  refine z3 ?_
  refine z9i ?_
  refine z5 ?_
  refine Xc rfl rfl rfl rfl (fun _=>dC rfl Tryz.func62 rfl rfl ((gg v.mem (xat x 1) hb f1) _)) ?_
  iterate 5 refine z3 ?_
  refine ah ?_
  refine zu2 ?_
  refine Wi rfl (fun hi7=>?_) (fun hi7=>?_)
  ·have z:(au v.mem (xat x 1)).2=0:=by simpa using hi7
   refine ai [1,0,0,1,0,0,0,1,0,0,0,0,0,3,0] [0,1,2,3,4,5,6,7,8,9,10,11,12,13,14] mG rfl (by kernel_rfl) ?_
   refine z5 ?_
   refine z3 ?_
   refine z9i ?_
   refine z5 ?_
   iterate 2 refine z3 ?_
   refine z9i ?_
   refine z5 ?_
   refine z3 ?_
   refine Xc rfl rfl rfl rfl (fun _=>dC rfl Tryz.func42 rfl rfl ((fy v.mem (xat x 1) (W64 ((au v.mem (xat x 1)).1+xat x 0)) hv.mem f1) _)) ?_
   iterate 3 refine z3 ?_
   refine aZ tG rfl rfl rfl rfl rfl trivial ?_
   refine z3 ?_
   refine ah ?_
   refine zu3 ?_
   refine zp5 ?_
   refine zs2 ?_
   refine zR ?_
   rw[JE,kG,if_pos z];rfl
  have z:¬(au v.mem (xat x 1)).2=0:=by simpa using hi7
  refine Wj ?_
  refine zu3 ?_
  refine zp5 ?_
  refine zs2 ?_
  refine zR ?_
  rw[JE,kG,if_neg z];rfl
 have n5:=oF hi6
 refine zp1 ?_
 refine zq 97 ?_
 refine zs1 ?_
 refine Wi rfl (fun hi8=>?_) (fun hi8=>?_)
 ·obtain rfl:=oT hi8
  have h:bw [50,64]=1:=by kernel_rfl
  have hl:1≤x.length:=by omega
  refine Ws ?_
  refine ai [1,0,0,1,0,0,0,0,0,0] [0,1,2,3,4,5,6,7,8,9] mG rfl (by kernel_rfl) ?_
  refine z5 ?_
  refine z3 ?_
  refine z9i ?_
  refine z5 ?_
  refine Xc rfl rfl rfl rfl (fun _=>dC rfl Tryz.func62 rfl rfl ((gg v.mem (xat x 0) hb f0) _)) ?_
  iterate 5 refine z3 ?_
  refine ah ?_
  refine zu2 ?_
  refine zu2 ?_
  refine Wi rfl (fun hi9=>?_) (fun hi9=>?_)
  ·have z:(au v.mem (xat x 0)).2=0:=by simpa using hi9
   refine Ws ?_
   refine ai [1,0,0,1,0,0,0,0,0,0,0] [0,1,2,3,4,5,6,7,8,9,10] mG rfl (by kernel_rfl) ?_
   refine z5 ?_
   refine z3 ?_
   refine z9i ?_
   refine z5 ?_
   refine z3 ?_
   refine Xc rfl rfl rfl rfl (fun _=>dC rfl Tryz.func62 rfl rfl ((gg v.mem (W64 (xat x 0+8)) hb (gO _)) _)) ?_
   iterate 5 refine z3 ?_
   refine ah ?_
   refine aa rfl ?_
   refine zy3 ?_
   refine Wa 120 rfl (bsL af [_,_] rfl rfl) ?_
   refine zs1 ?_
   refine zu3 ?_
   refine zp5 ?_
   refine zs2 ?_
   refine zR ?_
   rw[NT,fH,if_pos z];rfl
  have z:¬(au v.mem (xat x 0)).2=0:=by simpa using hi9
  refine Wj ?_
  refine zu3 ?_
  refine zp5 ?_
  refine zs2 ?_
  refine zR ?_
  rw[NT,fH,if_neg z];rfl
 have n6:=oF hi8
 refine zp1 ?_
 refine zq 122 ?_
 refine zs1 ?_
 refine Wi rfl (fun hi10=>?_) (fun hi10=>?_)
 ·obtain rfl:=oT hi10
  have h:bw [50,33]=3:=by kernel_rfl
  have hl:3≤x.length:=by omega
  refine Ws ?_
  refine ai [1,0,0,1,0,0,1,0,0,0,0,3,0] [0,1,2,3,4,5,6,7,8,9,10,11,12] mG rfl (by kernel_rfl) ?_
  refine z5 ?_
  refine z3 ?_
  refine z9i ?_
  refine z5 ?_
  refine z3 ?_
  refine z9i ?_
  refine z5 ?_
  refine Xc rfl rfl rfl rfl (fun _=>dC rfl Tryz.func42 rfl rfl ((fy v.mem (xat x 2) (xat x 1) hv.mem f2) _)) ?_
  iterate 3 refine z3 ?_
  refine aZ tG rfl rfl rfl rfl rfl trivial ?_
  refine z3 ?_
  refine ah ?_
  refine zu2 ?_
  refine Wi rfl (fun hi11=>?_) (fun hi11=>?_)
  ·have z:(aG v.mem (xat x 2) (xat x 1)).2=0:=by simpa using hi11
   refine ai [1,0,0,1,0,0,0,1,0,0,0,0,3,0] [0,1,2,3,4,5,6,7,8,9,10,11,12,13] mG rfl (by kernel_rfl) ?_
   refine z5 ?_
   refine z3 ?_
   refine z9i ?_
   refine z5 ?_
   iterate 2 refine z3 ?_
   refine z9i ?_
   refine z5 ?_
   refine Xc rfl rfl rfl rfl (fun _=>dC rfl Tryz.func42 rfl rfl ((fy (aG v.mem (xat x 2) (xat x 1)).1 (W64 (xat x 2+8)) (xat x 0) (sR hv.mem _ _ hv.old) (gO _)) _)) ?_
   iterate 3 refine z3 ?_
   refine aZ tG rfl rfl rfl rfl rfl trivial ?_
   refine z3 ?_
   refine ah ?_
   refine zu3 ?_
   refine zp5 ?_
   refine zs2 ?_
   refine zR ?_
   rw[N1,jb,if_pos z];rfl
  have z:¬(aG v.mem (xat x 2) (xat x 1)).2=0:=by simpa using hi11
  refine Wj ?_
  refine zu3 ?_
  refine zp5 ?_
  refine zs2 ?_
  refine zR ?_
  rw[N1,jb,if_neg z];rfl
 have n7:=oF hi10
 refine zp1 ?_
 refine zq 149 ?_
 refine zs1 ?_
 refine Wi rfl (fun hi12=>?_) (fun hi12=>?_)
 ·obtain rfl:=oT hi12
  have h:bw [70,73,76,76]=3:=by kernel_rfl
  have hl:3≤x.length:=by omega
  refine ai [1,0,0,1,0,0,1,0,0,1,0,0,0,0,3,0] [0,1,2,3,4,5,6,7,8,9,10,11,12,13,14,15] mG rfl (by kernel_rfl) ?_
  refine z5 ?_
  refine z3 ?_
  refine z9i ?_
  refine z5 ?_
  refine z3 ?_
  refine z9i ?_
  refine z5 ?_
  refine z3 ?_
  refine z9i ?_
  refine z5 ?_
  refine Xc rfl rfl rfl rfl (fun _=>dC rfl Tryz.func279 rfl rfl ((Ky v.mem (xat x 0) (xat x 1) (xat x 2) hv.mem f0 f1) _)) ?_
  iterate 3 refine z3 ?_
  refine aZ tG rfl rfl rfl rfl rfl trivial ?_
  refine z3 ?_
  refine ah ?_
  refine zu3 ?_
  refine zp5 ?_
  refine zs2 ?_
  refine zR ?_
  kernel_rfl
 have n8:=oF hi12
 refine zp1 ?_
 refine zq 165 ?_
 refine zs1 ?_
 refine Wi rfl (fun hi13=>?_) (fun hi13=>?_)
 ·obtain rfl:=oT hi13
  have h:bw [77,79,86,69]=3:=by kernel_rfl
  have hl:3≤x.length:=by omega
  refine ai [1,0,0,1,0,0,1,0,0,1,0,0,0,0,3,0] [0,1,2,3,4,5,6,7,8,9,10,11,12,13,14,15] mG rfl (by kernel_rfl) ?_
  refine z5 ?_
  refine z3 ?_
  refine z9i ?_
  refine z5 ?_
  refine z3 ?_
  refine z9i ?_
  refine z5 ?_
  refine z3 ?_
  refine z9i ?_
  refine z5 ?_
  refine Xc rfl rfl rfl rfl (fun _=>dC rfl Tryz.func280 rfl rfl ((IE v.mem (xat x 0) (xat x 1) (xat x 2) hv.mem f0 f1 f2) _)) ?_
  iterate 3 refine z3 ?_
  refine aZ tG rfl rfl rfl rfl rfl trivial ?_
  refine z3 ?_
  refine ah ?_
  refine zu3 ?_
  refine zp5 ?_
  refine zs2 ?_
  refine zR ?_
  kernel_rfl
 have n9:=oF hi13
 refine zp1 ?_
 refine zq 181 ?_
 refine zs1 ?_
 refine Wi rfl (fun hi14=>?_) (fun hi14=>?_)
 ·obtain rfl:=oT hi14
  have h:bw [67,79,85,78,84]=1:=by kernel_rfl
  have hl:1≤x.length:=by omega
  refine Ws ?_
  refine ai [1,0,0,1,0,0,0,0,0,0] [0,1,2,3,4,5,6,7,8,9] mG rfl (by kernel_rfl) ?_
  refine z5 ?_
  refine z3 ?_
  refine z9i ?_
  refine z5 ?_
  refine Xc rfl rfl rfl rfl (fun _=>dC rfl Tryz.func277 rfl rfl ((pg v.mem (xat x 0) hv.mem f0) _)) ?_
  iterate 5 refine z3 ?_
  refine ah ?_
  refine aa rfl ?_
  refine z1 ?_
  refine Wv tG rfl rfl rfl (by omega) (iN af 1 (fun _=>rfl) 0 (by(simp only[dnL]at *;omega))) ?_
  refine zy4 ?_
  refine Wa 195 rfl (bsL af [_,_] rfl rfl) ?_
  refine zs1 ?_
  refine zu3 ?_
  refine zp5 ?_
  refine zs2 ?_
  refine zR ?_
  kernel_rfl
 have n10:=oF hi14
 refine zp1 ?_
 refine zq 197 ?_
 refine zs1 ?_
 refine Wi rfl (fun hi15=>?_) (fun hi15=>?_)
 ·obtain rfl:=oT hi15
  refine aa rfl ?_
  refine z1 ?_
  refine zc rfl Tryz.func42 ((fy v.mem 0 10 hv.mem (by unfold ae;omega)) _) ?_
  refine zs5 ?_
  refine zu3 ?_
  refine zp5 ?_
  refine zs2 ?_
  refine zR ?_
  kernel_rfl
 have n11:=oF hi15
 refine zp1 ?_
 refine zq 204 ?_
 refine zs1 ?_
 refine Wi rfl (fun hi16=>?_) (fun hi16=>?_)
 ·obtain rfl:=oT hi16
  refine aa rfl ?_
  refine z1 ?_
  refine zc rfl Tryz.func42 ((fy v.mem 0 16 hv.mem (by unfold ae;omega)) _) ?_
  refine zs5 ?_
  refine zu3 ?_
  refine zp5 ?_
  refine zs2 ?_
  refine zR ?_
  kernel_rfl
 have n12:=oF hi16
 refine zp1 ?_
 refine zq 211 ?_
 refine zs1 ?_
 refine Wi rfl (fun hi17=>?_) (fun hi17=>?_)
 ·obtain rfl:=oT hi17
  have h:bw [83,69,84,45,83,84,65,84,69]=2:=by kernel_rfl
  have hl:2≤x.length:=by omega
  refine Ws ?_
  refine ai [1,0,0,1,0,0,0,0,0,0,0] [0,1,2,3,4,5,6,7,8,9,10] mG rfl (by kernel_rfl) ?_
  refine z5 ?_
  refine z3 ?_
  refine z9i ?_
  refine z5 ?_
  refine z3 ?_
  refine Xc rfl rfl rfl rfl (fun _=>dC rfl Tryz.func62 rfl rfl ((gg v.mem (W64 (xat x 1+8)) hb (gO _)) _)) ?_
  iterate 5 refine z3 ?_
  refine ah ?_
  refine Ws ?_
  refine zp3 ?_
  refine Wb 223 rfl (fun hg1=>?_) (fun hg1=>?_)
  ·have q1:(au v.mem (W64 (xat x 1+8))).2=0:=by simpa using hg1
   refine z1 ?_
   refine Wv tG rfl rfl rfl (by omega) (iN af 1 (fun _=>rfl) 0 (by(simp only[dnL]at *;omega))) ?_
   refine zy3 ?_
   refine Wb 228 rfl (fun hg2=>?_) (fun hg2=>?_)
   ·have q2:xat x 0<0:=oT hg2
    iterate 5 refine z6 ?_
    refine zs2 ?_
    refine Wt rfl rfl ?_
    refine aa rfl ?_
    refine zs1 ?_
    refine zu2 ?_
    refine Wf rfl (by rfl) ?_
    refine Wj ?_
    refine zu3 ?_
    refine zp5 ?_
    refine zs2 ?_
    refine zR ?_
    rw[yf,cU,show cR v (xat x 0) (xat x 1) = -24 from by unfold cR;rw[if_pos q1,if_pos (.inl q2)],if_neg (by decide)];rfl
   have q2:¬xat x 0<0:=oF hg2
   refine z1 ?_
   refine Wv tG rfl rfl rfl (by omega) (iN af 1 (fun _=>rfl) 0 (by(simp only[dnL]at *;omega))) ?_
   refine zs5 ?_
   refine Wi rfl (fun hi19=>?_) (fun hi19=>?_)
   ·have q3:(au v.mem (W64 (xat x 1+8))).1≤xat x 0:=oT hi19
    refine aa rfl ?_
    refine zs1 ?_
    refine zu2 ?_
    refine Wf rfl (by rfl) ?_
    refine Wj ?_
    refine zu3 ?_
    refine zp5 ?_
    refine zs2 ?_
    refine zR ?_
    rw[yf,cU,show cR v (xat x 0) (xat x 1) = -24 from by unfold cR;rw[if_pos q1,if_pos (.inr q3)],if_neg (by decide)];rfl
   have q3:¬(au v.mem (W64 (xat x 1+8))).1≤xat x 0:=oF hi19
   refine Wj ?_
   refine zu2 ?_
   refine Wt rfl (by omega) ?_
   refine ai [1,0,0,1,0,0,1,0,0,0,0,3,0] [0,1,2,3,4,5,6,7,8,9,10,11,12] mG rfl (by kernel_rfl) ?_
   refine z5 ?_
   refine z3 ?_
   refine z9i ?_
   refine z5 ?_
   refine z3 ?_
   refine z9i ?_
   refine z5 ?_
   refine Xc rfl rfl rfl rfl (fun _=>dC rfl Tryz.func42 rfl rfl ((fy v.mem (xat x 1) (xat x 0) hv.mem f1) _)) ?_
   iterate 3 refine z3 ?_
   refine aZ tG rfl rfl rfl rfl rfl trivial ?_
   refine z3 ?_
   refine ah ?_
   refine zu3 ?_
   refine zp5 ?_
   refine zs2 ?_
   refine zR ?_
   rw[yf,cU,show cR v (xat x 0) (xat x 1)=0 from by unfold cR;rw[if_pos q1,if_neg (fun h=>by omega)],if_pos rfl];rfl
  have q1:¬(au v.mem (W64 (xat x 1+8))).2=0:=by simpa using hg1
  iterate 11 refine z6 ?_
  refine zs1 ?_
  refine Wf rfl rfl ?_
  refine Wj ?_
  refine zu2 ?_
  refine Wf rfl (by omega) ?_
  refine Wj ?_
  refine zu3 ?_
  refine zp5 ?_
  refine zs2 ?_
  refine zR ?_
  rw[yf,cU,show cR v (xat x 0) (xat x 1)=(au v.mem (W64 ((xat x 1)+8))).2 from by unfold cR;rw[if_neg q1],if_neg q1];rfl
 have n13:=oF hi17
 refine zp1 ?_
 refine zq 250 ?_
 refine zs1 ?_
 refine Wi rfl (fun hi20=>?_) (fun hi20=>?_)
 ·obtain rfl:=oT hi20
  have h:bw [65,84,45,83,84,65,84,69]=3:=by kernel_rfl
  have hl:3≤x.length:=by omega
  refine Ws ?_
  refine ai [1,0,0,1,0,0,0,0,0,0,0] [0,1,2,3,4,5,6,7,8,9,10] mG rfl (by kernel_rfl) ?_
  refine z5 ?_
  refine z3 ?_
  refine z9i ?_
  refine z5 ?_
  refine z3 ?_
  refine Xc rfl rfl rfl rfl (fun _=>dC rfl Tryz.func62 rfl rfl ((gg v.mem (W64 (xat x 2+8)) hb (gO _)) _)) ?_
  iterate 5 refine z3 ?_
  refine ah ?_
  refine Ws ?_
  refine zp3 ?_
  refine Wb 262 rfl (fun hg3=>?_) (fun hg3=>?_)
  ·have q1:(au v.mem (W64 (xat x 2+8))).2=0:=by simpa using hg3
   refine z1 ?_
   refine Wv tG rfl rfl rfl (by omega) (iN af 1 (fun _=>rfl) 0 (by(simp only[dnL]at *;omega))) ?_
   refine zy3 ?_
   refine Wb 267 rfl (fun hg4=>?_) (fun hg4=>?_)
   ·have q2:xat x 1<0:=oT hg4
    iterate 5 refine z6 ?_
    refine zs2 ?_
    refine Wt rfl rfl ?_
    refine aa rfl ?_
    refine zs1 ?_
    refine zu2 ?_
    refine Wf rfl (by rfl) ?_
    refine Wj ?_
    refine zu3 ?_
    refine zp5 ?_
    refine zs2 ?_
    refine zR ?_
    rw[DR,dG,show cR v (xat x 1) (xat x 2) = -24 from by unfold cR;rw[if_pos q1,if_pos (.inl q2)],if_neg (by decide)];rfl
   have q2:¬xat x 1<0:=oF hg4
   refine z1 ?_
   refine Wv tG rfl rfl rfl (by omega) (iN af 1 (fun _=>rfl) 0 (by(simp only[dnL]at *;omega))) ?_
   refine zs5 ?_
   refine Wi rfl (fun hi22=>?_) (fun hi22=>?_)
   ·have q3:(au v.mem (W64 (xat x 2+8))).1≤xat x 1:=oT hi22
    refine aa rfl ?_
    refine zs1 ?_
    refine zu2 ?_
    refine Wf rfl (by rfl) ?_
    refine Wj ?_
    refine zu3 ?_
    refine zp5 ?_
    refine zs2 ?_
    refine zR ?_
    rw[DR,dG,show cR v (xat x 1) (xat x 2) = -24 from by unfold cR;rw[if_pos q1,if_pos (.inr q3)],if_neg (by decide)];rfl
   have q3:¬(au v.mem (W64 (xat x 2+8))).1≤xat x 1:=oF hi22
   refine Wj ?_
   refine zu2 ?_
   refine Wt rfl (by omega) ?_
   refine ai [1,0,0,1,0,0,0,1,0,0,0,0,1,0,0,0,0,3,0] [0,1,2,3,4,5,6,7,8,9,10,11,12,13,14,15,16,17,18] mG rfl (by kernel_rfl) ?_
   refine z5 ?_
   refine z3 ?_
   refine z9i ?_
   refine z5 ?_
   iterate 2 refine z3 ?_
   refine z9i ?_
   refine z5 ?_
   iterate 3 refine z3 ?_
   refine z9i ?_
   refine z5 ?_
   refine Xc rfl rfl rfl rfl (fun _=>dC rfl Tryz.func42 rfl rfl ((fy v.mem (W64 (W64 (xat x 2+16)+W64 (8*xat x 1))) (xat x 0) hv.mem (gO _)) _)) ?_
   iterate 3 refine z3 ?_
   refine aZ tG rfl rfl rfl rfl rfl trivial ?_
   refine z3 ?_
   refine ah ?_
   refine zu3 ?_
   refine zp5 ?_
   refine zs2 ?_
   refine zR ?_
   rw[DR,dG,show cR v (xat x 1) (xat x 2)=0 from by unfold cR;rw[if_pos q1,if_neg (fun h=>by omega)],if_pos rfl];rfl
  have q1:¬(au v.mem (W64 (xat x 2+8))).2=0:=by simpa using hg3
  iterate 11 refine z6 ?_
  refine zs1 ?_
  refine Wf rfl rfl ?_
  refine Wj ?_
  refine zu2 ?_
  refine Wf rfl (by omega) ?_
  refine Wj ?_
  refine zu3 ?_
  refine zp5 ?_
  refine zs2 ?_
  refine zR ?_
  rw[DR,dG,show cR v (xat x 1) (xat x 2)=(au v.mem (W64 ((xat x 2)+8))).2 from by unfold cR;rw[if_neg q1],if_neg q1];rfl
 have n14:=oF hi20
 refine zu5 ?_
 refine zR ?_
 rw[Jz v name x n0 n1 n2 n3 n4 n5 n6 n7 n8 n9 n10 n11 n12 n13 n14];rfl
theorem AG(v:VVm)(n:Int)(name:Str)(x:List Int)(h1:¬n≤58)(h2:¬n≤72)(r:List Int×Int)(e0:dn name x=some r)(k0:ab Tryz.prog 163 [str name,sq af x] (tRk (some r))):ab Tryz.prog 118 [eVm v,i64 n,str name,sq af x] (tRs (aY v n name x)):=by
 refine pW tG (rs:=[.cell 8 36,.tmp 9,.tmp 10]) Tryz.func118 rfl rfl rfl (by simp) (by simp) (fun B=>?_)
 refine zu4 ?_
 refine Ws ?_
 refine zu2 ?_
 refine Wf rfl (by exact decide_eq_false h1) ?_
 refine Wj ?_
 refine Ws ?_
 refine zu2 ?_
 refine Wf rfl (by exact decide_eq_false h2) ?_
 refine Wj ?_
 refine zp2 ?_
 refine zc rfl Tryz.func163 ((k0) _) ?_
 refine zy5 ?_
 refine zs2 ?_
 refine Ws ?_
 refine zu1 ?_
 refine Wt rfl (by rfl) ?_
 refine zp5 ?_
 refine zs1 ?_
 refine zR ?_
 unfold aY;simp only[if_neg h1,if_neg h2,e0];rfl
theorem Aq(v:VVm)(n:Int)(name:Str)(x:List Int)(h1:¬n≤58)(h2:¬n≤72)(e0:dn name x=none)(k0:ab Tryz.prog 163 [str name,sq af x] (tRk none))(r:VVm×List Int×Int)(e1:cM v name x=some r)(k1:ab Tryz.prog 164 [eVm v,str name,sq af x] (tNm v (some r))):ab Tryz.prog 118 [eVm v,i64 n,str name,sq af x] (tRs (aY v n name x)):=by
 refine pW tG (rs:=[.cell 8 36,.tmp 9,.tmp 10]) Tryz.func118 rfl rfl rfl (by simp) (by simp) (fun B=>?_)
 refine zu4 ?_
 refine Ws ?_
 refine zu2 ?_
 refine Wf rfl (by exact decide_eq_false h1) ?_
 refine Wj ?_
 refine Ws ?_
 refine zu2 ?_
 refine Wf rfl (by exact decide_eq_false h2) ?_
 refine Wj ?_
 refine zp2 ?_
 refine zc rfl Tryz.func163 ((k0) _) ?_
 refine zy5 ?_
 refine zs2 ?_
 refine Ws ?_
 refine zu1 ?_
 refine Wf rfl (by rfl) ?_
 refine Wj ?_
 refine zp3 ?_
 refine zc rfl Tryz.func164 ((k1) _) ?_
 refine zy5 ?_
 refine zs5 ?_
 refine Ws ?_
 refine zu1 ?_
 refine Wt rfl (by rfl) ?_
 refine zp5 ?_
 refine zs1 ?_
 refine zR ?_
 unfold aY;simp only[if_neg h1,if_neg h2,e0,e1];rfl
theorem Bn(v:VVm)(n:Int)(name:Str)(x:List Int)(h1:¬n≤58)(h2:¬n≤72)(e0:dn name x=none)(k0:ab Tryz.prog 163 [str name,sq af x] (tRk none))(e1:cM v name x=none)(k1:ab Tryz.prog 164 [eVm v,str name,sq af x] (tNm v none))(r:VVm×List Int×Int)(e2:fw v name x=some r)(k2:ab Tryz.prog 165 [eVm v,str name,sq af x] (tSp v (some r)))(hl:r.2.1=[]):ab Tryz.prog 118 [eVm v,i64 n,str name,sq af x] (tRs (aY v n name x)):=by
 refine pW tG (rs:=[.cell 8 36,.tmp 9,.tmp 10]) Tryz.func118 rfl rfl rfl (by simp) (by simp) (fun B=>?_)
 refine zu4 ?_
 refine Ws ?_
 refine zu2 ?_
 refine Wf rfl (by exact decide_eq_false h1) ?_
 refine Wj ?_
 refine Ws ?_
 refine zu2 ?_
 refine Wf rfl (by exact decide_eq_false h2) ?_
 refine Wj ?_
 refine zp2 ?_
 refine zc rfl Tryz.func163 ((k0) _) ?_
 refine zy5 ?_
 refine zs2 ?_
 refine Ws ?_
 refine zu1 ?_
 refine Wf rfl (by rfl) ?_
 refine Wj ?_
 refine zp3 ?_
 refine zc rfl Tryz.func164 ((k1) _) ?_
 refine zy5 ?_
 refine zs5 ?_
 refine Ws ?_
 refine zu1 ?_
 refine Wf rfl (by rfl) ?_
 refine Wj ?_
 refine zp3 ?_
 refine zc rfl Tryz.func165 ((k2) _) ?_
 refine zy5 ?_
 refine zs3 ?_
 refine Ws ?_
 refine zu1 ?_
 refine Wt rfl (by rfl) ?_
 refine zu5 ?_
 refine zR ?_
 unfold aY;simp only[if_neg h1,if_neg h2,e0,e1,e2];rw[tRs,hl];rfl
theorem vG(v:VVm)(n:Int)(name:Str)(x:List Int)(h1:¬n≤58)(h2:¬n≤72)(e0:dn name x=none)(k0:ab Tryz.prog 163 [str name,sq af x] (tRk none))(e1:cM v name x=none)(k1:ab Tryz.prog 164 [eVm v,str name,sq af x] (tNm v none))(e2:fw v name x=none)(k2:ab Tryz.prog 165 [eVm v,str name,sq af x] (tSp v none))(r:Str×Int)(e3:i8 v name x=some r)(k3:ab Tryz.prog 166 [eVm v,str name,sq af x] (tTx (some r)))(hz:¬r.2=0):ab Tryz.prog 118 [eVm v,i64 n,str name,sq af x] (tRs (aY v n name x)):=by
 refine pW tG (rs:=[.cell 8 36,.tmp 9,.tmp 10]) Tryz.func118 rfl rfl rfl (by simp) (by simp) (fun B=>?_)
 refine zu4 ?_
 refine Ws ?_
 refine zu2 ?_
 refine Wf rfl (by exact decide_eq_false h1) ?_
 refine Wj ?_
 refine Ws ?_
 refine zu2 ?_
 refine Wf rfl (by exact decide_eq_false h2) ?_
 refine Wj ?_
 refine zp2 ?_
 refine zc rfl Tryz.func163 ((k0) _) ?_
 refine zy5 ?_
 refine zs2 ?_
 refine Ws ?_
 refine zu1 ?_
 refine Wf rfl (by rfl) ?_
 refine Wj ?_
 refine zp3 ?_
 refine zc rfl Tryz.func164 ((k1) _) ?_
 refine zy5 ?_
 refine zs5 ?_
 refine Ws ?_
 refine zu1 ?_
 refine Wf rfl (by rfl) ?_
 refine Wj ?_
 refine zp3 ?_
 refine zc rfl Tryz.func165 ((k2) _) ?_
 refine zy5 ?_
 refine zs3 ?_
 refine Ws ?_
 refine zu1 ?_
 refine Wf rfl (by rfl) ?_
 refine Wj ?_
 refine zp3 ?_
 refine zc rfl Tryz.func166 ((k3) _) ?_
 refine zy5 ?_
 refine zs2 ?_
 refine Ws ?_
 refine zu1 ?_
 refine Wt rfl (by rfl) ?_
 refine Ws ?_
 refine zu2 ?_
 refine Wt rfl (by simpa using hz) ?_
 refine zu5 ?_
 refine zR ?_
 unfold aY;simp only[if_neg h1,if_neg h2,e0,e1,e2,e3,cZ,if_neg hz];rfl
theorem xF(v:VVm)(n:Int)(name:Str)(x:List Int)(h1:¬n≤58)(h2:¬n≤72)(e0:dn name x=none)(k0:ab Tryz.prog 163 [str name,sq af x] (tRk none))(e1:cM v name x=none)(k1:ab Tryz.prog 164 [eVm v,str name,sq af x] (tNm v none))(e2:fw v name x=none)(k2:ab Tryz.prog 165 [eVm v,str name,sq af x] (tSp v none))(r:Str×Int)(e3:i8 v name x=some r)(k3:ab Tryz.prog 166 [eVm v,str name,sq af x] (tTx (some r)))(hz:r.2=0)(pr:ab Tryz.prog 167 [eVm v,str r.1] (tVm (iY v r.1))):ab Tryz.prog 118 [eVm v,i64 n,str name,sq af x] (tRs (aY v n name x)):=by
 refine pW tG (rs:=[.cell 8 36,.tmp 9,.tmp 10]) Tryz.func118 rfl rfl rfl (by simp) (by simp) (fun B=>?_)
 refine zu4 ?_
 refine Ws ?_
 refine zu2 ?_
 refine Wf rfl (by exact decide_eq_false h1) ?_
 refine Wj ?_
 refine Ws ?_
 refine zu2 ?_
 refine Wf rfl (by exact decide_eq_false h2) ?_
 refine Wj ?_
 refine zp2 ?_
 refine zc rfl Tryz.func163 ((k0) _) ?_
 refine zy5 ?_
 refine zs2 ?_
 refine Ws ?_
 refine zu1 ?_
 refine Wf rfl (by rfl) ?_
 refine Wj ?_
 refine zp3 ?_
 refine zc rfl Tryz.func164 ((k1) _) ?_
 refine zy5 ?_
 refine zs5 ?_
 refine Ws ?_
 refine zu1 ?_
 refine Wf rfl (by rfl) ?_
 refine Wj ?_
 refine zp3 ?_
 refine zc rfl Tryz.func165 ((k2) _) ?_
 refine zy5 ?_
 refine zs3 ?_
 refine Ws ?_
 refine zu1 ?_
 refine Wf rfl (by rfl) ?_
 refine Wj ?_
 refine zp3 ?_
 refine zc rfl Tryz.func166 ((k3) _) ?_
 refine zy5 ?_
 refine zs2 ?_
 refine Ws ?_
 refine zu1 ?_
 refine Wt rfl (by rfl) ?_
 refine Ws ?_
 refine zu2 ?_
 refine Wf rfl (by simpa using hz) ?_
 refine Wj ?_
 refine zp2 ?_
 refine zc rfl Tryz.func167 ((pr) _) ?_
 refine zy5 ?_
 refine zs1 ?_
 refine zu5 ?_
 refine zR ?_
 unfold aY;simp only[if_neg h1,if_neg h2,e0,e1,e2,e3,cZ,if_pos hz];rfl
theorem zA(v:VVm)(n:Int)(name:Str)(x:List Int)(h1:¬n≤58)(h2:¬n≤72)(e0:dn name x=none)(k0:ab Tryz.prog 163 [str name,sq af x] (tRk none))(e1:cM v name x=none)(k1:ab Tryz.prog 164 [eVm v,str name,sq af x] (tNm v none))(e2:fw v name x=none)(k2:ab Tryz.prog 165 [eVm v,str name,sq af x] (tSp v none))(e3:i8 v name x=none)(k3:ab Tryz.prog 166 [eVm v,str name,sq af x] (tTx none))(r:VVm×List Int×Int)(e4:jm v name x=some r)(k4:ab Tryz.prog 168 [eVm v,str name,sq af x] (tNm v (some r))):ab Tryz.prog 118 [eVm v,i64 n,str name,sq af x] (tRs (aY v n name x)):=by
 refine pW tG (rs:=[.cell 8 36,.tmp 9,.tmp 10]) Tryz.func118 rfl rfl rfl (by simp) (by simp) (fun B=>?_)
 refine zu4 ?_
 refine Ws ?_
 refine zu2 ?_
 refine Wf rfl (by exact decide_eq_false h1) ?_
 refine Wj ?_
 refine Ws ?_
 refine zu2 ?_
 refine Wf rfl (by exact decide_eq_false h2) ?_
 refine Wj ?_
 refine zp2 ?_
 refine zc rfl Tryz.func163 ((k0) _) ?_
 refine zy5 ?_
 refine zs2 ?_
 refine Ws ?_
 refine zu1 ?_
 refine Wf rfl (by rfl) ?_
 refine Wj ?_
 refine zp3 ?_
 refine zc rfl Tryz.func164 ((k1) _) ?_
 refine zy5 ?_
 refine zs5 ?_
 refine Ws ?_
 refine zu1 ?_
 refine Wf rfl (by rfl) ?_
 refine Wj ?_
 refine zp3 ?_
 refine zc rfl Tryz.func165 ((k2) _) ?_
 refine zy5 ?_
 refine zs3 ?_
 refine Ws ?_
 refine zu1 ?_
 refine Wf rfl (by rfl) ?_
 refine Wj ?_
 refine zp3 ?_
 refine zc rfl Tryz.func166 ((k3) _) ?_
 refine zy5 ?_
 refine zs2 ?_
 refine Ws ?_
 refine zu1 ?_
 refine Wf rfl (by rfl) ?_
 refine Wj ?_
 refine zp3 ?_
 refine zc rfl Tryz.func168 ((k4) _) ?_
 refine zy5 ?_
 refine zs5 ?_
 refine Ws ?_
 refine zu1 ?_
 refine Wt rfl (by rfl) ?_
 refine zp5 ?_
 refine zs1 ?_
 refine zR ?_
 unfold aY;simp only[if_neg h1,if_neg h2,e0,e1,e2,e3,e4];rfl
theorem KI(v:VVm)(n:Int)(name:Str)(x:List Int)(h1:¬n≤58)(h2:¬n≤72)(e0:dn name x=none)(k0:ab Tryz.prog 163 [str name,sq af x] (tRk none))(e1:cM v name x=none)(k1:ab Tryz.prog 164 [eVm v,str name,sq af x] (tNm v none))(e2:fw v name x=none)(k2:ab Tryz.prog 165 [eVm v,str name,sq af x] (tSp v none))(e3:i8 v name x=none)(k3:ab Tryz.prog 166 [eVm v,str name,sq af x] (tTx none))(e4:jm v name x=none)(k4:ab Tryz.prog 168 [eVm v,str name,sq af x] (tNm v none))(r:VVm×List Int×Int)(e5:iI v name x=some r)(k5:ab Tryz.prog 169 [eVm v,str name,sq af x] (tNm v (some r))):ab Tryz.prog 118 [eVm v,i64 n,str name,sq af x] (tRs (aY v n name x)):=by
 refine pW tG (rs:=[.cell 8 36,.tmp 9,.tmp 10]) Tryz.func118 rfl rfl rfl (by simp) (by simp) (fun B=>?_)
 refine zu4 ?_
 refine Ws ?_
 refine zu2 ?_
 refine Wf rfl (by exact decide_eq_false h1) ?_
 refine Wj ?_
 refine Ws ?_
 refine zu2 ?_
 refine Wf rfl (by exact decide_eq_false h2) ?_
 refine Wj ?_
 refine zp2 ?_
 refine zc rfl Tryz.func163 ((k0) _) ?_
 refine zy5 ?_
 refine zs2 ?_
 refine Ws ?_
 refine zu1 ?_
 refine Wf rfl (by rfl) ?_
 refine Wj ?_
 refine zp3 ?_
 refine zc rfl Tryz.func164 ((k1) _) ?_
 refine zy5 ?_
 refine zs5 ?_
 refine Ws ?_
 refine zu1 ?_
 refine Wf rfl (by rfl) ?_
 refine Wj ?_
 refine zp3 ?_
 refine zc rfl Tryz.func165 ((k2) _) ?_
 refine zy5 ?_
 refine zs3 ?_
 refine Ws ?_
 refine zu1 ?_
 refine Wf rfl (by rfl) ?_
 refine Wj ?_
 refine zp3 ?_
 refine zc rfl Tryz.func166 ((k3) _) ?_
 refine zy5 ?_
 refine zs2 ?_
 refine Ws ?_
 refine zu1 ?_
 refine Wf rfl (by rfl) ?_
 refine Wj ?_
 refine zp3 ?_
 refine zc rfl Tryz.func168 ((k4) _) ?_
 refine zy5 ?_
 refine zs5 ?_
 refine Ws ?_
 refine zu1 ?_
 refine Wf rfl (by rfl) ?_
 refine Wj ?_
 refine zp3 ?_
 refine zc rfl Tryz.func169 ((k5) _) ?_
 refine zy5 ?_
 refine zs5 ?_
 refine Ws ?_
 refine zu1 ?_
 refine Wt rfl (by rfl) ?_
 refine zp5 ?_
 refine zs1 ?_
 refine zR ?_
 unfold aY;simp only[if_neg h1,if_neg h2,e0,e1,e2,e3,e4,e5];rfl
theorem GF(v:VVm)(n:Int)(name:Str)(x:List Int)(h1:¬n≤58)(h2:¬n≤72)(e0:dn name x=none)(k0:ab Tryz.prog 163 [str name,sq af x] (tRk none))(e1:cM v name x=none)(k1:ab Tryz.prog 164 [eVm v,str name,sq af x] (tNm v none))(e2:fw v name x=none)(k2:ab Tryz.prog 165 [eVm v,str name,sq af x] (tSp v none))(e3:i8 v name x=none)(k3:ab Tryz.prog 166 [eVm v,str name,sq af x] (tTx none))(e4:jm v name x=none)(k4:ab Tryz.prog 168 [eVm v,str name,sq af x] (tNm v none))(e5:iI v name x=none)(k5:ab Tryz.prog 169 [eVm v,str name,sq af x] (tNm v none))(r:VVm×List Int×Int)(e6:ng v name x=r)(k6:ab Tryz.prog 170 [eVm v,str name,sq af x] (tRs r)):ab Tryz.prog 118 [eVm v,i64 n,str name,sq af x] (tRs (aY v n name x)):=by
 refine pW tG (rs:=[.cell 8 36,.tmp 9,.tmp 10]) Tryz.func118 rfl rfl rfl (by simp) (by simp) (fun B=>?_)
 refine zu4 ?_
 refine Ws ?_
 refine zu2 ?_
 refine Wf rfl (by exact decide_eq_false h1) ?_
 refine Wj ?_
 refine Ws ?_
 refine zu2 ?_
 refine Wf rfl (by exact decide_eq_false h2) ?_
 refine Wj ?_
 refine zp2 ?_
 refine zc rfl Tryz.func163 ((k0) _) ?_
 refine zy5 ?_
 refine zs2 ?_
 refine Ws ?_
 refine zu1 ?_
 refine Wf rfl (by rfl) ?_
 refine Wj ?_
 refine zp3 ?_
 refine zc rfl Tryz.func164 ((k1) _) ?_
 refine zy5 ?_
 refine zs5 ?_
 refine Ws ?_
 refine zu1 ?_
 refine Wf rfl (by rfl) ?_
 refine Wj ?_
 refine zp3 ?_
 refine zc rfl Tryz.func165 ((k2) _) ?_
 refine zy5 ?_
 refine zs3 ?_
 refine Ws ?_
 refine zu1 ?_
 refine Wf rfl (by rfl) ?_
 refine Wj ?_
 refine zp3 ?_
 refine zc rfl Tryz.func166 ((k3) _) ?_
 refine zy5 ?_
 refine zs2 ?_
 refine Ws ?_
 refine zu1 ?_
 refine Wf rfl (by rfl) ?_
 refine Wj ?_
 refine zp3 ?_
 refine zc rfl Tryz.func168 ((k4) _) ?_
 refine zy5 ?_
 refine zs5 ?_
 refine Ws ?_
 refine zu1 ?_
 refine Wf rfl (by rfl) ?_
 refine Wj ?_
 refine zp3 ?_
 refine zc rfl Tryz.func169 ((k5) _) ?_
 refine zy5 ?_
 refine zs5 ?_
 refine Ws ?_
 refine zu1 ?_
 refine Wf rfl (by rfl) ?_
 refine Wj ?_
 refine zp3 ?_
 refine zc rfl Tryz.func170 ((k6) _) ?_
 refine zy5 ?_
 refine zs1 ?_
 refine zR ?_
 unfold aY;simp only[if_neg h1,if_neg h2,e0,e1,e2,e3,e4,e5,e6];rfl
theorem Js(v:VVm)(n:Int)(name:Str)(x:List Int)(h1:n≤58)(hl:2≤x.length)(f0:ae (xat x 0))(f1:ae (xat x 1)):ab Tryz.prog 118 [eVm v,i64 n,str name,sq af x] (tRs (aY v n name x)):=by
 refine pW tG (rs:=[.cell 8 36,.tmp 9,.tmp 10]) Tryz.func118 rfl rfl rfl (by simp) (by simp) (fun B=>?_)
 refine zu4 ?_
 refine Ws ?_
 refine zu2 ?_
 refine Wt rfl (by exact decide_eq_true h1) ?_
 refine Ws ?_
 refine ai [0,0,0,1,0,0,1,0,0,0,0,0,0,0,0] [0,1,2,3,4,5,6,7,8,9,10,11,12,13,14] mG rfl (by kernel_rfl) ?_
 iterate 2 refine z3 ?_
 refine z9i ?_
 refine z5 ?_
 refine z3 ?_
 refine z9i ?_
 refine z5 ?_
 refine Xc rfl rfl rfl rfl (fun _=>dC rfl Tryz.func162 rfl rfl ((M6 name (xat x 0) (xat x 1) f0 f1) _)) ?_
 iterate 7 refine z3 ?_
 refine ah ?_
 refine zp3 ?_
 refine Wa 55 rfl (bsL af [_] rfl rfl) ?_
 refine zs4 ?_
 refine zR ?_
 unfold aY;simp only[if_pos h1];rfl
theorem Lh(v:VVm)(n:Int)(name:Str)(x:List Int)(h1:¬n≤58)(h2:n≤72)(hl:1≤x.length)(f0:ae (xat x 0)):ab Tryz.prog 118 [eVm v,i64 n,str name,sq af x] (tRs (aY v n name x)):=by
 refine pW tG (rs:=[.cell 8 36,.tmp 9,.tmp 10]) Tryz.func118 rfl rfl rfl (by simp) (by simp) (fun B=>?_)
 refine zu4 ?_
 refine Ws ?_
 refine zu2 ?_
 refine Wf rfl (by exact decide_eq_false h1) ?_
 refine Wj ?_
 refine Ws ?_
 refine zu2 ?_
 refine Wt rfl (by exact decide_eq_true h2) ?_
 refine zp2 ?_
 refine Wv tG rfl rfl rfl (by omega) (iN af 1 (fun _=>rfl) 0 (by(simp only[dnL]at *;omega))) ?_
 refine z1 ?_
 refine zc rfl Tryz.func125 ((xB name (xat x 0) f0) _) ?_
 refine zs5 ?_
 refine zp3 ?_
 refine Wa 69 rfl (bsL af [_] rfl rfl) ?_
 refine zs3 ?_
 refine zR ?_
 unfold aY;simp only[if_neg h1,if_pos h2];rfl
end Go.Proofs.YtiibjcnedbncjaaGreatDoor
