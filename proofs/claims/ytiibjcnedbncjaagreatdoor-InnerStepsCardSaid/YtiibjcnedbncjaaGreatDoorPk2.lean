import Derived.BigQuiet
import Derived.Deep.CutBlock
import Derived.Deep.DeepCutAuto
import Derived.Deep.QuietTactic
import Derived.Ground.Names2Prog
import Derived.Ground.SlbCloneProg
import Derived.Ground.SlgnProg
import Derived.Laws.BitsAllLaws
import Derived.Lib.Hide
import Derived.Lib.ItoaNum
import Derived.Outline
import Derived.Shelf.Bits.Mul64
import Derived.Shelf.Bytes.SlClone
import Derived.Shelf.Bytes.SlEqualAll
import Derived.Shelf.Bytes.Small
import Derived.Shelf.Slices.Clone
import Derived.Shelf.Slices.Empties2
import Derived.Shelf.Slices.Equal
import Derived.Shelf.SlicesE.Clone
import Derived.Shelf.Small.Bits
import Derived.Shelf.Strconv.Itoa0
import Derived.Shelf.Strings.Builder1
import Derived.Shelf.Strings.Builder2
import Derived.Shelf.Strings.BuilderF
import Derived.Shelf.Strings.Prefix
import Derived.Shelf.Strings.Repeat
import Derived.Test.YtiibjcnedbncjaaGreatDoorProg
import Derived.Test.YtiibjcnedbncjaaGreatDoorPk1
set_option linter.unusedVariables false
set_option linter.unusedSimpArgs false
set_option maxRecDepth 100000
set_option maxHeartbeats 40000000
namespace Go.Proofs.YtiibjcnedbncjaaGreatDoor
open Go.RowKit
section
variable {P : Program} {B : Nat → Nat → Prop} {n : Nat} {md : Region.Mode} {ops : Array Oper} {cl : Nat → Nat}
def YU(P:Program)(B:Nat→Nat→Prop)(ops:Array Oper)(o:Oper)(T:Nat→PV)(H:List Ob)(x:PV)(H':List Ob):Prop :=
 (aj ops T o=some true∧(br P B o T H x H'∨gA P B o T H x H'))∨(aj ops T o=some false∧x=.val undef∧H'=H)
def Rk(H H2:List Ob):Prop:=∀xs e,H[0]?=some (Ob.cells xs e)→∃ys,H2[0]?=some (Ob.cells ys e)∧ys.take 27=xs.take 27
theorem Rk.refl(H:List Ob):Rk H H:=fun xs e h=>⟨xs,h,rfl⟩
def FU(P:Program)(B:Nat→Nat→Prop)(ops:Array Oper)(c:Nat)(o:Oper)(T:Nat→PV)(H:List Ob)(x:PV)(H':List Ob):Prop :=
 match c with
 | 0=>H'=H∧∀H2,YU P B ops o T H2 x H2
 | 1=>H'=H∧∀E,YU P B ops o T (H++E) x (H++E)
 | 2=>∃E,H'=H++E
 | 4=>H'=H∧∀H2,Rk H H2→YU P B ops o T H2 x H2
 | 5=>Rk H H'
 | _=>True
def gI(a b:Nat):Bool:=Nat.beq a 0||Nat.beq b 0||(Nat.beq a 1&&Nat.ble b 2)||(Nat.beq a 4&&(Nat.beq b 5||Nat.beq b 1))
theorem YU.congr{o:Oper}{T T':Nat→PV}{H H':List Ob}{x:PV}(h:∀t∈o.looksAt ops,T' t=T t)(y:YU P B ops o T H x H'):YU P B ops o T' H x H':=by
 have hw:aj ops T' o=aj ops T o:=by
  unfold aj
  cases hg:o.guard with
  | none=>rfl
  | some q =>
   obtain⟨g,b⟩:=q
   simp only
   cases hd:(ops[g]?).bind (·.dst)with
   | none=>rfl
   | some d=>simp only;rw[h d (ll hg hd)]
 have ho:∀z∈o.op.operands.toList,opv T' z=opv T z:=fun z hz=>oG fun t ht=>h t (qn (by rw[←ht];exact hz))
 rcases y with ⟨h1,h2|h2⟩|⟨h1,h2⟩
 ·exact .inl ⟨by rw[hw];exact h1,.inl fun σ w a s k=>h2 σ w a s (fun z hz=>by rw[←ho z hz];exact k z hz)⟩
 ·exact .inl ⟨by rw[hw];exact h1,.inr fun σ w a s k=>h2 σ w a s (fun z hz=>by rw[←ho z hz];exact k z hz)⟩
 exact .inr ⟨by rw[hw];exact h1,h2⟩
theorem FU.congr{c:Nat}{o:Oper}{T T':Nat→PV}{H H':List Ob}{x:PV}(h:∀t∈o.looksAt ops,T' t=T t)(y:FU P B ops c o T H x H'):FU P B ops c o T' H x H':=by
 match c,y with
 | 0,y=>exact⟨y.1,fun H2=>(y.2 H2).congr h⟩
 | 1,y=>exact⟨y.1,fun E=>(y.2 E).congr h⟩
 | 2,y=>exact y
 | 3,_=>trivial
 | 4,y=>exact⟨y.1,fun H2 h2=>(y.2 H2 h2).congr h⟩
 | 5,y=>exact y
 | c+6,_=>trivial
def qU(P:Program)(B:Nat→Nat→Prop)(ops:Array Oper)(cl:Nat→Nat)(i:Nat)(K:(Nat→PV)→List Ob→Prop)(T:Nat→PV)(H:List Ob):Prop :=
 match ops[i]? with
 | none=>K T H
 | some o=>∃x H',YU P B ops o T H x H'∧FU P B ops (cl i) o T H x H'∧K (al o.dst x T) H'
def lR(P:Program)(B:Nat→Nat→Prop)(md:Region.Mode)(ops:Array Oper)(cl:Nat→Nat)(Q:(Nat→PV)→List Ob→Prop):Nat→Array Bool→(Nat→PV)→List Ob→Prop
 | 0,listed,T,H=>Region.ready md ops listed=[]∧Q T H
 | fuel+1,listed,T,H=>(Region.ready md ops listed=[]→Q T H)∧∀i∈Region.ready md ops listed,qU P B ops cl i (lR P B md ops cl Q fuel (listed.setIfInBounds i true)) T H
theorem dN(hall:ei n ops=true){Q':Exit→Act→World→Prop}{Q:(Nat→PV)→List Ob→Prop}{H0:List Ob}{σ0:Nat→Option Nat}{w0:World}(hQ:∀T H σ w a,jz B n T H σ w a→di B H0 σ0 w0 H σ w→Q T H→Q' .normal a w):
  ∀(fuel:Nat) (listed:Array Bool) (T:Nat→PV) (H:List Ob) (σ:Nat→Option Nat) (w:World) (a:Act),jz B n T H σ w a→di B H0 σ0 w0 H σ w→lR P B md ops cl Q fuel listed T H→wpAny P md ops Q' fuel listed a w
 | 0,_,_,_,_,_,_,g,st,h=>⟨h.1,hQ _ _ _ _ _ g st h.2⟩
 | fuel+1,listed,T,H,σ,w,a,g,st,h=>by
  refine⟨fun h0=>hQ _ _ _ _ _ g st (h.1 h0),fun i hi=>?_⟩
  have h1:=h.2 i hi
  unfold qU at h1
  unfold wpOp
  cases ho:ops[i]? with
  | none=>simp only[ho]at h1 ⊢;exact dN hall hQ fuel _ T H σ w a g st h1
  | some o =>
   simp only[ho]at h1 ⊢
   obtain⟨x,H',hy,_,hk⟩:=h1
   have hd:∀j,o.dst=some j→Nat.blt j n=true:=fun j hj=>dW hall i j (by rw[ho];exact hj)
   have hgd:∀q,aj ops T o=some q→Region.wanted o (yielded ops a.tmps)=q:=fun q hq=>ku (dW hall) g hq
   rcases hy with ⟨hw,hdo|hdo⟩|⟨hw,rfl,rfl⟩
   ·rw[if_pos (hgd true hw)]
    refine .inl ?_
    obtain⟨v,w',σ',h2,h3,h4,h5⟩:=hdo σ w a g.sim (fun y _=>jG g.rep y)
    have k:=dN hall hQ fuel _ _ _ σ' w' _ (fE hd g h3 h4 h5) (st.trans h5) hk
    unfold Oper.wp
    rcases h2 with h2|⟨h2,rfl⟩
    ·rw[h2];exact k
    rw[h2];exact k
   ·rw[if_pos (hgd true hw)]
    refine .inl ?_
    obtain⟨f,args,h2,hc⟩:=hdo σ w a g.sim (fun y _=>jG g.rep y)
    unfold Oper.wp
    rw[h2]
    refine Calls.mono hc ?_
    rintro e w' ⟨v,σ',rfl,h3,h4,h5⟩
    exact dN hall hQ fuel _ _ _ σ' w' _ (fE hd g h3 h4 h5) (st.trans h5) hk
   rw[if_neg (by rw[hgd false hw];simp)]
   exact dN hall hQ fuel _ _ _ σ w _ (fE hd g (aD _ _) g.sim (di.refl _ _ _ _)) st hk
theorem Dx{ci cj:Nat}{oi oj:Oper}{T:Nat→PV}{H Hi Hj:List Ob}{x y:PV}(hc:gI ci cj=true)(h1:∀t∈oj.looksAt ops,al oi.dst x T t=T t)(h2:∀t∈oi.looksAt ops,al oj.dst y T t=T t)
  (yi:YU P B ops oi T H x Hi) (fi:FU P B ops ci oi T H x Hi) (yj:YU P B ops oj (al oi.dst x T) Hi y Hj) (fj:FU P B ops cj oj (al oi.dst x T) Hi y Hj) :
  ∃H',YU P B ops oj T H y H'∧FU P B ops cj oj T H y H'∧YU P B ops oi (al oj.dst y T) H' x Hj∧FU P B ops ci oi (al oj.dst y T) H' x Hj:=by
 have b1:∀t∈oj.looksAt ops,T t=al oi.dst x T t:=fun t ht=>(h1 t ht).symm
 have yj':=yj.congr b1
 have fj':=fj.congr b1
 simp only[gI,Bool.or_eq_true,Bool.and_eq_true,Nat.beq_eq,Nat.ble_eq]at hc
 rcases hc with ((rfl|rfl)|⟨rfl,hj⟩)|⟨rfl,hj⟩
 ·obtain⟨rfl,hl⟩:=fi
  exact⟨Hj,yj',fj',(hl Hj).congr h2,rfl,fun H2=>(hl H2).congr h2⟩
 ·obtain⟨rfl,hl⟩:=fj'
  exact⟨H,hl H,⟨rfl,hl⟩,yi.congr h2,fi.congr h2⟩
 ·obtain⟨rfl,hl⟩:=fi
  have:∃E,Hj=Hi++E:=by
   match cj,hj,fj' with
   | 0,_,fj'=>exact⟨[],by rw[fj'.1];simp⟩
   | 1,_,fj'=>exact⟨[],by rw[fj'.1];simp⟩
   | 2,_,fj'=>exact fj'
   | c+3,hj,_=>omega
  obtain⟨E,rfl⟩:=this
  exact⟨Hi++E,yj',fj',(hl E).congr h2,rfl,fun E2=>by rw[List.append_assoc];exact(hl (E++E2)).congr h2⟩
 obtain⟨rfl,hl⟩:=fi
 have hr:Rk Hi Hj:=by
  rcases hj with rfl|rfl
  ·exact fj'
  rw[fj'.1];exact Rk.refl _
 exact⟨Hj,yj',fj',(hl Hj hr).congr h2,rfl,fun H2 h3=>(hl H2 (fun xs e h4=>by
  obtain⟨ys,h5,h6⟩:=hr xs e h4
  obtain⟨zs,h7,h8⟩:=h3 ys e h5
  exact⟨zs,h7,h8.trans h6⟩)).congr h2⟩
theorem pF{Q:(Nat→PV)→List Ob→Prop}{i:Nat}{oi:Oper}{x:PV}(hi:ops[i]?=some oi):∀(fuel:Nat) (listed:Array Bool) (T:Nat→PV) (H Hi:List Ob),
  (∀j oj,ops[j]?=some oj→j≠i→listed.getD j true=false→(∀e∈oj.after,Region.binds md e=true→e.on≠i)→oi.apart ops oj=true∧gI (cl i) (cl j)=true) →
  i∈Region.ready md ops listed→YU P B ops oi T H x Hi→FU P B ops (cl i) oi T H x Hi→lR P B md ops cl Q fuel (listed.setIfInBounds i true) (al oi.dst x T) Hi→lR P B md ops cl Q (fuel+1) listed T H:=by
 intro fuel
 have self:∀(fuel:Nat) (listed:Array Bool) (T:Nat→PV) (H Hi:List Ob),YU P B ops oi T H x Hi→FU P B ops (cl i) oi T H x Hi→lR P B md ops cl Q fuel (listed.setIfInBounds i true) (al oi.dst x T) Hi→qU P B ops cl i (lR P B md ops cl Q fuel (listed.setIfInBounds i true)) T H:=by
  intro fuel listed T H Hi hy hf h
  unfold qU
  simp only[hi]
  exact⟨x,Hi,hy,hf,h⟩
 induction fuel with
 | zero =>
  intro listed T H Hi _ hr hy hf h
  refine⟨fun h0=>(by rw[h0]at hr;cases hr),fun j hj=>?_⟩
  by_cases hji:j=i
  ·subst hji;exact self 0 listed T H Hi hy hf h
  have:=ready_mono hj hji
  rw[h.1]at this
  cases this
 | succ fuel ih =>
  intro listed T H Hi hfree hr hy hf h
  refine⟨fun h0=>(by rw[h0]at hr;cases hr),fun j hj=>?_⟩
  by_cases hji:j=i
  ·subst hji;exact self (fuel+1) listed T H Hi hy hf h
  have h1:=h.2 j (ready_mono hj hji)
  obtain⟨hjun,oj,hoj,hall⟩:=mem_ready.1 hj
  have hnot:∀e∈oj.after,Region.binds md e=true→e.on≠i:=fun e he hb heq=>by
   have a1:=hall e he hb
   have a0:=(mem_ready.1 hr).1
   rw[heq]at a1
   rcases Nat.lt_or_ge i listed.size with h'|h'
   ·simp[h']at a0 a1;rw[a0]at a1;cases a1
   simp[Array.getElem?_eq_none h']at a1
  obtain⟨hap,hcp⟩:=hfree j oj hoj hji hjun hnot
  obtain⟨l1,l2,l3⟩:=kX hap
  unfold qU at h1 ⊢
  simp only[hoj]at h1 ⊢
  obtain⟨y,Hj,hyj,hfj,hk⟩:=h1
  obtain⟨H',k1,k2,k3,k4⟩:=Dx hcp (fun t ht=>iD (l1 t ht)) (fun t ht=>iD (l2 t ht)) hy hf hyj hfj
  refine⟨y,H',k1,k2,ih (listed.setIfInBounds j true) _ H' Hj (fun k ok hk hki hun hno=>?_) (ready_mono hr (Ne.symm hji)) k3 k4 ?_⟩
  ·refine hfree k ok hk hki ?_ hno
   by_cases hjk:j=k
   ·subst hjk;exact hjun
   rw[getD_set_ne true hjk]at hun;exact hun
  rw[Array.setIfInBounds_comm _ _ hji,oZ _ _ _ l3]
  exact hk
def AZ(md:Region.Mode)(ops:Array Oper)(cl:Nat→Nat)(listed:Array Bool)(i:Nat)(oi:Oper):Bool :=
 ops.toList.zipIdx.all fun q=>Nat.beq q.2 i||listed.getD q.2 true||(q.1.after.any fun e=>Region.binds md e&&Nat.beq e.on i)||(oi.apart ops q.1&&gI (cl i) (cl q.2))
def uo(md:Region.Mode)(ops:Array Oper)(cl:Nat→Nat):List Nat→Array Bool→Bool
 | [],listed=>(Region.ready md ops listed).isEmpty
 | i::l,listed=>(Region.ready md ops listed).contains i&&(match ops[i]? with|some oi=>AZ md ops cl listed i oi|none=>false)&&uo md ops cl l (listed.setIfInBounds i true)
theorem pO{listed:Array Bool}{i:Nat}{oi:Oper}(h:AZ md ops cl listed i oi=true):∀j oj,ops[j]?=some oj→j≠i→listed.getD j true=false→(∀e∈oj.after,Region.binds md e=true→e.on≠i)→oi.apart ops oj=true∧gI (cl i) (cl j)=true:=by
 intro j oj hj hji hun hno
 have h1:=List.all_eq_true.1 h (oj,j) (te (by rw[Array.getElem?_toList];exact hj))
 simp only[Bool.or_eq_true,Bool.and_eq_true,Nat.beq_eq]at h1
 rcases h1 with ((h1|h1)|h1)|h1
 ·exact absurd h1 hji
 ·rw[hun]at h1;cases h1
 ·obtain⟨e,he,h3⟩:=Array.any_eq_true'.1 h1
  simp only[Bool.and_eq_true,Nat.beq_eq]at h3
  exact absurd h3.2 (hno e he h3.1)
 exact h1
def WU(P:Program)(B:Nat→Nat→Prop)(n:Nat)(ops:Array Oper)(cl:Nat→Nat):List Nat→(Nat→PV)→List Ob→((Nat→PV)→List Ob→Prop)→Prop
 | [],T,H,K=>K T H
 | i::l,T,H,K=>∃o,ops[i]?=some o∧∃x H',YU P B ops o T H x H'∧FU P B ops (cl i) o T H x H'∧WU P B n ops cl l (al o.dst x T) H' K
theorem nr{Q:(Nat→PV)→List Ob→Prop}:∀(l:List Nat) (listed:Array Bool) (T:Nat→PV) (H:List Ob),uo md ops cl l listed=true→WU P B n ops cl l T H Q→lR P B md ops cl Q l.length listed T H
 | [],listed,T,H,hB,h=>⟨by simpa[uo]using hB,h⟩
 | i::l,listed,T,H,hB,h=>by
  simp only[uo,Bool.and_eq_true]at hB
  obtain⟨⟨hr,hf⟩,hB'⟩:=hB
  obtain⟨o,ho,x,H',hy,hfu,hK⟩:=h
  rw[ho]at hf
  exact pF ho l.length listed T H H' (pO hf) (by simpa using hr) hy hfu (nr l _ _ _ hB' hK)
def Bl(l:List Nat)(i:Nat):Nat:=l.getD i 3
def zF(md:Region.Mode)(ops:Array Oper)(cl:List Nat)(ord:List Nat):Bool:=Nat.beq ord.length ops.size&&uo md ops (Bl cl) ord (Array.replicate ops.size false)
variable {T : Nat → PV} {H : List Ob} {Q : Exit → (Nat → PV) → List Ob → Prop}
theorem ai{id:Nat}(cl ord:List Nat)(hm:P.follows .mixedOrders=true)(hall:ei n ops=true)(hB:zF .any ops cl ord=true)(h:WU P B n ops (Bl cl) ord T H (fun T' H'=>Q .normal T' H')):W P B n (.region id ops true) T H Q:=by
 intro σ w a g
 simp only[zF,Bool.and_eq_true,Nat.beq_eq]at hB
 refine wp_region_any hm ?_
 have hd:bg w {w with drawn:=w.drawn+1}:=bg.drew w
 obtain⟨s',st⟩:=eM g.sim hd
 have hA:=nr (P:=P) (B:=B) (n:=n) (md:=.any) ord (Array.replicate ops.size false) T H hB.2 h
 rw[hB.1]at hA
 exact dN (P:=P) (md:=.any) hall (H0:=H) (σ0:=σ) (w0:=w) (Q':=xo B n H σ w Q) (fun T' H' σ' w' a' g' st' hq=>⟨T',H',σ',hq,g',st'⟩) ops.size _ T H σ _ a ⟨s',fun i=>(g.rep i).mono st.le,g.size,g.defers⟩ st hA
variable {o : Oper} {l : List Nat} {i : Nat} {K : (Nat → PV) → List Ob → Prop} {x : PV} {H' : List Ob} {G : List (Nat × TD)} {p : Prop} {d : Option Tmp}
theorem ah(h:K T H):WU P B n ops cl [] T H K:=h
theorem KM{t:TypeId}{td:TD}{y:Operand}{off:Nat}{xs:List PV}{e:TypeId}(f:ap P t td)(ha:td.agg=false)(ho:o.op=.load t y)(hy:opv T y=.ptr 0 off)(hi:H[0]?=some (.cells xs e))(hr:(xs.take 27)[off]?=some x)
  (h0:ops[i]?=some o) (hc:cl i=4) (hd:nfD n o.dst=some d) (hw:aj ops T o=some true) (k:WU P B n ops cl l (al d x T) H K):WU P B n ops cl (i::l) T H K:=by
 have key:∀H2,Rk H H2→YU P B ops o T H2 x H2:=fun H2 h2=>by
  obtain⟨ys,h3,h4⟩:=h2 xs e hi
  refine .inl ⟨hw,.inl (ak f ho hy h3 ?_)⟩
  unfold mu;rw[ha]
  rw[←h4,List.getElem?_take]at hr
  split at hr
  ·exact hr
  cases hr
 exact⟨o,h0,x,H,key H (Rk.refl H),by rw[hc];exact⟨rfl,key⟩,(cm hd).1▸k⟩
theorem K2(h0:ops[i]?=some o)(hc:cl i=5)(hd:nfD n o.dst=some d)(hw:aj ops T o=some true)(h:gA P B o T H x H')(hr:Rk H H')(k:WU P B n ops cl l (al d x T) H' K):WU P B n ops cl (i::l) T H K :=
 ⟨o,h0,x,H',.inl ⟨hw,.inr h⟩,by rw[hc];exact hr,(cm hd).1▸k⟩
theorem cI(h0:ops[i]?=some o)(hc:cl i=0)(hd:nfD n o.dst=some d)(hw:aj ops T o=some true)(h:∀H2,br P B o T H2 x H2)(k:WU P B n ops cl l (al d x T) H K):WU P B n ops cl (i::l) T H K :=
 ⟨o,h0,x,H,.inl ⟨hw,.inl (h H)⟩,by rw[hc];exact⟨rfl,fun H2=>.inl ⟨hw,.inl (h H2)⟩⟩,(cm hd).1▸k⟩
theorem Xc(h0:ops[i]?=some o)(hc:cl i=0)(hd:nfD n o.dst=some d)(hw:aj ops T o=some true)(h:∀H2,gA P B o T H2 x H2)(k:WU P B n ops cl l (al d x T) H K):WU P B n ops cl (i::l) T H K :=
 ⟨o,h0,x,H,.inl ⟨hw,.inr (h H)⟩,by rw[hc];exact⟨rfl,fun H2=>.inl ⟨hw,.inr (h H2)⟩⟩,(cm hd).1▸k⟩
theorem Xe(hG:cP P G=true)(h0:ops[i]?=some o)(hc:cl i=0)(hd:nfD n o.dst=some d)(hw:aj ops T o=some true)(h:∀H2,evS G T H2 o.type o.op=some (x,H2,p))(hp:p)(k:WU P B n ops cl l (al d x T) H K):WU P B n ops cl (i::l) T H K :=
 cI h0 hc hd hw (fun H2=>ek hG rfl (mX (h H2)) hp) k
theorem Xi{y:PV}(hG:cP P G=true)(h0:ops[i]?=some o)(hc:cl i=0)(hd:nfD n o.dst=some d)(hw:aj ops T o=some true)(h:∀H2,evS G T H2 o.type o.op=some (x,H2,p))(hp:p)(hi:Imp x y)(k:WU P B n ops cl l (al d y T) H K):WU P B n ops cl (i::l) T H K :=
 cI h0 hc hd hw (fun H2=>(ek hG rfl (mX (h H2)) hp).imp hi) k
theorem xW(h0:ops[i]?=some o)(hc:Nat.ble (cl i) 3=true)(hd:nfD n o.dst=some d)(hw:aj ops T o=some false)(k:WU P B n ops cl l (al d (.val undef) T) H K):WU P B n ops cl (i::l) T H K:=by
 refine⟨o,h0,_,H,.inr ⟨hw,rfl,rfl⟩,?_,(cm hd).1▸k⟩
 match cl i with
 | 0=>exact⟨rfl,fun H2=>.inr ⟨hw,rfl,rfl⟩⟩
 | 1=>exact⟨rfl,fun E=>.inr ⟨hw,rfl,rfl⟩⟩
 | 2=>exact⟨[],by simp⟩
 | 3=>trivial
 | 4=>exact⟨rfl,fun H2 _=>.inr ⟨hw,rfl,rfl⟩⟩
 | 5=>exact Rk.refl _
 | c+6=>trivial
theorem Xf(hG:cP P G=true)(h0:ops[i]?=some o)(hc:cl i=1)(hd:nfD n o.dst=some d)(hw:aj ops T o=some true)(h:∀E,evS G T (H++E) o.type o.op=some (x,H++E,p))(hp:p)(k:WU P B n ops cl l (al d x T) H K):WU P B n ops cl (i::l) T H K :=
 ⟨o,h0,x,H,.inl ⟨hw,.inl (by have:=ek (P:=P) (B:=B) (o:=o) hG rfl (mX (h [])) hp;rwa [List.append_nil]at this)⟩,by rw[hc];exact⟨rfl,fun E=>.inl ⟨hw,.inl (ek hG rfl (mX (h E)) hp)⟩⟩,(cm hd).1▸k⟩
theorem kw{E:List Ob}(hG:cP P G=true)(h0:ops[i]?=some o)(hc:cl i=2)(hd:nfD n o.dst=some d)(hw:aj ops T o=some true)(h:evN G T H o.type o.op=some (x,H',p))(hp:p)(hH:H'=H++E)(k:WU P B n ops cl l (al d x T) H' K):WU P B n ops cl (i::l) T H K :=
 ⟨o,h0,x,H',.inl ⟨hw,.inl (ek hG rfl (nd h) hp)⟩,by rw[hc];exact⟨E,hH⟩,(cm hd).1▸k⟩
theorem aZ(hG:cP P G=true)(h0:ops[i]?=some o)(hc:cl i=3)(hd:nfD n o.dst=some d)(hw:aj ops T o=some true)(h:evN G T H o.type o.op=some (x,H',p))(hp:p)(k:WU P B n ops cl l (al d x T) H' K):WU P B n ops cl (i::l) T H K :=
 ⟨o,h0,x,H',.inl ⟨hw,.inl (ek hG rfl (nd h) hp)⟩,by rw[hc];trivial,(cm hd).1▸k⟩
theorem ej(h0:ops[i]?=some o)(hc:cl i=3)(hd:nfD n o.dst=some d)(hw:aj ops T o=some true)(h:br P B o T H x H')(k:WU P B n ops cl l (al d x T) H' K):WU P B n ops cl (i::l) T H K :=
 ⟨o,h0,x,H',.inl ⟨hw,.inl h⟩,by rw[hc];trivial,(cm hd).1▸k⟩
theorem kK(h0:ops[i]?=some o)(hc:cl i=3)(hd:nfD n o.dst=some d)(hw:aj ops T o=some true)(h:gA P B o T H x H')(k:WU P B n ops cl l (al d x T) H' K):WU P B n ops cl (i::l) T H K :=
 ⟨o,h0,x,H',.inl ⟨hw,.inr h⟩,by rw[hc];trivial,(cm hd).1▸k⟩
theorem bZ(d:Nat){b:Bool}(hT:T d=.val (.bool b))(h1:b=true→WU P B n ops cl l (upd d (.val (.bool true)) T) H K)(h2:b=false→WU P B n ops cl l (upd d (.val (.bool false)) T) H K):WU P B n ops cl l T H K:=by
 have e:∀q,b=q→upd d (.val (.bool q)) T=T:=by
  rintro q rfl
  funext i
  by_cases hi:i=d
  ·subst hi;rw[dt,hT]
  rw[cp _ _ _ _ hi]
 cases hb:b with
 | true=>have:=h1 hb;rwa [e true hb]at this
 | false=>have:=h2 hb;rwa [e false hb]at this
theorem Xa(d:Nat){x y:PV}(hT:T d=x)(hxy:x=y)(h1:WU P B n ops cl l (upd d y T) H K):WU P B n ops cl l T H K:=by
 have e:upd d y T=T:=by
  funext i
  by_cases hi:i=d
  ·subst hi;rw[dt,hT,hxy]
  rw[cp _ _ _ _ hi]
 rwa [e]at h1
theorem J6{H':List Ob}(hH:H'=H)(h1:WU P B n ops cl l T H' K):WU P B n ops cl l T H K:=by subst hH;exact h1
end
theorem dnL:(∀(p:Prop) [Decidable p],(decide p=true)=p)∧(∀(p:Prop) [Decidable p],(decide p=false)=¬p)∧(∀b:Bool,((!b)=true)=(b=false))∧(∀b:Bool,((!b)=false)=(b=true)) ∧
  (∀a b:Bool,((a&&b)=true)=(a=true∧b=true))∧(∀a b:Bool,((a||b)=true)=(a=true∨b=true))∧(∀a b:Bool,((a&&b)=false)=(a=false∨b=false))∧(∀a b:Bool,((a||b)=false)=(a=false∧b=false)) ∧
  (∀b:Bool,(¬(b=true))=(b=false))∧(∀(α:Type) [BEq α] [LawfulBEq α] (a b:α),((a==b)=true)=(a=b))∧(∀(α:Type) [BEq α] [LawfulBEq α] (a b:α),((a==b)=false)=(a≠b)) ∧
  (∀(α:Type) [BEq α] [LawfulBEq α] (a b:α),((a != b)=true)=(a≠b))∧(∀(α:Type) (a b:α),(a≠b)=¬(a=b))∧(∀(α:Type) [BEq α] [LawfulBEq α] (a b:α),((a != b)=false)=(a=b))∧((false=true)=False)∧((true=false)=False) ∧
  (∀p:Prop,(False↔p)=¬p)∧(∀p:Prop,(True↔p)=p)∧(∀p:Prop,(p↔False)=¬p)∧(∀p:Prop,(p↔True)=p):=by
 refine⟨?_,?_,?_,?_,?_,?_,?_,?_,?_,?_,?_,?_,?_,?_,?_,?_,?_,?_,?_,?_⟩<;>intros<;>first|(simp;done)|(rw[Bool.and_eq_false_iff];done)
open Go.RowKit
def nF:TD:=⟨1,8,[.val .nilFunc],.other⟩
def tys:List (Nat×TD):=[
 (1,nF),(2,⟨1,8,[.val (.int .i64 0)],.int .i64⟩),
 (3,⟨1,8,[.val (.int .i64 0)],.int .i64⟩),
 (4,⟨1,1,[.val (.bool false)],.bool⟩),
 (5,⟨1,1,[.val (.int .u8 0)],.int .u8⟩),
 (6,⟨1,1,[.val (.int .u8 0)],.int .u8⟩),
 (7,⟨4,24,[.val (.int .i64 0),.val (.int .i64 0),.val (.bool false),.val (.int .u8 0)],.struct [(0,1,false),(1,1,false),(2,1,false),(3,1,false)]⟩),
 (8,⟨4,24,[.val (.int .i64 0),.val (.int .i64 0),.val (.bool false),.val (.int .u8 0)],.struct [(0,1,false),(1,1,false),(2,1,false),(3,1,false)]⟩),
 (9,⟨1,16,[.val (.string ⟨#[]⟩)],.str⟩),
 (10,⟨1,16,[.val (.string ⟨#[]⟩)],.str⟩),
 (11,⟨1,16,[.val (.string ⟨#[]⟩)],.str⟩),
 (12,⟨1,8,[.val (.int .u64 0)],.int .u64⟩),
 (13,⟨2,24,[.val (.string ⟨#[]⟩),.val (.int .u64 0)],.struct [(0,1,false),(1,1,false)]⟩),
 (14,⟨2,24,[.val (.string ⟨#[]⟩),.val (.int .u64 0)],.struct [(0,1,false),(1,1,false)]⟩),
 (15,⟨1,8,[.val (.pointer none)],.other⟩),(16,⟨1,8,[.val (.pointer none)],.other⟩),(17,⟨1,8,[.val (.pointer none)],.other⟩),(18,⟨1,8,[.val (.pointer none)],.struct [(0,1,false)]⟩),
 (19,⟨1,8,[.val (.pointer none)],.struct [(0,1,false)]⟩),
 (20,⟨1,16,[.val .nilIface],.other⟩),(21,⟨1,4,[.val (.int .i32 0)],.int .i32⟩),
 (22,⟨5,40,[.val (.int .i64 0),.val (.int .i64 0),.val (.int .i64 0),.val (.int .i64 0),.val (.int .i64 0)],.struct [(0,1,false),(1,1,false),(2,1,false),(3,1,false),(4,1,false)]⟩),
 (23,⟨5,40,[.val (.int .i64 0),.val (.int .i64 0),.val (.int .i64 0),.val (.int .i64 0),.val (.int .i64 0)],.struct [(0,1,false),(1,1,false),(2,1,false),(3,1,false),(4,1,false)]⟩),
 (24,⟨1,24,[.seq 0 [] .clip],.slice 5⟩),
 (25,⟨1,24,[.seq 0 [] .clip],.slice 96⟩),
 (26,⟨2,48,[.seq 0 [] .clip,.seq 0 [] .clip],.struct [(0,1,false),(1,1,false)]⟩),
 (27,⟨2,48,[.seq 0 [] .clip,.seq 0 [] .clip],.struct [(0,1,false),(1,1,false)]⟩),
 (28,⟨1,24,[.seq 0 [] .clip],.slice 3⟩),
 (29,⟨1,24,[.seq 0 [] .clip],.slice 125⟩),
 (30,⟨1,24,[.seq 0 [] .clip],.slice 98⟩),
 (31,⟨2,32,[.seq 0 [] .clip,.val (.bool false)],.struct [(0,1,false),(1,1,false)]⟩),
 (32,⟨2,32,[.seq 0 [] .clip,.val (.bool false)],.struct [(0,1,false),(1,1,false)]⟩),
 (33,⟨1,24,[.seq 0 [] .clip],.slice 136⟩),
 (34,⟨1,24,[.seq 0 [] .clip],.slice 138⟩),
 (35,⟨23,344,[.val (.int .i64 0),.val (.int .i64 0),.val (.int .i64 0),.val (.int .i64 0),.val (.int .i64 0),.seq 0 [] .clip,.seq 0 [] .clip,.val (.int .i64 0),.seq 0 [] .clip,.seq 0 [] .clip,.seq 0 [] .clip,.seq 0 [] .clip,.val (.int .i64 0),.seq 0 [] .clip,.seq 0 [] .clip,.val (.bool false),.seq 0 [] .clip,.val (.int .i64 0),.val (.int .i64 0),.val (.int .i64 0),.val (.int .i64 0),.val (.int .i64 0),.seq 0 [] .clip],.struct [(0,5,true),(5,2,true),(7,1,false),(8,1,false),(9,1,false),(10,1,false),(11,1,false),(12,1,false),(13,1,false),(14,2,true),(16,1,false),(17,1,false),(18,1,false),(19,1,false),(20,1,false),(21,1,false),(22,1,false)]⟩),
 (36,⟨23,344,[.val (.int .i64 0),.val (.int .i64 0),.val (.int .i64 0),.val (.int .i64 0),.val (.int .i64 0),.seq 0 [] .clip,.seq 0 [] .clip,.val (.int .i64 0),.seq 0 [] .clip,.seq 0 [] .clip,.seq 0 [] .clip,.seq 0 [] .clip,.val (.int .i64 0),.seq 0 [] .clip,.seq 0 [] .clip,.val (.bool false),.seq 0 [] .clip,.val (.int .i64 0),.val (.int .i64 0),.val (.int .i64 0),.val (.int .i64 0),.val (.int .i64 0),.seq 0 [] .clip],.struct [(0,5,true),(5,2,true),(7,1,false),(8,1,false),(9,1,false),(10,1,false),(11,1,false),(12,1,false),(13,1,false),(14,2,true),(16,1,false),(17,1,false),(18,1,false),(19,1,false),(20,1,false),(21,1,false),(22,1,false)]⟩),
 (37,⟨27,376,[.val (.int .i64 0),.val (.int .i64 0),.val (.int .i64 0),.val (.int .i64 0),.val (.int .i64 0),.seq 0 [] .clip,.seq 0 [] .clip,.val (.int .i64 0),.seq 0 [] .clip,.seq 0 [] .clip,.seq 0 [] .clip,.seq 0 [] .clip,.val (.int .i64 0),.seq 0 [] .clip,.seq 0 [] .clip,.val (.bool false),.seq 0 [] .clip,.val (.int .i64 0),.val (.int .i64 0),.val (.int .i64 0),.val (.int .i64 0),.val (.int .i64 0),.seq 0 [] .clip,.val (.int .i64 0),.val (.int .i64 0),.val (.bool false),.val (.int .i64 0)],.struct [(0,23,true),(23,1,false),(24,1,false),(25,1,false),(26,1,false)]⟩),
 (38,⟨27,376,[.val (.int .i64 0),.val (.int .i64 0),.val (.int .i64 0),.val (.int .i64 0),.val (.int .i64 0),.seq 0 [] .clip,.seq 0 [] .clip,.val (.int .i64 0),.seq 0 [] .clip,.seq 0 [] .clip,.seq 0 [] .clip,.seq 0 [] .clip,.val (.int .i64 0),.seq 0 [] .clip,.seq 0 [] .clip,.val (.bool false),.seq 0 [] .clip,.val (.int .i64 0),.val (.int .i64 0),.val (.int .i64 0),.val (.int .i64 0),.val (.int .i64 0),.seq 0 [] .clip,.val (.int .i64 0),.val (.int .i64 0),.val (.bool false),.val (.int .i64 0)],.struct [(0,23,true),(23,1,false),(24,1,false),(25,1,false),(26,1,false)]⟩),
 (39,⟨56,768,[.val (.int .i64 0),.val (.int .i64 0),.val (.int .i64 0),.val (.int .i64 0),.val (.int .i64 0),.seq 0 [] .clip,.seq 0 [] .clip,.val (.int .i64 0),.seq 0 [] .clip,.seq 0 [] .clip,.seq 0 [] .clip,.seq 0 [] .clip,.val (.int .i64 0),.seq 0 [] .clip,.seq 0 [] .clip,.val (.bool false),.seq 0 [] .clip,.val (.int .i64 0),.val (.int .i64 0),.val (.int .i64 0),.val (.int .i64 0),.val (.int .i64 0),.seq 0 [] .clip,.val (.int .i64 0),.val (.int .i64 0),.val (.bool false),.val (.int .i64 0),.val (.int .i64 0),.val (.int .i64 0),.val (.int .i64 0),.val (.int .i64 0),.val (.int .i64 0),.seq 0 [] .clip,.seq 0 [] .clip,.val (.int .i64 0),.seq 0 [] .clip,.seq 0 [] .clip,.seq 0 [] .clip,.seq 0 [] .clip,.val (.int .i64 0),.seq 0 [] .clip,.seq 0 [] .clip,.val (.bool false),.seq 0 [] .clip,.val (.int .i64 0),.val (.int .i64 0),.val (.int .i64 0),.val (.int .i64 0),.val (.int .i64 0),.seq 0 [] .clip,.val (.int .i64 0),.val (.int .i64 0),.val (.bool false),.val (.int .i64 0),.val (.int .i64 0),.val (.int .i64 0)],.struct [(0,27,true),(27,27,true),(54,1,false),(55,1,false)]⟩),
 (40,⟨56,768,[.val (.int .i64 0),.val (.int .i64 0),.val (.int .i64 0),.val (.int .i64 0),.val (.int .i64 0),.seq 0 [] .clip,.seq 0 [] .clip,.val (.int .i64 0),.seq 0 [] .clip,.seq 0 [] .clip,.seq 0 [] .clip,.seq 0 [] .clip,.val (.int .i64 0),.seq 0 [] .clip,.seq 0 [] .clip,.val (.bool false),.seq 0 [] .clip,.val (.int .i64 0),.val (.int .i64 0),.val (.int .i64 0),.val (.int .i64 0),.val (.int .i64 0),.seq 0 [] .clip,.val (.int .i64 0),.val (.int .i64 0),.val (.bool false),.val (.int .i64 0),.val (.int .i64 0),.val (.int .i64 0),.val (.int .i64 0),.val (.int .i64 0),.val (.int .i64 0),.seq 0 [] .clip,.seq 0 [] .clip,.val (.int .i64 0),.seq 0 [] .clip,.seq 0 [] .clip,.seq 0 [] .clip,.seq 0 [] .clip,.val (.int .i64 0),.seq 0 [] .clip,.seq 0 [] .clip,.val (.bool false),.seq 0 [] .clip,.val (.int .i64 0),.val (.int .i64 0),.val (.int .i64 0),.val (.int .i64 0),.val (.int .i64 0),.seq 0 [] .clip,.val (.int .i64 0),.val (.int .i64 0),.val (.bool false),.val (.int .i64 0),.val (.int .i64 0),.val (.int .i64 0)],.struct [(0,27,true),(27,27,true),(54,1,false),(55,1,false)]⟩),
 (41,nF),(42,nF),(43,nF),(44,⟨1,8,[.val (.int .i64 0)],.int .i64⟩),
 (46,nF),(48,nF),(49,nF),(50,nF),(51,nF),(53,nF),(55,nF),(56,nF),(57,nF),(58,nF),(59,nF),(60,nF),(61,nF),(62,nF),(63,nF),(64,⟨1,16,[.val .nilIface],.other⟩),(65,⟨1,16,[.val .nilIface],.other⟩),(66,⟨28,392,[.val (.int .i64 0),.val (.int .i64 0),.val (.int .i64 0),.val (.int .i64 0),.val (.int .i64 0),.seq 0 [] .clip,.seq 0 [] .clip,.val (.int .i64 0),.seq 0 [] .clip,.seq 0 [] .clip,.seq 0 [] .clip,.seq 0 [] .clip,.val (.int .i64 0),.seq 0 [] .clip,.seq 0 [] .clip,.val (.bool false),.seq 0 [] .clip,.val (.int .i64 0),.val (.int .i64 0),.val (.int .i64 0),.val (.int .i64 0),.val (.int .i64 0),.seq 0 [] .clip,.val (.int .i64 0),.val (.int .i64 0),.val (.bool false),.val (.int .i64 0),.val .nilIface],.struct [(0,27,true),(27,1,false)]⟩),
 (67,⟨28,392,[.val (.int .i64 0),.val (.int .i64 0),.val (.int .i64 0),.val (.int .i64 0),.val (.int .i64 0),.seq 0 [] .clip,.seq 0 [] .clip,.val (.int .i64 0),.seq 0 [] .clip,.seq 0 [] .clip,.seq 0 [] .clip,.seq 0 [] .clip,.val (.int .i64 0),.seq 0 [] .clip,.seq 0 [] .clip,.val (.bool false),.seq 0 [] .clip,.val (.int .i64 0),.val (.int .i64 0),.val (.int .i64 0),.val (.int .i64 0),.val (.int .i64 0),.seq 0 [] .clip,.val (.int .i64 0),.val (.int .i64 0),.val (.bool false),.val (.int .i64 0),.val .nilIface],.struct [(0,27,true),(27,1,false)]⟩),
 (68,nF),(69,nF),(70,⟨2,24,[.val (.int .i64 0),.val .nilIface],.struct [(0,1,false),(1,1,false)]⟩),
 (71,⟨2,24,[.val (.int .i64 0),.val .nilIface],.struct [(0,1,false),(1,1,false)]⟩),
 (72,⟨1,8,[.val (.int .i64 0)],.struct [(0,1,false)]⟩),
 (73,⟨1,8,[.val (.int .i64 0)],.struct [(0,1,false)]⟩),
 (74,nF),(75,nF),(76,⟨1,8,[.val (.pointer none)],.other⟩),(78,nF),(79,⟨28,376,[.val (.int .i64 0),.val (.int .i64 0),.val (.int .i64 0),.val (.int .i64 0),.val (.int .i64 0),.seq 0 [] .clip,.seq 0 [] .clip,.val (.int .i64 0),.seq 0 [] .clip,.seq 0 [] .clip,.seq 0 [] .clip,.seq 0 [] .clip,.val (.int .i64 0),.seq 0 [] .clip,.seq 0 [] .clip,.val (.bool false),.seq 0 [] .clip,.val (.int .i64 0),.val (.int .i64 0),.val (.int .i64 0),.val (.int .i64 0),.val (.int .i64 0),.seq 0 [] .clip,.val (.int .i64 0),.val (.int .i64 0),.val (.bool false),.val (.bool false),.val (.int .i64 0)],.struct [(0,23,true),(23,1,false),(24,1,false),(25,1,false),(26,1,false),(27,1,false)]⟩),
 (80,⟨28,376,[.val (.int .i64 0),.val (.int .i64 0),.val (.int .i64 0),.val (.int .i64 0),.val (.int .i64 0),.seq 0 [] .clip,.seq 0 [] .clip,.val (.int .i64 0),.seq 0 [] .clip,.seq 0 [] .clip,.seq 0 [] .clip,.seq 0 [] .clip,.val (.int .i64 0),.seq 0 [] .clip,.seq 0 [] .clip,.val (.bool false),.seq 0 [] .clip,.val (.int .i64 0),.val (.int .i64 0),.val (.int .i64 0),.val (.int .i64 0),.val (.int .i64 0),.seq 0 [] .clip,.val (.int .i64 0),.val (.int .i64 0),.val (.bool false),.val (.bool false),.val (.int .i64 0)],.struct [(0,23,true),(23,1,false),(24,1,false),(25,1,false),(26,1,false),(27,1,false)]⟩),
 (82,nF),(83,nF),(84,nF),(85,nF),(86,nF),(87,nF),(88,nF),(89,nF),(91,nF),(93,nF),(94,nF),(95,⟨2,32,[.val (.int .i64 0),.seq 0 [] .clip],.struct [(0,1,false),(1,1,false)]⟩),
 (96,⟨2,32,[.val (.int .i64 0),.seq 0 [] .clip],.struct [(0,1,false),(1,1,false)]⟩),
 (97,⟨3,32,[.val (.string ⟨#[]⟩),.val (.int .i64 0),.val (.int .i64 0)],.struct [(0,1,false),(1,1,false),(2,1,false)]⟩),
 (98,⟨3,32,[.val (.string ⟨#[]⟩),.val (.int .i64 0),.val (.int .i64 0)],.struct [(0,1,false),(1,1,false),(2,1,false)]⟩),
 (99,⟨1,8,[.val (.pointer none)],.other⟩),(101,nF),(102,nF),(103,nF),(104,nF),(106,nF),(107,nF),(108,⟨1,24,[.seq 0 [] .clip],.slice 9⟩),
 (109,nF),(110,⟨1,16,[.val .nilIface],.other⟩),(111,⟨1,16,[.val .nilIface],.other⟩),(112,nF),(113,nF),(114,⟨1,8,[.val (.pointer none)],.other⟩),(115,⟨1,8,[.val (.int .u64 0)],.int .u64⟩),
 (116,⟨3,24,[.val (.pointer none),.val (.pointer none),.val (.int .u64 0)],.struct [(0,1,false),(1,1,false),(2,1,false)]⟩),
 (117,⟨3,24,[.val (.pointer none),.val (.pointer none),.val (.int .u64 0)],.struct [(0,1,false),(1,1,false),(2,1,false)]⟩),
 (118,nF),(119,nF),(120,⟨1,1,[.val (.int .u8 0)],.int .u8⟩),
 (121,nF),(122,nF),(123,nF),(124,⟨3,24,[.val (.int .i64 0),.val (.int .i64 0),.val (.int .i64 0)],.struct [(0,1,false),(1,1,false),(2,1,false)]⟩),
 (125,⟨3,24,[.val (.int .i64 0),.val (.int .i64 0),.val (.int .i64 0)],.struct [(0,1,false),(1,1,false),(2,1,false)]⟩),
 (126,nF),(127,⟨1,8,[.val (.pointer none)],.other⟩),(129,nF),(130,nF),(131,nF),(132,nF),(133,nF),(134,nF),(135,⟨6,48,[.val (.int .i64 0),.val (.int .i64 0),.val (.int .i64 0),.val (.int .i64 0),.val (.int .i64 0),.val (.int .i64 0)],.struct [(0,1,false),(1,1,false),(2,1,false),(3,1,false),(4,1,false),(5,1,false)]⟩),
 (136,⟨6,48,[.val (.int .i64 0),.val (.int .i64 0),.val (.int .i64 0),.val (.int .i64 0),.val (.int .i64 0),.val (.int .i64 0)],.struct [(0,1,false),(1,1,false),(2,1,false),(3,1,false),(4,1,false),(5,1,false)]⟩),
 (137,⟨4,32,[.val (.int .i64 0),.val (.int .i64 0),.val (.int .i64 0),.val (.bool false)],.struct [(0,1,false),(1,1,false),(2,1,false),(3,1,false)]⟩),
 (138,⟨4,32,[.val (.int .i64 0),.val (.int .i64 0),.val (.int .i64 0),.val (.bool false)],.struct [(0,1,false),(1,1,false),(2,1,false),(3,1,false)]⟩),
 (139,nF),(140,nF),(141,nF),(142,nF),(143,nF),(144,nF),(145,nF),(146,nF),(147,nF),(148,nF),(149,nF),(150,nF),(152,nF),(153,nF),(154,⟨2,16,[.val (.int .i64 0),.val .nilFunc],.struct [(0,1,false),(1,1,false)]⟩),
 (155,⟨2,16,[.val (.int .i64 0),.val .nilFunc],.struct [(0,1,false),(1,1,false)]⟩),
 (156,nF),(158,⟨1,8,[.val (.pointer none)],.other⟩),(159,nF),(160,nF),(161,nF),(162,nF),(163,⟨1,8,[.val (.pointer none)],.struct [(0,1,false)]⟩),
 (164,⟨1,8,[.val (.pointer none)],.struct [(0,1,false)]⟩),
 (165,⟨1,8,[.val (.pointer none)],.other⟩),(166,⟨1,16,[.val .nilIface],.other⟩),(168,nF),(169,⟨1,16,[.val .nilIface],.other⟩),(170,nF),(171,⟨1,16,[.val .nilIface],.other⟩),(172,⟨1,24,[.seq 0 [] .clip],.slice 65⟩),
 (173,nF),(174,nF),(175,nF),(176,⟨1,16,[.val .nilIface],.other⟩),(178,nF),(179,nF),(181,nF),(182,nF),(184,nF),(185,nF),(186,nF),(188,nF),(189,nF),(190,nF),(191,nF),(193,nF),(194,⟨1,8,[.val (.int .u64 0)],.int .u64⟩),
 (195,nF),(196,nF),(197,nF),(198,nF),(199,⟨2,24,[.val (.int .i64 0),.val (.string ⟨#[]⟩)],.struct [(0,1,false),(1,1,false)]⟩),
 (200,⟨2,24,[.val (.int .i64 0),.val (.string ⟨#[]⟩)],.struct [(0,1,false),(1,1,false)]⟩),
 (202,⟨1,8,[.val (.map none)],.other⟩),(203,nF),(204,nF),(206,nF),(207,nF),(208,nF),(209,⟨1,8,[.val (.map none)],.other⟩),(210,nF),(211,⟨5,40,[.val (.map none),.val (.map none),.val (.map none),.val (.map none),.val (.map none)],.array 5 209⟩),
 (213,⟨1,24,[.seq 0 [] .clip],.slice 28⟩),
 (215,nF),(216,nF),(218,nF),(219,nF),(221,nF),(222,nF),(223,nF),(225,nF),(227,nF),(229,nF),(231,nF),(233,nF),(234,nF),(235,nF),(237,nF),(239,nF),(240,nF),(242,nF),(244,nF),(245,nF),(246,nF),(247,⟨1,8,[.val (.int .u64 0)],.int .u64⟩),
 (248,nF),(249,nF),(250,nF),(251,nF),(252,nF),(253,nF),(254,nF),(256,nF),(257,nF),(258,nF),(259,nF),(260,nF),(261,nF),(262,nF),(263,nF),(264,nF),(265,nF),(267,nF),(268,nF),(269,nF),(270,nF),(271,nF),(273,nF),(274,nF),(275,nF),(276,nF),(277,nF),(279,nF),(280,nF),(282,nF),(283,nF),(284,nF),(285,nF),(286,nF),(287,nF),(288,nF),(289,nF),(291,nF),(292,nF),(293,nF),(295,nF),(297,nF),(299,nF),(300,nF),(301,nF),(303,nF),(304,nF),(306,nF),(307,nF),(308,nF),(309,nF),(311,nF),(312,nF),(313,nF),(314,⟨3,56,[.seq 0 [] .clip,.seq 0 [] .clip,.val (.int .i64 0)],.struct [(0,2,true),(2,1,false)]⟩),
 (315,⟨3,56,[.seq 0 [] .clip,.seq 0 [] .clip,.val (.int .i64 0)],.struct [(0,2,true),(2,1,false)]⟩),
 (316,nF),(318,nF),(319,nF),(320,⟨1,8,[.val (.pointer none)],.other⟩),(321,⟨2,32,[.val (.pointer none),.seq 0 [] .clip],.struct [(0,1,false),(1,1,false)]⟩),
 (322,⟨2,32,[.val (.pointer none),.seq 0 [] .clip],.struct [(0,1,false),(1,1,false)]⟩),
 (324,nF),(325,nF),(326,nF),(327,nF),(328,nF),(329,nF),(330,nF),(331,⟨1,8,[.val (.map none)],.other⟩),(332,nF),(334,nF),(335,nF),(336,⟨8,8,[.val (.int .u8 0),.val (.int .u8 0),.val (.int .u8 0),.val (.int .u8 0),.val (.int .u8 0),.val (.int .u8 0),.val (.int .u8 0),.val (.int .u8 0)],.array 8 5⟩),
 (337,⟨1,4,[.val (.int .u32 0)],.int .u32⟩),
 (339,nF),(340,⟨1,8,[.val (.pointer none)],.other⟩),(341,nF),(342,⟨1,8,[.val (.pointer none)],.other⟩),(343,⟨4,40,[.val (.pointer none),.val (.pointer none),.val (.pointer none),.val (.string ⟨#[]⟩)],.struct [(0,1,false),(1,1,false),(2,1,false),(3,1,false)]⟩),
 (344,⟨4,40,[.val (.pointer none),.val (.pointer none),.val (.pointer none),.val (.string ⟨#[]⟩)],.struct [(0,1,false),(1,1,false),(2,1,false),(3,1,false)]⟩),
 (348,nF),(349,⟨1,1,[.val (.int .u8 0)],.int .u8⟩),
 (350,nF),(351,⟨1,4,[.val (.int .i32 0)],.int .i32⟩),
 (352,⟨1,4,[.val (.int .i32 0)],.int .i32⟩),
 (353,⟨11,48,[.val (.int .u64 0),.val (.int .u64 0),.val (.int .u32 0),.val (.int .u8 0),.val (.int .u8 0),.val (.int .u8 0),.val (.int .u8 0),.val .nilFunc,.val (.pointer none),.val (.int .i32 0),.val (.int .i32 0)],.struct [(0,1,false),(1,1,false),(2,1,false),(3,1,false),(4,1,false),(5,1,false),(6,1,false),(7,1,false),(8,1,false),(9,1,false),(10,1,false)]⟩),
 (354,⟨11,48,[.val (.int .u64 0),.val (.int .u64 0),.val (.int .u32 0),.val (.int .u8 0),.val (.int .u8 0),.val (.int .u8 0),.val (.int .u8 0),.val .nilFunc,.val (.pointer none),.val (.int .i32 0),.val (.int .i32 0)],.struct [(0,1,false),(1,1,false),(2,1,false),(3,1,false),(4,1,false),(5,1,false),(6,1,false),(7,1,false),(8,1,false),(9,1,false),(10,1,false)]⟩),
 (355,nF),(356,nF),(357,⟨2,24,[.val (.string ⟨#[]⟩),.val (.int .u8 0)],.struct [(0,1,false),(1,1,false)]⟩),
 (358,⟨2,24,[.val (.string ⟨#[]⟩),.val (.int .u8 0)],.struct [(0,1,false),(1,1,false)]⟩),
 (359,⟨1,16,[.val (.string ⟨#[]⟩)],.struct [(0,1,false)]⟩),
 (360,⟨1,16,[.val (.string ⟨#[]⟩)],.struct [(0,1,false)]⟩),
 (361,⟨1,8,[.val (.pointer none)],.other⟩),(362,nF),(363,⟨1,2,[.val (.int .u16 0)],.int .u16⟩),
 (364,⟨5,16,[.val (.int .i32 0),.val (.int .u16 0),.val (.int .u16 0),.val (.int .u32 0),.val (.int .u32 0)],.struct [(0,1,false),(1,1,false),(2,1,false),(3,1,false),(4,1,false)]⟩),
 (365,⟨5,16,[.val (.int .i32 0),.val (.int .u16 0),.val (.int .u16 0),.val (.int .u32 0),.val (.int .u32 0)],.struct [(0,1,false),(1,1,false),(2,1,false),(3,1,false),(4,1,false)]⟩),
 (366,⟨1,24,[.seq 0 [] .clip],.slice 369⟩),
 (367,⟨1,4,[.val (.int .i32 0)],.int .i32⟩),
 (368,⟨4,16,[.val (.int .i32 0),.val (.int .i32 0),.val (.int .i32 0),.val (.int .i32 0)],.struct [(0,1,false),(1,1,false),(2,1,false),(3,1,false)]⟩),
 (369,⟨4,16,[.val (.int .i32 0),.val (.int .i32 0),.val (.int .i32 0),.val (.int .i32 0)],.struct [(0,1,false),(1,1,false),(2,1,false),(3,1,false)]⟩),
 (370,nF),(371,⟨1,8,[.val (.pointer none)],.other⟩)]
theorem tG:cP Tryz.prog tys=true:=by kernel_rfl
theorem mG:Tryz.prog.follows .mixedOrders=true:=by kernel_rfl
section
variable {B : Nat → Nat → Prop} {n : Nat} {all ops : Array Oper} {cl : Nat → Nat} {i : Nat} {li : List Nat} {T : Nat → PV} {H H' : List Ob} {K : (Nat → PV) → List Ob → Prop} {Q : Exit → (Nat → PV) → List Ob → Prop} {l : List Oper} {o : Oper} {x : PV} {d : Option Tmp} {p : Prop}
theorem z1(k:WO Tryz.prog B n all l (al d x T) H' K)(hw:aj all T o=some true:=by exact rfl)(hd:nfD n o.dst=some d:=by exact rfl)(h:evN tys T H o.type o.op=some (x,H',True):=by exact rfl):WO Tryz.prog B n all (o::l) T H K :=
 We tG hw hd h trivial k
theorem z2(k:WO Tryz.prog B n all l (al d x T) H' K)(hw:aj all T o=some true:=by exact rfl)(hd:nfD n o.dst=some d:=by exact rfl)(h:evN tys T H o.type o.op=some (x,H',p):=by exact rfl)(q:p):WO Tryz.prog B n all (o::l) T H K :=
 We tG hw hd h q k
theorem z6(k:WO Tryz.prog B n all l (al d (.val undef) T) H K)(hd:nfD n o.dst=some d:=by exact rfl)(hw:aj all T o=some false:=by exact rfl):WO Tryz.prog B n all (o::l) T H K :=
 Wk hd hw k
theorem z8{id:Nat}{y:Code}(h:WO Tryz.prog B n l.toArray l T H (fun T' H'=>lG (fun T2 H2=>W Tryz.prog B n y T2 H2 Q) Q .normal T' H'))(hall:ei n l.toArray=true:=by exact rfl):W Tryz.prog B n ((Code.region id l.toArray false).seq y) T H Q :=
 Ws (aa hall h)
theorem z3(k:WU Tryz.prog B n ops cl li (al d x T) H K)(h0:ops[i]?=some o:=by exact rfl)(hc:cl i=0:=by exact rfl)(hd:nfD n o.dst=some d:=by exact rfl)(hw:aj ops T o=some true:=by exact rfl)(h:∀H2,evS tys T H2 o.type o.op=some (x,H2,True):=by exact fun _=>rfl):WU Tryz.prog B n ops cl (i::li) T H K :=
 Xe tG h0 hc hd hw h trivial k
theorem z9i{l0:List Int}{i0:Nat}(k:WU Tryz.prog B n ops cl li (al d (.row (af (l0.getD i0 0))) T) H K)(h0:ops[i]?=some o:=by exact rfl)(hc:cl i=0:=by exact rfl)(hd:nfD n o.dst=some d:=by exact rfl)(hw:aj ops T o=some true:=by exact rfl)(h:∀H2,evS tys T H2 o.type o.op=some (.row ((l0.flatMap af).drop ((i0:Int).toNat*1)),H2,p):=by exact fun _=>rfl)(hp:p:=by omega)(hi:i0<l0.length:=by(simp only[dnL]at *;omega)):WU Tryz.prog B n ops cl (i::li) T H K :=
 Xi tG h0 hc hd hw h hp (iN af 1 (fun _=>rfl) 0 hi) k
theorem zc {f : FuncId} {fn : Func} {args : Array Operand} {ats : Array TypeId} {res : PV} (ho : o.op = .call { callee := .value (.func f), args := args, argTypes := ats }) (hf : Tryz.prog.funcs[f]? = some fn) (h : HC Tryz.prog f (args.toList.map fun y => wk (opv T y)) H res H') (k : WO Tryz.prog B n all l (al d res T) H' K) (hd : nfD n o.dst = some d := by exact rfl) (hw : aj all T o = some true := by exact rfl) (hb : fn.body.isNone = false := by exact rfl) (hn : (fn.name == "runtime.NumGoroutine") = false := by exact rfl) : WO Tryz.prog B n all (o :: l) T H K :=
 Wc hd hw (dC ho hf hb hn h) k
theorem zq{a b:Str}(dd:Nat)(k:WO Tryz.prog B n all l (upd dd (.val (.bool (decide (a=b)))) T) H K)(hT:T dd=PV.val (.bool (kN ⟨a.toArray⟩ ⟨b.toArray⟩)):=by exact rfl):WO Tryz.prog B n all l T H K :=
 Wa dd hT (Eh a b) k
theorem z4(k:WU Tryz.prog B n ops cl li (al d x T) H K)(h0:ops[i]?=some o:=by exact rfl)(hc:cl i=0:=by exact rfl)(hd:nfD n o.dst=some d:=by exact rfl)(hw:aj ops T o=some true:=by exact rfl)(h:∀H2,evS tys T H2 o.type o.op=some (x,H2,p):=by exact fun _=>rfl)(q:p):WU Tryz.prog B n ops cl (i::li) T H K :=
 Xe tG h0 hc hd hw h q k
theorem z5(k:WU Tryz.prog B n ops cl li (al d x T) H K)(h0:ops[i]?=some o:=by exact rfl)(hc:cl i=1:=by exact rfl)(hd:nfD n o.dst=some d:=by exact rfl)(hw:aj ops T o=some true:=by exact rfl)(h:∀E,evS tys T (H++E) o.type o.op=some (x,H++E,True):=by exact fun _=>rfl):WU Tryz.prog B n ops cl (i::li) T H K :=
 Xf tG h0 hc hd hw h trivial k
theorem z7(k:WU Tryz.prog B n ops cl li (al d (.val undef) T) H K)(h0:ops[i]?=some o:=by exact rfl)(hc:Nat.ble (cl i) 3=true:=by exact rfl)(hd:nfD n o.dst=some d:=by exact rfl)(hw:aj ops T o=some false:=by exact rfl):WU Tryz.prog B n ops cl (i::li) T H K :=
 xW h0 hc hd hw k
theorem z0{id:Nat}{y:Code}{Q2:Exit→(Nat→PV)→List Ob→Prop}(h:WO Tryz.prog B n l.toArray l T H (fun T' H'=>lG (fun T2 H2=>W Tryz.prog B n y T2 H2 Q) Q .normal T' H'))(hall:ei n l.toArray=true:=by exact rfl):WO Tryz.prog B n all [] T H (fun T' H'=>lG (fun T2 H2=>W Tryz.prog B n ((Code.region id l.toArray false).seq y) T2 H2 Q) Q2 .normal T' H') :=
 Wn (Ws (aa hall h))
theorem zR{rs:List ResultVar}{res:PV}(e:x=res)(hq:At tys rs res .ret T H→Q .ret T H:=by exact id)(h:xO tys T H rs=some x:=by exact rfl):W Tryz.prog B n .ret T H Q :=
 Wq (hq (lP h e))
theorem oF{q:Prop}[Decidable q](h:decide q=false):¬q:=of_decide_eq_false h
theorem oT{q:Prop}[Decidable q](h:decide q=true):q:=of_decide_eq_true h
variable {o1 o2 o3 o4 o5 : Oper} {x1 x2 x3 x4 x5 : PV} {d1 d2 d3 d4 d5 : Option Tmp} {H1 H2 H3 H4 H5 : List Ob} {id : Nat} {y : Code}
theorem zs1(k:K (al d1 x1 T) H1)(w1:aj all T o1=some true:=by exact rfl)(e1:nfD n o1.dst=some d1:=by exact rfl)(h1:evN tys T H o1.type o1.op=some (x1,H1,True):=by exact rfl):WO Tryz.prog B n all (o1::[]) T H K:=(z1 (Wn k) w1 e1 h1)
theorem zp1(k:WO Tryz.prog B n (o1::l).toArray l (al d1 x1 T) H1 (fun T' H'=>lG (fun T2 H2=>W Tryz.prog B n y T2 H2 Q) Q .normal T' H'))(hall:ei n (o1::l).toArray=true:=by exact rfl)(w1:aj (o1::l).toArray T o1=some true:=by exact rfl)(e1:nfD n o1.dst=some d1:=by exact rfl)(h1:evN tys T H o1.type o1.op=some (x1,H1,True):=by exact rfl):W Tryz.prog B n ((Code.region id (o1::l).toArray false).seq y) T H Q:=z8 (z1 k w1 e1 h1) hall
theorem zu1(k:W Tryz.prog B n y (al d1 x1 T) H1 Q)(hall:ei n (o1::[]).toArray=true:=by exact rfl)(w1:aj (o1::[]).toArray T o1=some true:=by exact rfl)(e1:nfD n o1.dst=some d1:=by exact rfl)(h1:evN tys T H o1.type o1.op=some (x1,H1,True):=by exact rfl):W Tryz.prog B n ((Code.region id (o1::[]).toArray false).seq y) T H Q:=z8 (z1 (Wn k) w1 e1 h1) hall
theorem zy2(k:WO Tryz.prog B n all l (al d2 x2 (al d1 x1 T)) H2 K)(w1:aj all T o1=some true:=by exact rfl)(e1:nfD n o1.dst=some d1:=by exact rfl)(h1:evN tys T H o1.type o1.op=some (x1,H1,True):=by exact rfl)(w2:aj all (al d1 x1 T) o2=some true:=by exact rfl)(e2:nfD n o2.dst=some d2:=by exact rfl)(h2:evN tys (al d1 x1 T) H1 o2.type o2.op=some (x2,H2,True):=by exact rfl):WO Tryz.prog B n all (o1::o2::l) T H K:=(z1 (z1 k w2 e2 h2) w1 e1 h1)
theorem zs2(k:K (al d2 x2 (al d1 x1 T)) H2)(w1:aj all T o1=some true:=by exact rfl)(e1:nfD n o1.dst=some d1:=by exact rfl)(h1:evN tys T H o1.type o1.op=some (x1,H1,True):=by exact rfl)(w2:aj all (al d1 x1 T) o2=some true:=by exact rfl)(e2:nfD n o2.dst=some d2:=by exact rfl)(h2:evN tys (al d1 x1 T) H1 o2.type o2.op=some (x2,H2,True):=by exact rfl):WO Tryz.prog B n all (o1::o2::[]) T H K:=(z1 (z1 (Wn k) w2 e2 h2) w1 e1 h1)
theorem zp2(k:WO Tryz.prog B n (o1::o2::l).toArray l (al d2 x2 (al d1 x1 T)) H2 (fun T' H'=>lG (fun T2 H2=>W Tryz.prog B n y T2 H2 Q) Q .normal T' H'))(hall:ei n (o1::o2::l).toArray=true:=by exact rfl)(w1:aj (o1::o2::l).toArray T o1=some true:=by exact rfl)(e1:nfD n o1.dst=some d1:=by exact rfl)(h1:evN tys T H o1.type o1.op=some (x1,H1,True):=by exact rfl)(w2:aj (o1::o2::l).toArray (al d1 x1 T) o2=some true:=by exact rfl)(e2:nfD n o2.dst=some d2:=by exact rfl)(h2:evN tys (al d1 x1 T) H1 o2.type o2.op=some (x2,H2,True):=by exact rfl):W Tryz.prog B n ((Code.region id (o1::o2::l).toArray false).seq y) T H Q:=z8 (z1 (z1 k w2 e2 h2) w1 e1 h1) hall
theorem zu2(k:W Tryz.prog B n y (al d2 x2 (al d1 x1 T)) H2 Q)(hall:ei n (o1::o2::[]).toArray=true:=by exact rfl)(w1:aj (o1::o2::[]).toArray T o1=some true:=by exact rfl)(e1:nfD n o1.dst=some d1:=by exact rfl)(h1:evN tys T H o1.type o1.op=some (x1,H1,True):=by exact rfl)(w2:aj (o1::o2::[]).toArray (al d1 x1 T) o2=some true:=by exact rfl)(e2:nfD n o2.dst=some d2:=by exact rfl)(h2:evN tys (al d1 x1 T) H1 o2.type o2.op=some (x2,H2,True):=by exact rfl):W Tryz.prog B n ((Code.region id (o1::o2::[]).toArray false).seq y) T H Q:=z8 (z1 (z1 (Wn k) w2 e2 h2) w1 e1 h1) hall
theorem zy3(k:WO Tryz.prog B n all l (al d3 x3 (al d2 x2 (al d1 x1 T))) H3 K)(w1:aj all T o1=some true:=by exact rfl)(e1:nfD n o1.dst=some d1:=by exact rfl)(h1:evN tys T H o1.type o1.op=some (x1,H1,True):=by exact rfl)(w2:aj all (al d1 x1 T) o2=some true:=by exact rfl)(e2:nfD n o2.dst=some d2:=by exact rfl)(h2:evN tys (al d1 x1 T) H1 o2.type o2.op=some (x2,H2,True):=by exact rfl)(w3:aj all (al d2 x2 (al d1 x1 T)) o3=some true:=by exact rfl)(e3:nfD n o3.dst=some d3:=by exact rfl)(h3:evN tys (al d2 x2 (al d1 x1 T)) H2 o3.type o3.op=some (x3,H3,True):=by exact rfl):WO Tryz.prog B n all (o1::o2::o3::l) T H K:=(z1 (z1 (z1 k w3 e3 h3) w2 e2 h2) w1 e1 h1)
theorem zs3(k:K (al d3 x3 (al d2 x2 (al d1 x1 T))) H3)(w1:aj all T o1=some true:=by exact rfl)(e1:nfD n o1.dst=some d1:=by exact rfl)(h1:evN tys T H o1.type o1.op=some (x1,H1,True):=by exact rfl)(w2:aj all (al d1 x1 T) o2=some true:=by exact rfl)(e2:nfD n o2.dst=some d2:=by exact rfl)(h2:evN tys (al d1 x1 T) H1 o2.type o2.op=some (x2,H2,True):=by exact rfl)(w3:aj all (al d2 x2 (al d1 x1 T)) o3=some true:=by exact rfl)(e3:nfD n o3.dst=some d3:=by exact rfl)(h3:evN tys (al d2 x2 (al d1 x1 T)) H2 o3.type o3.op=some (x3,H3,True):=by exact rfl):WO Tryz.prog B n all (o1::o2::o3::[]) T H K:=(z1 (z1 (z1 (Wn k) w3 e3 h3) w2 e2 h2) w1 e1 h1)
theorem zp3(k:WO Tryz.prog B n (o1::o2::o3::l).toArray l (al d3 x3 (al d2 x2 (al d1 x1 T))) H3 (fun T' H'=>lG (fun T2 H2=>W Tryz.prog B n y T2 H2 Q) Q .normal T' H'))(hall:ei n (o1::o2::o3::l).toArray=true:=by exact rfl)(w1:aj (o1::o2::o3::l).toArray T o1=some true:=by exact rfl)(e1:nfD n o1.dst=some d1:=by exact rfl)(h1:evN tys T H o1.type o1.op=some (x1,H1,True):=by exact rfl)(w2:aj (o1::o2::o3::l).toArray (al d1 x1 T) o2=some true:=by exact rfl)(e2:nfD n o2.dst=some d2:=by exact rfl)(h2:evN tys (al d1 x1 T) H1 o2.type o2.op=some (x2,H2,True):=by exact rfl)(w3:aj (o1::o2::o3::l).toArray (al d2 x2 (al d1 x1 T)) o3=some true:=by exact rfl)(e3:nfD n o3.dst=some d3:=by exact rfl)(h3:evN tys (al d2 x2 (al d1 x1 T)) H2 o3.type o3.op=some (x3,H3,True):=by exact rfl):W Tryz.prog B n ((Code.region id (o1::o2::o3::l).toArray false).seq y) T H Q:=z8 (z1 (z1 (z1 k w3 e3 h3) w2 e2 h2) w1 e1 h1) hall
theorem zu3(k:W Tryz.prog B n y (al d3 x3 (al d2 x2 (al d1 x1 T))) H3 Q)(hall:ei n (o1::o2::o3::[]).toArray=true:=by exact rfl)(w1:aj (o1::o2::o3::[]).toArray T o1=some true:=by exact rfl)(e1:nfD n o1.dst=some d1:=by exact rfl)(h1:evN tys T H o1.type o1.op=some (x1,H1,True):=by exact rfl)(w2:aj (o1::o2::o3::[]).toArray (al d1 x1 T) o2=some true:=by exact rfl)(e2:nfD n o2.dst=some d2:=by exact rfl)(h2:evN tys (al d1 x1 T) H1 o2.type o2.op=some (x2,H2,True):=by exact rfl)(w3:aj (o1::o2::o3::[]).toArray (al d2 x2 (al d1 x1 T)) o3=some true:=by exact rfl)(e3:nfD n o3.dst=some d3:=by exact rfl)(h3:evN tys (al d2 x2 (al d1 x1 T)) H2 o3.type o3.op=some (x3,H3,True):=by exact rfl):W Tryz.prog B n ((Code.region id (o1::o2::o3::[]).toArray false).seq y) T H Q:=z8 (z1 (z1 (z1 (Wn k) w3 e3 h3) w2 e2 h2) w1 e1 h1) hall
theorem zy4(k:WO Tryz.prog B n all l (al d4 x4 (al d3 x3 (al d2 x2 (al d1 x1 T)))) H4 K)(w1:aj all T o1=some true:=by exact rfl)(e1:nfD n o1.dst=some d1:=by exact rfl)(h1:evN tys T H o1.type o1.op=some (x1,H1,True):=by exact rfl)(w2:aj all (al d1 x1 T) o2=some true:=by exact rfl)(e2:nfD n o2.dst=some d2:=by exact rfl)(h2:evN tys (al d1 x1 T) H1 o2.type o2.op=some (x2,H2,True):=by exact rfl)(w3:aj all (al d2 x2 (al d1 x1 T)) o3=some true:=by exact rfl)(e3:nfD n o3.dst=some d3:=by exact rfl)(h3:evN tys (al d2 x2 (al d1 x1 T)) H2 o3.type o3.op=some (x3,H3,True):=by exact rfl)(w4:aj all (al d3 x3 (al d2 x2 (al d1 x1 T))) o4=some true:=by exact rfl)(e4:nfD n o4.dst=some d4:=by exact rfl)(h4:evN tys (al d3 x3 (al d2 x2 (al d1 x1 T))) H3 o4.type o4.op=some (x4,H4,True):=by exact rfl):WO Tryz.prog B n all (o1::o2::o3::o4::l) T H K:=(z1 (z1 (z1 (z1 k w4 e4 h4) w3 e3 h3) w2 e2 h2) w1 e1 h1)
theorem zs4(k:K (al d4 x4 (al d3 x3 (al d2 x2 (al d1 x1 T)))) H4)(w1:aj all T o1=some true:=by exact rfl)(e1:nfD n o1.dst=some d1:=by exact rfl)(h1:evN tys T H o1.type o1.op=some (x1,H1,True):=by exact rfl)(w2:aj all (al d1 x1 T) o2=some true:=by exact rfl)(e2:nfD n o2.dst=some d2:=by exact rfl)(h2:evN tys (al d1 x1 T) H1 o2.type o2.op=some (x2,H2,True):=by exact rfl)(w3:aj all (al d2 x2 (al d1 x1 T)) o3=some true:=by exact rfl)(e3:nfD n o3.dst=some d3:=by exact rfl)(h3:evN tys (al d2 x2 (al d1 x1 T)) H2 o3.type o3.op=some (x3,H3,True):=by exact rfl)(w4:aj all (al d3 x3 (al d2 x2 (al d1 x1 T))) o4=some true:=by exact rfl)(e4:nfD n o4.dst=some d4:=by exact rfl)(h4:evN tys (al d3 x3 (al d2 x2 (al d1 x1 T))) H3 o4.type o4.op=some (x4,H4,True):=by exact rfl):WO Tryz.prog B n all (o1::o2::o3::o4::[]) T H K:=(z1 (z1 (z1 (z1 (Wn k) w4 e4 h4) w3 e3 h3) w2 e2 h2) w1 e1 h1)
theorem zp4(k:WO Tryz.prog B n (o1::o2::o3::o4::l).toArray l (al d4 x4 (al d3 x3 (al d2 x2 (al d1 x1 T)))) H4 (fun T' H'=>lG (fun T2 H2=>W Tryz.prog B n y T2 H2 Q) Q .normal T' H'))(hall:ei n (o1::o2::o3::o4::l).toArray=true:=by exact rfl)(w1:aj (o1::o2::o3::o4::l).toArray T o1=some true:=by exact rfl)(e1:nfD n o1.dst=some d1:=by exact rfl)(h1:evN tys T H o1.type o1.op=some (x1,H1,True):=by exact rfl)(w2:aj (o1::o2::o3::o4::l).toArray (al d1 x1 T) o2=some true:=by exact rfl)(e2:nfD n o2.dst=some d2:=by exact rfl)(h2:evN tys (al d1 x1 T) H1 o2.type o2.op=some (x2,H2,True):=by exact rfl)(w3:aj (o1::o2::o3::o4::l).toArray (al d2 x2 (al d1 x1 T)) o3=some true:=by exact rfl)(e3:nfD n o3.dst=some d3:=by exact rfl)(h3:evN tys (al d2 x2 (al d1 x1 T)) H2 o3.type o3.op=some (x3,H3,True):=by exact rfl)(w4:aj (o1::o2::o3::o4::l).toArray (al d3 x3 (al d2 x2 (al d1 x1 T))) o4=some true:=by exact rfl)(e4:nfD n o4.dst=some d4:=by exact rfl)(h4:evN tys (al d3 x3 (al d2 x2 (al d1 x1 T))) H3 o4.type o4.op=some (x4,H4,True):=by exact rfl):W Tryz.prog B n ((Code.region id (o1::o2::o3::o4::l).toArray false).seq y) T H Q:=z8 (z1 (z1 (z1 (z1 k w4 e4 h4) w3 e3 h3) w2 e2 h2) w1 e1 h1) hall
theorem zu4(k:W Tryz.prog B n y (al d4 x4 (al d3 x3 (al d2 x2 (al d1 x1 T)))) H4 Q)(hall:ei n (o1::o2::o3::o4::[]).toArray=true:=by exact rfl)(w1:aj (o1::o2::o3::o4::[]).toArray T o1=some true:=by exact rfl)(e1:nfD n o1.dst=some d1:=by exact rfl)(h1:evN tys T H o1.type o1.op=some (x1,H1,True):=by exact rfl)(w2:aj (o1::o2::o3::o4::[]).toArray (al d1 x1 T) o2=some true:=by exact rfl)(e2:nfD n o2.dst=some d2:=by exact rfl)(h2:evN tys (al d1 x1 T) H1 o2.type o2.op=some (x2,H2,True):=by exact rfl)(w3:aj (o1::o2::o3::o4::[]).toArray (al d2 x2 (al d1 x1 T)) o3=some true:=by exact rfl)(e3:nfD n o3.dst=some d3:=by exact rfl)(h3:evN tys (al d2 x2 (al d1 x1 T)) H2 o3.type o3.op=some (x3,H3,True):=by exact rfl)(w4:aj (o1::o2::o3::o4::[]).toArray (al d3 x3 (al d2 x2 (al d1 x1 T))) o4=some true:=by exact rfl)(e4:nfD n o4.dst=some d4:=by exact rfl)(h4:evN tys (al d3 x3 (al d2 x2 (al d1 x1 T))) H3 o4.type o4.op=some (x4,H4,True):=by exact rfl):W Tryz.prog B n ((Code.region id (o1::o2::o3::o4::[]).toArray false).seq y) T H Q:=z8 (z1 (z1 (z1 (z1 (Wn k) w4 e4 h4) w3 e3 h3) w2 e2 h2) w1 e1 h1) hall
theorem zy5(k:WO Tryz.prog B n all l (al d5 x5 (al d4 x4 (al d3 x3 (al d2 x2 (al d1 x1 T))))) H5 K)(w1:aj all T o1=some true:=by exact rfl)(e1:nfD n o1.dst=some d1:=by exact rfl)(h1:evN tys T H o1.type o1.op=some (x1,H1,True):=by exact rfl)(w2:aj all (al d1 x1 T) o2=some true:=by exact rfl)(e2:nfD n o2.dst=some d2:=by exact rfl)(h2:evN tys (al d1 x1 T) H1 o2.type o2.op=some (x2,H2,True):=by exact rfl)(w3:aj all (al d2 x2 (al d1 x1 T)) o3=some true:=by exact rfl)(e3:nfD n o3.dst=some d3:=by exact rfl)(h3:evN tys (al d2 x2 (al d1 x1 T)) H2 o3.type o3.op=some (x3,H3,True):=by exact rfl)(w4:aj all (al d3 x3 (al d2 x2 (al d1 x1 T))) o4=some true:=by exact rfl)(e4:nfD n o4.dst=some d4:=by exact rfl)(h4:evN tys (al d3 x3 (al d2 x2 (al d1 x1 T))) H3 o4.type o4.op=some (x4,H4,True):=by exact rfl)(w5:aj all (al d4 x4 (al d3 x3 (al d2 x2 (al d1 x1 T)))) o5=some true:=by exact rfl)(e5:nfD n o5.dst=some d5:=by exact rfl)(h5:evN tys (al d4 x4 (al d3 x3 (al d2 x2 (al d1 x1 T)))) H4 o5.type o5.op=some (x5,H5,True):=by exact rfl):WO Tryz.prog B n all (o1::o2::o3::o4::o5::l) T H K:=(z1 (z1 (z1 (z1 (z1 k w5 e5 h5) w4 e4 h4) w3 e3 h3) w2 e2 h2) w1 e1 h1)
theorem zs5(k:K (al d5 x5 (al d4 x4 (al d3 x3 (al d2 x2 (al d1 x1 T))))) H5)(w1:aj all T o1=some true:=by exact rfl)(e1:nfD n o1.dst=some d1:=by exact rfl)(h1:evN tys T H o1.type o1.op=some (x1,H1,True):=by exact rfl)(w2:aj all (al d1 x1 T) o2=some true:=by exact rfl)(e2:nfD n o2.dst=some d2:=by exact rfl)(h2:evN tys (al d1 x1 T) H1 o2.type o2.op=some (x2,H2,True):=by exact rfl)(w3:aj all (al d2 x2 (al d1 x1 T)) o3=some true:=by exact rfl)(e3:nfD n o3.dst=some d3:=by exact rfl)(h3:evN tys (al d2 x2 (al d1 x1 T)) H2 o3.type o3.op=some (x3,H3,True):=by exact rfl)(w4:aj all (al d3 x3 (al d2 x2 (al d1 x1 T))) o4=some true:=by exact rfl)(e4:nfD n o4.dst=some d4:=by exact rfl)(h4:evN tys (al d3 x3 (al d2 x2 (al d1 x1 T))) H3 o4.type o4.op=some (x4,H4,True):=by exact rfl)(w5:aj all (al d4 x4 (al d3 x3 (al d2 x2 (al d1 x1 T)))) o5=some true:=by exact rfl)(e5:nfD n o5.dst=some d5:=by exact rfl)(h5:evN tys (al d4 x4 (al d3 x3 (al d2 x2 (al d1 x1 T)))) H4 o5.type o5.op=some (x5,H5,True):=by exact rfl):WO Tryz.prog B n all (o1::o2::o3::o4::o5::[]) T H K:=(z1 (z1 (z1 (z1 (z1 (Wn k) w5 e5 h5) w4 e4 h4) w3 e3 h3) w2 e2 h2) w1 e1 h1)
theorem zp5(k:WO Tryz.prog B n (o1::o2::o3::o4::o5::l).toArray l (al d5 x5 (al d4 x4 (al d3 x3 (al d2 x2 (al d1 x1 T))))) H5 (fun T' H'=>lG (fun T2 H2=>W Tryz.prog B n y T2 H2 Q) Q .normal T' H'))(hall:ei n (o1::o2::o3::o4::o5::l).toArray=true:=by exact rfl)(w1:aj (o1::o2::o3::o4::o5::l).toArray T o1=some true:=by exact rfl)(e1:nfD n o1.dst=some d1:=by exact rfl)(h1:evN tys T H o1.type o1.op=some (x1,H1,True):=by exact rfl)(w2:aj (o1::o2::o3::o4::o5::l).toArray (al d1 x1 T) o2=some true:=by exact rfl)(e2:nfD n o2.dst=some d2:=by exact rfl)(h2:evN tys (al d1 x1 T) H1 o2.type o2.op=some (x2,H2,True):=by exact rfl)(w3:aj (o1::o2::o3::o4::o5::l).toArray (al d2 x2 (al d1 x1 T)) o3=some true:=by exact rfl)(e3:nfD n o3.dst=some d3:=by exact rfl)(h3:evN tys (al d2 x2 (al d1 x1 T)) H2 o3.type o3.op=some (x3,H3,True):=by exact rfl)(w4:aj (o1::o2::o3::o4::o5::l).toArray (al d3 x3 (al d2 x2 (al d1 x1 T))) o4=some true:=by exact rfl)(e4:nfD n o4.dst=some d4:=by exact rfl)(h4:evN tys (al d3 x3 (al d2 x2 (al d1 x1 T))) H3 o4.type o4.op=some (x4,H4,True):=by exact rfl)(w5:aj (o1::o2::o3::o4::o5::l).toArray (al d4 x4 (al d3 x3 (al d2 x2 (al d1 x1 T)))) o5=some true:=by exact rfl)(e5:nfD n o5.dst=some d5:=by exact rfl)(h5:evN tys (al d4 x4 (al d3 x3 (al d2 x2 (al d1 x1 T)))) H4 o5.type o5.op=some (x5,H5,True):=by exact rfl):W Tryz.prog B n ((Code.region id (o1::o2::o3::o4::o5::l).toArray false).seq y) T H Q:=z8 (z1 (z1 (z1 (z1 (z1 k w5 e5 h5) w4 e4 h4) w3 e3 h3) w2 e2 h2) w1 e1 h1) hall
theorem zu5(k:W Tryz.prog B n y (al d5 x5 (al d4 x4 (al d3 x3 (al d2 x2 (al d1 x1 T))))) H5 Q)(hall:ei n (o1::o2::o3::o4::o5::[]).toArray=true:=by exact rfl)(w1:aj (o1::o2::o3::o4::o5::[]).toArray T o1=some true:=by exact rfl)(e1:nfD n o1.dst=some d1:=by exact rfl)(h1:evN tys T H o1.type o1.op=some (x1,H1,True):=by exact rfl)(w2:aj (o1::o2::o3::o4::o5::[]).toArray (al d1 x1 T) o2=some true:=by exact rfl)(e2:nfD n o2.dst=some d2:=by exact rfl)(h2:evN tys (al d1 x1 T) H1 o2.type o2.op=some (x2,H2,True):=by exact rfl)(w3:aj (o1::o2::o3::o4::o5::[]).toArray (al d2 x2 (al d1 x1 T)) o3=some true:=by exact rfl)(e3:nfD n o3.dst=some d3:=by exact rfl)(h3:evN tys (al d2 x2 (al d1 x1 T)) H2 o3.type o3.op=some (x3,H3,True):=by exact rfl)(w4:aj (o1::o2::o3::o4::o5::[]).toArray (al d3 x3 (al d2 x2 (al d1 x1 T))) o4=some true:=by exact rfl)(e4:nfD n o4.dst=some d4:=by exact rfl)(h4:evN tys (al d3 x3 (al d2 x2 (al d1 x1 T))) H3 o4.type o4.op=some (x4,H4,True):=by exact rfl)(w5:aj (o1::o2::o3::o4::o5::[]).toArray (al d4 x4 (al d3 x3 (al d2 x2 (al d1 x1 T)))) o5=some true:=by exact rfl)(e5:nfD n o5.dst=some d5:=by exact rfl)(h5:evN tys (al d4 x4 (al d3 x3 (al d2 x2 (al d1 x1 T)))) H4 o5.type o5.op=some (x5,H5,True):=by exact rfl):W Tryz.prog B n ((Code.region id (o1::o2::o3::o4::o5::[]).toArray false).seq y) T H Q:=z8 (z1 (z1 (z1 (z1 (z1 (Wn k) w5 e5 h5) w4 e4 h4) w3 e3 h3) w2 e2 h2) w1 e1 h1) hall
end
open Go.RowKit
structure jh where
 mem:Int
 data:Int
 ret:Int
 words:Int
 out:Int
 deriving DecidableEq,Inhabited
def wI(x:jh):List PV:=[i64 x.mem,i64 x.data,i64 x.ret,i64 x.words,i64 x.out]
@[simp] theorem uE (x : jh) : aL (wI x) := by simp [wI]
def Da(x:jh):PV:=.agg (wI x)
@[simp] theorem OA (x : jh) : aQ (Da x) := by unfold Da aQ; exact uE x
@[simp] theorem Pb (l : List jh) : aQ (sq wI l) := fO uE l
structure gY where
 place:Int
 old:List UInt8
 deriving DecidableEq,Inhabited
def cL(x:gY):List PV:=[i64 x.place,sq av x.old]
@[simp] theorem sj (x : gY) : aL (cL x) := by simp [cL]
@[simp] theorem NZ (l : List gY) : aQ (sq cL l) := fO sj l
structure aV where
 b:List UInt8
 old:List gY
 deriving DecidableEq,Inhabited
def np(x:aV):List PV:=[sq av x.b,sq cL x.old]
@[simp] theorem v8 (x : aV) : aL (np x) := by simp [np]
def dr(x:aV):PV:=.agg (np x)
@[simp] theorem Ri (x : aV) : aQ (dr x) := by unfold dr aQ; exact v8 x
@[simp] theorem QU (l : List aV) : aQ (sq np l) := fO v8 l
structure ca where
 b:List UInt8
 on:Bool
 deriving DecidableEq,Inhabited
def m0(x:ca):List PV:=[sq av x.b,boo x.on]
@[simp] theorem vU (x : ca) : aL (m0 x) := by simp [m0]
def jY(x:ca):PV:=.agg (m0 x)
@[simp] theorem Ra (x : ca) : aQ (jY x) := by unfold jY aQ; exact vU x
@[simp] theorem QY (l : List ca) : aQ (sq m0 l) := fO vU l
structure gX where
 name:Str
 xt:Int
 flags:Int
 deriving DecidableEq,Inhabited
def c8(x:gX):List PV:=[str x.name,i64 x.xt,i64 x.flags]
@[simp] theorem Bx (x : gX) : aL (c8 x) := by simp [c8]
@[simp] theorem Py (l : List gX) : aQ (sq c8 l) := fO Bx l
structure dE where
 d:Int
 r:Int
 ip:Int
 deriving DecidableEq,Inhabited
def bA(x:dE):List PV:=[i64 x.d,i64 x.r,i64 x.ip]
@[simp] theorem yY (x : dE) : aL (bA x) := by simp [bA]
@[simp] theorem NN (l : List dE) : aQ (sq bA l) := fO yY l
structure fZ where
 kind:Int
 arg:Int
 hand:Int
 rank:Int
 delay:Int
 id:Int
 deriving DecidableEq,Inhabited
def ez(x:fZ):List PV:=[i64 x.kind,i64 x.arg,i64 x.hand,i64 x.rank,i64 x.delay,i64 x.id]
@[simp] theorem wV (x : fZ) : aL (ez x) := by simp [ez]
@[simp] theorem QT (l : List fZ) : aQ (sq ez l) := fO wV l
structure lK where
 xt:Int
 fuel:Int
 strikes:Int
 out:Bool
 deriving DecidableEq,Inhabited
def iG(x:lK):List PV:=[i64 x.xt,i64 x.fuel,i64 x.strikes,boo x.out]
@[simp] theorem Ca (x : lK) : aL (iG x) := by simp [iG]
@[simp] theorem ON (l : List lK) : aQ (sq iG l) := fO Ca l
structure VVm where
 conf:jh
 mem:aV
 here:Int
 d:List Int
 r:List Int
 f:List dE
 dict:List gX
 last:Int
 out:List UInt8
 pic:ca
 req:List fZ
 free:Int
 next:Int
 arg:Int
 self:Int
 now:Int
 hand:List lK
 deriving DecidableEq,Inhabited
def cVm(x:VVm):List PV:=[i64 x.conf.mem,i64 x.conf.data,i64 x.conf.ret,i64 x.conf.words,i64 x.conf.out,sq av x.mem.b,sq cL x.mem.old,i64 x.here,sq af x.d,sq af x.r,sq bA x.f,sq c8 x.dict,i64 x.last,sq av x.out,sq av x.pic.b,boo x.pic.on,sq ez x.req,i64 x.free,i64 x.next,i64 x.arg,i64 x.self,i64 x.now,sq iG x.hand]
@[simp] theorem Ad (x : VVm) : aL (cVm x) := by simp [cVm]
def eVm(x:VVm):PV:=.agg (cVm x)
@[simp] theorem Rr (x : VVm) : aQ (eVm x) := by unfold eVm aQ; exact Ad x
@[simp] theorem RC (l : List VVm) : aQ (sq cVm l) := fO Ad l
def dm(x y:PV):PV:=.tup [x,y]
def da(x y z:PV):PV:=.tup [x,y,z]
def uZ(x y z u:PV):PV:=.tup [x,y,z,u]
@[simp] theorem QX {x y : PV} : aQ (dm x y) ↔ aQ x ∧ aQ y := by simp [dm]
@[simp] theorem QV {x y z : PV} : aQ (da x y z) ↔ aQ x ∧ aQ y ∧ aQ z := by simp [da]
@[simp] theorem Rb {x y z u : PV} : aQ (uZ x y z u) ↔ aQ x ∧ aQ y ∧ aQ z ∧ aQ u := by simp [uZ]
end Go.Proofs.YtiibjcnedbncjaaGreatDoor
namespace Go.Proofs
open Go.Shelf
def Tryz.lays134_ren:Go.Shelf.Ren:=⟨fun|134=>336|129=>343|n=>n,fun|53=>194|3=>3|4=>4|46=>247|5=>5|9=>9|n=>n,fun|n=>n⟩
theorem Tryz.lays134:Go.Proofs.Lays.n134 Tryz.prog Tryz.lays134_ren:={
 mixed:=by kernel_rfl
 f129:=Tryz.func343.trans (congrArg some (by kernel_rfl))
 f134:=Tryz.func336.trans (congrArg some (by kernel_rfl))
 t3:=Tryz.underlying3
 a3:=Tryz.isAgg3
 z3:=Tryz.sizeOf3
 v3:=Tryz.zeroValue3
 t4:=Tryz.underlying4
 a4:=Tryz.isAgg4
 z4:=Tryz.sizeOf4
 v4:=Tryz.zeroValue4
 t5:=Tryz.underlying5
 a5:=Tryz.isAgg5
 z5:=Tryz.sizeOf5
 v5:=Tryz.zeroValue5
 t9:=Tryz.underlying9
 a9:=Tryz.isAgg9
 z9:=Tryz.sizeOf9
 v9:=Tryz.zeroValue9
 t46:=Tryz.underlying247
 a46:=Tryz.isAgg247
 z46:=Tryz.sizeOf247
 v46:=Tryz.zeroValue247
 t53:=Tryz.underlying194
 a53:=Tryz.isAgg194
 z53:=Tryz.sizeOf194
 v53:=Tryz.zeroValue194}
theorem Tryz.bits_LeadingZeros64(x:Int)(w:World)(h0:0≤x)(h1:x≤18446744073709551615):
  Calls Tryz.prog 336 #[.int .u64 x] w fun e w'=>e=.returned (.int .i64 (64-(Lib.bitLen x.toNat:Int)))∧w'=w:=Any.bits_LeadingZeros64 Tryz.lays134 x w h0 h1
def Tryz.lays264_ren:Go.Shelf.Ren:=⟨fun|264=>303|n=>n,fun|53=>194|46=>247|n=>n,fun|n=>n⟩
theorem Tryz.lays264:Go.Proofs.Lays.n264 Tryz.prog Tryz.lays264_ren:={
 mixed:=by kernel_rfl
 f264:=Tryz.func303.trans (congrArg some (by kernel_rfl))
 t46:=Tryz.underlying247
 a46:=Tryz.isAgg247
 z46:=Tryz.sizeOf247
 v46:=Tryz.zeroValue247
 t53:=Tryz.underlying194
 a53:=Tryz.isAgg194
 z53:=Tryz.sizeOf194
 v53:=Tryz.zeroValue194}
open Go.RowKit Go.Lib in
theorem Tryz.bits_Mul64(x y:Nat)(hx:x<18446744073709551616)(hy:y<18446744073709551616)(w:World):
  Calls Tryz.prog 303 #[.int .u64 x,.int .u64 y] w fun e w'=>e=.returned (.tuple #[.int .u64 ((x*y/18446744073709551616:Nat):Int),.int .u64 ((x*y%18446744073709551616:Nat):Int)])∧w'=w:=Any.bits_Mul64 Tryz.lays264 x y hx hy w
def Tryz.lays212_ren:Go.Shelf.Ren:=⟨fun|212=>314|263=>339|264=>303|n=>n,fun|46=>247|51=>337|146=>338|53=>194|148=>310|n=>n,fun|n=>n⟩
theorem Tryz.lays212:Go.Proofs.Lays.n212 Tryz.prog Tryz.lays212_ren:={
 mixed:=by kernel_rfl
 f212:=Tryz.func314.trans (congrArg some (by kernel_rfl))
 f263:=Tryz.func339.trans (congrArg some (by kernel_rfl))
 f264:=Tryz.func303.trans (congrArg some (by kernel_rfl))
 t46:=Tryz.underlying247
 a46:=Tryz.isAgg247
 z46:=Tryz.sizeOf247
 v46:=Tryz.zeroValue247
 t51:=Tryz.underlying337
 a51:=Tryz.isAgg337
 z51:=Tryz.sizeOf337
 v51:=Tryz.zeroValue337
 t53:=Tryz.underlying194
 a53:=Tryz.isAgg194
 z53:=Tryz.sizeOf194
 v53:=Tryz.zeroValue194
 t146:=Tryz.underlying338
 a146:=Tryz.isAgg338
 z146:=Tryz.sizeOf338
 v146:=Tryz.zeroValue338
 t148:=Tryz.underlying310
 a148:=Tryz.isAgg310
 z148:=Tryz.sizeOf310
 v148:=Tryz.zeroValue310}
open Go.RowKit Go.Lib in
theorem Tryz.bits_Mul(x y:Nat)(hx:x<18446744073709551616)(hy:y<18446744073709551616)(w:World):
  Calls Tryz.prog 314 #[.int .u64 x,.int .u64 y] w fun e w'=>e=.returned (.tuple #[.int .u64 ((x*y/18446744073709551616:Nat):Int),.int .u64 ((x*y%18446744073709551616:Nat):Int)])∧w'=w:=Any.bits_Mul Tryz.lays212 x y hx hy w
def Tryz.lays105_ren:Go.Shelf.Ren:=⟨fun|105=>242|212=>314|99=>315|165=>316|166=>317|170=>318|169=>319|263=>339|264=>303|206=>340|240=>341|241=>342|276=>344|277=>337|n=>n,fun|9=>9|3=>3|4=>4|20=>20|0=>0|46=>247|109=>317|5=>5|72=>322|76=>323|51=>337|146=>338|53=>194|148=>310|70=>320|37=>24|75=>65|127=>340|164=>114|80=>325|n=>n,fun|n=>n⟩
theorem Tryz.lays105:Go.Proofs.Lays.n105 Tryz.prog Tryz.lays105_ren:={
 mixed:=by kernel_rfl
 f99:=Tryz.func315.trans (congrArg some (by kernel_rfl))
 f105:=Tryz.func242.trans (congrArg some (by kernel_rfl))
 f165:=Tryz.func316.trans (congrArg some (by kernel_rfl))
 f166:=Tryz.func317.trans (congrArg some (by kernel_rfl))
 f169:=Tryz.func319.trans (congrArg some (by kernel_rfl))
 f170:=Tryz.func318.trans (congrArg some (by kernel_rfl))
 f206:=Tryz.func340.trans (congrArg some (by kernel_rfl))
 f212:=Tryz.func314.trans (congrArg some (by kernel_rfl))
 f240:=Tryz.func341.trans (congrArg some (by kernel_rfl))
 f241:=Tryz.func342.trans (congrArg some (by kernel_rfl))
 f263:=Tryz.func339.trans (congrArg some (by kernel_rfl))
 f264:=Tryz.func303.trans (congrArg some (by kernel_rfl))
 f276:=Tryz.func344.trans (congrArg some (by kernel_rfl))
 f277:=Tryz.func337.trans (congrArg some (by kernel_rfl))
 t0:=Tryz.underlying0
 a0:=Tryz.isAgg0
 z0:=Tryz.sizeOf0
 v0:=Tryz.zeroValue0
 t3:=Tryz.underlying3
 a3:=Tryz.isAgg3
 z3:=Tryz.sizeOf3
 v3:=Tryz.zeroValue3
 t4:=Tryz.underlying4
 a4:=Tryz.isAgg4
 z4:=Tryz.sizeOf4
 v4:=Tryz.zeroValue4
 t5:=Tryz.underlying5
 a5:=Tryz.isAgg5
 z5:=Tryz.sizeOf5
 v5:=Tryz.zeroValue5
 t9:=Tryz.underlying9
 a9:=Tryz.isAgg9
 z9:=Tryz.sizeOf9
 v9:=Tryz.zeroValue9
 t20:=Tryz.underlying20
 a20:=Tryz.isAgg20
 z20:=Tryz.sizeOf20
 v20:=Tryz.zeroValue20
 t37:=Tryz.underlying24
 a37:=Tryz.isAgg24
 z37:=Tryz.sizeOf24
 v37:=Tryz.zeroValue24
 t46:=Tryz.underlying247
 a46:=Tryz.isAgg247
 z46:=Tryz.sizeOf247
 v46:=Tryz.zeroValue247
 t51:=Tryz.underlying337
 a51:=Tryz.isAgg337
 z51:=Tryz.sizeOf337
 v51:=Tryz.zeroValue337
 t53:=Tryz.underlying194
 a53:=Tryz.isAgg194
 z53:=Tryz.sizeOf194
 v53:=Tryz.zeroValue194
 t70:=Tryz.underlying320
 a70:=Tryz.isAgg320
 z70:=Tryz.sizeOf320
 v70:=Tryz.zeroValue320
 t72:=Tryz.underlying322
 a72:=Tryz.isAgg322
 z72:=Tryz.sizeOf322
 v72:=Tryz.zeroValue322
 t75:=Tryz.underlying65
 a75:=Tryz.isAgg65
 z75:=Tryz.sizeOf65
 v75:=Tryz.zeroValue65
 t76:=Tryz.underlying323
 a76:=Tryz.isAgg323
 z76:=Tryz.sizeOf323
 v76:=Tryz.zeroValue323
 t109:=Tryz.underlying317
 a109:=Tryz.isAgg317
 z109:=Tryz.sizeOf317
 v109:=Tryz.zeroValue317
 t127:=Tryz.underlying340
 a127:=Tryz.isAgg340
 z127:=Tryz.sizeOf340
 v127:=Tryz.zeroValue340
 t146:=Tryz.underlying338
 a146:=Tryz.isAgg338
 z146:=Tryz.sizeOf338
 v146:=Tryz.zeroValue338
 t148:=Tryz.underlying310
 a148:=Tryz.isAgg310
 z148:=Tryz.sizeOf310
 v148:=Tryz.zeroValue310
 t164:=Tryz.underlying114
 a164:=Tryz.isAgg114
 z164:=Tryz.sizeOf114
 v164:=Tryz.zeroValue114}
theorem Tryz.Builder_Extra_105:Builder.Extra Tryz.prog Tryz.lays105_ren:={
 sizeBuilder:=by kernel_rfl
 liesBuilder:=by kernel_rfl
 t5:=Tryz.underlying5
 a5:=Tryz.isAgg5
 z5:=Tryz.sizeOf5
 v5:=Tryz.zeroValue5
 infoByte:=by kernel_rfl
 cellsByte:=by kernel_rfl
 sizeByte:=by kernel_rfl
 neB5:=by decide}
open Go.RowKit Go.Lib in
theorem Tryz.strings_Repeat(s:ByteArray)(c:Nat)(w:World)(hc:c≤9223372036854775807)(hlen:s.size*c≤140737488355328):
  Calls Tryz.prog 242 #[.string s,.int .i64 c] w fun e w'=>e=.returned (.string ⟨(Lib.repeatL s.data.toList c).toArray⟩)∧Below w.heap.size w w':=Any.strings_Repeat Tryz.lays105 Tryz.Builder_Extra_105 s c w hc hlen
def Tryz.laysSlE041_f101_ren:Go.Shelf.Ren:=⟨fun|41=>101|n=>n,fun|22=>28|23=>3|4=>4|n=>n,fun|n=>n⟩
theorem Tryz.laysSlE041_f101:Go.Proofs.SlLaysE0.n41 Tryz.prog Tryz.laysSlE041_f101_ren:={
 mixed:=by kernel_rfl
 f41:=⟨Tryz.f101.name,by decide,Tryz.func101.trans (congrArg some (by kernel_rfl))⟩
 t4:=Tryz.underlying4
 a4:=Tryz.isAgg4
 z4:=Tryz.sizeOf4
 v4:=Tryz.zeroValue4
 t22:=Tryz.underlying28
 a22:=Tryz.isAgg28
 z22:=Tryz.sizeOf28
 v22:=Tryz.zeroValue28}
open Go.RowKit Go.Lib in
theorem Tryz.slices_Clone_nil(n c:Nat)(w:World):
  Calls Tryz.prog 101 #[.slice none n c] w fun e w'=>e=.returned (.slice none 0 0)∧w'=w:=AnyE.slices_Clone_nil Tryz.laysSlE041_f101 n c w
end Go.Proofs
namespace Go.Proofs.YtiibjcnedbncjaaGreatDoor
open Go.RowKit (wrap64)
def U(x:Int):Nat:=(x%18446744073709551616).toNat
def PU(lo hi:Int):Nat:=U hi*18446744073709551616+U lo
def PS(lo hi:Int):Int:=hi*18446744073709551616+U lo
def fU(n:Int):Bool:=decide (-9223372036854775808≤n)&&decide (n≤9223372036854775807)
def S(n:Nat):Int:=wrap64 n
def gL(a b:Int):Int×Int×Int:=if b=0 then(0,0,-10)else(wrap64 (a.fdiv b),a.fmod b,0)
def j3(a b:Int):Int×Int:=(S (U a*U b%18446744073709551616),S (U a*U b/18446744073709551616))
def kQ(a b:Int):Int×Int:=(wrap64 (a*b),(a*b)/18446744073709551616)
def dh(lo hi d:Int):Int×Int×Int :=
 if d=0 then(0,0,-10)else if U d≤U hi then(0,0,-11)else(S (PU lo hi/U d),S (PU lo hi%U d),0)
def dO(lo hi d:Int):Int×Int×Int :=
 if d=0 then(0,0,-10)else if fU ((PS lo hi).tdiv d)then((PS lo hi).tdiv d,(PS lo hi).tmod d,0)else(0,0,-11)
def dX(lo hi d:Int):Int×Int×Int :=
 if d=0 then(0,0,-10)else if fU ((PS lo hi).fdiv d)then((PS lo hi).fdiv d,(PS lo hi).fmod d,0)else(0,0,-11)
theorem lD(x:Int):U x<18446744073709551616:=by unfold U;omega
theorem dK(x:Int):IntKind.u64.wrap x=((U x:Nat):Int):=by
 rw[show IntKind.u64.wrap x=x%18446744073709551616 from by simp[IntKind.wrap,IntKind.bits,IntKind.signed]];unfold U;omega
theorem SC(x:Int)(h:0≤x)(h1:x≤9223372036854775807):U x=x.toNat:=by unfold U;omega
theorem De(x:Int)(h:x<0)(h1 : -9223372036854775808≤x):((U x:Nat):Int)=x+18446744073709551616:=by unfold U;omega
theorem bC(n:Int)(h : -9223372036854775808≤n∧n≤9223372036854775807):wrap64 n=n:=by unfold wrap64;omega
theorem S_U(x:Int)(h : -9223372036854775808≤x∧x≤9223372036854775807):S (U x)=x:=by unfold S U wrap64;omega
theorem U_S(n:Nat)(h:n<18446744073709551616):U (S n)=n:=by unfold S U wrap64;omega
theorem NV(n:Nat): -9223372036854775808≤S n∧S n≤9223372036854775807:=by unfold S wrap64;omega
theorem gz(n:Int): -9223372036854775808≤wrap64 n∧wrap64 n≤9223372036854775807:=by unfold wrap64;omega
theorem kk{a d q r:Int}(h:d*q+r=a)(hr:(0<d∧0≤r∧r<d)∨(d<0∧d<r∧r≤0)):a.fdiv d=q∧a.fmod d=r:=by
 rcases hr with ⟨hd,h0,h1⟩|⟨hd,h0,h1⟩
 ·rw[Int.fdiv_eq_ediv_of_nonneg a (by omega),Int.fmod_eq_emod_of_nonneg a (by omega)]
  exact(Int.ediv_emod_unique hd).2 ⟨by rw[Int.add_comm];exact h,h0,h1⟩
 have e1:=Int.neg_fdiv_neg a d
 have e2:=Int.neg_fmod_neg a d
 rw[Int.fdiv_eq_ediv_of_nonneg (-a) (by omega)]at e1
 rw[Int.fmod_eq_emod_of_nonneg (-a) (by omega)]at e2
 have:=(Int.ediv_emod_unique (a:=-a) (b:=-d) (r:=-r) (q:=q) (by omega)).2 ⟨by rw[Int.neg_mul];omega,by omega,by omega⟩
 omega
theorem ow{a d q r:Int}(h:d*q+r=a)(hr:r.natAbs<d.natAbs)(hs:(0≤a∧0≤r)∨(a≤0∧r≤0)):a.tdiv d=q∧a.tmod d=r:=by
 have key:∀(a d q r:Int),d*q+r=a→0<d→0≤a→0≤r→r<d→a.tdiv d=q∧a.tmod d=r:=by
  intro a d q r h hd ha h0 h1
  rw[Int.tdiv_eq_ediv_of_nonneg ha,Int.tmod_eq_emod_of_nonneg ha]
  exact(Int.ediv_emod_unique hd).2 ⟨by rw[Int.add_comm];exact h,h0,h1⟩
 rcases hs with ⟨ha,h0⟩|⟨ha,h0⟩
 ·by_cases hp:0<d
  ·exact key a d q r h hp ha h0 (by omega)
  have:=key a (-d) (-q) r (by rw[Int.neg_mul_neg];exact h) (by omega) ha h0 (by omega)
  rw[Int.tdiv_neg,Int.tmod_neg]at this
  omega
 by_cases hp:0<d
 ·have:=key (-a) d (-q) (-r) (by rw[Int.mul_neg];omega) hp (by omega) (by omega) (by omega)
  rw[Int.neg_tdiv,Int.neg_tmod]at this
  omega
 have:=key (-a) (-d) q (-r) (by rw[Int.neg_mul];omega) (by omega) (by omega) (by omega) (by omega)
 rw[Int.neg_tdiv,Int.neg_tmod,Int.tdiv_neg,Int.tmod_neg]at this
 omega
theorem iA(V d:Int)(hd:d≠0):
  V.tdiv d=(if decide (V<0) != decide (d<0)then -((V.natAbs/d.natAbs:Nat):Int)else((V.natAbs/d.natAbs:Nat):Int)) ∧
  V.tmod d=(if V<0 then -((V.natAbs%d.natAbs:Nat):Int)else((V.natAbs%d.natAbs:Nat):Int)):=by
 have hD:0<d.natAbs:=by omega
 have hm:=Nat.mod_lt V.natAbs hD
 have he:=Nat.div_add_mod V.natAbs d.natAbs
 generalize V.natAbs/d.natAbs=q at *
 generalize V.natAbs%d.natAbs=r at *
 have he':((d.natAbs:Nat):Int)*(q:Int)+(r:Int)=(V.natAbs:Nat):=by exact_mod_cast he
 by_cases hV:V<0<;>by_cases hn:d<0
 ·simp only[hV,hn,decide_true,bne_self_eq_false,Bool.false_eq_true,if_false,if_true]
  have e:((d.natAbs:Nat):Int) = -d:=by omega
  rw[e,Int.neg_mul]at he'
  exact ow (by omega) (by omega) (by omega)
 ·have hb:(decide (V<0) != decide (d<0))=true:=by simp[hV,hn]
  rw[if_pos hb,if_pos hV]
  have e:((d.natAbs:Nat):Int)=d:=by omega
  rw[e]at he'
  exact ow (by rw[Int.mul_neg];omega) (by omega) (by omega)
 ·have hb:(decide (V<0) != decide (d<0))=true:=by simp[hV,hn]
  rw[if_pos hb,if_neg hV]
  have e:((d.natAbs:Nat):Int) = -d:=by omega
  rw[e,Int.neg_mul]at he'
  exact ow (by rw[Int.mul_neg];omega) (by omega) (by omega)
 have hb:¬(decide (V<0) != decide (d<0))=true:=by simp[hV,hn]
 rw[if_neg hb,if_neg hV]
 have e:((d.natAbs:Nat):Int)=d:=by omega
 rw[e]at he'
 exact ow (by omega) (by omega) (by omega)
theorem lC(V d:Int)(hd:d≠0):
  V.fdiv d=(if V.tmod d≠0∧(decide (V<0) != decide (d<0))=true then V.tdiv d-1 else V.tdiv d) ∧
  V.fmod d=(if V.tmod d≠0∧(decide (V<0) != decide (d<0))=true then V.tmod d+d else V.tmod d):=by
 obtain⟨h1,h2⟩:=iA V d hd
 have hD:0<d.natAbs:=by omega
 have hm:=Nat.mod_lt V.natAbs hD
 have he:=Int.mul_tdiv_add_tmod V d
 generalize V.tdiv d=q at *
 generalize V.tmod d=r at *
 generalize V.natAbs%d.natAbs=s at *
 by_cases hV:V<0<;>by_cases hn:d<0
 ·rw[if_neg (by simp[hV,hn]),if_neg (by simp[hV,hn])]
  rw[if_pos hV]at h2
  exact kk he (by omega)
 ·rw[if_pos hV]at h2
  by_cases hr:r=0
  ·rw[if_neg (by simp[hr]),if_neg (by simp[hr])]
   exact kk he (by omega)
  rw[if_pos ⟨hr,by simp[hV,hn]⟩,if_pos ⟨hr,by simp[hV,hn]⟩]
  exact kk (by rw[Int.mul_sub];omega) (by omega)
 ·rw[if_neg hV]at h2
  by_cases hr:r=0
  ·rw[if_neg (by simp[hr]),if_neg (by simp[hr])]
   exact kk he (by omega)
  rw[if_pos ⟨hr,by simp[hV,hn]⟩,if_pos ⟨hr,by simp[hV,hn]⟩]
  exact kk (by rw[Int.mul_sub];omega) (by omega)
 rw[if_neg (by simp[hV,hn]),if_neg (by simp[hV,hn])]
 rw[if_neg hV]at h2
 exact kk he (by omega)
theorem Kp{B un y1 y0 u1 q r:Nat}(hB:0<B)(hy1:0<y1)(h1:u1<B)
  (hq:q*y1+r=un) (hlt:un<y1*B+y0)
  (hQ:(un*B+u1)/(y1*B+y0)≤q)
  (hc:B≤q∨B*r+u1<q*y0):(un*B+u1)/(y1*B+y0)+1≤q:=by
 have hy:0<y1*B+y0:=by
  have:=Nat.mul_pos hy1 hB;omega
 rcases hc with hc|hc
 ·have:(un*B+u1)/(y1*B+y0)<B:=by
   rw[Nat.div_lt_iff_lt_mul hy]
   have h2:(un+1)*B≤(y1*B+y0)*B:=Nat.mul_le_mul_right B hlt
   have h3:(un+1)*B=un*B+B:=by rw[Nat.add_mul];omega
   rw[Nat.mul_comm B]
   omega
  omega
 have:(un*B+u1)/(y1*B+y0)<q:=by
  rw[Nat.div_lt_iff_lt_mul hy]
  have e1:q*(y1*B+y0)=(q*y1)*B+q*y0:=by
   rw[Nat.mul_add,Nat.mul_assoc]
  have e2:un*B=(q*y1)*B+B*r:=by
   rw[←hq,Nat.add_mul,Nat.mul_comm r B]
  rw[e1,e2];omega
 omega
theorem A9{B un y1 y0 u1 q r:Nat}(hB:0<B)(hy1:0<y1)
  (hq:q*y1+r=un)
  (hQ:(un*B+u1)/(y1*B+y0)≤q)
  (hc:q*y0≤B*r+u1):(un*B+u1)/(y1*B+y0)=q:=by
 have hy:0<y1*B+y0:=by
  have:=Nat.mul_pos hy1 hB;omega
 have:q≤(un*B+u1)/(y1*B+y0):=by
  rw[Nat.le_div_iff_mul_le hy]
  have e1:q*(y1*B+y0)=(q*y1)*B+q*y0:=by
   rw[Nat.mul_add,Nat.mul_assoc]
  have e2:un*B=(q*y1)*B+B*r:=by
   rw[←hq,Nat.add_mul,Nat.mul_comm r B]
  rw[e1,e2];omega
 omega
theorem Ff{B un y1 y0 u1:Nat}(hy1:0<y1)(hB:0<B)(h1:u1<B):
  (un*B+u1)/(y1*B+y0)≤un/y1:=by
 have a:(un*B+u1)/(y1*B+y0)≤(un*B+u1)/(y1*B) :=
  Nat.div_le_div_left (by omega) (Nat.mul_pos hy1 hB)
 have b:(un*B+u1)/(y1*B)=un/y1:=by
  rw[Nat.mul_comm y1 B,←Nat.div_div_eq_div_mul]
  rw[Nat.mul_comm un B,Nat.mul_add_div hB,Nat.div_eq_of_lt h1,Nat.add_zero]
 omega
theorem Bk{B un u1 u0 y:Nat}(hy:0<y):
  ((un*B+u1)/y)*B+((un*B+u1)%y*B+u0)/y=(un*(B*B)+u1*B+u0)/y ∧
  ((un*B+u1)%y*B+u0)%y=(un*(B*B)+u1*B+u0)%y:=by
 have e:un*(B*B)+u1*B+u0=((un*B+u1)/y*B)*y+((un*B+u1)%y*B+u0):=by
  have h:=Nat.div_add_mod (un*B+u1) y
  have h2:un*(B*B)+u1*B=(un*B+u1)*B:=by rw[Nat.add_mul,Nat.mul_assoc]
  rw[h2]
  have h3:(un*B+u1)*B=(y*((un*B+u1)/y)+(un*B+u1)%y)*B:=by rw[h]
  rw[h3,Nat.add_mul]
  have h4:y*((un*B+u1)/y)*B=(un*B+u1)/y*B*y:=by
   rw[Nat.mul_comm y,Nat.mul_assoc,Nat.mul_comm y B,←Nat.mul_assoc]
  omega
 rw[e]
 constructor
 ·rw[Nat.mul_comm _ y,Nat.mul_add_div hy]
 rw[Nat.mul_comm _ y,Nat.mul_add_mod]
end Go.Proofs.YtiibjcnedbncjaaGreatDoor
namespace Go.Proofs.YtiibjcnedbncjaaGreatDoor
open Go.RowKit (wrap64)
theorem kY(n:Int):wrap64 n=n.bmod 18446744073709551616:=by
 unfold wrap64;rw[Int.bmod_def];split<;>omega
theorem yd(x y:Int):wrap64 (wrap64 x+y)=wrap64 (x+y):=by simp[kY]
theorem mB(x y:Int):wrap64 (wrap64 x-y)=wrap64 (x-y):=by simp[kY]
theorem mp(x y:Int):wrap64 (x-wrap64 y)=wrap64 (x-y):=by simp[kY]
theorem qF(x y:Int):wrap64 (wrap64 x*y)=wrap64 (x*y):=by simp[kY]
theorem Eg(a:Int)(ha : -9223372036854775808≤a∧a≤9223372036854775807):(U a:Int)=a+(if a<0 then 18446744073709551616 else 0):=by
 unfold U;split<;>omega
theorem yQ(a b:Int)(ha : -9223372036854775808≤a∧a≤9223372036854775807)(hb : -9223372036854775808≤b∧b≤9223372036854775807):
  ((U a*U b:Nat):Int)=a*b+18446744073709551616*((if a<0 then b else 0)+(if b<0 then a else 0)+(if a<0∧b<0 then 18446744073709551616 else 0)):=by
 rw[Int.natCast_mul,Eg a ha,Eg b hb]
 by_cases h1:a<0<;>by_cases h2:b<0
 ·simp only[h1,h2,if_true,and_self];rw[Int.add_mul,Int.mul_add,Int.mul_add,Int.mul_comm a 18446744073709551616];omega
 ·simp only[h1,h2,if_true,if_false,and_false,Int.add_zero];rw[Int.add_mul]
 ·simp only[h1,h2,if_true,if_false,false_and];rw[Int.mul_add,Int.add_zero,Int.mul_comm a 18446744073709551616];omega
 simp only[h1,h2,if_false,and_self,Int.add_zero,Int.mul_zero]
theorem y7(a b:Int)(ha : -9223372036854775808≤a∧a≤9223372036854775807)(hb : -9223372036854775808≤b∧b≤9223372036854775807):
  -85070591730234615865843651857942052864≤a*b∧a*b≤85070591730234615865843651857942052864:=by
 have h:(a*b).natAbs≤9223372036854775808*9223372036854775808:=by
  rw[Int.natAbs_mul];exact Nat.mul_le_mul (by omega) (by omega)
 omega
theorem J7(a b:Int)(ha : -9223372036854775808≤a∧a≤9223372036854775807)(hb : -9223372036854775808≤b∧b≤9223372036854775807):
  (j3 a b).1=(kQ a b).1:=by
 have h:=yQ a b ha hb
 simp only[j3,kQ,S]
 generalize U a*U b=p at *
 generalize a*b=q at *
 unfold wrap64
 omega
theorem Qc(a b:Int)(ha : -9223372036854775808≤a∧a≤9223372036854775807)(hb : -9223372036854775808≤b∧b≤9223372036854775807):
  wrap64 ((j3 a b).2-((if a<0 then b else 0)+(if b<0 then a else 0)))=(kQ a b).2:=by
 have h:=yQ a b ha hb
 have h2:=y7 a b ha hb
 simp only[j3,kQ,S]
 generalize (if a<0 then b else 0)+(if b<0 then a else 0)=x at *
 have hz:(if a<0∧b<0 then(18446744073709551616:Int)else 0)=0∨(if a<0∧b<0 then(18446744073709551616:Int)else 0)=18446744073709551616:=by
  split<;>simp
 generalize (if a<0∧b<0 then(18446744073709551616:Int)else 0)=z at *
 generalize U a*U b=p at *
 generalize a*b=q at *
 have e:((p/18446744073709551616:Nat):Int)=q/18446744073709551616+(x+z):=by
  rw[Int.natCast_ediv,h]
  exact Int.add_mul_ediv_left _ _ (by decide)
 rw[mB,e,show q/18446744073709551616+(x+z)-x=q/18446744073709551616+z from by omega]
 have hq : -9223372036854775808≤q/18446744073709551616∧q/18446744073709551616≤9223372036854775807:=by omega
 generalize q/18446744073709551616=r at *
 unfold wrap64
 omega
theorem wU(a b:Int)(hb:b=0):gL a b=(0,0,-10):=by simp[gL,hb]
theorem FW{a b:Int}(hb:b≠0)(h:a.tmod b=0):gL a b=(wrap64 (a.tdiv b),a.tmod b,0):=by
 obtain⟨h1,h2⟩:=lC a b hb
 rw[if_neg (by simp[h])]at h1 h2
 simp[gL,hb,h1,h2]
theorem wL(a b:Int)(h:a.tmod b≠0):decide (a.tmod b<0)=decide (a<0):=by
 by_cases hb:b=0
 ·subst hb;simp
 have:=(iA a b hb).2
 by_cases ha:a<0
 ·rw[if_pos ha]at this;simp[ha];omega
 rw[if_neg ha]at this;simp[ha];omega
theorem Em(a b:Int)(hb:b≠0):(a.tmod b).natAbs<b.natAbs:=by
 rw[Int.natAbs_tmod];exact Nat.mod_lt _ (by omega)
theorem zt{a b:Int}(hb:b≠0)(hb2 : -9223372036854775808≤b∧b≤9223372036854775807)(h:a.tmod b≠0)(hs:(decide (a.tmod b<0)==decide (b<0))=false):
  gL a b=(wrap64 (wrap64 (a.tdiv b)-1),wrap64 (a.tmod b+b),0):=by
 have ht:=wL a b h
 have hl:=Em a b hb
 obtain⟨h1,h2⟩:=lC a b hb
 rw[←ht]at h1 h2
 have hs':(decide (a.tmod b<0) != decide (b<0))=true:=by simp[bne,hs]
 rw[if_pos ⟨h,hs'⟩]at h1 h2
 have hf:wrap64 (a.tmod b+b)=a.tmod b+b:=by
  apply bC
  simp at hs
  omega
 rw[mB,hf]
 simp only[gL,if_neg hb,h1,h2]
theorem yO{a b:Int}(hb:b≠0)(hs:a.tmod b=0∨(decide (a.tmod b<0)==decide (b<0))=true):
  gL a b=(wrap64 (a.tdiv b),a.tmod b,0):=by
 by_cases h:a.tmod b=0
 ·exact FW hb h
 have ht:=wL a b h
 obtain⟨h1,h2⟩:=lC a b hb
 rw[←ht]at h1 h2
 have hs':(decide (a.tmod b<0) != decide (b<0))=false:=by
  rcases hs with hs|hs
  ·exact absurd hs h
  simp[bne,hs]
 rw[if_neg (by simp[hs'])]at h1 h2
 simp[gL,hb,h1,h2]
theorem wP(a b:Int)(ha : -9223372036854775808≤a∧a≤9223372036854775807):wrap64 (a-wrap64 (wrap64 (a.tdiv b)*b))=a.tmod b:=by
 rw[mp]
 have e:wrap64 (a-wrap64 (a.tdiv b)*b)=wrap64 (a-a.tdiv b*b):=by
  rw[←mp,qF,mp]
 rw[e]
 have h:=Int.mul_tdiv_add_tmod a b
 rw[show a-a.tdiv b*b=a.tmod b from by rw[Int.mul_comm];omega]
 apply bC
 by_cases hb:b=0
 ·subst hb;rw[Int.tmod_zero];exact ha
 have h3:=(iA a b hb).2
 have h4:=Nat.mod_le a.natAbs b.natAbs
 by_cases hn:a<0
 ·rw[if_pos hn]at h3;omega
 rw[if_neg hn]at h3;omega
theorem By(a b:Int)(ha : -9223372036854775808≤a∧a≤9223372036854775807):wrap64 (a-wrap64 (a.tdiv b*b))=a.tmod b:=by
 rw[←wP a b ha,qF]
theorem AD{a b:Int}(ha : -9223372036854775808≤a∧a≤9223372036854775807)(hb:0<b):wrap64 (a.tdiv b)=a.tdiv b:=by
 apply bC
 have h3:=(iA a b (by omega)).1
 have h4:=Nat.div_le_self a.natAbs b.natAbs
 have hd:decide (b<0)=false:=by simp;omega
 rw[hd]at h3
 generalize a.natAbs/b.natAbs=q at *
 by_cases hn:a<0
 ·rw[if_pos (by simp[hn])]at h3;omega
 rw[if_neg (by simp[hn])]at h3;omega
theorem BY(a b:Nat)(ha:a<18446744073709551616)(hb:b<18446744073709551616):
  (0≤(a:Int)%4294967296*((b:Int)%4294967296)∧(a:Int)%4294967296*((b:Int)%4294967296)≤18446744065119617025) ∧
  (0≤(a:Int)/4294967296*((b:Int)%4294967296)∧(a:Int)/4294967296*((b:Int)%4294967296)≤18446744065119617025) ∧
  (0≤(a:Int)%4294967296*((b:Int)/4294967296)∧(a:Int)%4294967296*((b:Int)/4294967296)≤18446744065119617025) ∧
  (0≤(a:Int)/4294967296*((b:Int)/4294967296)∧(a:Int)/4294967296*((b:Int)/4294967296)≤18446744065119617025) ∧
  ((a*b:Nat):Int)=(a:Int)/4294967296*((b:Int)/4294967296)*18446744073709551616+((a:Int)/4294967296*((b:Int)%4294967296)+(a:Int)%4294967296*((b:Int)/4294967296))*4294967296+(a:Int)%4294967296*((b:Int)%4294967296):=by
 have key:∀x y:Int,0≤x→x≤4294967295→0≤y→y≤4294967295→0≤x*y∧x*y≤18446744065119617025:=by
  intro x y h1 h2 h3 h4
  exact⟨Int.mul_nonneg h1 h3,Int.le_trans (Int.mul_le_mul h2 h4 h3 (by decide)) (by decide)⟩
 refine⟨key _ _ (by omega) (by omega) (by omega) (by omega),key _ _ (by omega) (by omega) (by omega) (by omega),key _ _ (by omega) (by omega) (by omega) (by omega),key _ _ (by omega) (by omega) (by omega) (by omega),?_⟩
 have e1:(a:Int)=4294967296*((a:Int)/4294967296)+(a:Int)%4294967296:=by omega
 have e2:(b:Int)=4294967296*((b:Int)/4294967296)+(b:Int)%4294967296:=by omega
 generalize (a:Int)/4294967296=a1 at *
 generalize (a:Int)%4294967296=a0 at *
 generalize (b:Int)/4294967296=b1 at *
 generalize (b:Int)%4294967296=b0 at *
 rw[Int.natCast_mul,e1,e2,Int.add_mul,Int.mul_add,Int.mul_add]
 have f1:4294967296*a1*(4294967296*b1)=18446744073709551616*(a1*b1):=by
  rw[Int.mul_assoc,Int.mul_left_comm a1,←Int.mul_assoc];rfl
 have f2:4294967296*a1*b0=4294967296*(a1*b0):=Int.mul_assoc _ _ _
 have f3:a0*(4294967296*b1)=4294967296*(a0*b1):=Int.mul_left_comm _ _ _
 rw[f1,f2,f3]
 omega
open Go.RowKit
theorem EX{k:IntKind}{a b:Int}(h:a=b):Ending.returned (.int k a)=Ending.returned (.int k b):=by rw[h]
theorem o7{k l:IntKind}{a b c d:Int}(h1:a=c)(h2:b=d):Ending.returned (.tuple #[.int k a,.int l b])=Ending.returned (.tuple #[.int k c,.int l d]):=by rw[h1,h2]
theorem eA{k l m:IntKind}{a b c d e f:Int}(h1:a=d)(h2:b=e)(h3:c=f):Ending.returned (.tuple #[.int k a,.int l b,.int m c])=Ending.returned (.tuple #[.int k d,.int l e,.int m f]):=by rw[h1,h2,h3]
theorem sP(w:World):∃n,w=w.drewN n:=⟨0,rfl⟩
abbrev Fit(a:Int):Prop:=-9223372036854775808≤a∧a≤9223372036854775807
theorem pB(a b:Int)(w:World):
  Calls Tryz.prog 297 #[.int .i64 a,.int .i64 b] w fun e w'=>e=.returned (.bool (decide (U a<U b)))∧w=w':=by
 go_enter Tryz.func297,Tryz.ntmps297
 go_wp2
 go_ret
 exact⟨by simp[go_sem,dK],rfl⟩
theorem l6(a b:Int)(w:World):
  Calls Tryz.prog 191 #[.int .i64 a,.int .i64 b] w fun e w'=>e=.returned (.tuple #[.int .i64 (j3 a b).1,.int .i64 (j3 a b).2])∧w=w':=by
 have ha:=lD a
 have hb:=lD b
 go_enter Tryz.func191,Tryz.ntmps191
 go_wp2_with fail
 rw[dK a,dK b]
 refine(Tryz.bits_Mul64 (U a) (U b) ha hb _).mono ?_
 rintro e w' ⟨rfl,rfl⟩
 go_wp2
 go_ret2
 exact⟨o7 (by simp only[j3,S,Int.natCast_emod,Int.natCast_mul];rfl) (by simp only[j3,S,Int.natCast_ediv,Int.natCast_mul];rfl),rfl⟩
theorem Kv(a b:Int)(w:World)(ha:Fit a)(hb:Fit b):
  Calls Tryz.prog 185 #[.int .i64 a,.int .i64 b] w fun e w'=>e=.returned (.tuple #[.int .i64 (kQ a b).1,.int .i64 (kQ a b).2])∧w=w':=by
 have e1:=J7 a b ha hb
 have e2:=Qc a b ha hb
 by_cases h1:a<0<;>by_cases h2:b<0
 ·rw[if_pos h1,if_pos h2]at e2
  have H1:=Lib.hid e1
  have H2:=Lib.hid e2
  clear e1 e2
  go_enter Tryz.func185,Tryz.ntmps185
  go_wp2_with (go_at_call 191;refine(l6 _ _ _).mono ?_;rintro e w' ⟨rfl,rfl⟩)
  go_ret2
  exact⟨o7 H1.out (by rw[←H2.out,mB];congr 1;omega),rfl⟩
 ·rw[if_pos h1,if_neg h2]at e2
  have H1:=Lib.hid e1
  have H2:=Lib.hid e2
  clear e1 e2
  go_enter Tryz.func185,Tryz.ntmps185
  go_wp2_with (go_at_call 191;refine(l6 _ _ _).mono ?_;rintro e w' ⟨rfl,rfl⟩)
  go_ret2
  exact⟨o7 H1.out (by rw[←H2.out,Int.add_zero]),rfl⟩
 ·rw[if_neg h1,if_pos h2]at e2
  have H1:=Lib.hid e1
  have H2:=Lib.hid e2
  clear e1 e2
  go_enter Tryz.func185,Tryz.ntmps185
  go_wp2_with (go_at_call 191;refine(l6 _ _ _).mono ?_;rintro e w' ⟨rfl,rfl⟩)
  go_ret2
  exact⟨o7 H1.out (by rw[←H2.out,Int.zero_add]),rfl⟩
 rw[if_neg h1,if_neg h2]at e2
 have H1:=Lib.hid e1
 have H2:=Lib.hid e2
 clear e1 e2
 go_enter Tryz.func185,Tryz.ntmps185
 go_wp2_with (go_at_call 191;refine(l6 _ _ _).mono ?_;rintro e w' ⟨rfl,rfl⟩)
 go_ret2
 exact⟨o7 H1.out (by rw[←H2.out,Int.add_zero,Int.sub_zero];exact(bC _ (NV _)).symm),rfl⟩
theorem Jk(a b:Int)(w:World)(hb2:Fit b):
  Calls Tryz.prog 179 #[.int .i64 a,.int .i64 b] w fun e w'=>e=.returned (.tuple #[.int .i64 (gL a b).1,.int .i64 (gL a b).2.1,.int .i64 (gL a b).2.2])∧∃n,w'=w.drewN n:=by
 by_cases hb:b=0
 ·have HZ:=Lib.hid (wU a b hb)
  have hb':(b==0)=true:=by simp[hb]
  clear hb
  go_enter Tryz.func179,Tryz.ntmps179
  go_wp2
  go_ret3
  exact⟨eA (by rw[HZ.out]) (by rw[HZ.out]) (by rw[HZ.out]),sP w⟩
 have hb':(b==0)=false:=by simp[hb]
 go_enter Tryz.func179,Tryz.ntmps179
 go_wp2
 go_quiet (fail)
 go_wp2
 all_goals go_ret3
 ·have h:a.tmod b=0:=by assumption
  have e:=yO hb (.inl h)
  exact⟨eA (by rw[e]) (by rw[e,h]) (by rw[e]),_,rfl⟩
 ·have h:(a.tmod b != 0)=true∧(!decide (a.tmod b<0)==decide (b<0))=true:=by assumption
  have e:=zt hb hb2 (by simpa using h.1) (by simpa using h.2)
  exact⟨eA (by rw[e]) (by rw[e]) (by rw[e]),_,rfl⟩
 have h:(a.tmod b != 0)=false∨(!decide (a.tmod b<0)==decide (b<0))=false:=by assumption
 have e:=yO (a:=a) hb (by rcases h with h|h<;>simp at h<;>simp[h])
 exact⟨eA (by rw[e]) (by rw[e]) (by rw[e]),_,rfl⟩
theorem Nu(a b:Int)(w:World)(ha:Fit a)(hb2:Fit b):
  Calls Tryz.prog 174 #[.int .i64 a,.int .i64 b] w fun e w'=>e=.returned (.tuple #[.int .i64 (gL a b).1,.int .i64 (gL a b).2.1,.int .i64 (gL a b).2.2])∧w=w':=by
 by_cases hb:b=0
 ·have HZ:=Lib.hid (wU a b hb)
  have hb':(b==0)=true:=by simp[hb]
  clear hb
  go_enter Tryz.func174,Tryz.ntmps174
  go_wp2
  go_ret3
  exact⟨eA (by rw[HZ.out]) (by rw[HZ.out]) (by rw[HZ.out]),rfl⟩
 have hb':(b==0)=false:=by simp[hb]
 have hr:=wP a b ha
 have hr':=By a b ha
 have hon:∀(_:a.tmod b=0∨(decide (a.tmod b<0)==decide (b<0))=true),gL a b=(wrap64 (a.tdiv b),a.tmod b,0):=yO hb
 have hoff:∀(_:a.tmod b≠0) (_:(decide (a.tmod b<0)==decide (b<0))=false),gL a b=(wrap64 (wrap64 (a.tdiv b)-1),wrap64 (a.tmod b+b),0):=zt hb hb2
 have Hon:=Lib.hid hon
 have Hoff:=Lib.hid hoff
 clear hon hoff
 by_cases h0:a.tmod b=0
 ·have h0':¬a.tmod b<0:=by omega
  have h0'':¬0<a.tmod b:=by omega
  have E:=Lib.hid (Hon.out (.inl h0))
  clear h0
  go_enter Tryz.func174,Tryz.ntmps174
  go_wp2
  go_ret3
  exact⟨eA (by rw[E.out]) (by rw[E.out]) (by rw[E.out]),rfl⟩
 by_cases hs:(a.tmod b<0∧b<0)∨(0<a.tmod b∧0<b)
 ·have E:=Lib.hid (Hon.out (.inr (by rcases hs with ⟨x,y⟩|⟨x,y⟩<;>simp[x,y]<;>omega)))
  rcases hs with ⟨x,y⟩|⟨x,y⟩
  all_goals
   go_enter Tryz.func174,Tryz.ntmps174
   go_wp2
   go_ret3
   exact⟨eA (by rw[E.out];first|done|(show _=wrap64 _;rw[AD ha (by omega)])) (by rw[E.out]) (by rw[E.out]),rfl⟩
 have hs':(a.tmod b<0∧0<b)∨(0<a.tmod b∧b<0):=by omega
 have E:=Lib.hid (Hoff.out h0 (by rcases hs' with ⟨x,y⟩|⟨x,y⟩<;>simp[x,y]<;>omega))
 clear hs
 rcases hs' with ⟨x,y⟩|⟨x,y⟩
 all_goals
  go_enter Tryz.func174,Tryz.ntmps174
  go_wp2
  go_ret3
  exact⟨eA (by rw[E.out];first|done|(show _=wrap64 _;rw[AD ha (by omega)])) (by rw[E.out]) (by rw[E.out]),rfl⟩
theorem A3(a b:Nat)(w:World)(ha:a<18446744073709551616)(hb:b<18446744073709551616):
  Calls Tryz.prog 329 #[.int .u64 a,.int .u64 b] w fun e w'=>e=.returned (.tuple #[.int .u64 (a*b%18446744073709551616:Nat),.int .u64 (a*b/18446744073709551616:Nat)])∧∃n,w'=w.drewN n:=by
 obtain⟨⟨h1,h2⟩,⟨h3,h4⟩,⟨h5,h6⟩,⟨h7,h8⟩,h9⟩:=BY a b ha hb
 have H9:=Lib.hid h9
 clear h9
 go_enter Tryz.func329,Tryz.ntmps329
 go_wp2
 go_quiet (fail)
 go_wp2
 go_ret2
 exact⟨o7 (by have:=H9.out;omega) (by have:=H9.out;omega),_,rfl⟩
theorem Hh(a b:Int)(w:World):
  Calls Tryz.prog 272 #[.int .i64 a,.int .i64 b] w fun e w'=>e=.returned (.tuple #[.int .i64 (j3 a b).1,.int .i64 (j3 a b).2])∧∃n,w'=w.drewN n:=by
 have ha:=lD a
 have hb:=lD b
 go_enter Tryz.func272,Tryz.ntmps272
 go_wp2_with fail
 rw[dK a,dK b]
 refine(A3 (U a) (U b) _ ha hb).mono ?_
 rintro e w' ⟨rfl,n,rfl⟩
 go_wp2
 go_ret2
 exact⟨o7 (by simp only[j3,S,Int.natCast_emod,Int.natCast_mul];rfl) (by simp only[j3,S,Int.natCast_ediv,Int.natCast_mul];rfl),_,rfl⟩
theorem fS(n:Int)(w:World)(hn:Fit n):
  Calls Tryz.prog 330 #[.int .i64 n] w fun e w'=>e=.returned (.int .u64 n.natAbs)∧w=w':=by
 by_cases h:n<0
 ·go_enter Tryz.func330,Tryz.ntmps330
  go_wp2
  go_ret
  exact⟨EX (by rw[dK n,IntKind.wrap_u64];have:=De n h hn.1;omega),rfl⟩
 go_enter Tryz.func330,Tryz.ntmps330
 go_wp2
 go_ret
 exact⟨EX (by omega),rfl⟩
theorem lZ(n:Int)(w:World)(hn:Fit n):
  Calls Tryz.prog 300 #[.int .i64 n] w fun e w'=>e=.returned (.int .u64 n.natAbs)∧w=w':=by
 by_cases h:n<0
 ·go_enter Tryz.func300,Tryz.ntmps300
  go_wp2
  go_ret
  exact⟨EX (by rw[dK n,IntKind.wrap_u64];have:=De n h hn.1;omega),rfl⟩
 go_enter Tryz.func300,Tryz.ntmps300
 go_wp2
 go_ret
 exact⟨EX (by omega),rfl⟩
theorem vq(lo hi:Nat)(w:World)(h1:lo<18446744073709551616):
  Calls Tryz.prog 331 #[.int .u64 lo,.int .u64 hi] w fun e w'=>e=.returned (.tuple #[.int .u64 ((-(hi*18446744073709551616+lo:Int))%18446744073709551616),.int .u64 ((-(hi*18446744073709551616+lo:Int))/18446744073709551616%18446744073709551616)])∧w=w':=by
 by_cases h:lo=0
 ·have h':((lo:Int)==0)=true:=by simp[h]
  go_enter Tryz.func331,Tryz.ntmps331
  go_wp2
  go_ret2
  exact⟨o7 (by omega) (by rw[IntKind.wrap_u64];omega),rfl⟩
 have h':((lo:Int)==0)=false:=by simp[h]
 go_enter Tryz.func331,Tryz.ntmps331
 go_wp2
 go_ret2
 exact⟨o7 (by rw[IntKind.wrap_u64];omega) (by rw[IntKind.wrap_u64,IntKind.wrap_u64];omega),rfl⟩
end Go.Proofs.YtiibjcnedbncjaaGreatDoor
namespace Go.Proofs.YtiibjcnedbncjaaGreatDoor
theorem CC(hi lo y s:Nat)(h0:hi<y)(s1:s≤63)(s2:9223372036854775808≤y*2 ^ s)(s3:y*2 ^ s<18446744073709551616)(hl:lo<18446744073709551616):
  ∃Y y1 y0 un ul u1 u0:Nat,
   ((y:Int)*2 ^ s=(Y:Int))∧((Y:Int)/4294967296=(y1:Int))∧(bits .and .u64 (Y:Int) 4294967295=(y0:Int)) ∧
   (bits .or .u64 (IntKind.u64.wrap ((hi:Int)*2 ^ s)) ((lo:Int)/2 ^ (64-s))=(un:Int))∧(IntKind.u64.wrap ((lo:Int)*2 ^ s)=(ul:Int)) ∧
   ((ul:Int)/4294967296=(u1:Int))∧(bits .and .u64 (ul:Int) 4294967295=(u0:Int)) ∧
   Y=y1*4294967296+y0∧y0<4294967296∧2147483648≤y1∧y1<4294967296∧ul=u1*4294967296+u0∧u1<4294967296∧u0<4294967296∧un<Y ∧
   Y=y*2 ^ s∧un*18446744073709551616+ul=(hi*18446744073709551616+lo)*2 ^ s:=by
 have hp:0<2 ^ s:=Nat.two_pow_pos _
 have hq:0<2 ^ (64-s):=Nat.two_pow_pos _
 have e64:2 ^ (64-s)*2 ^ s=18446744073709551616:=by rw[←Nat.pow_add,show 64-s+s=64 from by omega]
 have hhi:hi*2 ^ s+2 ^ s≤y*2 ^ s:=by
  have:(hi+1)*2 ^ s≤y*2 ^ s:=Nat.mul_le_mul_right _ h0
  rwa [Nat.add_mul,Nat.one_mul]at this
 have hlo:lo/2 ^ (64-s)<2 ^ s:=by rw[Nat.div_lt_iff_lt_mul hq,Nat.mul_comm,e64];exact hl
 have hlo2:lo*2 ^ s/18446744073709551616=lo/2 ^ (64-s):=by
  rw[←e64];exact Nat.mul_div_mul_right _ _ hp
 have hul:=Nat.div_add_mod (lo*2 ^ s) 18446744073709551616
 refine⟨y*2 ^ s,y*2 ^ s/4294967296,y*2 ^ s%4294967296,hi*2 ^ s+lo/2 ^ (64-s),lo*2 ^ s%18446744073709551616,
  lo*2 ^ s%18446744073709551616/4294967296,lo*2 ^ s%18446744073709551616%4294967296,?_⟩
 refine⟨by simp,by simp,?_,?_,?_,by simp,?_,?_⟩
 ·rw[show(4294967295:Int)=((4294967295:Nat):Int) from rfl,u64_and_nat _ _ s3 (by decide)]
  rw[show(4294967295:Nat)=2 ^ 32-1 from rfl,Nat.and_two_pow_sub_one_eq_mod]
 ·have e1:IntKind.u64.wrap ((hi:Int)*2 ^ s)=((hi*2 ^ s:Nat):Int):=by
   rw[show((hi:Int)*2 ^ s)=((hi*2 ^ s:Nat):Int) from by simp]
   exact IntWalk.u64_in _ (by omega)
  have e2:(lo:Int)/2 ^ (64-s)=((lo/2 ^ (64-s):Nat):Int):=by simp
  rw[e1,e2,u64_or_nat _ _ (by omega) (by omega)]
  congr 1
  have:=Nat.shiftLeft_add_eq_or_of_lt hlo hi
  rw[Nat.shiftLeft_eq]at this
  exact this.symm
 ·rw[show((lo:Int)*2 ^ s)=((lo*2 ^ s:Nat):Int) from by simp,IntKind.wrap_u64]
  rfl
 ·rw[show(4294967295:Int)=((4294967295:Nat):Int) from rfl,u64_and_nat _ _ (Nat.mod_lt _ (by decide)) (by decide)]
  rw[show(4294967295:Nat)=2 ^ 32-1 from rfl,Nat.and_two_pow_sub_one_eq_mod]
 refine⟨by omega,by omega,by omega,by omega,by omega,by omega,by omega,by omega,rfl,?_⟩
 rw[Nat.add_mul,Nat.add_mul,←hlo2]
 rw[show hi*18446744073709551616*2 ^ s=hi*2 ^ s*18446744073709551616 from by rw[Nat.mul_right_comm]]
 omega
theorem FD{hi lo y s Y un ul u1 u0 q1 q0 r1 r0:Nat}(hy:0<y)(eY:Y=y*2 ^ s)(eN:un*18446744073709551616+ul=(hi*18446744073709551616+lo)*2 ^ s)(eu:ul=u1*4294967296+u0)
  (e1:q1=(un*4294967296+u1)/Y) (f1:r1=(un*4294967296+u1)%Y) (e0:q0=(r1*4294967296+u0)/Y) (f0:r0=(r1*4294967296+u0)%Y) :
  q1*4294967296+q0=(hi*18446744073709551616+lo)/y∧r0/2 ^ s=(hi*18446744073709551616+lo)%y:=by
 have hp:0<2 ^ s:=Nat.two_pow_pos _
 have hY:0<Y:=by rw[eY];exact Nat.mul_pos hy hp
 obtain⟨a,b⟩:=Bk (B:=4294967296) (un:=un) (u1:=u1) (u0:=u0) hY
 have e:un*(4294967296*4294967296)+u1*4294967296+u0=(hi*18446744073709551616+lo)*2 ^ s:=by
  have hB:4294967296*4294967296=18446744073709551616:=by decide
  rw[hB,←eN,eu,Nat.add_assoc]
 rw[e,eY]at a b
 rw[Nat.mul_div_mul_right _ _ hp]at a
 rw[Nat.mul_mod_mul_right]at b
 subst e1 f1 e0 f0
 rw[eY]
 exact⟨a,by rw[b];exact Nat.mul_div_cancel _ hp⟩
theorem AC{un y1 y0 u1 a b Q Y:Nat}(hY:Y=y1*4294967296+y0)(hQ:Q=(un*4294967296+u1)/Y)(h1:2147483648≤y1)(h0:y0<4294967296)(hu:u1<4294967296)(hlt:un<Y)
  (inv:a*y1+b=un∧Q≤a) (hc:4294967296≤a∨4294967296*b+u1<a*y0) :
  ∃a',a=a'+1∧(a'*y1+(b+y1)=un∧Q≤a')∧(4294967296≤b+y1→a'=Q):=by
 obtain⟨i1,i2⟩:=inv
 have hs:=Kp (B:=4294967296) (un:=un) (y1:=y1) (y0:=y0) (u1:=u1) (q:=a) (r:=b) (by omega) (by omega) hu i1 (by omega) (by rw[←hY,←hQ];exact i2) hc
 rw[←hY,←hQ]at hs
 obtain⟨a',rfl⟩:∃a',a=a'+1:=⟨a-1,by omega⟩
 have e:(a'+1)*y1=a'*y1+y1:=by rw[Nat.add_mul,Nat.one_mul]
 refine⟨a',rfl,⟨by omega,by omega⟩,fun hb=>?_⟩
 have ha:a'≤4294967296:=by
  apply Nat.le_of_not_lt
  intro hgt
  have:4294967297*y1≤a'*y1:=Nat.mul_le_mul_right _ hgt
  omega
 have hm:a'*y0≤4294967296*y0:=Nat.mul_le_mul_right _ ha
 have:=A9 (B:=4294967296) (un:=un) (y1:=y1) (y0:=y0) (u1:=u1) (q:=a') (r:=b+y1) (by omega) (by omega) (by omega) (by rw[←hY,←hQ];omega) (by omega)
 rw[←hY,←hQ]at this
 exact this.symm
theorem DH{un y1 y0 u1 a b Q Y:Nat}(hY:Y=y1*4294967296+y0)(hQ:Q=(un*4294967296+u1)/Y)(h1:2147483648≤y1)
  (inv:a*y1+b=un∧Q≤a) (hc:¬4294967296*b+u1<a*y0):a=Q:=by
 obtain⟨i1,i2⟩:=inv
 have:=A9 (B:=4294967296) (un:=un) (y1:=y1) (y0:=y0) (u1:=u1) (q:=a) (r:=b) (by omega) (by omega) i1 (by rw[←hY,←hQ];exact i2) (by omega)
 rw[←hY,←hQ]at this
 exact this.symm
theorem xb{un y1 y0 u1 Q Y:Nat}(hY:Y=y1*4294967296+y0)(hQ:Q=(un*4294967296+u1)/Y)(h1:2147483648≤y1)(hu:u1<4294967296):
  ∃q r:Nat,((un:Int)/y1=(q:Int))∧((un:Int)-(q:Int)*y1=(r:Int))∧(q*y1+r=un∧Q≤q)∧r<y1∧q≤un∧0≤(q:Int)*y1∧(q:Int)*y1≤un:=by
 have hm:=Nat.div_add_mod un y1
 have hc:=Nat.mul_comm y1 (un/y1)
 have hs:=Ff (B:=4294967296) (un:=un) (y1:=y1) (y0:=y0) (u1:=u1) (by omega) (by omega) hu
 rw[←hY,←hQ]at hs
 have e:((un/y1*y1:Nat):Int)=((un/y1:Nat):Int)*y1:=by simp
 refine⟨un/y1,un%y1,by simp,by omega,⟨by omega,hs⟩,Nat.mod_lt _ (by omega),Nat.div_le_self _ _,by omega,by omega⟩
theorem wX(a b:Nat)(ha:a<4294967296)(hb:b<4294967296):0≤(a:Int)*b∧(a:Int)*b≤18446744065119617025:=by
 have h:a*b≤4294967295*4294967295:=Nat.mul_le_mul (by omega) (by omega)
 have e:((a*b:Nat):Int)=(a:Int)*b:=by simp
 omega
theorem ko(a b:Nat):((a*b:Nat):Int)=(a:Int)*b:=by simp
theorem H6{hi lo y Q1 Q0:Nat}(h0:hi<y)(hl:lo<18446744073709551616)(x1:Q1*4294967296+Q0=(hi*18446744073709551616+lo)/y):
  IntKind.u64.wrap (IntKind.u64.wrap ((Q1:Int)*4294967296)+Q0)=(((hi*18446744073709551616+lo)/y:Nat):Int):=by
 have hlt:(hi*18446744073709551616+lo)/y<18446744073709551616:=by
  rw[Nat.div_lt_iff_lt_mul (by omega)]
  have:(hi+1)*18446744073709551616≤y*18446744073709551616:=Nat.mul_le_mul_right _ h0
  rw[Nat.add_mul]at this
  rw[Nat.mul_comm _ y]
  omega
 generalize (hi*18446744073709551616+lo)/y=z at *
 rw[IntKind.wrap_u64,IntKind.wrap_u64]
 omega
theorem G7{r0 s z:Nat}(h:r0/2 ^ s=z):(r0:Int)/2 ^ s=(z:Int):=by rw[←h];simp
theorem CB(lo y:Nat)(hl:lo<18446744073709551616):IntKind.u64.wrap ((lo:Int)/y)=(lo:Int)/y:=by
 have e:(lo:Int)/y=((lo/y:Nat):Int):=by simp
 have:=Nat.div_le_self lo y
 rw[e]
 generalize lo/y=z at *
 exact IntWalk.u64_in _ (by omega)
open Go.RowKit
theorem lz(y:Nat)(h0:0<y)(h1:y<18446744073709551616):∃s:Nat,s≤63∧9223372036854775808≤y*2 ^ s∧y*2 ^ s<18446744073709551616 ∧
  ∀w:World,Calls Tryz.prog 336 #[.int .u64 y] w fun e w'=>e=.returned (.int .i64 s)∧w=w':=by
 obtain⟨a,b,c⟩:=Lib.bitLenAux_bounds 64 y h1 (by omega)
 have hL:Lib.bitLenAux 64 y≤64:=Lib.bitLen_le y 64 (Nat.le_refl _) h1
 have hc:=fun w=>Tryz.bits_LeadingZeros64 y w (by omega) (by omega)
 simp only[Int.toNat_natCast,Lib.bitLen]at hc
 generalize Lib.bitLenAux 64 y=L at *
 have e:2 ^ (64-L)*2 ^ (L-1)=9223372036854775808:=by rw[←Nat.pow_add,show 64-L+(L-1)=63 from by omega]
 have e2:2 ^ (64-L)*2 ^ L=18446744073709551616:=by rw[←Nat.pow_add,show 64-L+L=64 from by omega]
 have hp:0<2 ^ (64-L):=Nat.two_pow_pos _
 refine⟨64-L,by omega,?_,?_,?_⟩
 ·rw[←e,Nat.mul_comm y];exact Nat.mul_le_mul_left _ b
 ·rw[←e2,Nat.mul_comm y];exact Nat.mul_lt_mul_of_pos_left c hp
 intro w
 have:=hc w
 rw[show(64:Int)-(L:Int)=((64-L:Nat):Int) from by omega]at this
 refine this.mono ?_
 rintro e w' ⟨h,h'⟩
 exact⟨h,h'.symm⟩
theorem F6(hi lo y:Nat)(w:World)(h0:hi<y)(hh:0<hi)(hy:y<18446744073709551616)(hl:lo<18446744073709551616):
  Calls Tryz.prog 304 #[.int .u64 hi,.int .u64 lo,.int .u64 y] w fun e w'=>e=.returned (.tuple #[.int .u64 ((hi*18446744073709551616+lo)/y:Nat),.int .u64 ((hi*18446744073709551616+lo)%y:Nat)])∧∃n,w'=w.drewN n:=by
 have t0:((y:Int)==0)=false:=by simp;omega
 have t1:((hi:Int)==0)=false:=by simp;omega
 have hy2:0<y:=by omega
 obtain⟨s,s1,s2,s3,hc⟩:=lz y hy2 hy
 have Hc:=Lib.hid hc
 clear hc
 have ep:(y:Int)*2 ^ s=((y*2 ^ s:Nat):Int):=by simp
 have b1:(9223372036854775808:Int)≤(y:Int)*2 ^ s:=by rw[ep];omega
 have b2:(y:Int)*2 ^ s≤18446744073709551615:=by rw[ep];omega
 clear ep
 obtain⟨Y,y1,y0,un,ul,u1,u0,e1,e2,e3,e4,e5,e6,e7,f1,f2,f3,f3',f4,f5,f6,f7,f8,f9⟩:=CC hi lo y s h0 s1 s2 s3 hl
 have hYb:9223372036854775808≤Y∧Y<18446744073709551616:=by rw[f8];exact⟨s2,s3⟩
 have hend:=fun q1 q0 r1 r0=>@FD hi lo y s Y un ul u1 u0 q1 q0 r1 r0 hy2 f8 f9 f4
 have Hend:=Lib.hid hend
 have Hs2:=Lib.hid s2
 have Hs3:=Lib.hid s3
 have F1:=Lib.hid f1
 have F4:=Lib.hid f4
 clear hend s2 s3 f1 f4 f8 f9
 obtain⟨Q1,hQ1⟩:∃Q1,Q1=(un*4294967296+u1)/Y:=⟨_,rfl⟩
 obtain⟨q,r,e8,e9,g1,g2,g3,g4,g5⟩:=xb F1.out hQ1 f3 f5
 have hnext:=fun a b=>@AC un y1 y0 u1 a b Q1 Y F1.out hQ1 f3 f2 f5 f7
 have hout:=fun a b=>@DH un y1 y0 u1 a b Q1 Y F1.out hQ1 f3
 have Hnext:=Lib.hid hnext
 have Hout:=Lib.hid hout
 have G1:=Lib.hid g1
 have HQ1:=Lib.hid hQ1
 clear hQ1 g1 hnext hout
 go_enter Tryz.func304,Tryz.ntmps304
 go_upto_block 0 with (go_at_call 336;refine(Hc.out _).mono ?_;rintro e w' ⟨rfl,rfl⟩)
 go_cut [15] (fun x wx=>x=.int .u64 Q1∧wx=w)
 case first =>
  clear e1 e2 e3 e4 e5 e6 e7 e8 e9
  go_wp2_with fail
  go_loop [15,16] (fun x z=>∃a b:Nat,x=.int .u64 a∧z=.int .u64 b∧Hid (a*y1+b=un∧Q1≤a)∧b<4294967296∧a≤18446744073709551615) (fun x _=>(intOf x).toNat)
  case atStart=>exact⟨q,r,rfl,rfl,G1,by omega,by omega⟩
  case round =>
   obtain⟨a,b,rfl,rfl,hi1,hi2,hi3⟩:=hrel
   have F3:=Lib.hid f3
   have F3':=Lib.hid f3'
   have F2:=Lib.hid f2
   have F5:=Lib.hid f5
   have D4:=Lib.hid hi2
   have d0:(a:Int)≤18446744073709551615:=by omega
   have d3:(b:Int)<4294967296:=by omega
   have d4:(y1:Int)<4294967296:=by omega
   have d5:(2147483648:Int)≤y1:=by omega
   have d6:(u1:Int)<4294967296:=by omega
   clear hYb hl hy b1 b2 h0 hh t0 t1 hy2 g2 g3 g4 g5 f7 f3 f3' f2 f5 f6 hi2 hi3
   by_cases c1:(4294967296:Int)≤(a:Int)
   ·obtain⟨a',rfl,j1,j2⟩:=Hnext.out a b hi1.out (.inl (by omega))
    have J1:=Lib.hid j1
    have J2:=Lib.hid j2
    have C1:(4294967296:Int)≤(a':Int)+1:=by omega
    have D0:(a':Int)+1≤18446744073709551615:=by omega
    clear j1 j2 hi1 c1 d0
    by_cases c3:(4294967296:Int)≤(b:Int)+y1
    ·go_wp2_with fail
     go_meet
     exact⟨by rw[←J2.out (by omega)],rfl⟩
    go_wp2_with fail
    go_round
    case rel=>exact⟨a',b+y1,rfl,by go_num,J1,by omega,by omega⟩
    case measure=>simp[intOf]
   obtain⟨p1,p2⟩:=wX a y0 (by omega) F2.out
   by_cases c2:4294967296*(b:Int)+u1<(a:Int)*y0
   ·have C2:=Lib.hid c2
    obtain⟨a',ha',j1,j2⟩:=Hnext.out a b hi1.out (.inr (by have:=ko a y0;omega))
    have A:=Lib.hid ha'
    have J1:=Lib.hid j1
    have J2:=Lib.hid j2
    have d1:(1:Int)≤(a:Int):=by omega
    clear ha' j1 j2 hi1
    by_cases c3:(4294967296:Int)≤(b:Int)+y1
    ·go_wp2_with fail
     go_meet
     exact⟨by rw[←J2.out (by omega)];have:=A.out;go_num,rfl⟩
    go_wp2_with fail
    go_round
    case rel=>exact⟨a',b+y1,by have:=A.out;go_num,by go_num,J1,by omega,by have:=A.out;omega⟩
    case measure=>have:=A.out;simp[intOf];omega
   have J:=Lib.hid (Hout.out a b hi1.out (by have:=ko a y0;omega))
   clear hi1
   go_wp2_with fail
   go_meet
   exact⟨by rw[←J.out],rfl⟩
 case rest =>
  obtain⟨rfl,rfl⟩:=hcut
  clear e1 e2 e3 e4 e5 e6 e7 e8 e9 g2 g3 g4 g5
  obtain⟨r1,hr1⟩:∃r1,r1=(un*4294967296+u1)%Y:=⟨_,rfl⟩
  have hr1Y:r1<Y:=by rw[hr1];exact Nat.mod_lt _ (by omega)
  have ed:=Nat.div_add_mod (un*4294967296+u1) Y
  rw[←HQ1.out,←hr1]at ed
  have ep:=ko Q1 Y
  have ec:=Nat.mul_comm Y Q1
  have er:IntKind.u64.wrap (IntKind.u64.wrap (IntKind.u64.wrap ((un:Int)*4294967296)+u1)-IntKind.u64.wrap ((Q1:Int)*Y))=(r1:Int):=by
   rw[IntKind.wrap_u64,IntKind.wrap_u64,IntKind.wrap_u64,IntKind.wrap_u64];omega
  clear ed ep ec
  obtain⟨Q0,hQ0⟩:∃Q0,Q0=(r1*4294967296+u0)/Y:=⟨_,rfl⟩
  obtain⟨q',r',e8,e9,g1,g2,g3,g4,g5⟩:=xb F1.out hQ0 f3 f6
  have hnext:=fun a b=>@AC r1 y1 y0 u0 a b Q0 Y F1.out hQ0 f3 f2 f6 hr1Y
  have hout:=fun a b=>@DH r1 y1 y0 u0 a b Q0 Y F1.out hQ0 f3
  have Hnext':=Lib.hid hnext
  have Hout':=Lib.hid hout
  have G1':=Lib.hid g1
  have HQ0:=Lib.hid hQ0
  have HR1:=Lib.hid hr1
  clear hQ0 g1 hnext hout hr1
  go_upto_block 2 with fail
  go_cut [18] (fun x wx=>x=.int .u64 Q0∧wx=wc)
  case first =>
   clear er e8 e9
   go_wp2_with fail
   go_loop [18,16] (fun x z=>∃a b:Nat,x=.int .u64 a∧z=.int .u64 b∧Hid (a*y1+b=r1∧Q0≤a)∧b<4294967296∧a≤18446744073709551615) (fun x _=>(intOf x).toNat)
   case atStart=>exact⟨q',r',rfl,rfl,G1',by omega,by omega⟩
   case round =>
    obtain⟨a,b,rfl,rfl,hi1,hi2,hi3⟩:=hrel
    have F3:=Lib.hid f3
    have F3':=Lib.hid f3'
    have F2:=Lib.hid f2
    have F5:=Lib.hid f6
    have D4:=Lib.hid hi2
    have d0:(a:Int)≤18446744073709551615:=by omega
    have d3:(b:Int)<4294967296:=by omega
    have d4:(y1:Int)<4294967296:=by omega
    have d5:(2147483648:Int)≤y1:=by omega
    have d6:(u0:Int)<4294967296:=by omega
    clear hYb hl hy b1 b2 h0 hh t0 t1 hy2 g2 g3 g4 g5 f7 hr1Y f3 f3' f2 f5 f6 hi2 hi3
    by_cases c1:(4294967296:Int)≤(a:Int)
    ·obtain⟨a',rfl,j1,j2⟩:=Hnext'.out a b hi1.out (.inl (by omega))
     have J1:=Lib.hid j1
     have J2:=Lib.hid j2
     have C1:(4294967296:Int)≤(a':Int)+1:=by omega
     have D0:(a':Int)+1≤18446744073709551615:=by omega
     clear j1 j2 hi1 c1 d0
     by_cases c3:(4294967296:Int)≤(b:Int)+y1
     ·go_wp2_with fail
      go_meet
      exact⟨by rw[←J2.out (by omega)],rfl⟩
     go_wp2_with fail
     go_round
     case rel=>exact⟨a',b+y1,rfl,by go_num,J1,by omega,by omega⟩
     case measure=>simp[intOf]
    obtain⟨p1,p2⟩:=wX a y0 (by omega) F2.out
    by_cases c2:4294967296*(b:Int)+u0<(a:Int)*y0
    ·have C2:=Lib.hid c2
     obtain⟨a',ha',j1,j2⟩:=Hnext'.out a b hi1.out (.inr (by have:=ko a y0;omega))
     have A:=Lib.hid ha'
     have J1:=Lib.hid j1
     have J2:=Lib.hid j2
     have d1:(1:Int)≤(a:Int):=by omega
     clear ha' j1 j2 hi1
     by_cases c3:(4294967296:Int)≤(b:Int)+y1
     ·go_wp2_with fail
      go_meet
      exact⟨by rw[←J2.out (by omega)];have:=A.out;go_num,rfl⟩
     go_wp2_with fail
     go_round
     case rel=>exact⟨a',b+y1,by have:=A.out;go_num,by go_num,J1,by omega,by have:=A.out;omega⟩
     case measure=>have:=A.out;simp[intOf];omega
    have J:=Lib.hid (Hout'.out a b hi1.out (by have:=ko a y0;omega))
    clear hi1
    go_wp2_with fail
    go_meet
    exact⟨by rw[←J.out],rfl⟩
  case rest =>
   obtain⟨rfl,rfl⟩:=hcut
   clear er e8 e9 g2 g3 g4 g5
   obtain⟨r0,hr0⟩:∃r0,r0=(r1*4294967296+u0)%Y:=⟨_,rfl⟩
   have hr0Y:r0<Y:=by rw[hr0];exact Nat.mod_lt _ (by omega)
   have ed:=Nat.div_add_mod (r1*4294967296+u0) Y
   rw[←HQ0.out,←hr0]at ed
   have ep:=ko Q0 Y
   have ec:=Nat.mul_comm Y Q0
   have er:IntKind.u64.wrap (IntKind.u64.wrap (IntKind.u64.wrap ((r1:Int)*4294967296)+u0)-IntKind.u64.wrap ((Q0:Int)*Y))=(r0:Int):=by
    rw[IntKind.wrap_u64,IntKind.wrap_u64,IntKind.wrap_u64,IntKind.wrap_u64];omega
   have HE:=Lib.hid (Hend.out Q1 Q0 r1 r0 HQ1.out HR1.out HQ0.out hr0)
   clear ed ep ec hr0
   go_wp2_with fail
   go_ret2
   refine⟨o7 ?_ ?_,sP _⟩
   ·exact H6 h0 hl HE.out.1
   exact G7 HE.out.2
theorem AM(hi lo y:Nat)(w:World)(h0:hi<y)(hh:hi=0)(hy:y<18446744073709551616)(hl:lo<18446744073709551616):
  Calls Tryz.prog 304 #[.int .u64 hi,.int .u64 lo,.int .u64 y] w fun e w'=>e=.returned (.tuple #[.int .u64 ((hi*18446744073709551616+lo)/y:Nat),.int .u64 ((hi*18446744073709551616+lo)%y:Nat)])∧∃n,w'=w.drewN n:=by
 have H:=Lib.hid hh
 have t0:((y:Int)==0)=false:=by simp;omega
 have t1:((hi:Int)==0)=true:=by simp;omega
 have hy2:0<y:=by omega
 clear hh
 go_enter Tryz.func304,Tryz.ntmps304
 go_wp2
 go_quiet (fail)
 go_wp2
 go_ret2
 refine⟨o7 ?_ ?_,_,rfl⟩
 ·rw[H.out];simp[CB lo y hl]
 rw[H.out];simp
theorem pH(hi lo y:Nat)(w:World)(h0:hi<y)(hy:y<18446744073709551616)(hl:lo<18446744073709551616):
  Calls Tryz.prog 304 #[.int .u64 hi,.int .u64 lo,.int .u64 y] w fun e w'=>e=.returned (.tuple #[.int .u64 ((hi*18446744073709551616+lo)/y:Nat),.int .u64 ((hi*18446744073709551616+lo)%y:Nat)])∧∃n,w'=w.drewN n:=by
 by_cases hh:hi=0
 ·exact AM hi lo y w h0 hh hy hl
 exact F6 hi lo y w h0 (by omega) hy hl
end Go.Proofs.YtiibjcnedbncjaaGreatDoor
namespace Go.Proofs.YtiibjcnedbncjaaGreatDoor
open Go.RowKit (wrap64)
def ka(lo hi k:Nat):Nat:=hi*2 ^ (64-k)+lo/2 ^ k
theorem Jb(lo hi:Nat):ka lo hi 0=hi*18446744073709551616+lo:=by simp[ka]
theorem GS(lo hi:Nat)(h:lo<18446744073709551616):ka lo hi 64=hi:=by
 have:lo/2 ^ 64=0:=Nat.div_eq_of_lt h
 simp only[ka,this];simp
theorem EG(lo hi j:Nat)(hj:j<64):ka lo hi j=2*ka lo hi (j+1)+lo/2 ^ j%2:=by
 unfold ka
 have e1:64-j=(64-(j+1))+1:=by omega
 have e2:lo/2 ^ (j+1)=lo/2 ^ j/2:=by rw[Nat.div_div_eq_div_mul,Nat.pow_succ]
 rw[e1,e2,Nat.pow_succ,←Nat.mul_assoc]
 have:=Nat.div_add_mod (lo/2 ^ j) 2
 omega
theorem L3(lo hi k d:Nat)(h:hi<d)(hl:lo<18446744073709551616)(hk:k≤64):ka lo hi k<d*2 ^ (64-k):=by
 unfold ka
 have e:2 ^ (64-k)*2 ^ k=18446744073709551616:=by rw[←Nat.pow_add,show 64-k+k=64 from by omega]
 have h1:lo/2 ^ k<2 ^ (64-k):=by rw[Nat.div_lt_iff_lt_mul (Nat.two_pow_pos _),e];exact hl
 have h2:(hi+1)*2 ^ (64-k)≤d*2 ^ (64-k):=Nat.mul_le_mul_right _ h
 rw[Nat.add_mul,Nat.one_mul]at h2
 omega
theorem GJ(lo hi j d:Nat)(h:hi<d)(hl:lo<18446744073709551616)(hj:j<64):ka lo hi (j+1)/d≤9223372036854775807:=by
 have h1:=L3 lo hi (j+1) d h hl (by omega)
 have h2:ka lo hi (j+1)/d<2 ^ (64-(j+1)):=by rw[Nat.div_lt_iff_lt_mul (by omega),Nat.mul_comm];exact h1
 have h3:2 ^ (64-(j+1))≤2 ^ 63:=Nat.pow_le_pow_right (by omega) (by omega)
 have h4:(2:Nat) ^ 63=9223372036854775808:=by decide
 omega
theorem JH{N d b:Nat}(hd:0<d)(h:d≤2*(N%d)+b)(hb:b<2):(2*N+b)/d=2*(N/d)+1∧(2*N+b)%d=2*(N%d)+b-d:=by
 have e:=Nat.div_add_mod N d
 have hm:=Nat.mod_lt N hd
 have e2:2*N+b=(2*(N%d)+b-d)+d*(2*(N/d)+1):=by
  rw[Nat.mul_add,Nat.mul_one,Nat.mul_left_comm];omega
 rw[e2]
 constructor
 ·rw[Nat.add_mul_div_left _ _ hd,Nat.div_eq_of_lt (by omega),Nat.zero_add]
 rw[Nat.add_mul_mod_self_left,Nat.mod_eq_of_lt (by omega)]
theorem KV{N d b:Nat}(h:2*(N%d)+b<d):(2*N+b)/d=2*(N/d)∧(2*N+b)%d=2*(N%d)+b:=by
 have e:=Nat.div_add_mod N d
 have hd:0<d:=by omega
 have e2:2*N+b=(2*(N%d)+b)+d*(2*(N/d)):=by
  rw[Nat.mul_left_comm];omega
 rw[e2]
 constructor
 ·rw[Nat.add_mul_div_left _ _ hd,Nat.div_eq_of_lt h,Nat.zero_add]
 rw[Nat.add_mul_mod_self_left,Nat.mod_eq_of_lt h]
theorem Ds(lo hi:Int)(h:0≤hi):(PS lo hi).natAbs=hi.toNat*18446744073709551616+U lo:=by unfold PS;omega
theorem rF(lo hi:Int):PS lo hi<0↔hi<0:=by
 have:=lD lo
 unfold PS;omega
theorem L2(lo hi:Int)(h : -9223372036854775808≤hi∧hi<0):
  ((-((U hi:Int)*18446744073709551616+U lo))%18446744073709551616)=(((PS lo hi).natAbs%18446744073709551616:Nat):Int) ∧
  ((-((U hi:Int)*18446744073709551616+U lo))/18446744073709551616%18446744073709551616)=(((PS lo hi).natAbs/18446744073709551616:Nat):Int):=by
 have h1:=lD lo
 have h2:=De hi h.2 h.1
 have h3:((PS lo hi).natAbs:Int) = -(hi*18446744073709551616+U lo):=by unfold PS;omega
 omega
theorem y3(lo hi d:Int)(hd:d≠0)(q r:Nat)(hq:q=(PS lo hi).natAbs/d.natAbs)(hr:r=(PS lo hi).natAbs%d.natAbs):
  dO lo hi d=(if (decide (hi<0) != decide (d<0))=true then(if q≤9223372036854775808 then(-(q:Int),(if hi<0 then -(r:Int)else r),0)else(0,0,-11))
   else(if q<9223372036854775808 then((q:Int),(if hi<0 then -(r:Int)else r),0)else(0,0,-11))):=by
 obtain⟨h1,h2⟩:=iA (PS lo hi) d hd
 rw[←hq]at h1
 rw[←hr]at h2
 have hn:decide (PS lo hi<0)=decide (hi<0):=by simp[rF]
 rw[hn]at h1
 simp only[rF]at h2
 simp only[dO,if_neg hd,h1,h2]
 by_cases hb:(decide (hi<0) != decide (d<0))=true
 ·simp only[if_pos hb]
  by_cases hf:q≤9223372036854775808
  ·rw[if_pos hf,if_pos (by simp[fU];omega)]
  rw[if_neg hf,if_neg (by simp[fU];omega)]
 simp only[if_neg hb]
 by_cases hf:q<9223372036854775808
 ·rw[if_pos hf,if_pos (by simp[fU];omega)]
 rw[if_neg hf,if_neg (by simp[fU];omega)]
theorem JX(lo hi d:Int)(hd:d≠0)(q r:Nat)(hq:q=(PS lo hi).natAbs/d.natAbs)(hr:r=(PS lo hi).natAbs%d.natAbs):
    dX lo hi d=(if (decide (hi<0) != decide (d<0))=true then
        (if r=0 then(if q≤9223372036854775808 then(-(q:Int),0,0)else(0,0,-11))
         else(if q+1≤9223372036854775808 then(-((q:Int)+1),(if d<0 then -((d.natAbs-r:Nat):Int)else((d.natAbs-r:Nat):Int)),0)else(0,0,-11)))
      else(if q<9223372036854775808 then((q:Int),(if d<0 then -(r:Int)else r),0)else(0,0,-11))):=by
  obtain⟨h1,h2⟩:=iA (PS lo hi) d hd
  obtain⟨h3,h4⟩:=lC (PS lo hi) d hd
  have hlt:r<d.natAbs:=by rw[hr];exact Nat.mod_lt _ (by omega)
  rw[←hq]at h1
  rw[←hr]at h2
  have hn:decide (PS lo hi<0)=decide (hi<0):=by simp[rF]
  rw[hn]at h1 h3 h4
  simp only[rF]at h2
  have hz:(PS lo hi).tmod d≠0↔r≠0:=by rw[h2];split<;>omega
  simp only[hz]at h3 h4
  simp only[dX,if_neg hd]
  by_cases hb:(decide (hi<0) != decide (d<0))=true
  · simp only[if_pos hb]
    rw[if_pos hb]at h1
    by_cases hr0:r=0
    · rw[if_neg (by simp[hr0])]at h3 h4
      rw[if_pos hr0]
      have h5:(PS lo hi).tmod d=0:=by rw[h2,hr0];split<;>rfl
      rw[h3,h4,h1,h5]
      by_cases hf:q≤9223372036854775808
      · rw[if_pos hf,if_pos (by simp[fU];omega)]
      rw[if_neg hf,if_neg (by simp[fU];omega)]
    rw[if_pos ⟨hr0,hb⟩]at h3 h4
    rw[if_neg hr0]
    have h5:(PS lo hi).tmod d+d=(if d<0 then -((d.natAbs-r:Nat):Int)else((d.natAbs-r:Nat):Int)):=by
      rw[h2]
      by_cases a:hi<0<;>by_cases b:d<0<;>simp[a,b]at hb ⊢<;>omega
    rw[h3,h4,h1,h5]
    by_cases hf:q+1≤9223372036854775808
    · rw[if_pos hf,if_pos (by simp[fU];omega),show -(q:Int)-1 = -((q:Int)+1) from by omega]
    rw[if_neg hf,if_neg (by simp[fU];omega)]
  simp only[if_neg hb]
  rw[if_neg hb]at h1
  rw[if_neg (by simp[hb])]at h3 h4
  have h5:(PS lo hi).tmod d=(if d<0 then -(r:Int)else r):=by
    rw[h2]
    by_cases a:hi<0<;>by_cases b:d<0<;>simp[a,b]at hb ⊢
  rw[h3,h4,h1,h5]
  by_cases hf:q<9223372036854775808
  · rw[if_pos hf,if_pos (by simp[fU];omega)]
  rw[if_neg hf,if_neg (by simp[fU];omega)]
theorem BL(lo hi d:Int)(hd2 : -9223372036854775808≤d∧d≤9223372036854775807):
    (∃e,e<0∧dO lo hi d=(0,0,e)∧dX lo hi d=(0,0,e)) ∨
    (d≠0∧∃q r,dO lo hi d=(q,r,0)∧(-9223372036854775808≤q∧q≤9223372036854775807)∧r.natAbs<d.natAbs∧(r<0→hi<0)∧(0<r→0≤hi)∧d*q+r=PS lo hi ∧
      (((r=0∨decide (hi<0)=decide (d<0))∧dX lo hi d=(q,r,0)) ∨
       (r≠0∧decide (hi<0)≠decide (d<0) ∧
        ((q = -9223372036854775808∧dX lo hi d=(0,0,-11)) ∨
         (q≠-9223372036854775808∧dX lo hi d=(q-1,r+d,0)∧(-9223372036854775808≤r+d∧r+d≤9223372036854775807)))))):=by
  by_cases hd:d=0
  · exact .inl ⟨-10,by decide,by simp[dO,hd],by simp[dX,hd]⟩
  obtain⟨h1,h2⟩:=iA (PS lo hi) d hd
  obtain⟨h3,h4⟩:=lC (PS lo hi) d hd
  have hl:=Em (PS lo hi) d hd
  have he:=Int.mul_tdiv_add_tmod (PS lo hi) d
  have hn:decide (PS lo hi<0)=decide (hi<0):=by simp[rF]
  rw[hn]at h1 h3 h4
  simp only[rF]at h2
  simp only[dO,dX,if_neg hd,h3,h4]
  generalize (PS lo hi).tdiv d=q at *
  generalize (PS lo hi).tmod d=r at *
  generalize (PS lo hi).natAbs/d.natAbs=Q at *
  generalize (PS lo hi).natAbs%d.natAbs=R at *
  have hs1:r<0→hi<0:=by
    intro h;by_cases hh:hi<0
    · exact hh
    rw[if_neg hh]at h2;omega
  have hs2:0<r→0≤hi:=by
    intro h;by_cases hh:hi<0
    · rw[if_pos hh]at h2;omega
    omega
  by_cases hf:fU q=true
  · have hf' : -9223372036854775808≤q∧q≤9223372036854775807:=by simpa[fU]using hf
    refine .inr ⟨hd,q,r,by rw[if_pos hf],hf',hl,hs1,hs2,he,?_⟩
    by_cases hc:r≠0∧(decide (hi<0) != decide (d<0))=true
    · have hne:decide (hi<0)≠decide (d<0):=by simpa using hc.2
      refine .inr ⟨hc.1,hne,?_⟩
      rw[if_pos hc,if_pos hc]
      by_cases hm:q = -9223372036854775808
      · exact .inl ⟨hm,by rw[if_neg (by simp[fU];omega)]⟩
      refine .inr ⟨hm,by rw[if_pos (by simp[fU];omega)],?_⟩
      by_cases a:hi<0<;>by_cases b:d<0<;>simp[a,b]at hne<;>omega
    refine .inl ⟨?_,by rw[if_neg hc,if_neg hc,if_pos hf]⟩
    by_cases hr:r=0
    · exact .inl hr
    right
    have:¬(decide (hi<0) != decide (d<0))=true:=fun h=>hc ⟨hr,h⟩
    simpa using this
  have hf':¬(-9223372036854775808≤q∧q≤9223372036854775807):=by simpa[fU]using hf
  refine .inl ⟨-11,by decide,by rw[if_neg hf],?_⟩
  by_cases hc:r≠0∧(decide (hi<0) != decide (d<0))=true
  · rw[if_pos hc,if_pos hc]
    rw[if_pos hc.2]at h1
    rw[if_neg (by simp[fU];omega)]
  rw[if_neg hc,if_neg hc,if_neg hf]
open Go.RowKit
theorem wv(lo hi d:Int)(w:World):
  Calls Tryz.prog 194 #[.int .i64 lo,.int .i64 hi,.int .i64 d] w fun e w'=>e=.returned (.tuple #[.int .i64 (dh lo hi d).1,.int .i64 (dh lo hi d).2.1,.int .i64 (dh lo hi d).2.2])∧∃n,w'=w.drewN n:=by
 have b1:=lD lo
 have b2:=lD d
 by_cases h:d=0
 ·have E:dh lo hi d=(0,0,-10):=by simp[dh,h]
  have H:=Lib.hid E
  have t:(d==0)=true:=by simp[h]
  clear E h b1 b2
  go_enter Tryz.func194,Tryz.ntmps194
  go_wp2
  go_ret3
  exact⟨eA (by rw[H.out]) (by rw[H.out]) (by rw[H.out]),sP w⟩
 have t:(d==0)=false:=by simp[h]
 by_cases h2:U d≤U hi
 ·have E:dh lo hi d=(0,0,-11):=by simp[dh,h,h2]
  have H:=Lib.hid E
  have t2:decide (U hi<U d)=false:=by simp;omega
  clear E b1 b2
  go_enter Tryz.func194,Tryz.ntmps194
  go_wp2_with (go_at_call 297;refine(pB _ _ _).mono ?_;rintro e w' ⟨rfl,rfl⟩)
  go_ret3
  exact⟨eA (by rw[H.out]) (by rw[H.out]) (by rw[H.out]),sP w⟩
 have E:dh lo hi d=(S (PU lo hi/U d),S (PU lo hi%U d),0):=by simp[dh,h,h2]
 have H:=Lib.hid E
 have t2:decide (U hi<U d)=true:=by simp;omega
 have HB:=Lib.hid b1
 have HB2:=Lib.hid b2
 have H2:=Lib.hid h2
 clear E b1 b2 h2
 go_enter Tryz.func194,Tryz.ntmps194
 go_wp2_with (go_at_call 297;refine(pB _ _ _).mono ?_;rintro e w' ⟨rfl,rfl⟩)
 rw[dK hi,dK lo,dK d]
 refine(pH (U hi) (U lo) (U d) _ (by have:=H2.out;omega) HB2.out HB.out).mono ?_
 rintro e w' ⟨rfl,n,rfl⟩
 go_wp2
 go_ret3
 exact⟨eA (by rw[H.out];simp[S,PU]) (by rw[H.out];simp[S,PU]) (by rw[H.out]),_,rfl⟩
theorem tB(lo hi d:Nat)(w:World)(h:hi<d)(hd:d<18446744073709551616)(hl:lo<18446744073709551616):
  Calls Tryz.prog 332 #[.int .u64 lo,.int .u64 hi,.int .u64 d] w fun e w'=>e=.returned (.tuple #[.int .u64 ((hi*18446744073709551616+lo)/d:Nat),.int .u64 ((hi*18446744073709551616+lo)%d:Nat)])∧w=w':=by
 have hn:=GS lo hi hl
 have hq:=fun j hj=>GJ lo hi j d h hl hj
 have hs:=EG lo hi
 have hz:=Jb lo hi
 have h64:ka lo hi 64/d=0∧ka lo hi 64%d=hi:=by rw[hn];exact⟨Nat.div_eq_of_lt h,Nat.mod_eq_of_lt h⟩
 have Hq:=Lib.hid hq
 have Hs:=Lib.hid hs
 have Hz:=Lib.hid hz
 have H64:=Lib.hid h64
 have HD:=Lib.hid (show 0<d by omega)
 have HD2:=Lib.hid hd
 clear hn hq hs hz h64 h hd hl
 go_enter Tryz.func332,Tryz.ntmps332
 go_wp2
 go_loop [8,9,10] (fun x y z=>∃(k:Nat) (q r:Nat) (i:Int),k≤64∧Hid (ka lo hi k/d=q∧ka lo hi k%d=r)∧Hid (i=(k:Int)-1)∧x=.int .u64 q∧y=.int .u64 r∧z=.int .i64 i) (fun _ _ z=>(intOf z+1).toNat)
 case atStart=>exact⟨64,0,hi,63,by omega,H64,(by decide:(63:Int)=((64:Nat):Int)-1),rfl,rfl,rfl⟩
 case round =>
  obtain⟨k,q,r,i,hk,hqr,hi',rfl,rfl,rfl⟩:=hrel
  clear H64
  by_cases h0:k=0
  ·have E:Hid ((hi*18446744073709551616+lo)/d=q∧(hi*18446744073709551616+lo)%d=r):=by
    have:=hqr.out;rw[h0,Hz.out]at this;exact this
   obtain rfl:i = -1:=by have:=hi'.out;omega
   clear h0 hqr hi'
   go_wp2
   go_ret2
   exact⟨o7 (by simp[←E.out.1]) (by simp[←E.out.2]),rfl⟩
  obtain⟨j,rfl⟩:∃j,k=j+1:=⟨k-1,by omega⟩
  obtain rfl:i=(j:Int):=by have:=hi'.out;omega
  have hj:(j:Int)≤63:=by omega
  obtain⟨b,hb,eb⟩:∃b:Nat,b=lo/2 ^ j%2∧((lo:Int)/2 ^ j%2=(b:Int)):=⟨_,rfl,by simp⟩
  have hnn:(0:Int)≤(lo:Int)/2 ^ j:=by
   have e:(lo:Int)/2 ^ j=((lo/2 ^ j:Nat):Int):=by simp
   rw[e];exact Int.natCast_nonneg _
  have hb2:b<2:=by rw[hb];exact Nat.mod_lt _ (by decide)
  have es:ka lo hi j=2*ka lo hi (j+1)+b:=by rw[hb];exact Hs.out j (by omega)
  have hq1:(q:Int)≤9223372036854775807:=by have:=Hq.out j (by omega);have:=hqr.out.1;omega
  have hr1:(r:Int)<d:=by have:=hqr.out.2;have:=Nat.mod_lt (ka lo hi (j+1)) HD.out;omega
  have hd1:(d:Int)≤18446744073709551615:=by have:=HD2.out;omega
  have hb3:(b:Int)≤1:=by omega
  have hM:=fun h=>@JH (ka lo hi (j+1)) d b HD.out h hb2
  have hL:=fun h=>@KV (ka lo hi (j+1)) d b h
  rw[←es,hqr.out.1,hqr.out.2]at hM hL
  have HM:=Lib.hid hM
  have HL:=Lib.hid hL
  clear h0 hqr hi' hb es hM hL hb2
  by_cases c1:(9223372036854775808:Int)≤r
  ·have er:IntKind.u64.wrap (IntKind.u64.wrap (IntKind.u64.wrap (2*(r:Int))+b)-d)=((2*r+b-d:Nat):Int):=by
    rw[IntKind.wrap_u64,IntKind.wrap_u64,IntKind.wrap_u64];omega
   have HR:=Lib.hid (HM.out (by omega))
   obtain⟨r',hr'⟩:∃r',2*r+b-d=r':=⟨_,rfl⟩
   rw[hr']at er
   have HR':Hid (ka lo hi j/d=2*q+1∧ka lo hi j%d=r'):=by have:=HR.out;rw[hr']at this;exact this
   clear HR hr'
   go_wp2
   go_round
   case rel=>exact⟨j,2*q+1,r',(j:Int)-1,by omega,HR',(rfl:(j:Int)-1=(j:Int)-1),by go_num,rfl,by go_num⟩
   case measure=>simp[intOf]
  by_cases c2:(d:Int)≤2*(r:Int)+b
  ·have HR:=Lib.hid (HM.out (by omega))
   have er:2*(r:Int)+b-d=((2*r+b-d:Nat):Int):=by omega
   obtain⟨r',hr'⟩:∃r',2*r+b-d=r':=⟨_,rfl⟩
   rw[hr']at er
   have HR':Hid (ka lo hi j/d=2*q+1∧ka lo hi j%d=r'):=by have:=HR.out;rw[hr']at this;exact this
   clear HR hr'
   go_wp2
   go_round
   case rel=>exact⟨j,2*q+1,r',(j:Int)-1,by omega,HR',(rfl:(j:Int)-1=(j:Int)-1),by go_num,by go_num,by go_num⟩
   case measure=>simp[intOf]
  have HR:=Lib.hid (HL.out (by omega))
  go_wp2
  go_round
  case rel=>exact⟨j,2*q,2*r+b,(j:Int)-1,by omega,HR,(rfl:(j:Int)-1=(j:Int)-1),by go_num,by go_num,by go_num⟩
  case measure=>simp[intOf]
end Go.Proofs.YtiibjcnedbncjaaGreatDoor
