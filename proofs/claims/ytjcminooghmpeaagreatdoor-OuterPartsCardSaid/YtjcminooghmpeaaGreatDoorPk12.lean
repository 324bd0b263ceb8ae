import Derived.Test.YtjcminooghmpeaaGreatDoorPk11
set_option linter.all false
set_option maxRecDepth 100000
set_option maxHeartbeats 40000000
open Go.Proofs.Tryz
namespace Go.Proofs.YtjcminooghmpeaaGreatDoor
open Go.RowKit
def ju(cf:List VCf)(x:Int):Prop:=∃k∈cf,k.kind=1/\k.at_=x
def CfS(T:Int->Nat)(k:VCf):Prop:=k.leaves=[]/\((k.kind=1/\T k.at_=2)\/(k.kind=2/\T k.at_=1))
structure rT (g:Int->Int) (T:Int->Nat) (cf:List VCf) (h:Int) (c:Bool):Prop where
 adr:∀x,T x≠0->1368<=x/\x%8=0/\x<=h/\(x=h->c=true)
 item:∀p,T p=1->p≠h->ItP g T (ju cf) p
 top:c=true->T h=1
 cfs:∀k∈cf,CfS T k
section
variable {g g' : Int -> Int} {T T' : Int -> Nat} {O O' : Int -> Prop} {cf cf' : List VCf} {h h' p a : Int}
def ItP.mono(I:ItP g T O p)(h1:T p=1)(hp:p≠h)(hh:T h=0\/T h=1)(hg:∀x,T x≠0->x≠h->x≠a->g' x=g x)(hT:∀x,T x≠0->T' x=T x)(hO:∀x,O x->x≠a->O' x)(ha:T a=0\/(T a=2/\T' (g' a)=1)):ItP g' T' O' p:=by
 have nh:∀x,T x≠0->T x≠1->x≠h:=fun x h0 h1 e=>by rw[e]at h0 h1;omega
 have na:∀x,T x≠0->T x≠2->x≠a:=fun x h0 h1 e=>by rw[e]at h0 h1;omega
 have ep:g' p=g p:=hg p (by omega) hp (na p (by omega) (by omega))
 have t1:∀x,T x=1->T' x=1:=fun x e=>by rw[hT x (by omega),e]
 have t2:∀x,T x=2->T' x=2:=fun x e=>by rw[hT x (by omega),e]
 have t3:∀x,T x=3->T' x=3:=fun x e=>by rw[hT x (by omega),e]
 have t4:∀x,T x=4->T' x=4:=fun x e=>by rw[hT x (by omega),e]
 have g3:∀x,T x=3->g' x=g x:=fun x e=>hg x (by omega) (nh x (by omega) (by omega)) (na x (by omega) (by omega))
 have g4:∀x,T x=4->g' x=g x:=fun x e=>hg x (by omega) (nh x (by omega) (by omega)) (na x (by omega) (by omega))
 have br:T (p+8)=2->(T (g (p+8))=1\/O (p+8))->(T' (g' (p+8))=1\/O' (p+8)):=fun e b=>by
  by_cases q:p+8=a
  ·rcases ha with ha|ha
   ·rw[q,ha]at e;omega
   rw[q];exact .inl ha.2
  rw[hg _ (by omega) (nh _ (by omega) (by omega)) q]
  exact b.elim (fun z=>.inl (t1 _ z)) fun z=>.inr (hO _ z q)
 cases I with
 | prim i hi e n=>exact .prim i hi (ep.trans e) (t1 _ n)
 | exit e=>exact .exit (ep.trans e)
 | def_ e n=>exact .def_ (ep.trans e) (t1 _ n)
 | lit e n3 n=>exact .lit (ep.trans e) (t3 _ n3) (t1 _ n)
 | br e n2 b=>exact .br (ep.trans e) (t2 _ n2) (br n2 b)
 | zbr e n2 b n=>exact .zbr (ep.trans e) (t2 _ n2) (br n2 b) (t1 _ n)
 | loop e l =>
  obtain⟨a1,a2,a3,a4,a5,a6,a7,a8,a9⟩:=l
  exact .loop (ep.trans e) ⟨t3 _ a1,by rw[g3 _ a1];exact t1 _ a2,t3 _ a3,(g3 _ a3).trans a4,t3 _ a5,(g3 _ a5).trans a6,t3 _ a7,(g3 _ a7).trans a8,t1 _ a9⟩
 | call x e n4 e2 n n2=>exact .call x (ep.trans e) (t4 _ n4) ((g4 _ n4).trans e2) (t1 _ n) (t1 _ n2)
def rT.grow(L:rT g T cf h true)(hh:h<h')(h8:h'%8=0)(hg:∀x,T x≠0->x≠h->g' x=g x)(hT:∀x,T x≠0->T' x=T x)
  (hn:∀x,T' x≠0->T x=0->h<x/\x<=h'/\x%8=0/\(T' x=1->x=h')) (hI:ItP g' T' (ju cf') h) (ht:T' h'=1) (hO:∀x,ju cf x->ju cf' x) (hc:∀k∈cf',CfS T' k):rT g' T' cf' h' true:=by
 have h0:=(L.adr h (by rw[L.top rfl];decide)).1
 refine⟨fun x hx=>?_,fun p hp hne=>?_,fun _=>ht,hc⟩
 ·by_cases q:T x=0
  ·have:=hn x hx q;exact⟨by omega,this.2.2.1,this.2.1,fun _=>rfl⟩
  have:=L.adr x q;exact⟨this.1,this.2.1,by omega,fun _=>rfl⟩
 by_cases q:T p=0
 ·exact absurd ((hn p (by omega) q).2.2.2 hp) hne
 by_cases e:p=h
 ·rw[e];exact hI
 have t1:T p=1:=by rw[<-hT p q];exact hp
 have z:T (-8)=0:=Decidable.not_not.1 fun z=>by have:=(L.adr _ z).1;omega
 exact(L.item p t1 e).mono (h:=h) (a:=-8) t1 e (.inr (L.top rfl)) (fun x h1 h2 _=>hg x h1 h2) hT (fun x h1 _=>hO x h1) (.inl z)
def rT.patch(L:rT g T cf h true){k:VCf}(hk:k∈cf)(k1:k.kind=1)(hO:∀x,ju cf x->x≠k.at_->ju cf' x)(hc:∀c∈cf',c∈cf):rT (dg g k.at_ h) T cf' h true:=by
 have ta:T k.at_=2:=by
  rcases(L.cfs k hk).2 with q|q
  ·exact q.2
  rw[k1]at q;exact absurd q.1 (by decide)
 refine⟨L.adr,fun p hp hne=>?_,L.top,fun c hc'=>L.cfs c (hc c hc')⟩
 refine(L.item p hp hne).mono (h:=h) (a:=k.at_) hp hne (.inr (L.top rfl)) (fun x _ _ hx=>?_) (fun _ _=>rfl) hO (.inr ⟨ta,?_⟩)
 ·unfold dg;rw[if_neg hx]
 unfold dg;rw[if_pos rfl];exact L.top rfl
def Tg1(T:Int->Nat)(x:Int)(t:Nat):Int->Nat:=fun y=>if y=x then t else T y
def mc(T:Int->Nat)(x:Int)(t:Nat):Tg1 T x t x=t:=by unfold Tg1;rw[if_pos rfl]
def fW{x y:Int}(T:Int->Nat)(t:Nat)(h:y≠x):Tg1 T x t y=T y:=by unfold Tg1;rw[if_neg h]
def u_y(g:Int->Int)(x n:Int):dg g x n x=n:=by unfold dg;rw[if_pos rfl]
def u_n{x y:Int}(g:Int->Int)(n:Int)(h:y≠x):dg g x n y=g y:=by unfold dg;rw[if_neg h]
def rT.gt(L:rT g T cf h true){x:Int}(hx:h<x):T x=0:=Decidable.not_not.1 fun z=>by have:=(L.adr _ z).2.2.1;omega
def CfS.mono{k:VCf}(q:CfS T k)(hT:∀x,T x≠0->T' x=T x):CfS T' k:=⟨q.1,q.2.imp (fun z=>⟨z.1,by rw[hT _ (by omega)];exact z.2⟩) fun z=>⟨z.1,by rw[hT _ (by omega)];exact z.2⟩⟩
def rT.one(L:rT g T cf h true){n:Int}(hI:ItP (dg g h n) (Tg1 T (h+8) 1) (ju cf) h):rT (dg g h n) (Tg1 T (h+8) 1) cf (h+8) true:=by
 have h8:=(L.adr h (by rw[L.top rfl];decide)).2.1
 have z:=L.gt (x:=h+8) (by omega)
 have hT:∀x,T x≠0->Tg1 T (h+8) 1 x=T x:=fun x hx=>fW T 1 fun e=>hx (by rw[e];exact z)
 refine L.grow (by omega) (by omega) (fun x _ hx=>u_n g n hx) hT (fun x hx h0=>?_) hI (mc _ _ _) (fun _ q=>q) fun k hk=>(L.cfs k hk).mono hT
 by_cases e:x=h+8
 ·exact⟨by omega,by omega,by omega,fun _=>e⟩
 rw[fW T 1 e]at hx;exact absurd h0 hx
def rT.two(L:rT g T cf h true){n m:Int}{t:Nat}(ht:t=2\/t=3)(hI:ItP (dg (dg g h n) (h+8) m) (Tg1 (Tg1 T (h+8) t) (h+16) 1) (ju cf') h)(hO:∀x,ju cf x->ju cf' x)(hc:∀k∈cf',k∈cf\/CfS (Tg1 (Tg1 T (h+8) t) (h+16) 1) k):
  rT (dg (dg g h n) (h+8) m) (Tg1 (Tg1 T (h+8) t) (h+16) 1) cf' (h+16) true:=by
 have h8:=(L.adr h (by rw[L.top rfl];decide)).2.1
 have z:=L.gt (x:=h+8) (by omega)
 have z2:=L.gt (x:=h+16) (by omega)
 have hT:∀x,T x≠0->Tg1 (Tg1 T (h+8) t) (h+16) 1 x=T x:=fun x hx=>by
  rw[fW _ 1 fun e=>hx (by rw[e];exact z2),fW T t fun e=>hx (by rw[e];exact z)]
 refine L.grow (by omega) (by omega) (fun x h0 hx=>?_) hT (fun x hx h0=>?_) hI (mc _ _ _) hO fun k hk=>(hc k hk).elim (fun q=>(L.cfs k q).mono hT) id
 ·rw[u_n _ m fun e=>h0 (by rw[e];exact z),u_n g n hx]
 by_cases e:x=h+16
 ·exact⟨by omega,by omega,by omega,fun _=>e⟩
 rw[fW _ 1 e]at hx ⊢
 by_cases e2:x=h+8
 ·exact⟨by omega,by omega,by omega,fun q=>by rw[e2,mc]at q;omega⟩
 rw[fW T t e2]at hx;exact absurd h0 hx
end
def nmQ:List Str:=[[113],[114],[115]]
structure WdS (g:Int->Int) (T:Int->Nat) (x:Int):Prop where
 t:T x=4
 g:g x=256
 b:T (x+8)=1
def aH2(g:Int->Int)(T:Int->Nat)(l:List aP):Prop:=∀e∈l,e.name∈nmQ/\e.flags=0/\WdS g T e.xt
structure Gv (s:SS) (T:Int->Nat):Prop where
 lay:rT (gL s.cs) T [] s.here false
 base:gL s.cs 0=10
 xt:s.comp.xt=0
 ext:aH2 (gL s.cs) T s.ext
structure jV (s:SS) (T:Int->Nat):Prop where
 lay:rT (gL s.cs) T s.comp.cf s.here true
 base:gL s.cs 0=10
 st:gL s.cs 8≠0
 xt:WdS (gL s.cs) T s.comp.xt
 on:s.comp.on=false
 ext:∃E nm,s.ext=E++[⟨nm,s.comp.xt,2⟩]/\nm∈nmQ/\s.comp.dict=((167+E.length:Nat):Int)/\aH2 (gL s.cs) T E
def StI(h:Int)(n:Nat)(s:SS):Prop:=(∃f,At f s)/\∃T,Gv s T/\s.here<=h/\s.ext.length<=n
def StC(h:Int)(n:Nat)(s:SS):Prop:=(∃f,At f s)/\∃T,jV s T/\s.here<=h/\s.ext.length<=n
def StC.up{h h':Int}{n n':Nat}{s:SS}(q:StC h n s)(hh:h<=h')(hn:n<=n'):StC h' n' s:=by
 obtain⟨a,T,i,b,c⟩:=q;exact⟨a,T,i,by omega,by omega⟩
def StI.up{h h':Int}{n n':Nat}{s:SS}(q:StI h n s)(hh:h<=h')(hn:n<=n'):StI h' n' s:=by
 obtain⟨a,T,i,b,c⟩:=q;exact⟨a,T,i,by omega,by omega⟩
def TW(f:aa)(w:Str)(u:Int)(r:aa×Int×Int):Prop:=∀(tx:Str) (p a:Int),bt tx p=(w,a)->(r.2.2=0->iJ f tx p u=(r.1,a,r.2.1,true,0))/\(r.2.2≠0->∃f2 a2 u2,iJ f tx p u=(f2,a2,u2,true,r.2.2))
def TG(s:SS)(w:Str)(u:Int)(Q:SS->Prop):Prop:=∃s' u' e,(e=0->0<=u'/\u'<=u/\((∃f,At f s')->Q s'))/\∀f,At f s->∃f',(e=0->At f' s')/\TW f w u (f',u',e)
section
variable {f f' : aa} {s s' : SS} {w : Str} {u u' e : Int} {b : Bool} {Q : SS -> Prop}
def MZ(h0:w≠[])(hu:0<=u)(h:∀tx a,j5 (av f tx a u) w=(⟨f',tx,a,u',e⟩,b)):TW f w u (f',u',e):=by
 intro tx p a hw
 have mu:max u 0=u:=by omega
 have n0:¬(bt tx p).1=[]:=by rw[hw];exact h0
 have eo:j5 (av f tx (bt tx p).2 (max u 0)) (bt tx p).1=(⟨f',tx,a,u',e⟩,b):=by rw[hw,mu];exact h tx a
 refine⟨fun z=>?_,fun z=>?_⟩
 ·have z:e=0:=z
  rw[Hl n0 eo (fun q=>q.1 z),z]
 by_cases q:b=false
 ·exact⟨_,_,_,BU n0 eo z q⟩
 exact⟨_,_,_,Hl n0 eo fun z=>q z.2⟩
def CY(h:SW s w s' 0)(h0:w≠[])(hu:0<=u/\u<=5000)(hq:(∃f,At f s')->Q s'):TG s w u Q:=by
 refine⟨s',u,0,fun _=>⟨hu.1,Int.le_refl _,hq⟩,fun f a=>?_⟩
 obtain⟨f',a',e⟩:=h f a
 refine⟨f',fun _=>a',fun tx p x hw=>⟨fun _=>?_,fun z=>absurd rfl z⟩⟩
 have:=e tx p x u hw h0 hu.1 hu.1 hu.2
 rwa [show u-0=u by omega]at this
def Gk(h0:w≠[])(hu:0<=u)(he:e≠0)(h:∀f,At f s->∀tx a,j5 (av f tx a u) w=(⟨f,tx,a,u',e⟩,b)):TG s w u Q:=⟨s,u',e,fun z=>absurd z he,fun f a=>⟨f,fun z=>absurd z he,MZ h0 hu (h f a)⟩⟩
def BrS(s:SS)(R:SS->Prop)(g:CW->CW):Prop:=(∀c,AW c s->(g c).bad = -22)\/∃s',R s'/\(∃l,s'.comp={s.comp with cf:=l})/\∀c,AW c s->AW (g c) s'
def RW{y:XI}{g:CW->CW}{R:SS->Prop}(hu:0<=u)(h0:w≠[])(h:xiS s w=some y)(hc:s.cmp=true)(hi:y.x.flags%2=1)(h3:300<=y.k)(hn:bJ.getD (y.k-300).toNat []=w)(hs:spF w=none)(hb:brF w=some g)
  (hw:BrS s R g) (hq:∀s',(∃f,At f s')->R s'->Q s'):TG s w u Q:=by
 obtain⟨hf,ha,hk,hkk⟩:=tX h
 have ecf:∀f,At f s->f.comp=s.comp:=fun f a=>by obtain⟨m,rfl,hm⟩:=a.ex;rfl
 have eo:∀f,At f s->∀tx q,j5 (av f tx q u) w=(j6 (av f tx q u) w,false):=fun f a tx q=>by
  have ek:az f.vm y.x.xt=(y.k,0):=by rw[mm a ha (by rw[<-hk];exact hkk),hk]
  have ec:bK (av f tx q u).f=true:=by rw[show bK (av f tx q u).f=bK f from rfl,kU a];exact hc
  rw[kG (x:=y.x) (i:=(bL (dX 167++s.ext) w).2.1) (by show bL f.vm.dict w=_;rw[jC a];exact hf)]
  rw[tm (l:=av f tx q u) ek h3 (by rw[ec];simp) (by rw[ec,hi];rfl),hn,Tl hs]
 have bad:(∀f,At f s->bo f.vm f.comp.cf w=(f.vm,f.comp.cf,-22))->TG s w u Q:=fun e=>by
  refine Gk (u':=u) (e:=-22) (b:=false) h0 hu (by decide) fun f a tx q=>?_
  rw[eo f a]
  unfold j6 fT
  rw[show(av f tx q u).f=f from rfl,e f a]
  rw[ok0 (show(av f tx q u).err=0 from rfl)]
  rfl
 have aw:∀f,At f s->AW ⟨f.vm,s.comp.cf,0⟩ s:=fun f a=>⟨rfl,rfl,by obtain⟨m,rfl,hm⟩:=a.ex;exact a⟩
 by_cases hfull:ke s.comp.cf w=true
 ·exact bad fun f a=>NR hb (by rw[ecf f a];exact hfull)
 rcases hw with hbad|⟨s',hR,⟨l2,hl2⟩,hA⟩
 ·refine bad fun f a=>?_
  rw[oa hb (by rw[ecf f a];exact hfull)]
  unfold oH
  have:=hbad _ (aw f a)
  rw[ecf f a,if_pos (by rw[this];decide),this]
 refine⟨s',u,0,fun _=>⟨hu,Int.le_refl _,fun z=>hq s' z hR⟩,fun f a=>?_⟩
 have a':=hA _ (aw f a)
 refine⟨⟨(g ⟨f.vm,s.comp.cf,0⟩).v,s'.comp⟩,fun _=>a'.at_,MZ (b:=false) h0 hu fun tx q=>?_⟩
 have e:bo f.vm s.comp.cf w=((g ⟨f.vm,s.comp.cf,0⟩).v,(g ⟨f.vm,s.comp.cf,0⟩).l,0):=by
  rw[oa hb hfull];exact jK a'.bad
 have ef:(⟨(g ⟨f.vm,s.comp.cf,0⟩).v,{s.comp with cf:=(g ⟨f.vm,s.comp.cf,0⟩).l}⟩:aa)=⟨(g ⟨f.vm,s.comp.cf,0⟩).v,s'.comp⟩:=by rw[a'.l,hl2]
 rw[eo f a,DJ (l:=av f tx q u) (by rw[show(av f tx q u).f=f from rfl,ecf f a];exact e) rfl,<-ef]
 show((⟨⟨_,{f.comp with cf:=_}⟩,tx,q,u,0⟩:ag),false)=_
 rw[ecf f a]
def aC8{y:XI}{g:ag->ag}{n:Int}(hu:0<=u)(h0:w≠[])(h:xiS s w=some y)(hc:s.cmp=true)(hi:y.x.flags%2=1)(h3:300<=y.k)(hn:bJ.getD (y.k-300).toNat []=w)(hs:spF w=some g)
  (hg:∀l:ag,l.f.comp=s.comp->g l=rO l n) (fn:ae n) (hr:s.here+8<=4096) (hq:(∃f,At f (s.lay n))->Q (s.lay n)):TG s w u Q:=by
 obtain⟨hf,ha,hk,hkk⟩:=tX h
 refine⟨s.lay n,u,0,fun _=>⟨hu,Int.le_refl _,hq⟩,fun f a=>?_⟩
 have l:=ky a fn hr
 have ecf:f.comp=s.comp:=by obtain⟨m,rfl,hm⟩:=a.ex;rfl
 have ek:az f.vm y.x.xt=(y.k,0):=by rw[mm a ha (by rw[<-hk];exact hkk),hk]
 have ec:∀tx q,bK (av f tx q u).f=true:=fun tx q=>by rw[show bK (av f tx q u).f=bK f from rfl,kU a];exact hc
 refine⟨_,fun _=>l.2,MZ (b:=false) h0 hu fun tx q=>?_⟩
 rw[kG (x:=y.x) (i:=(bL (dX 167++s.ext) w).2.1) (by show bL f.vm.dict w=_;rw[jC a];exact hf)]
 rw[tm (l:=av f tx q u) ek h3 (by rw[ec];simp) (by rw[ec,hi];rfl),hn,uJ hs,hg _ ecf]
 unfold rO
 rw[do0 (show(av f tx q u).err=0 from rfl),show(av f tx q u).f.vm=f.vm from rfl,l.1,tC (show(av f tx q u).err=0 from rfl)];rfl
def ab4(hu:0<=u)(h0:w≠[])(hf:(bL (dX 167++s.ext) w).2.2=false)(hn:(dw w (gL s.cs 0)).2=false):TG s w u Q :=
 Gk (u':=u) (e:=-13) (b:=false) h0 hu (by decide) fun f a tx q=>by
  unfold j5
  rw[show(av f tx q u).f=f from rfl,jC a,hf,if_neg (by decide)]
  unfold Ew
  rw[show(av f tx q u).f=f from rfl,wC a,hn,if_pos rfl,ok0 rfl]
  rfl
end
def E5(w:Str):∀(n:Nat) (l E:List aP),E.length=n->(∀e∈E,qa e w=false)\/∃e∈E,∃i,qa e w=true/\bL (l++E) w=(e,i,true)
 | 0,l,E,h=>.inl fun e he=>by rw[List.length_eq_zero_iff.1 h]at he;cases he
 | n+1,l,E,h=>by
  rcases km E with rfl|⟨E,x,rfl⟩
  ·exact .inl fun e he=>by cases he
  by_cases hx:qa x w=true
  ·refine .inr ⟨x,by simp,((l++E).length:Int),hx,?_⟩
   rw[<-List.append_assoc,xz,if_pos hx]
  rcases E5 w n l E (by simpa using h)with q|⟨e,he,i,h1,h2⟩
  ·exact .inl fun e he=>by
    rcases List.mem_append.1 he with he|he
    ·exact q e he
    rw[List.mem_singleton.1 he];simpa using hx
  refine .inr ⟨e,by simp[he],i,h1,?_⟩
  rw[<-List.append_assoc,xz,if_neg hx];exact h2
def wdP:List Str:=[[49],[45,55],[36,49,70],[50],[51],[68,85,80],[83,87,65,80],[43],[42],[68,82,79,80],[79,86,69,82],[46],[67,82],[50,68,85,80],[58],[59],[73,70],[69,76,83,69],[84,72,69,78],[63,68,79],[73],[76,79,79,80],[66,69,71,73,78],[85,78,84,73,76],[82,69,67,85,82,83,69],[69,88,73,84],[84,82,85,69],[60],[78,69,71,65,84,69]]
def ak6:∀n∈nmQ,∀w∈wdP,SR n w=false:=by decide +kernel
def GE{e:aP}{w:Str}(h:e.name∈nmQ)(hw:w∈wdP):qa e w=false:=by unfold qa;rw[ak6 _ h _ hw,Bool.and_false]
def jV.cmp{s:SS}{T:Int->Nat}(i:jV s T):s.cmp=true:=by
 unfold SS.cmp
 refine decide_eq_true ⟨fun z=>?_,i.st⟩
 have:=(i.lay.adr s.comp.xt (by rw[i.xt.t];decide)).1
 omega
def Gv.cmp{s:SS}{T:Int->Nat}(i:Gv s T):s.cmp=false:=by
 unfold SS.cmp
 exact decide_eq_false fun z=>z.1 i.xt
def jV.aq{s:SS}{T:Int->Nat}(i:jV s T):∀e∈s.ext,e.name∈nmQ:=by
 obtain⟨E,nm,e1,e2,_,e4⟩:=i.ext
 intro e he
 rw[e1]at he
 rcases List.mem_append.1 he with he|he
 ·exact(e4 e he).1
 rw[List.mem_singleton.1 he];exact e2
section
variable {f : aa} {s : SS} {T : Int -> Nat} {u h : Int} {n : Nat} {w : Str}
def jV.keep{s':SS}{T':Int->Nat}(i:jV s T)(hl:rT (gL s'.cs) T' s'.comp.cf s'.here true)(hT:∀x,T x≠0->T' x=T x)(h4:∀x,T x=4->gL s'.cs x=gL s.cs x)(h8:∀x,x<=8->gL s'.cs x=gL s.cs x)(hc:∃l,s'.comp={s.comp with cf:=l})(he:s'.ext=s.ext):jV s' T':=by
 obtain⟨l,hc⟩:=hc
 have wd:∀x,WdS (gL s.cs) T x->WdS (gL s'.cs) T' x:=fun x q=>⟨by rw[hT x (by rw[q.t];decide)];exact q.t,by rw[h4 x q.t];exact q.g,by rw[hT _ (by rw[q.b];decide)];exact q.b⟩
 have ex:s'.comp.xt=s.comp.xt:=by rw[hc]
 have eo:s'.comp.on=s.comp.on:=by rw[hc]
 have ed:s'.comp.dict=s.comp.dict:=by rw[hc]
 obtain⟨E,nm,e1,e2,e3,e4⟩:=i.ext
 exact⟨hl,by rw[h8 0 (by decide)];exact i.base,by rw[h8 8 (by decide)];exact i.st,by rw[ex];exact wd _ i.xt,by rw[eo];exact i.on,E,nm,by rw[he,ex];exact e1,e2,by rw[ed];exact e3,fun e q=>⟨(e4 e q).1,(e4 e q).2.1,wd _ (e4 e q).2.2⟩⟩
def jV.lay1(i:jV s T){x:Int}(hI:ItP (dg (gL s.cs) s.here x) (Tg1 T (s.here+8) 1) (ju s.comp.cf) s.here):jV (s.lay x) (Tg1 T (s.here+8) 1):=by
 have a:=i.lay.adr s.here (by rw[i.lay.top rfl];decide)
 have z:=i.lay.gt (x:=s.here+8) (by omega)
 refine i.keep (s':=s.lay x) (i.lay.one hI) (fun x hx=>fW T 1 fun e=>hx (by rw[e];exact z)) (fun y hy=>u_n _ _ fun e=>?_) (fun y hy=>u_n _ _ (by omega)) ⟨s.comp.cf,rfl⟩ rfl
 rw[e,i.lay.top rfl]at hy
 cases hy
def jV.lay2(i:jV s T){x y:Int}{t:Nat}{cf':List VCf}(ht:t=2\/t=3)(hI:ItP (dg (dg (gL s.cs) s.here x) (s.here+8) y) (Tg1 (Tg1 T (s.here+8) t) (s.here+16) 1) (ju cf') s.here)(hO:∀x,ju s.comp.cf x->ju cf' x)(hc:∀k∈cf',k∈s.comp.cf\/CfS (Tg1 (Tg1 T (s.here+8) t) (s.here+16) 1) k):
  jV (((s.lay x).lay y).cf cf') (Tg1 (Tg1 T (s.here+8) t) (s.here+16) 1):=by
 have a:=i.lay.adr s.here (by rw[i.lay.top rfl];decide)
 have z:=i.lay.gt (x:=s.here+8) (by omega)
 have z2:=i.lay.gt (x:=s.here+16) (by omega)
 have l:=i.lay.two (n:=x) (m:=y) ht hI hO hc
 refine i.keep (s':=((s.lay x).lay y).cf cf') ?_ (fun x hx=>?_) (fun v hv=>?_) (fun v hv=>?_) ⟨cf',rfl⟩ rfl
 ·show rT _ _ cf' (s.here+8+8) true
  rw[show s.here+8+8=s.here+16 by omega];exact l
 ·rw[fW _ 1 fun e=>hx (by rw[e];exact z2),fW T t fun e=>hx (by rw[e];exact z)]
 ·show dg (dg (gL s.cs) s.here x) (s.here+8) y v=_
  rw[u_n _ _ (fun e=>by rw[e,z]at hv;cases hv),u_n _ _ (fun e=>by rw[e,i.lay.top rfl]at hv;cases hv)]
 show dg (dg (gL s.cs) s.here x) (s.here+8) y v=_
 rw[u_n _ _ (by omega),u_n _ _ (by omega)]
def jV.patch(i:jV s T){k:VCf}{cf':List VCf}(hk:k∈s.comp.cf)(k1:k.kind=1)(hO:∀x,ju s.comp.cf x->x≠k.at_->ju cf' x)(hc:∀c∈cf',c∈s.comp.cf):jV ((s.put k.at_ s.here).cf cf') T:=by
 have ta:T k.at_=2:=by
  rcases(i.lay.cfs k hk).2 with q|q
  ·exact q.2
  rw[k1]at q;exact absurd q.1 (by decide)
 have a:=i.lay.adr k.at_ (by rw[ta];decide)
 refine i.keep (s':=(s.put k.at_ s.here).cf cf') (i.lay.patch hk k1 hO hc) (fun _ _=>rfl) (fun v hv=>u_n _ _ fun e=>?_) (fun v hv=>u_n _ _ (by omega)) ⟨cf',rfl⟩ rfl
 rw[e,ta]at hv
 cases hv
def ST{i:Nat}(hi:i<167)(hh:tR (cR i)=false)(a:At f s)(q:jV s T)(hw:ez.getD i []∈wdP):xiS s (ez.getD i [])=some ⟨cR i,(gq i:Int)⟩:=yI hi hh a.std fun e he=>GE (q.aq e he) hw
def Ks(i:Nat)(hi:i<167)(hh:tR (cR i)=false)(hw:ez.getD i []∈wdP)(hf:(cR i).flags%2=0)(h0:ez.getD i []≠[])(hx:i∈okI\/i=130)(q:StC h n s)(hr:h+40<=4096)(hu:0<=u/\u<=5000):TG s (ez.getD i []) u (StC (h+8) n):=by
 obtain⟨⟨f,a⟩,T,q,b,c⟩:=q
 refine CY (EU (ST hi hh a q hw) q.cmp hf (by omega)) h0 hu fun a'=>⟨a',_,q.lay1 ?_,by show s.here+8<=h+8;omega,c⟩
 have ex:(cR i).xt=32+8*(i:Int):=by show((32+8*i:Nat):Int)=_;omega
 rcases hx with hx|rfl
 ·exact .prim i hx (by rw[u_y];exact ex) (mc _ _ _)
 exact .def_ (by rw[u_y];rfl) (mc _ _ _)
def El(w:Str)(x:Int)(hw:w∈wdP)(hf:(bL (dX 167) w).2.2=false)(hp:dw w 10=(x,true))(h0:w≠[])(q:StC h n s)(hr:h+40<=4096)(hu:0<=u/\u<=5000):TG s w u (StC (h+16) n):=by
 obtain⟨⟨f,a⟩,T,q,b,c⟩:=q
 refine CY (SN (by rw[sR _ _ _ fun e he=>GE (q.aq e he) hw];exact hf) (by rw[q.base];exact hp) q.cmp (by omega)) h0 hu fun a'=>?_
 have i2:=q.lay2 (x:=40) (y:=x) (t:=3) (cf':=s.comp.cf) (.inr rfl) (.lit (by rw[u_n _ _ (by omega),u_y]) (by rw[fW _ _ (by omega),mc]) (mc _ _ _)) (fun _ z=>z) fun k hk=>.inl hk
 exact⟨a',_,i2,by show s.here+8+8<=h+16;omega,c⟩
def ac0(hw:w∈nmQ)(hf:(bL (dX 167) w).2.2=false)(hp:(dw w 10).2=false)(h0:w≠[])(q:StC h n s)(hr:h+40<=4096)(hu:0<=u/\u<=5000):TG s w u (StC (h+8) n):=by
 obtain⟨⟨f,a⟩,T,q,b,c⟩:=q
 obtain⟨E,nm,e1,e2,e3,e4⟩:=q.ext
 rcases E5 w _ (dX 167) s.ext rfl with hm|⟨e,he,i,h1,h2⟩
 ·exact ab4 hu.1 h0 (by rw[sR _ _ _ hm];exact hf) (by rw[q.base];exact hp)
 have hE:e∈E:=by
  rw[e1]at he
  rcases List.mem_append.1 he with he|he
  ·exact he
  rw[List.mem_singleton.1 he]at h1
  unfold qa tR at h1
  exact absurd h1 (by simp)
 have we:=e4 e hE
 have ad:=q.lay.adr e.xt (by rw[we.2.2.t];decide)
 have ah:okA 4096 e.xt=true:=ei.2 ⟨by omega,ad.2.1,by have:=a.h1;have:=ad.2.2.1;omega⟩
 have hx:xiS s w=some ⟨e,256⟩:=by
  unfold xiS
  rw[h2]
  dsimp only
  rw[we.2.2.g,if_pos ⟨rfl,ah,by decide⟩]
 refine CY (EU hx q.cmp (by rw[we.2.1];rfl) (by omega)) h0 hu fun a'=>⟨a',_,q.lay1 ?_,by show s.here+8<=h+8;omega,c⟩
 have z:=q.lay.gt (x:=s.here+8) (by omega)
 have th:=q.lay.top rfl
 refine .call e.xt (by rw[u_y]) (by rw[fW _ _ fun z'=>by rw[<-z',we.2.2.t]at z;cases z];exact we.2.2.t) (by rw[u_n _ _ fun z'=>by rw[<-z',we.2.2.t]at th;cases th];exact we.2.2.g) ?_ (mc _ _ _)
 by_cases z':e.xt+8=s.here+8
 ·rw[z',mc]
 rw[fW _ _ z'];exact we.2.2.b
end
open Go.RowKit
def ItP.open{g:Int->Int}{T:Int->Nat}{O O':Int->Prop}{p:Int}(h:∀x,O x->O' x)(I:ItP g T O p):ItP g T O' p:=by
 cases I with
 | prim i hi e n=>exact .prim i hi e n
 | exit e=>exact .exit e
 | def_ e n=>exact .def_ e n
 | lit e n3 n=>exact .lit e n3 n
 | br e n2 b=>exact .br e n2 (b.imp id (h _))
 | zbr e n2 b n=>exact .zbr e n2 (b.imp id (h _)) n
 | loop e l=>exact .loop e l
 | call x e n4 e2 n n2=>exact .call x e n4 e2 n n2
def xp{cf:List VCf}{k:VCf}{x:Int}(h:ju cf x):ju (cf++[k]) x:=by
 obtain⟨c,hc,q⟩:=h
 exact⟨c,List.mem_append_left _ hc,q⟩
def wW{D:List VCf}{c:VCf}{x:Int}(h:ju (D++[c]) x)(q:c.kind≠1\/x≠c.at_):ju D x:=by
 obtain⟨k,hk,h1,h2⟩:=h
 rcases List.mem_append.1 hk with hk|hk
 ·exact⟨k,hk,h1,h2⟩
 rw[List.mem_singleton.1 hk]at h1 h2
 rcases q with q|q
 ·exact absurd h1 q
 exact absurd h2.symm q
section
variable {f : aa} {s : SS} {T : Int -> Nat} {u h : Int} {n : Nat} {w : Str}
def jV.recf(i:jV s T){cf':List VCf}(hO:∀x,ju s.comp.cf x->ju cf' x)(hc:∀k∈cf',CfS T k):jV (s.cf cf') T :=
 i.keep (s':=s.cf cf') ⟨i.lay.adr,fun p h1 h2=>(i.lay.item p h1 h2).open hO,i.lay.top,hc⟩ (fun _ _=>rfl) (fun _ _=>rfl) (fun _ _=>rfl) ⟨cf',rfl⟩ rfl
def BrR(s:SS)(k:Int)(s':SS):Prop:=(∃T',jV s' T')/\s'.here<=s.here+k/\s'.ext=s.ext
def rx{D:List VCf}{k:VCf}{kind:Int}(hD:s.comp.cf=D++[k])(hk:k.kind=kind){c:CW}(A:AW c s):bb c kind=({c with l:=D},k)/\AW {c with l:=D} (s.cf D) :=
 ⟨mg (by rw[A.l];exact hD) hk,A.bad,rfl,sj A.at_ _⟩
def Gt{kind:Int}(h0:kind≠0)(h:¬∃D k,s.comp.cf=D++[k]/\k.kind=kind){c:CW}(A:AW c s):(bb c kind).1.bad = -22:=by
 rcases QU A h0 with ⟨D,k,hD,hk,_⟩|b
 ·exact absurd ⟨D,k,hD,hk⟩ h
 exact b
def EF{c:CW}{x:VCf}(A:AW c s)(h:¬s.comp.cf.length<32):(jZ c x).bad = -22:=by
 unfold jZ
 rw[if_pos (by rw[A.l];omega),cf0 A.bad]
def aK3(q:jV s T)(hr:s.here+40<=4096):BrS s (BrR s 16) ifC:=by
 have b:=fun c (A:AW c s)=>xm A [40,48,98,114,97,110,99,104,41] Bz xj (by omega)
 have e:=fun c (A:AW c s)=>(tf (tH A [40,48,98,114,97,110,99,104,41] Bz xj (by omega)):(cv c [40,48,98,114,97,110,99,104,41]).v.here=s.here+8)
 by_cases hl:s.comp.cf.length<32
 ·refine .inr ⟨((s.lay 56).lay 0).cf (s.comp.cf++[⟨1,s.here+8,[]⟩]),⟨⟨_,q.lay2 (x:=56) (y:=0) (t:=2) (cf':=s.comp.cf++[⟨1,s.here+8,[]⟩]) (.inl rfl) (.zbr (by rw[u_n _ _ (by omega),u_y]) (by rw[fW _ _ (by omega),mc]) (.inr ⟨⟨1,s.here+8,[]⟩,by simp,rfl,rfl⟩) (mc _ _ _)) (fun x=>xp) fun k hk=>?_⟩,by show s.here+8+8<=s.here+16;omega,rfl⟩,⟨_,rfl⟩,fun c A=>?_⟩
  ·rcases List.mem_append.1 hk with hk|hk
   ·exact .inl hk
   rw[List.mem_singleton.1 hk]
   exact .inr ⟨rfl,.inl ⟨rfl,by show Tg1 _ _ _ (s.here+8)=2;rw[fW _ _ (by omega),mc]⟩⟩
  unfold ifC
  rw[e c A];exact y6 (b c A) hl
 exact .inl fun c A=>EF (b c A) hl
def Vw(q:jV s T)(hr:s.here+40<=4096):BrS s (BrR s 0) uK:=by
 by_cases hl:s.comp.cf.length<32
 ·refine .inr ⟨s.cf (s.comp.cf++[⟨2,s.here,[]⟩]),⟨⟨T,q.recf (fun x=>xp) fun k hk=>?_⟩,by show s.here<=s.here+0;omega,rfl⟩,⟨_,rfl⟩,fun c A=>?_⟩
  ·rcases List.mem_append.1 hk with hk|hk
   ·exact q.lay.cfs k hk
   rw[List.mem_singleton.1 hk]
   exact⟨rfl,.inr ⟨rfl,q.lay.top rfl⟩⟩
  unfold uK
  rw[tf A];exact y6 A hl
 exact .inl fun c A=>EF A hl
def KU(q:jV s T)(h1:s.here+40<=4096){x:Int}(hx:T x≠0):bdr x=true:=by
 have a:=q.lay.adr x hx
 unfold bdr
 rw[Bool.and_eq_true]
 exact⟨decide_eq_true a.1,ei.2 ⟨by omega,a.2.1,by omega⟩⟩
def YV(q:jV s T)(hr:s.here+40<=4096):BrS s (BrR s 0) Bu:=by
 by_cases hc:∃D k,s.comp.cf=D++[k]/\k.kind=1
 ·obtain⟨D,k,hD,hk⟩:=hc
  have mk:k∈s.comp.cf:=by rw[hD];simp
  have tk:T k.at_=2:=(q.lay.cfs k mk).2.elim (fun z=>z.2) fun z=>by rw[hk]at z;exact absurd z.1 (by decide)
  refine .inr ⟨(s.cf D).put k.at_ s.here,⟨⟨T,q.patch mk hk (cf':=D) (fun x z zn=>by rw[hD]at z;exact wW z (.inr zn)) fun c hc=>by rw[hD];exact List.mem_append_left _ hc⟩,by show s.here<=s.here+0;omega,rfl⟩,⟨D,rfl⟩,fun c A=>?_⟩
  have a:=rx hD hk A
  unfold Bu
  rw[a.1]
  exact KN a.2 (KU q hr (x:=k.at_) (by rw[tk];decide)) (by show s.here<=4096;omega)
 exact .inl fun c A=>IZ (Gt (by decide) hc A) _
def XL(q:jV s T)(hr:s.here+40<=4096):BrS s (BrR s 16) xS:=by
 by_cases hc:∃D k,s.comp.cf=D++[k]/\k.kind=1
 ·obtain⟨D,k,hD,hk⟩:=hc
  have mk:k∈s.comp.cf:=by rw[hD];simp
  have tk:T k.at_=2:=(q.lay.cfs k mk).2.elim (fun z=>z.2) fun z=>by rw[hk]at z;exact absurd z.1 (by decide)
  have b:=fun c (A:AW c s)=>xm (rx hD hk A).2 [40,98,114,97,110,99,104,41] Jn xn (by show s.here+16<=4096;omega)
  have p:=fun c (A:AW c s)=>KN (b c A) (KU q hr (x:=k.at_) (by rw[tk];decide)) (by show s.here+8+8<=4096;omega)
  by_cases hl:D.length<32
  ·have i1:=q.lay2 (x:=48) (y:=0) (t:=2) (cf':=s.comp.cf++[⟨1,s.here+8,[]⟩]) (.inl rfl) (.br (by rw[u_n _ _ (by omega),u_y]) (by rw[fW _ _ (by omega),mc]) (.inr ⟨⟨1,s.here+8,[]⟩,by simp,rfl,rfl⟩)) (fun x=>xp) fun k hk=>by
    rcases List.mem_append.1 hk with hk|hk
    ·exact .inl hk
    rw[List.mem_singleton.1 hk]
    exact .inr ⟨rfl,.inl ⟨rfl,by show Tg1 _ _ _ (s.here+8)=2;rw[fW _ _ (by omega),mc]⟩⟩
   have i2:=i1.patch (k:=k) (cf':=D++[⟨1,s.here+8,[]⟩]) (List.mem_append_left _ mk) hk (fun x z zn=>by
     obtain⟨k2,m2,a1,a2⟩:=z
     rcases List.mem_append.1 m2 with m2|m2
     ·rw[hD]at m2
      obtain⟨k3,m3,a3,a4⟩:=wW (x:=x) ⟨k2,m2,a1,a2⟩ (.inr zn)
      exact⟨k3,List.mem_append_left _ m3,a3,a4⟩
     ·exact⟨k2,List.mem_append_right _ m2,a1,a2⟩) fun c hc=>by
     rcases List.mem_append.1 hc with hc|hc
     ·refine List.mem_append_left _ ?_
      show c∈s.comp.cf
      rw[hD];exact List.mem_append_left _ hc
     exact List.mem_append_right _ hc
   refine .inr ⟨((((s.cf D).lay 48).lay 0).put k.at_ (s.here+8+8)).cf (D++[(⟨1,s.here+8,[]⟩:VCf)]),⟨⟨_,i2⟩,by show s.here+8+8<=s.here+16;omega,rfl⟩,⟨_,rfl⟩,fun c A=>?_⟩
   have e2:(cv ({c with l:=D}:CW) [40,98,114,97,110,99,104,41]).v.here=s.here+8:=tf (tH (rx hD hk A).2 [40,98,114,97,110,99,104,41] Jn xn (by show s.here+8<=4096;omega))
   unfold xS
   rw[(rx hD hk A).1]
   dsimp only
   rw[e2]
   exact y6 (p c A) (by exact hl)
  refine .inl fun c A=>?_
  unfold xS
  rw[(rx hD hk A).1]
  exact EF (p c A) (by exact hl)
 exact .inl fun c A=>VN (IZ (vt (vt (Gt (by decide) hc A) _) _) _) _
def Vn(q:jV s T)(hr:s.here+40<=4096):BrS s (BrR s 16) (vu [40,48,98,114,97,110,99,104,41]):=by
 by_cases hc:∃D k,s.comp.cf=D++[k]/\k.kind=2
 ·obtain⟨D,k,hD,hk⟩:=hc
  have mk:k∈s.comp.cf:=by rw[hD];simp
  have tk:T k.at_=1:=(q.lay.cfs k mk).2.elim (fun z=>by rw[hk]at z;exact absurd z.1 (by decide)) fun z=>z.2
  have bk:=KU q hr (x:=k.at_) (by rw[tk];decide)
  have i1:=q.recf (cf':=D) (fun x z=>by rw[hD]at z;exact wW z (.inl (by rw[hk];decide))) fun c hc=>q.lay.cfs c (by rw[hD];exact List.mem_append_left _ hc)
  have z:=q.lay.gt (x:=s.here+8) (by omega)
  have i2:=i1.lay2 (x:=56) (y:=k.at_) (t:=2) (cf':=D) (.inl rfl) (.zbr (by rw[u_n _ _ (by omega),u_y]) (by rw[fW _ _ (by omega),mc]) (.inl (by
    rw[u_y]
    show Tg1 (Tg1 T (s.here+8) 2) (s.here+16) 1 k.at_=1
    by_cases e16:k.at_=s.here+16
    ·rw[e16];exact mc _ _ _
    rw[fW _ _ e16,fW _ _ (fun z'=>by rw[z',z]at tk;cases tk)];exact tk)) (mc _ _ _)) (fun x z=>z) fun k hk=>.inl hk
  refine .inr ⟨((s.cf D).lay 56).lay k.at_,⟨⟨_,i2⟩,by show s.here+8+8<=s.here+16;omega,rfl⟩,⟨D,rfl⟩,fun c A=>?_⟩
  have a:=rx hD hk A
  unfold vu
  rw[a.1]
  exact yY (tH a.2 [40,48,98,114,97,110,99,104,41] Bz xj (by show s.here+8<=4096;omega)) (ph bk).2.2 (by show s.here+8+8<=4096;omega)
 exact .inl fun c A=>vt (vt (Gt (by decide) hc A) _) _
def Je(i:Nat)(g:CW->CW)(k:Int)(hi:i<167)(hh:tR (cR i)=false)(hw:ez.getD i []∈wdP)(hf:(cR i).flags%2=1)(h3:300<=gq i)(hn:bJ.getD (gq i-300) []=ez.getD i [])(hs:spF (ez.getD i [])=none)(hb:brF (ez.getD i [])=some g)(h0:ez.getD i []≠[])
  (hg:∀(s:SS) (T:Int->Nat),jV s T->s.here+40<=4096->BrS s (BrR s k) g) (q:StC h n s) (hr:h+40<=4096) (hu:0<=u/\u<=5000):TG s (ez.getD i []) u (StC (h+k) n):=by
 obtain⟨⟨f,a⟩,T,q,b,c⟩:=q
 refine RW hu.1 h0 (ST hi hh a q hw) q.cmp hf (by show(300:Int)<=(gq i:Int);omega) (by show bJ.getD ((gq i:Int)-300).toNat []=_;rw[show((gq i:Int)-300).toNat=gq i-300 by omega];exact hn) hs hb (hg s T q (by omega)) fun s' a' r=>?_
 obtain⟨⟨T',i'⟩,r2,r3⟩:=r
 exact⟨a',T',i',by omega,by rw[r3];exact c⟩
def aM6(q:StC h n s)(hr:h+40<=4096)(hu:0<=u/\u<=5000):TG s [73,70] u (StC (h+16) n):=Je 144 ifC 16 (by decide) rfl (by decide) rfl (by decide) rfl rfl rfl (by decide) (fun s T=>aK3) q hr hu
def Yo(q:StC h n s)(hr:h+40<=4096)(hu:0<=u/\u<=5000):TG s [69,76,83,69] u (StC (h+16) n):=Je 145 xS 16 (by decide) rfl (by decide) rfl (by decide) rfl rfl rfl (by decide) (fun s T=>XL) q hr hu
def Zx(q:StC h n s)(hr:h+40<=4096)(hu:0<=u/\u<=5000):TG s [84,72,69,78] u (StC (h+0) n):=Je 146 Bu 0 (by decide) rfl (by decide) rfl (by decide) rfl rfl rfl (by decide) (fun s T=>YV) q hr hu
def V4(q:StC h n s)(hr:h+40<=4096)(hu:0<=u/\u<=5000):TG s [66,69,71,73,78] u (StC (h+0) n):=Je 147 uK 0 (by decide) rfl (by decide) rfl (by decide) rfl rfl rfl (by decide) (fun s T=>Vw) q hr hu
def V9(q:StC h n s)(hr:h+40<=4096)(hu:0<=u/\u<=5000):TG s [85,78,84,73,76] u (StC (h+16) n):=Je 150 (vu [40,48,98,114,97,110,99,104,41]) 16 (by decide) rfl (by decide) rfl (by decide) rfl rfl rfl (by decide) (fun s T=>Vn) q hr hu
def ad2(i:Nat)(g:ag->ag)(hi:i<167)(hh:tR (cR i)=false)(hw:ez.getD i []∈wdP)(hf:(cR i).flags%2=1)(h3:300<=gq i)(hn:bJ.getD (gq i-300) []=ez.getD i [])(hs:spF (ez.getD i [])=some g)(h0:ez.getD i []≠[])
  (hg:∀(T:Int->Nat),jV s T->s.here<=4096->∃x,ae x/\(∀l:ag,l.f.comp=s.comp->g l=rO l x)/\ItP (dg (gL s.cs) s.here x) (Tg1 T (s.here+8) 1) (ju s.comp.cf) s.here) (q:StC h n s) (hr:h+40<=4096) (hu:0<=u/\u<=5000):TG s (ez.getD i []) u (StC (h+8) n):=by
 obtain⟨⟨f,a⟩,T,q,b,c⟩:=q
 obtain⟨x,fx,gx,ix⟩:=hg T q (by omega)
 exact aC8 hu.1 h0 (ST hi hh a q hw) q.cmp hf (by show(300:Int)<=(gq i:Int);omega) (by show bJ.getD ((gq i:Int)-300).toNat []=_;rw[show((gq i:Int)-300).toNat=gq i-300 by omega];exact hn) hs gx fx (by omega) fun a'=>⟨a',_,q.lay1 ix,by show s.here+8<=h+8;omega,c⟩
def Xg(q:StC h n s)(hr:h+40<=4096)(hu:0<=u/\u<=5000):TG s [69,88,73,84] u (StC (h+8) n) :=
 ad2 166 Sm (by decide) rfl (by decide) rfl (by decide) rfl rfl (by decide) (fun T q _=>⟨32,TI,fun l _=>by show rO l (oP _)=_;rw[WC],.exit (u_y _ _ _)⟩) q hr hu
def av5(q:StC h n s)(hr:h+40<=4096)(hu:0<=u/\u<=5000):TG s [82,69,67,85,82,83,69] u (StC (h+8) n) :=
 ad2 143 aj3 (by decide) rfl (by decide) rfl (by decide) rfl rfl (by decide) (fun T q h1=>by
  have ad:=q.lay.adr s.comp.xt (by rw[q.xt.t];decide)
  have z:=q.lay.gt (x:=s.here+8) (by omega)
  have th:=q.lay.top rfl
  refine⟨s.comp.xt,xc (by omega) (by omega),fun l e=>by show rO l l.f.comp.xt=_;rw[e],.call s.comp.xt (u_y _ _ _) ?_ ?_ ?_ (mc _ _ _)⟩
  ·rw[fW _ _ fun z'=>by rw[<-z',q.xt.t]at z;cases z];exact q.xt.t
  ·rw[u_n _ _ fun z'=>by rw[<-z',q.xt.t]at th;cases th];exact q.xt.g
  by_cases z':s.comp.xt+8=s.here+8
  ·rw[z',mc]
  rw[fW _ _ z'];exact q.xt.b) q hr hu
def Pu(i:jV s T)(hcf:s.comp.cf=[]):Gv s.ended T:=by
 obtain⟨E,nm,e1,e2,e3,e4⟩:=i.ext
 have th:=i.lay.top rfl
 have ah:=i.lay.adr s.here (by rw[th];decide)
 have eb:wi s.ext=E:=by rw[e1];unfold wi;rw[List.length_append,List.length_singleton,Nat.add_sub_cancel,List.take_left' rfl]
 have el:tW s.ext=⟨nm,s.comp.xt,2⟩:=by rw[e1];unfold tW;rw[List.length_append,List.length_singleton,Nat.add_sub_cancel,List.getD_eq_getElem?_getD,List.getElem?_append_right (Nat.le_refl _),Nat.sub_self];rfl
 have hg:∀x,T x≠0->x≠s.here->gL s.ended.cs x=gL s.cs x:=fun x h0 hx=>by
  have:=i.lay.adr x h0
  show dg (dg (gL s.cs) s.here 32) 8 0 x=_
  rw[u_n _ _ (by omega),u_n _ _ hx]
 have wd:∀x,WdS (gL s.cs) T x->WdS (gL s.ended.cs) T x:=fun x q=>⟨q.t,by rw[hg x (by rw[q.t];decide) (fun z=>by have:=q.t;rw[z,th]at this;cases this)];exact q.g,q.b⟩
 refine⟨⟨fun x hx=>?_,fun p hp _=>?_,(fun z=>by cases z),(fun k hk=>by cases hk)⟩,?_,rfl,fun e he=>?_⟩
 ·have:=i.lay.adr x hx
  exact⟨this.1,this.2.1,by show x<=s.here+8;omega,fun z=>by have z:x=s.here+8:=z;omega⟩
 ·by_cases e:p=s.here
  ·refine .exit ?_
   rw[e]
   show dg (dg (gL s.cs) s.here 32) 8 0 s.here=_
   rw[u_n _ _ (by omega),u_y]
  have q:=i.lay.item p hp e
  rw[hcf]at q
  have z:T (-8)=0:=Decidable.not_not.1 fun z=>by have:=(i.lay.adr _ z).1;omega
  exact q.mono (h:=s.here) (a:=-8) hp e (.inr th) (fun x h1 h2 _=>hg x h1 h2) (fun _ _=>rfl) (fun _ q _=>q) (.inl z)
 ·show dg (dg (gL s.cs) s.here 32) 8 0 0=_
  rw[u_n _ _ (by decide),u_n _ _ (by omega)];exact i.base
 have he:e∈wi s.ext++[{tW s.ext with flags:=js (tW s.ext).flags}]:=he
 rw[eb,el]at he
 rcases List.mem_append.1 he with he|he
 ·exact⟨(e4 e he).1,(e4 e he).2.1,wd _ (e4 e he).2.2⟩
 rw[List.mem_singleton.1 he];exact⟨e2,rfl,wd _ i.xt⟩
def Nh(q:StC h n s)(hr:h+40<=4096)(hu:0<=u/\u<=5000):TG s [59] u (StI (h+8) n):=by
 obtain⟨⟨f,a⟩,T,q,b,c⟩:=q
 have hx:xiS s [59]=some ⟨cR 131,(gq 131:Int)⟩:=ST (i:=131) (by decide) rfl a q (by decide)
 by_cases hcf:s.comp.cf.length=0
 ·have hcf':=List.length_eq_zero_iff.1 hcf
  obtain⟨E,nm,e1,e2,e3,e4⟩:=q.ext
  have le:s.ext.length=E.length+1:=by rw[e1,List.length_append,List.length_singleton]
  have hxt:s.comp.xt≠0:=fun z=>by have:=q.lay.adr s.comp.xt (by rw[q.xt.t];decide);omega
  have sw:SW s [59] s.ended 0:=Mx hx q.cmp rfl (by decide) (name:=[59]) rfl fun f a=>by
   obtain⟨f',a',e⟩:=G0 a hxt (by omega) hcf' q.on (by omega) (by rw[e3,show s.ext.length-1=E.length by omega])
   refine⟨f',a',fun tx p u=>?_⟩
   rw[uJ (g:=va) rfl]
   unfold va j8
   rw[show(av f tx p u).f=f from rfl,e,xB rfl,if_pos (show(av f tx p u).err=0 from rfl)];rfl
  refine CY sw (by decide) hu fun a'=>⟨a',T,Pu q hcf',by show s.here+8<=h+8;omega,?_⟩
  show(wi s.ext++[_]).length<=n
  rw[List.length_append,List.length_singleton]
  unfold wi
  rw[List.length_take];omega
 exact⟨s,u,-22,fun z=>absurd z (by decide),fun f a=>⟨f,fun z=>absurd z (by decide),fun tx p x hw=>⟨fun z=>absurd z (show ¬(-22:Int)=0 by decide),fun _=>⟨_,_,_,Tg a q.cmp hcf hx rfl (by decide) rfl hw hu.1 hu.2⟩⟩⟩⟩
def Qh(i:Gv s T){nm:Str}(hn:nm∈nmQ)(h0:1368<=s.here)(h8:s.here%8=0):jV (s.begun nm) (Tg1 (Tg1 T s.here 4) (s.here+8) 1):=by
 have z:∀x,s.here<=x->T x=0:=fun x hx=>Decidable.not_not.1 fun z=>by
  have:=i.lay.adr x z
  have:=this.2.2.2 (by omega)
  cases this
 have z0:=z s.here (Int.le_refl _)
 have z8:=z (s.here+8) (by omega)
 have hT:∀x,T x≠0->Tg1 (Tg1 T s.here 4) (s.here+8) 1 x=T x:=fun x hx=>by
  rw[fW _ _ fun e=>hx (by rw[e];exact z8),fW _ _ fun e=>hx (by rw[e];exact z0)]
 have hg:∀x,T x≠0->gL (s.begun nm).cs x=gL s.cs x:=fun x h0=>by
  have:=i.lay.adr x h0
  show dg (dg (gL s.cs) s.here 256) 8 (-1) x=_
  rw[u_n _ _ (by omega),u_n _ _ fun e=>h0 (by rw[e];exact z0)]
 have wd:∀x,WdS (gL s.cs) T x->WdS (gL (s.begun nm).cs) (Tg1 (Tg1 T s.here 4) (s.here+8) 1) x:=fun x q=>⟨by rw[hT x (by rw[q.t];decide)];exact q.t,by rw[hg x (by rw[q.t];decide)];exact q.g,by rw[hT _ (by rw[q.b];decide)];exact q.b⟩
 have ta:Tg1 (Tg1 T s.here 4) (s.here+8) 1 s.here=4:=by rw[fW _ _ (by omega),mc]
 refine⟨⟨fun x hx=>?_,fun p hp hne=>?_,fun _=>mc _ _ _,(fun k hk=>by cases hk)⟩,?_,?_,⟨ta,?_,mc _ _ _⟩,rfl,s.ext,nm,rfl,hn,rfl,fun e he=>⟨(i.ext e he).1,(i.ext e he).2.1,wd _ (i.ext e he).2.2⟩⟩
 ·by_cases e1:x=s.here+8
  ·exact⟨by omega,by omega,by show x<=s.here+8;omega,fun _=>rfl⟩
  by_cases e2:x=s.here
  ·exact⟨by omega,by omega,by show x<=s.here+8;omega,fun _=>rfl⟩
  rw[fW _ _ e1,fW _ _ e2]at hx
  have:=i.lay.adr x hx
  exact⟨this.1,this.2.1,by show x<=s.here+8;omega,fun _=>rfl⟩
 ·have hne:p≠s.here+8:=hne
  have p2:p≠s.here:=fun e=>by rw[e,ta]at hp;cases hp
  rw[fW _ _ hne,fW _ _ p2]at hp
  have zz:T (-8)=0:=Decidable.not_not.1 fun z=>by have:=(i.lay.adr _ z).1;omega
  exact(i.lay.item p hp p2).mono (h:=s.here) (a:=-8) hp p2 (.inl z0) (fun x h1 _ _=>hg x h1) hT (fun _ q _=>q) (.inl zz)
 ·show dg (dg (gL s.cs) s.here 256) 8 (-1) 0=_
  rw[u_n _ _ (by decide),u_n _ _ (by omega)];exact i.base
 ·show dg (dg (gL s.cs) s.here 256) 8 (-1) 8≠0
  rw[u_y];decide
 show dg (dg (gL s.cs) s.here 256) 8 (-1) s.here=256
 rw[u_n _ _ (by omega),u_y]
def al7{i:Nat}(hi:i<167)(hh:tR (cR i)=false)(a:At f s)(q:Gv s T)(hw:ez.getD i []∈wdP):xiS s (ez.getD i [])=some ⟨cR i,(gq i:Int)⟩:=yI hi hh a.std fun e he=>GE (q.ext e he).1 hw
def Fe{nm:Str}(h:nm∈nmQ):eS nm=0/\nm≠[]:=by
 have:∀n∈nmQ,eS n=0/\n≠[]:=by decide +kernel
 exact this nm h
def V7{nm:Str}(hn:nm∈nmQ)(q:StI h n s)(hr:h+40<=4096)(h70:n<70)(hu:0<=u/\u<=5000):((∃f,At f (s.begun nm))->StC (h+8) (n+1) (s.begun nm))/\∀f,At f s->∃f',At f' (s.begun nm)/\∀(tx:Str) (p a a2:Int),bt tx p=([58],a)->bt tx a=(nm,a2)->iJ f tx p u=(f',a2,u,true,0):=by
 obtain⟨⟨f0,a0⟩,T,q,b,c⟩:=q
 refine⟨fun z=>⟨z,_,Qh q hn a0.h0 a0.h8,by show s.here+8<=h+8;omega,by show(s.ext++[_]).length<=n+1;rw[List.length_append,List.length_singleton];omega⟩,fun f a=>?_⟩
 have hb:=Iz a q.xt (by omega) (Fe hn).1 (by omega)
 refine⟨wN f nm,hb.2,fun tx p x x2 hw hw2=>?_⟩
 have hx:xiS s [58]=some ⟨cR 130,(gq 130:Int)⟩:=al7 (i:=130) (by decide) rfl a q (by decide)
 obtain⟨hf,ha,hk,hkk⟩:=tX hx
 have ek:az f.vm (cR 130).xt=((gq 130:Int),0):=by have:=mm a ha (by rw[<-hk];exact hkk);rw[<-hk]at this;exact this
 have ec:bK (av f tx x u).f=false:=by rw[show bK (av f tx x u).f=bK f from rfl,kU a];exact q.cmp
 have eo:j5 (av f tx x (max u 0)) [58]=(av (wN f nm) tx x2 u,false):=by
  rw[show max u 0=u by omega,kG (x:=cR 130) (i:=(bL (dX 167++s.ext) [58]).2.1) (by show bL f.vm.dict _=_;rw[jC a];exact hf)]
  rw[tm (l:=av f tx x u) ek (by decide) (by rw[show jh (cR 130) (gq 130:Int)=false from by decide +kernel];rfl) (by rw[ec];rfl)]
  rw[show bJ.getD ((gq 130:Int)-300).toNat []=[58] from by decide +kernel,DG hw2 (Fe hn).2 hb.1]
 exact VA hw (by decide) eo rfl
def Gv.snd(a:At f s)(q:Gv s T):Snd (gL s.cs) T:=by
 have h1:=a.h1
 have h8:=a.h8
 refine⟨a.std,fun x hx=>?_,fun p hp=>?_⟩
 ·have:=q.lay.adr x hx
  have:x≠s.here:=fun e=>by have:=this.2.2.2 e;cases this
  exact ei.2 ⟨by omega,by omega,by omega⟩
 have:=q.lay.adr p (by rw[hp];decide)
 have:p≠s.here:=fun e=>by have:=this.2.2.2 e;cases this
 exact(q.lay.item p hp this).open fun x z=>by obtain⟨k,hk,_⟩:=z;cases hk
def ab0{x:aP}{i k:Int}(a:∃f,At f s)(q:Gv s T)(hb:s.here<=h)(hc:s.ext.length<=n)(hu:0<=u/\u<=5000)(h0:w≠[])(hf:bL (dX 167++s.ext) w=(x,i,true))(ha:okA 4096 x.xt=true)(hk:gL s.cs x.xt=k)(hkk:d7 k)(h3:¬300<=k)(ho:jh x k=false)(hx:ad6 (gL s.cs) T x.xt):TG s w u (StI h n):=by
 obtain⟨f,a⟩:=a
 obtain⟨d,o,u',e,u0,u1,ex⟩:=U5 (q.snd a) hx hu.1 (by omega)
 refine⟨{s with d:=d,out:=o},u',e,fun _=>⟨u0,u1,fun z=>⟨z,T,⟨q.lay,q.base,q.xt,q.ext⟩,hb,hc⟩⟩,fun f a=>?_⟩
 obtain⟨f',a',ex⟩:=ex f a
 refine⟨f',fun _=>a',MZ (b:=true) h0 hu.1 fun tx p=>?_⟩
 have ek:az f.vm x.xt=(k,0):=by rw[mm a ha (by rw[hk];exact hkk),hk]
 have ec:bK (av f tx p u).f=false:=by rw[show bK (av f tx p u).f=bK f from rfl,kU a];exact q.cmp
 rw[kG (x:=x) (i:=i) (by show bL f.vm.dict _=_;rw[jC a];exact hf)]
 rw[Mu (l:=av f tx p u) ek h3 (by rw[ho];rfl) (by rw[ec];rfl),ex]
def X6(i:Nat)(hi:i∈okI)(hh:tR (cR i)=false)(hw:ez.getD i []∈wdP)(h0:ez.getD i []≠[])(ho:jh (cR i) (gq i:Int)=false)(q:StI h n s)(hu:0<=u/\u<=5000):TG s (ez.getD i []) u (StI h n):=by
 obtain⟨⟨f,a⟩,T,q,b,c⟩:=q
 have ri:=ve hi
 obtain⟨hf,ha,hk,hkk⟩:=tX (al7 (by omega) hh a q hw)
 have ex:(cR i).xt=32+8*(i:Int):=by show((32+8*i:Nat):Int)=_;omega
 exact ab0 ⟨f,a⟩ q b c hu h0 hf ha hk.symm hkk (by show ¬(300:Int)<=(gq i:Int);unfold gq;rw[if_neg (by omega)];omega) ho (.inl ⟨i,hi,ex⟩)
def aL7(hw:w∈nmQ)(hf:(bL (dX 167) w).2.2=false)(hp:(dw w 10).2=false)(h0:w≠[])(q:StI h n s)(hu:0<=u/\u<=5000):TG s w u (StI h n):=by
 obtain⟨⟨f,a⟩,T,q,b,c⟩:=q
 rcases E5 w _ (dX 167) s.ext rfl with hm|⟨e,he,i,h1,h2⟩
 ·exact ab4 hu.1 h0 (by rw[sR _ _ _ hm];exact hf) (by rw[q.base];exact hp)
 have we:=q.ext e he
 exact ab0 ⟨f,a⟩ q b c hu h0 h2 ((q.snd a).adr _ (by rw[we.2.2.t];decide)) we.2.2.g (by decide) (by decide) (by unfold jh;rw[we.2.1];decide +kernel) (.inr ⟨we.2.2.t,we.2.2.g,we.2.2.b⟩)
def av3(w:Str)(x:Int)(hw:w∈wdP)(hf:(bL (dX 167) w).2.2=false)(hp:dw w 10=(x,true))(h0:w≠[])(q:StI h n s)(hu:0<=u/\u<=5000):TG s w u (StI h n):=by
 obtain⟨⟨f,a⟩,T,q,b,c⟩:=q
 have hf':(bL (dX 167++s.ext) w).2.2=false:=by rw[sR _ _ _ fun e he=>GE (q.ext e he).1 hw];exact hf
 by_cases hd:s.d.length<32
 ·exact CY (J6 hf' (by rw[q.base];exact hp) q.cmp hd) h0 hu fun a'=>⟨a',T,⟨q.lay,q.base,q.xt,q.ext⟩,b,c⟩
 refine Gk (u':=u) (e:=-3) (b:=false) h0 hu.1 (by decide) fun f a tx p=>?_
 have ed:f.vm.d=s.d/\f.vm.conf.data=32:=by obtain⟨m,rfl,hm⟩:=a.ex;exact⟨rfl,rfl⟩
 unfold j5
 rw[show(av f tx p u).f=f from rfl,jC a,hf',if_neg (by decide)]
 unfold Ew
 rw[show(av f tx p u).f=f from rfl,wC a,q.base,hp,kU a,q.cmp]
 dsimp only
 rw[if_neg (by decide),if_neg (by decide)]
 have ep:dZ f.vm x=(f.vm,-3):=by
  unfold dZ fR
  rw[if_pos (by rw[ed.1,ed.2];omega)]
 unfold tV
 rw[do0 (show(av f tx p u).err=0 from rfl),show(av f tx p u).f.vm=f.vm from rfl,ep]
 unfold fT
 rw[ok0 (show(av f tx p u).err=0 from rfl)]
 rfl
def Yd(i:Nat)(hi:i<167)(hh:tR (cR i)=false)(hw:ez.getD i []∈wdP)(h0:ez.getD i []≠[])(ho:jh (cR i) (gq i:Int)=true){Q:SS->Prop}(q:StI h n s)(hu:0<=u/\u<=5000):TG s (ez.getD i []) u Q:=by
 obtain⟨_,T,q,b,c⟩:=q
 refine Gk (u':=u) (e:=-14) (b:=false) h0 hu.1 (by decide) fun f a tx p=>?_
 obtain⟨hf,ha,hk,hkk⟩:=tX (al7 hi hh a q hw)
 have ek:az f.vm (cR i).xt=((gq i:Int),0):=by have:=mm a ha (by rw[<-hk];exact hkk);rw[<-hk]at this;exact this
 rw[kG (x:=cR i) (i:=(bL (dX 167++s.ext) (ez.getD i [])).2.1) (by show bL f.vm.dict _=_;rw[jC a];exact hf)]
 unfold i8
 rw[show(av f tx p u).f=f from rfl,ek,kU a,q.cmp,ho]
 dsimp only
 rw[if_neg (by decide),if_pos (show(true&&!false)=true from rfl),ok0 rfl]
 rfl
end
open Go.RowKit
def ab9(w:Str):Prop:=w≠[]/\∀c∈w,32<c.toNat
def ui:Str->List Str->Prop
 | q,[]=>∀c∈q,c.toNat<=32
 | q,w::ws=>∃b q',q=b++(w++q')/\(∀c∈b,c.toNat<=32)/\ab9 w/\((q'=[]/\ws=[])\/∃c q2,q'=c::q2/\c.toNat<=32/\ui q2 ws)
def OD{b:Str}(hb:∀c∈b,c.toNat<=32):∀{q:Str} {ws:List Str},ui q ws->ui (b++q) ws
 | q,[],h=>fun c hc=>(List.mem_append.1 hc).elim (hb c) (h c)
 | q,w::ws,⟨b2,q',e,h1,h2⟩=>⟨b++b2,q',by rw[e,List.append_assoc],fun c hc=>(List.mem_append.1 hc).elim (hb c) (h1 c),h2⟩
def Gl{c:UInt8}(hc:c.toNat<=32){q2:Str}{vs:List Str}(h2:ui q2 vs):∀(ws:List Str) {q:Str},ui q ws->ui (q++c::q2) (ws++vs)
 | [],q,h=>by
  have e:q++c::q2=(q++[c])++q2:=by simp
  rw[e]
  exact OD (fun x hx=>(List.mem_append.1 hx).elim (h x) fun z=>by rw[List.mem_singleton.1 z];exact hc) h2
 | w::ws,q,⟨b,q',e,h1,hw,hr⟩=>by
  refine⟨b,q'++c::q2,by rw[e];simp,h1,hw,?_⟩
  rcases hr with ⟨rfl,rfl⟩|⟨c2,q3,rfl,hc2,h3⟩
  ·exact .inr ⟨c,q2,rfl,hc,h2⟩
  exact .inr ⟨c2,q3++c::q2,rfl,hc2,Gl hc h2 ws h3⟩
def yJ:∀(ws:List Str) {q:Str},ui q ws->ws.length<=q.length
 | [],q,_=>Nat.zero_le _
 | w::ws,q,⟨b,q',e,h1,hw,hr⟩=>by
  have h0:=List.length_pos_iff.2 hw.1
  rcases hr with ⟨rfl,rfl⟩|⟨c2,q3,rfl,hc2,h3⟩
  ·rw[e];simp only[List.length_append,List.length_cons,List.length_nil];omega
  have:=yJ ws h3
  rw[e];simp only[List.length_append,List.length_cons];omega
def Pos(tx:Str)(a:Int)(ws:List Str):Prop:=∃p q,tx=p++q/\a=(p.length:Int)/\ui q ws
def As{tx w:Str}{a:Int}{ws:List Str}(h:Pos tx a (w::ws)):w≠[]/\∃a',bt tx a=(w,a')/\Pos tx a' ws:=by
 obtain⟨p,q,rfl,rfl,b,q',rfl,hb,hw,hr⟩:=h
 refine⟨hw.1,?_⟩
 rcases hr with ⟨rfl,rfl⟩|⟨c,q2,rfl,hc,h3⟩
 ·have e:=zi p b w [] hb hw.1 hw.2 (.inl rfl)
  refine⟨_,e,p++(b++(w++[])),[],by simp,?_,fun c hc=>by cases hc⟩
  simp only[List.length_append,List.length_nil];omega
 have e:=zi p b w (c::q2) hb hw.1 hw.2 (.inr ⟨c,q2,rfl,hc⟩)
 refine⟨_,e,p++(b++(w++[c])),q2,by simp,?_,h3⟩
 simp only[List.length_append,List.length_cons,List.length_nil];omega
def ZA{tx:Str}{a:Int}(h:Pos tx a []):(bt tx a).1=[]:=by
 obtain⟨p,q,rfl,rfl,h⟩:=h
 exact Hw p q h
def EW(f:aa)(ws:List Str)(u:Int)(r:aa×Int×Int):Prop:=∀(f0:aa) (tx:Str) (a:Int) (vs:List Str),Pos tx a (ws++vs) ->
 (r.2.2=0->∃a' k,Pos tx a' vs/\k<=ws.length/\wL f0 tx ⟨f,a,u⟩ ⟨r.1,a',r.2.1⟩ k) /\
 (r.2.2≠0->∃f1 a1 u1 k f2 a2 u2,k<=ws.length/\wL f0 tx ⟨f,a,u⟩ ⟨f1,a1,u1⟩ k/\iJ f1 tx a1 u1=(f2,a2,u2,true,r.2.2))
def EW.app{f f1:aa}{ws vs:List Str}{u u1:Int}{r:aa×Int×Int}(h1:EW f ws u (f1,u1,0))(g1:EW f1 vs u1 r):EW f (ws++vs) u r:=fun f0 tx a xs hp=>by
 rw[List.append_assoc]at hp
 obtain⟨a',k,hp',hk,hl⟩:=(h1 f0 tx a (vs++xs) hp).1 rfl
 have q:=g1 f0 tx a' xs hp'
 refine⟨fun z2=>?_,fun z2=>?_⟩
 ·obtain⟨b',k2,hp2,hk2,hl2⟩:=q.1 z2
  exact⟨b',k+k2,hp2,by rw[List.length_append];omega,fun n=>by rw[show n+(k+k2)=(n+k2)+k by omega,hl,hl2]⟩
 obtain⟨f2,b1,u2,k2,f3,b2,u3,hk2,hl2,e⟩:=q.2 z2
 exact⟨f2,b1,u2,k+k2,f3,b2,u3,by rw[List.length_append];omega,fun n=>by rw[show n+(k+k2)=(n+k2)+k by omega,hl,hl2],e⟩
def EW.stop{f f1:aa}{ws vs:List Str}{u u1 e:Int}(h1:EW f ws u (f1,u1,e))(z:e≠0):EW f (ws++vs) u (f1,u1,e):=fun f0 tx a xs hp=>⟨fun z2=>absurd z2 z,fun z2=>by
 rw[List.append_assoc]at hp
 obtain⟨f1,a1,u1,k,f2,a2,u2,hk,e⟩:=(h1 f0 tx a (vs++xs) hp).2 z
 exact⟨f1,a1,u1,k,f2,a2,u2,by rw[List.length_append];omega,e⟩⟩
def GW(s:SS)(ws:List Str)(u:Int)(Q:SS->Prop):Prop:=∀f0,At f0 s->∃s' u' e,(e=0->0<=u'/\u'<=u/\Q s')/\∀f,At f s->∃f',(e=0->At f' s')/\EW f ws u (f',u',e)
section
variable {s : SS} {ws vs : List Str} {w : Str} {u : Int} {Q R : SS -> Prop}
def GW.nil(hu:0<=u)(hq:Q s):GW s [] u Q:=fun _ _=>⟨s,u,0,fun _=>⟨hu,Int.le_refl _,hq⟩,fun f a=>⟨f,fun _=>a,fun f0 tx a vs h=>⟨fun _=>⟨a,0,h,Nat.le_refl _,.rf _ _ _⟩,fun z=>absurd rfl z⟩⟩⟩
def GW.imp(h:GW s ws u Q)(hq:∀s,Q s->R s):GW s ws u R:=fun f0 a0=>by
 obtain⟨s',u',e,h1,h2⟩:=h f0 a0
 exact⟨s',u',e,fun z=>⟨(h1 z).1,(h1 z).2.1,hq _ (h1 z).2.2⟩,h2⟩
def ae7{f:aa}{r:aa×Int×Int}(h1:TW f w u r):EW f [w] u r:=fun f0 tx a vs hp=>by
 obtain⟨_,a',hw,hp'⟩:=As (w:=w) (ws:=vs) hp
 have q:=h1 tx a a' hw
 refine⟨fun z=>⟨a',1,hp',Nat.le_refl _,.one (q.1 z)⟩,fun z=>?_⟩
 obtain⟨f2,a2,u2,e⟩:=q.2 z
 exact⟨f,a,u,0,f2,a2,u2,Nat.zero_le _,.rf _ _ _,e⟩
def GW.one(h:TG s w u Q):GW s [w] u Q:=fun f0 a0=>by
 obtain⟨s',u',e,h1,h2⟩:=h
 obtain⟨f',a',_⟩:=h2 f0 a0
 refine⟨s',u',e,fun z=>⟨(h1 z).1,(h1 z).2.1,(h1 z).2.2 ⟨f',a' z⟩⟩,fun f a=>?_⟩
 obtain⟨f',a',w⟩:=h2 f a
 exact⟨f',a',ae7 w⟩
def GW.bind(h:GW s ws u Q)(g:∀s1 u1,0<=u1->u1<=u->(∃f,At f s1)->Q s1->GW s1 vs u1 R):GW s (ws++vs) u R:=fun f0 a0=>by
 obtain⟨s1,u1,e,h1,h2⟩:=h f0 a0
 by_cases z:e=0
 ·subst z
  obtain⟨f1,a1,_⟩:=h2 f0 a0
  obtain⟨b0,b1,b2⟩:=h1 rfl
  obtain⟨s2,u2,e2,g1,g2⟩:=g s1 u1 b0 b1 ⟨f1,a1 rfl⟩ b2 f1 (a1 rfl)
  refine⟨s2,u2,e2,fun z=>⟨(g1 z).1,by have:=(g1 z).2.1;omega,(g1 z).2.2⟩,fun f a=>?_⟩
  obtain⟨f1,a1,w1⟩:=h2 f a
  obtain⟨f2,a2,w2⟩:=g2 f1 (a1 rfl)
  exact⟨f2,a2,w1.app w2⟩
 refine⟨s1,u1,e,fun z2=>absurd z2 z,fun f a=>?_⟩
 obtain⟨f1,a1,w1⟩:=h2 f a
 exact⟨f1,a1,w1.stop z⟩
def GW.more(h:GW s ws u Q)(g:∀s1 u1,0<=u1->u1<=u->(∃f,At f s1)->Q s1->TG s1 w u1 R):GW s (ws++[w]) u R:=h.bind fun s1 u1 a b x q=>.one (g s1 u1 a b x q)
end
def StX(h:Int)(n:Nat)(s:SS):Prop:=StI h n s\/StC h n s
section
variable {s : SS} {u h : Int} {n : Nat}
def Bi{nm:Str}(hn:nm∈nmQ)(hf:(bL (dX 167) nm).2.2=false)(hp:(dw nm 10).2=false)(q:StX h n s)(hr:h+48<=4096)(h70:n<70)(hu:0<=u/\u<=5000):GW s [[58],nm] u (StC (h+16) (n+1)):=by
 rcases q with q|q
 ·obtain⟨q',e⟩:=V7 hn q (by omega) h70 hu
  intro f0 a0
  obtain⟨f1,a1,_⟩:=e f0 a0
  refine⟨s.begun nm,u,0,fun _=>⟨hu.1,Int.le_refl _,(q' ⟨f1,a1⟩).up (by omega) (Nat.le_refl _)⟩,fun f a=>?_⟩
  obtain⟨f',a',e⟩:=e f a
  refine⟨f',fun _=>a',fun f0 tx a vs hp=>⟨fun _=>?_,fun z=>absurd rfl z⟩⟩
  obtain⟨_,a1,w1,p1⟩:=As (w:=[58]) (ws:=nm::vs) hp
  obtain⟨_,a2,w2,p2⟩:=As p1
  exact⟨a2,1,p2,by show 1<=2;omega,.one (e tx a a1 a2 w1 w2)⟩
 exact GW.bind (ws:=[[58]]) (.one (Ks 130 (by decide) rfl (by decide) rfl (by decide) (.inr rfl) q (by omega) hu)) fun s1 u1 a b _ q1=>(GW.one (ac0 hn hf hp (Fe hn).2 q1 (by omega) ⟨a,by omega⟩)).imp fun s z=>z.up (by omega) (by omega)
def aA8{s:SS}(hr:s.here+40<=4096):BrS s (fun s'=>s'=((s.lay 72).lay 0).cf (s.comp.cf++[⟨3,s.here+16,[s.here+8]⟩])) LM:=by
 have b:=fun c (A:AW c s)=>xm A [40,63,100,111,41] Gr Ec (by omega)
 by_cases hl:s.comp.cf.length<32
 ·refine .inr ⟨_,rfl,⟨_,rfl⟩,fun c A=>?_⟩
  have e:(cv c [40,63,100,111,41]).v.here=s.here+8:=tf (tH A [40,63,100,111,41] Gr Ec (by omega))
  have e2:(fN c [40,63,100,111,41]).v.here=s.here+16:=by rw[tf (b c A)];show s.here+8+8=_;omega
  unfold LM
  rw[e,e2]
  exact y6 (b c A) hl
 exact .inl fun c A=>EF (b c A) hl
def an5{s:SS}{c:CW}{D:List VCf}{a o:Int}(A:AW c s)(hD:s.comp.cf=D++[⟨3,a,[o]⟩])(ha:bdr a=true)(ho:bdr o=true)(hr:s.here+16<=4096):AW (yx [40,108,111,111,112,41] c) ((((s.cf D).lay 80).lay a).put o (s.here+16)):=by
 have q:=rx hD rfl A
 unfold yx
 rw[q.1]
 dsimp only
 have b:=yY (tH q.2 [40,108,111,111,112,41] Mc Kc (by show s.here+8<=4096;omega)) (n:=a) (ph ha).2.2 (by show s.here+8+8<=4096;omega)
 have p:=KN b ho (by show s.here+8+8<=4096;omega)
 have e:(((s.cf D).lay 80).lay a).here=s.here+16:=by show s.here+8+8=_;omega
 rw[e]at p
 exact p
def YN(q:StC h n s)(hr:h+80<=4096)(hu:0<=u/\u<=5000):GW s [[63,68,79],[73],[76,79,79,80]] u (StC (h+40) n):=by
 obtain⟨⟨f,a⟩,T,q,b,c⟩:=q
 have h0:=a.h0
 have h8:=a.h8
 have nmE:∀w∈wdP,∀e∈s.ext,qa e w=false:=fun w hw e he=>GE (q.aq e he) hw
 have xt0:s.comp.xt≠0:=fun z=>by have:=q.lay.adr s.comp.xt (by rw[q.xt.t];decide);omega
 let s1:SS:=((s.lay 72).lay 0).cf (s.comp.cf++[⟨3,s.here+16,[s.here+8]⟩])
 let s2:SS:=s1.lay 152
 let s3:SS:=(((s2.cf s.comp.cf).lay 80).lay (s.here+16)).put (s.here+8) (s2.here+16)
 have c1:s1.cmp=true:=by
  unfold SS.cmp
  refine decide_eq_true ⟨xt0,?_⟩
  show dg (dg (gL s.cs) s.here 72) (s.here+8) 0 8≠0
  rw[u_n _ _ (by omega),u_n _ _ (by omega)];exact q.st
 have c2:s2.cmp=true:=by
  unfold SS.cmp
  refine decide_eq_true ⟨xt0,?_⟩
  show dg (dg (dg (gL s.cs) s.here 72) (s.here+8) 0) (s.here+8+8) 152 8≠0
  rw[u_n _ _ (by omega),u_n _ _ (by omega),u_n _ _ (by omega)];exact q.st
 have b8:bdr (s.here+8)=true:=Jg a (by decide) (by decide) (by omega)
 have b16:bdr (s.here+16)=true:=Jg a (by decide) (by decide) (by omega)
 have t1:TG s [63,68,79] u (fun s'=>s'=s1):=by
  have hx:xiS s [63,68,79]=some ⟨cR 153,(gq 153:Int)⟩:=ST (i:=153) (by decide) rfl a q (by decide)
  exact RW (R:=fun s'=>s'=s1) hu.1 (by decide) hx q.cmp rfl (by decide) rfl rfl rfl (aA8 (by omega)) fun s' _ e=>e
 have i3:jV s3 (Tg1 (Tg1 (Tg1 (Tg1 (Tg1 T (s.here+8) 3) (s.here+16) 3) (s.here+24) 3) (s.here+32) 3) (s.here+40) 1):=by
  have z:∀k:Int,0<k->T (s.here+k)=0:=fun k hk=>q.lay.gt (by omega)
  have th:=q.lay.top rfl
  have eT:∀x,T x≠0->Tg1 (Tg1 (Tg1 (Tg1 (Tg1 T (s.here+8) 3) (s.here+16) 3) (s.here+24) 3) (s.here+32) 3) (s.here+40) 1 x=T x:=fun x hx=>by
   rw[fW _ _ fun e=>hx (by rw[e];exact z _ (by decide)),fW _ _ fun e=>hx (by rw[e];exact z _ (by decide)),fW _ _ fun e=>hx (by rw[e];exact z _ (by decide)),fW _ _ fun e=>hx (by rw[e];exact z _ (by decide)),fW _ _ fun e=>hx (by rw[e];exact z _ (by decide))]
  have eg:∀x,gL s3.cs x=dg (dg (dg (dg (dg (dg (gL s.cs) s.here 72) (s.here+8) 0) (s.here+16) 152) (s.here+24) 80) (s.here+32) (s.here+16)) (s.here+8) (s.here+40) x:=fun x=>by
   show dg (dg (dg (dg (dg (dg (gL s.cs) s.here 72) (s.here+8) 0) (s.here+8+8) 152) (s.here+8+8+8) 80) (s.here+8+8+8+8) (s.here+16)) (s.here+8) (s.here+8+8+8+16) x=_
   rw[show s.here+8+8+8+8=s.here+32 by omega,show s.here+8+8+8+16=s.here+40 by omega,show s.here+8+8+8=s.here+24 by omega,show s.here+8+8=s.here+16 by omega]
  have gold:∀x,x≠s.here->x≠s.here+8->x≠s.here+16->x≠s.here+24->x≠s.here+32->gL s3.cs x=gL s.cs x:=fun x e0 e1 e2 e3 e4=>by rw[eg,u_n _ _ e1,u_n _ _ e4,u_n _ _ e3,u_n _ _ e2,u_n _ _ e1,u_n _ _ e0]
  have gz:∀x,T x≠0->x≠s.here->gL s3.cs x=gL s.cs x:=fun x hx hh=>gold x hh (fun e=>hx (by rw[e];exact z _ (by decide))) (fun e=>hx (by rw[e];exact z _ (by decide))) (fun e=>hx (by rw[e];exact z _ (by decide))) (fun e=>hx (by rw[e];exact z _ (by decide)))
  have g0:gL s3.cs s.here=72:=by rw[eg,u_n _ _ (by omega),u_n _ _ (by omega),u_n _ _ (by omega),u_n _ _ (by omega),u_n _ _ (by omega),u_y]
  have g8:gL s3.cs (s.here+8)=s.here+40:=by rw[eg,u_y]
  have g16:gL s3.cs (s.here+16)=152:=by rw[eg,u_n _ _ (by omega),u_n _ _ (by omega),u_n _ _ (by omega),u_y]
  have g24:gL s3.cs (s.here+24)=80:=by rw[eg,u_n _ _ (by omega),u_n _ _ (by omega),u_y]
  have g32:gL s3.cs (s.here+32)=s.here+16:=by rw[eg,u_n _ _ (by omega),u_y]
  generalize hT':Tg1 (Tg1 (Tg1 (Tg1 (Tg1 T (s.here+8) 3) (s.here+16) 3) (s.here+24) 3) (s.here+32) 3) (s.here+40) 1=T' at eT ⊢
  have T40:T' (s.here+40)=1:=by rw[<-hT',mc]
  have T32:T' (s.here+32)=3:=by rw[<-hT',fW _ _ (by omega),mc]
  have T24:T' (s.here+24)=3:=by rw[<-hT',fW _ _ (by omega),fW _ _ (by omega),mc]
  have T16:T' (s.here+16)=3:=by rw[<-hT',fW _ _ (by omega),fW _ _ (by omega),fW _ _ (by omega),mc]
  have T8:T' (s.here+8)=3:=by rw[<-hT',fW _ _ (by omega),fW _ _ (by omega),fW _ _ (by omega),fW _ _ (by omega),mc]
  have Tn:∀x,x≠s.here+8->x≠s.here+16->x≠s.here+24->x≠s.here+32->x≠s.here+40->T' x=T x:=fun x e1 e2 e3 e4 e5=>by rw[<-hT',fW _ _ e5,fW _ _ e4,fW _ _ e3,fW _ _ e2,fW _ _ e1]
  refine q.keep (s':=s3) ?_ eT (fun x hx=>gz x (by rw[hx];decide) fun e=>by rw[e,th]at hx;cases hx) (fun x hx=>gold x (by omega) (by omega) (by omega) (by omega) (by omega)) ⟨s.comp.cf,rfl⟩ rfl
  have e3:s3.here=s.here+40:=by show s.here+8+8+8+8+8=_;omega
  rw[e3]
  refine q.lay.grow (by omega) (by omega) gz eT (fun x hx h00=>?_) (.loop g0 ⟨T8,by rw[g8];exact T40,T16,g16,T24,g24,T32,g32,T40⟩) T40 (fun x z=>z) fun k hk=>(q.lay.cfs k hk).mono eT
  by_cases e1:x=s.here+8
  ·exact⟨by omega,by omega,by omega,fun z=>by rw[e1,T8]at z;cases z⟩
  by_cases e2:x=s.here+16
  ·exact⟨by omega,by omega,by omega,fun z=>by rw[e2,T16]at z;cases z⟩
  by_cases e4:x=s.here+24
  ·exact⟨by omega,by omega,by omega,fun z=>by rw[e4,T24]at z;cases z⟩
  by_cases e5:x=s.here+32
  ·exact⟨by omega,by omega,by omega,fun z=>by rw[e5,T32]at z;cases z⟩
  by_cases e6:x=s.here+40
  ·exact⟨by omega,by omega,by omega,fun _=>e6⟩
  rw[Tn x e1 e2 e4 e5 e6]at hx
  exact absurd h00 hx
 refine GW.more (ws:=[[63,68,79],[73]]) (Q:=fun s'=>s'=s2) (GW.more (ws:=[[63,68,79]]) (.one t1) fun s' u1 hu0 hu1 ha e=>?_) fun s' u2 hv0 hv1 ha e=>?_
 ·subst e
  obtain⟨f1,a1⟩:=ha
  have hx:xiS s1 [73]=some ⟨cR 15,(gq 15:Int)⟩:=yI (s:=s1) (i:=15) (by decide) rfl a1.std (nmE [73] (by decide))
  exact CY (EU hx c1 rfl (by show s.here+8+8+8<=4096;omega)) (by decide) ⟨hu0,by omega⟩ fun _=>rfl
 subst e
 obtain⟨f2,a2⟩:=ha
 have hx:xiS s2 [76,79,79,80]=some ⟨cR 154,(gq 154:Int)⟩:=yI (s:=s2) (i:=154) (by decide) rfl a2.std (nmE [76,79,79,80] (by decide))
 refine RW (R:=fun s'=>s'=s3) hv0 (by decide) hx c2 rfl (by decide) rfl rfl rfl (.inr ⟨s3,rfl,⟨s.comp.cf,rfl⟩,fun c A=>an5 A rfl b16 b8 (by show s.here+8+8+8+16<=4096;omega)⟩) fun s' a' e=>?_
 subst e
 exact⟨a',_,i3,by show s.here+8+8+8+8+8<=h+40;omega,c⟩
def Kp(w:Str)(x:Int)(hw:w∈wdP)(hf:(bL (dX 167) w).2.2=false)(hp:dw w 10=(x,true))(h0:w≠[])(q:StX h n s)(hr:h+88<=4096)(hu:0<=u/\u<=5000):GW s [w] u (StX (h+88) (n+1)):=by
 rcases q with q|q
 ·exact(GW.one (av3 w x hw hf hp h0 q hu)).imp fun s z=>.inl (z.up (by omega) (by omega))
 exact(GW.one (El w x hw hf hp h0 q (by omega) hu)).imp fun s z=>.inr (z.up (by omega) (by omega))
def kh(i:Nat)(hi:i∈okI)(hh:tR (cR i)=false)(hw:ez.getD i []∈wdP)(hf:(cR i).flags%2=0)(h0:ez.getD i []≠[])(ho:jh (cR i) (gq i:Int)=false)(q:StX h n s)(hr:h+88<=4096)(hu:0<=u/\u<=5000):GW s [ez.getD i []] u (StX (h+88) (n+1)):=by
 have ri:=ve hi
 rcases q with q|q
 ·exact(GW.one (X6 i hi hh hw h0 ho q hu)).imp fun s z=>.inl (z.up (by omega) (by omega))
 exact(GW.one (Ks i (by omega) hh hw hf h0 (.inl hi) q (by omega) hu)).imp fun s z=>.inr (z.up (by omega) (by omega))
def wH(i:Nat)(hi:i<167)(hh:tR (cR i)=false)(hw:ez.getD i []∈wdP)(h0:ez.getD i []≠[])(ho:jh (cR i) (gq i:Int)=true)(q:StX h n s)(hu:0<=u/\u<=5000)(hc:StC h n s->TG s (ez.getD i []) u (StX (h+88) (n+1))):GW s [ez.getD i []] u (StX (h+88) (n+1)):=by
 rcases q with q|q
 ·exact .one (Yd i hi hh hw h0 ho q hu)
 exact .one (hc q)
def TG.imp{w:Str}{Q R:SS->Prop}(h:TG s w u Q)(hq:∀s,Q s->R s):TG s w u R:=by
 obtain⟨s',u',e,h1,h2⟩:=h
 exact⟨s',u',e,fun z=>⟨(h1 z).1,(h1 z).2.1,fun x=>hq _ ((h1 z).2.2 x)⟩,h2⟩
end
def elP:List (List Str):=[[[49]],[[45,55]],[[36,49,70]],[[68,85,80]],[[83,87,65,80]],[[43]],[[42]],[[68,82,79,80]],[[79,86,69,82]],[[46]],[[67,82]],[[50,68,85,80]],[[58],[113],[73,70],[49],[69,76,83,69],[50],[84,72,69,78],[59]],[[58],[114],[68,85,80],[51],[63,68,79],[73],[76,79,79,80]],[[59]],[[58],[115]],[[113]],[[66,69,71,73,78]],[[85,78,84,73,76]],[[82,69,67,85,82,83,69]],[[69,88,73,84]],[[84,82,85,69]],[[60]],[[78,69,71,65,84,69]]]
def ai6{s:SS}{u h:Int}{n:Nat}(q:StX h n s)(hr:h+88+40<=4096)(h70:n<70)(hu:0<=u/\u<=5000):∀ws∈elP,GW s ws u (StX (h+88) (n+1)):=by
 have hr':h+88<=4096:=by omega
 intro ws hw
 simp only[elP,List.mem_cons,List.not_mem_nil,or_false]at hw
 rcases hw with rfl|rfl|rfl|rfl|rfl|rfl|rfl|rfl|rfl|rfl|rfl|rfl|rfl|rfl|rfl|rfl|rfl|rfl|rfl|rfl|rfl|rfl|rfl|rfl
 ·exact Kp [49] 1 (by decide) (by kernel_rfl) (by kernel_rfl) (by decide) q hr' hu
 ·exact Kp [45,55] (-7) (by decide) (by kernel_rfl) (by kernel_rfl) (by decide) q hr' hu
 ·exact Kp [36,49,70] 31 (by decide) (by kernel_rfl) (by kernel_rfl) (by decide) q hr' hu
 ·exact kh 23 (by decide) rfl (by decide) rfl (by decide) (by decide +kernel) q hr' hu
 ·exact kh 25 (by decide) rfl (by decide) rfl (by decide) (by decide +kernel) q hr' hu
 ·exact kh 39 (by decide) rfl (by decide) rfl (by decide) (by decide +kernel) q hr' hu
 ·exact kh 41 (by decide) rfl (by decide) rfl (by decide) (by decide +kernel) q hr' hu
 ·exact kh 24 (by decide) rfl (by decide) rfl (by decide) (by decide +kernel) q hr' hu
 ·exact kh 26 (by decide) rfl (by decide) rfl (by decide) (by decide +kernel) q hr' hu
 ·exact kh 110 (by decide) rfl (by decide) rfl (by decide) (by decide +kernel) q hr' hu
 ·exact kh 106 (by decide) rfl (by decide) rfl (by decide) (by decide +kernel) q hr' hu
 ·exact kh 32 (by decide) rfl (by decide) rfl (by decide) (by decide +kernel) q hr' hu
 ·refine(GW.more (ws:=[[58],[113],[73,70],[49],[69,76,83,69],[50],[84,72,69,78]]) (Q:=StC (h+80) (n+1)) ?_ fun s1 u1 a b _ q1=>Nh q1 (by omega) ⟨a,by omega⟩).imp fun s z=>.inl (z.up (by omega) (Nat.le_refl _))
  refine(GW.more (ws:=[[58],[113],[73,70],[49],[69,76,83,69],[50]]) (Q:=StC (h+80) (n+1)) ?_ fun s1 u1 a b _ q1=>Zx q1 (by omega) ⟨a,by omega⟩).imp fun s z=>z.up (by omega) (Nat.le_refl _)
  refine(GW.more (ws:=[[58],[113],[73,70],[49],[69,76,83,69]]) (Q:=StC (h+64) (n+1)) ?_ fun s1 u1 a b _ q1=>El [50] 2 (by decide) (by kernel_rfl) (by kernel_rfl) (by decide) q1 (by omega) ⟨a,by omega⟩).imp fun s z=>z.up (by omega) (Nat.le_refl _)
  refine(GW.more (ws:=[[58],[113],[73,70],[49]]) (Q:=StC (h+48) (n+1)) ?_ fun s1 u1 a b _ q1=>Yo q1 (by omega) ⟨a,by omega⟩).imp fun s z=>z.up (by omega) (Nat.le_refl _)
  refine(GW.more (ws:=[[58],[113],[73,70]]) (Q:=StC (h+32) (n+1)) ?_ fun s1 u1 a b _ q1=>El [49] 1 (by decide) (by kernel_rfl) (by kernel_rfl) (by decide) q1 (by omega) ⟨a,by omega⟩).imp fun s z=>z.up (by omega) (Nat.le_refl _)
  refine(GW.more (ws:=[[58],[113]]) (Q:=StC (h+16) (n+1)) ?_ fun s1 u1 a b _ q1=>aM6 q1 (by omega) ⟨a,by omega⟩).imp fun s z=>z.up (by omega) (Nat.le_refl _)
  exact Bi (nm:=[113]) (by decide) (by kernel_rfl) (by kernel_rfl) q (by omega) h70 hu
 ·refine(GW.bind (ws:=[[58],[114],[68,85,80],[51]]) (vs:=[[63,68,79],[73],[76,79,79,80]]) (Q:=StC (h+40) (n+1)) ?_ fun s1 u1 a b _ q1=>YN q1 (by omega) ⟨a,by omega⟩).imp fun s z=>.inr (z.up (by omega) (Nat.le_refl _))
  refine(GW.more (ws:=[[58],[114],[68,85,80]]) (Q:=StC (h+24) (n+1)) ?_ fun s1 u1 a b _ q1=>El [51] 3 (by decide) (by kernel_rfl) (by kernel_rfl) (by decide) q1 (by omega) ⟨a,by omega⟩).imp fun s z=>z.up (by omega) (Nat.le_refl _)
  refine(GW.more (ws:=[[58],[114]]) (Q:=StC (h+16) (n+1)) ?_ fun s1 u1 a b _ q1=>Ks 23 (by decide) rfl (by decide) rfl (by decide) (.inl (by decide)) q1 (by omega) ⟨a,by omega⟩).imp fun s z=>z.up (by omega) (Nat.le_refl _)
  exact Bi (nm:=[114]) (by decide) (by kernel_rfl) (by kernel_rfl) q (by omega) h70 hu
 ·exact wH 131 (by decide) rfl (by decide) (by decide) (by decide +kernel) q hu fun q=>(Nh q (by omega) hu).imp fun s z=>.inl (z.up (by omega) (by omega))
 ·exact(Bi (nm:=[115]) (by decide) (by kernel_rfl) (by kernel_rfl) q (by omega) h70 hu).imp fun s z=>.inr (z.up (by omega) (Nat.le_refl _))
 ·rcases q with q|q
  ·exact(GW.one (aL7 (w:=[113]) (by decide) (by kernel_rfl) (by kernel_rfl) (by decide) q hu)).imp fun s z=>.inl (z.up (by omega) (by omega))
  exact(GW.one (ac0 (w:=[113]) (by decide) (by kernel_rfl) (by kernel_rfl) (by decide) q (by omega) hu)).imp fun s z=>.inr (z.up (by omega) (by omega))
 ·exact wH 147 (by decide) rfl (by decide) (by decide) (by decide +kernel) q hu fun q=>(V4 q (by omega) hu).imp fun s z=>.inr (z.up (by omega) (by omega))
 ·exact wH 150 (by decide) rfl (by decide) (by decide) (by decide +kernel) q hu fun q=>(V9 q (by omega) hu).imp fun s z=>.inr (z.up (by omega) (by omega))
 ·exact wH 143 (by decide) rfl (by decide) (by decide) (by decide +kernel) q hu fun q=>(av5 q (by omega) hu).imp fun s z=>.inr (z.up (by omega) (by omega))
 ·exact wH 166 (by decide) rfl (by decide) (by decide) (by decide +kernel) q hu fun q=>(Xg q (by omega) hu).imp fun s z=>.inr (z.up (by omega) (by omega))
 ·exact kh 100 (by decide) rfl (by decide) rfl (by decide) (by decide +kernel) q hr' hu
 ·exact kh 53 (by decide) rfl (by decide) rfl (by decide) (by decide +kernel) q hr' hu
 exact kh 59 (by decide) rfl (by decide) rfl (by decide) (by decide +kernel) q hr' hu
def EA:∀(l:List (List Str)) {s:SS} {u h:Int} {n:Nat},(∀ws∈l,ws∈elP)->StX h n s->h+88*(l.length:Int)+40<=4096->n+l.length<70->0<=u/\u<=5000->GW s l.flatten u (StX (h+88*(l.length:Int)) (n+l.length))
 | [],s,u,h,n,_,q,_,_,hu=>.nil hu.1 (by simpa using q)
 | ws::l,s,u,h,n,hl,q,hr,h70,hu=>by
  have hc:((ws::l).length:Int)=(l.length:Int)+1:=by simp
  rw[List.length_cons]at h70
  have g:=GW.bind (vs:=l.flatten) (R:=StX (h+88+88*(l.length:Int)) (n+1+l.length)) (ai6 q (by omega) (by omega) hu ws (hl ws (List.mem_cons_self ..))) fun s1 u1 a b _ q1=>EA l (fun x hx=>hl x (List.mem_cons_of_mem _ hx)) q1 (by omega) (by omega) ⟨a,by omega⟩
  rw[List.flatten_cons,hc,List.length_cons,show h+88*((l.length:Int)+1)=h+88+88*(l.length:Int) by omega,show n+(l.length+1)=n+1+l.length by omega]
  exact g
open Go.RowKit
def Pp(xs:List Int)(hl:xs.length=8)(hb:∀x∈xs,0<=x/\x<256):ku (oC xs)=xs:=by
 match xs,hl with
 | [a,b,c,d,e,f,g,h],_ =>
  have h1:=hb a (by simp)
  have h2:=hb b (by simp)
  have h3:=hb c (by simp)
  have h4:=hb d (by simp)
  have h5:=hb e (by simp)
  have h6:=hb f (by simp)
  have h7:=hb g (by simp)
  have h8:=hb h (by simp)
  simp only[ku,oC]
  obtain⟨a,rfl⟩:=Int.eq_ofNat_of_zero_le h1.1
  obtain⟨b,rfl⟩:=Int.eq_ofNat_of_zero_le h2.1
  obtain⟨c,rfl⟩:=Int.eq_ofNat_of_zero_le h3.1
  obtain⟨d,rfl⟩:=Int.eq_ofNat_of_zero_le h4.1
  obtain⟨e,rfl⟩:=Int.eq_ofNat_of_zero_le h5.1
  obtain⟨f,rfl⟩:=Int.eq_ofNat_of_zero_le h6.1
  obtain⟨g,rfl⟩:=Int.eq_ofNat_of_zero_le h7.1
  obtain⟨h,rfl⟩:=Int.eq_ofNat_of_zero_le h8.1
  simp only[Int.toNat_natCast,List.cons.injEq,and_true]
  refine⟨?_,?_,?_,?_,?_,?_,?_,?_⟩<;>omega
def XU{l:List UInt8}(hl:l.length=8):qW (B5 l)=l:=by
 have hb:∀x∈l.map (fun b=>(b.toNat:Int)),0<=x/\x<256:=by
  intro x hx
  obtain⟨b,_,rfl⟩:=List.mem_map.1 hx
  have:=b.toNat_lt
  show 0<=(b.toNat:Int)/\(b.toNat:Int)<256
  omega
 have hl2:(l.map (fun b=>(b.toNat:Int))).length=8:=by rw[List.length_map];exact hl
 have hv:=MD _ hb
 rw[hl2,show(256:Nat) ^ 8=18446744073709551616 from by decide]at hv
 unfold qW B5
 rw[show U (wrap64 (oC (l.map fun b=>(b.toNat:Int)):Int))=_ from U_S _ hv,Pp _ hl2 hb,List.map_map]
 have:∀b∈l,((fun x:Int=>UInt8.ofNat x.toNat) ∘ fun b:UInt8=>(b.toNat:Int)) b=id b:=by
  intro b _
  show UInt8.ofNat ((b.toNat:Int)).toNat=b
  rw[Int.toNat_natCast];exact UInt8.ofNat_toNat
 rw[List.map_congr_left this,List.map_id]
def QT{m m':bh}{L:Nat}{g:Int->Int}(h:dL m L g)(h':dL m' L g)(h8:L%8=0):m'.b=m.b:=by
 have l1:=h.len
 have l2:=h'.len
 have cell:∀{m:bh},dL m L g->∀k:Nat,k*8+8<=L->(m.b.drop (k*8)).take 8=qW (g ((k*8:Nat):Int)):=fun {m} hm k hk=>by
  have e:=hm.cell ((k*8:Nat):Int) (by omega) (by omega) (by omega)
  unfold am at e
  rw[pd (by omega) (by omega) (by rw[hm.len];omega),if_pos rfl,Int.toNat_natCast]at e
  have e1:B5 ((m.b.drop (k*8)).take 8)=g ((k*8:Nat):Int):=congrArg Prod.fst e
  rw[<-e1,XU]
  rw[List.length_take,List.length_drop,hm.len];omega
 refine List.ext_getElem? fun i=>?_
 by_cases hi:i<L
 ·have e1:=cell h (i/8) (by omega)
  have e2:=cell h' (i/8) (by omega)
  have e:=congrArg (fun l=>l[i%8]?) (e2.trans e1.symm)
  simp only[List.getElem?_take,List.getElem?_drop]at e
  rw[if_pos (Nat.mod_lt _ (by decide)),if_pos (Nat.mod_lt _ (by decide)),show i/8*8+i%8=i by omega]at e
  exact e
 rw[List.getElem?_eq_none (by omega),List.getElem?_eq_none (by omega)]
def Xq{f f':aa}{s:SS}(h:At f s)(h':At f' s):lK f'=lK f:=by
 obtain⟨m,rfl,hm⟩:=h.ex
 obtain⟨m',rfl,hm'⟩:=h'.ex
 unfold lK
 rw[show(vS s m').mem.b=(vS s m).mem.b from QT hm hm' (by decide)]
 rfl
def FN{f:aa}{ws:List Str}{u:Int}{r:aa×Int×Int}(h:EW f ws u r)(hr:r.2.2=0->0<=r.2.1){tx:Str}{a:Int}(hp:Pos tx a ws)(f0:aa){n:Nat}(hn:ws.length+1<=n):
  (r.2.2=0->iI f0 tx n ⟨f,a,u⟩=(lK r.1,r.2.1,0))/\(r.2.2≠0->(iI f0 tx n ⟨f,a,u⟩).2.2=r.2.2):=by
 have q:=h f0 tx a [] (by rw[List.append_nil];exact hp)
 refine⟨fun z=>?_,fun z=>?_⟩
 ·obtain⟨a',k,hp',hk,hl⟩:=q.1 z
  have e:lnR ⟨r.1,a',r.2.1⟩ tx=(r.1,(tx.length:Int),r.2.1,false,0):=by
   show iJ r.1 tx a' r.2.1=_
   rw[MI (ZA hp'),show max r.2.1 0=r.2.1 by have:=hr z;omega]
  rw[show n=(n-k-1+1)+k by omega,hl,iI,e,if_neg (fun z=>z rfl),if_pos rfl]
 obtain⟨f1,a1,u1,k,f2,a2,u2,hk,hl,e⟩:=q.2 z
 have e':lnR ⟨f1,a1,u1⟩ tx=(f2,a2,u2,true,r.2.2):=e
 rw[show n=(n-k-1+1)+k by omega,hl,iI,e',if_pos z]
def A3{tx:Str}{ws:List Str}(h:ui tx ws):Pos tx 0 ws:=⟨[],tx,rfl,rfl,h⟩
def aM5:StX 1368 0 sO:=by
 refine .inl ⟨⟨fO,Zs⟩,fun _=>0,⟨⟨fun x hx=>absurd rfl hx,(fun p hp=>by cases hp),(fun z=>by cases z),(fun k hk=>by cases hk)⟩,rfl,rfl,(fun e he=>by cases he)⟩,Int.le_refl _,Nat.le_refl _⟩
def ah3{A B:List (List Str)}{ta tb tc:Str}(hA:∀ws∈A,ws∈elP)(hB:∀ws∈B,ws∈elP)(la:A.length<=12)(lb:B.length<=12)(wa:ui ta A.flatten)(wb:ui tb B.flatten)(wc:ui tc (A.flatten++B.flatten))(h0:(cE fO ta 200).2.2=0):
  ((cE (cE fO ta 200).1 tb (cE fO ta 200).2.1).2.2≠0->(cE fO tc 200).2.2=(cE (cE fO ta 200).1 tb (cE fO ta 200).2.1).2.2) /\
  ((cE (cE fO ta 200).1 tb (cE fO ta 200).2.1).2.2=0->cE fO tc 200=cE (cE fO ta 200).1 tb (cE fO ta 200).2.1):=by
 obtain⟨s1,left,e,hG,hE⟩:=EA A hA aM5 (by omega) (by omega) (u:=200) (by decide) fO Zs
 obtain⟨x,ax,hE⟩:=hE fO Zs
 have lA:=yJ _ wa
 have lB:=yJ _ wb
 have lC:=yJ _ wc
 rw[List.length_append]at lC
 have eA:=FN hE (fun z=>(hG z).1) (A3 wa) fO (n:=ta.length+2) (by omega)
 have ea:cE fO ta 200=iI fO ta (ta.length+2) ⟨fO,0,200⟩:=rfl
 have z:e=0:=Decidable.not_not.1 fun z=>by
  rw[ea,eA.2 z]at h0;exact z h0
 subst z
 have eA:=eA.1 rfl
 obtain⟨u0,u1,qx⟩:=hG rfl
 have ax:=ax rfl
 rw[ea,eA]
 dsimp only
 obtain⟨sB,uB,eB,gB,hB2⟩:=EA B hB qx (by omega) (by omega) (u:=left) ⟨u0,by omega⟩ x ax
 obtain⟨fj,aj,wJ⟩:=hB2 x ax
 obtain⟨fx,ay,wX⟩:=hB2 (lK x) (Fq ax)
 have ml:max left 0=left:=by omega
 have eY:cE (lK x) tb left=iI (lK x) tb (tb.length+2) ⟨lK x,0,left⟩:=by unfold cE;rw[ml]
 have yB:=FN wX (fun z=>(gB z).1) (A3 wb) (lK x) (n:=tb.length+2) (by omega)
 obtain⟨a',k,hp,hk,hl⟩:=(hE fO tc 0 B.flatten (A3 wc)).1 rfl
 have eZ:cE fO tc 200=iI fO tc (tc.length+2-k) ⟨x,a',left⟩:=by
  unfold cE
  have:=hl (tc.length+2-k)
  rw[show tc.length+2-k+k=tc.length+2 by omega]at this
  exact this
 have zJ:=FN wJ (fun z=>(gB z).1) hp fO (n:=tc.length+2-k) (by omega)
 rw[eY,eZ]
 by_cases zb:eB=0
 ·rw[yB.1 zb,zJ.1 zb]
  refine⟨fun z=>absurd rfl z,fun _=>?_⟩
  rw[Xq (ay zb) (aj zb)]
 rw[yB.2 zb]
 exact⟨fun _=>zJ.2 zb,fun z=>absurd z zb⟩
def GZ:List Str->Str
 | []=>[]
 | [w]=>w
 | w::v::ws=>w++32::GZ (v::ws)
def WL(w:Str):Bool:=!w.isEmpty&&w.all fun c=>decide (32<c.toNat)
def GT{w:Str}(h:WL w=true):ab9 w:=by
 unfold WL at h
 rw[Bool.and_eq_true,List.all_eq_true]at h
 exact⟨fun z=>by rw[z]at h;exact absurd h.1 (by decide),fun c hc=>oT (h.2 c hc)⟩
def IQ:∀(ws:List Str),(ws.all WL)=true->ui (GZ ws) ws
 | [],_=>fun c hc=>by cases hc
 | [w],h=>⟨[],[],by simp[GZ],(fun c hc=>by cases hc),GT (by simpa using h),.inl ⟨rfl,rfl⟩⟩
 | w::v::ws,h=>by
  rw[List.all_cons,Bool.and_eq_true]at h
  exact⟨[],32::GZ (v::ws),rfl,(fun c hc=>by cases hc),GT h.1,.inr ⟨32,_,rfl,by decide,IQ (v::ws) h.2⟩⟩
def wdS:List Str:=[[49],[45,55],[36,49,70],[68,85,80],[83,87,65,80],[43],[42],[68,82,79,80],[79,86,69,82],[46],[67,82],[50,68,85,80],[58,32,113,32,73,70,32,49,32,69,76,83,69,32,50,32,84,72,69,78,32,59],[58,32,114,32,68,85,80,32,51,32,63,68,79,32,73,32,76,79,79,80],[59],[58,32,115],[113],[66,69,71,73,78],[85,78,84,73,76],[82,69,67,85,82,83,69],[69,88,73,84],[84,82,85,69],[60],[78,69,71,65,84,69]]
def wP(c:UInt8):Str:=wdS.getD (c.toNat%24) []
def eP9(c:UInt8):List Str:=elP.getD (c.toNat%24) []
def Mn(c:UInt8):ui (wP c) (eP9 c)/\eP9 c∈elP/\(wP c).length<=22:=by
 have h:∀k,k<24->wdS.getD k []=GZ (elP.getD k [])/\(elP.getD k []).all WL=true/\elP.getD k []∈elP/\(wdS.getD k []).length<=22:=by decide +kernel
 obtain⟨h1,h2,h3,h4⟩:=h _ (Nat.mod_lt c.toNat (by decide))
 refine⟨?_,h3,h4⟩
 unfold wP eP9
 rw[h1];exact IQ _ h2
def sP(l:List UInt8)(i:Nat):Str:=(l.take i).flatMap fun c=>32::wP c
def FQ{l:List UInt8}{i:Nat}(h:i<l.length):(sP l i++[32])++wP (l.getD i 0)=sP l (i+1):=by
 unfold sP
 rw[iA l i 0 h,List.flatMap_append]
 simp
def w9(l:List UInt8):∀i,i<=l.length->(sP l i).length<=23*i
 | 0,_=>by unfold sP;simp
 | i+1,h=>by
  have ih:=w9 l i (by omega)
  have w:=(Mn (l.getD i 0)).2.2
  rw[<-FQ (by omega)]
  simp only[List.length_append,List.length_singleton]
  omega
def JG(l:List UInt8):∀i,i<=l.length->ui (sP l i) ((l.take i).map eP9).flatten
 | 0,_=>fun c hc=>by unfold sP at hc;simp at hc
 | i+1,h=>by
  have ih:=JG l i (by omega)
  have w:=(Mn (l.getD i 0)).1
  rw[<-FQ (by omega),iA l i 0 (by omega),List.map_append,List.flatten_append,List.append_assoc]
  have:=Gl (c:=32) (by decide) w _ ih
  simpa using this
def Y8{a b:List UInt8}(ha:a.length<=12)(hb:b.length<=12)(h0:(cE fO (sP a a.length) 200).2.2=0):
  ((cE (cE fO (sP a a.length) 200).1 (sP b b.length) (cE fO (sP a a.length) 200).2.1).2.2≠0->(cE fO (sP a a.length++[32]++sP b b.length) 200).2.2=(cE (cE fO (sP a a.length) 200).1 (sP b b.length) (cE fO (sP a a.length) 200).2.1).2.2) /\
  ((cE (cE fO (sP a a.length) 200).1 (sP b b.length) (cE fO (sP a a.length) 200).2.1).2.2=0->cE fO (sP a a.length++[32]++sP b b.length) 200=cE (cE fO (sP a a.length) 200).1 (sP b b.length) (cE fO (sP a a.length) 200).2.1):=by
 have ta:=JG a a.length (Nat.le_refl _)
 have tb:=JG b b.length (Nat.le_refl _)
 rw[List.take_length]at ta tb
 have el:∀(l:List UInt8),∀ws∈l.map eP9,ws∈elP:=fun l ws h=>by obtain⟨c,_,rfl⟩:=List.mem_map.1 h;exact(Mn c).2.1
 refine ah3 (el a) (el b) (by rw[List.length_map];exact ha) (by rw[List.length_map];exact hb) ta tb ?_ h0
 have:=Gl (c:=32) (by decide) tb _ ta
 rw[List.append_assoc];exact this
open Go.WideShapes
def Lw{P:Program}{a:Addr}{f:FuncId}{args:List PV}{vs:List Value}{w:World}(hf:aF args)(h:∀(H:List Ob),(∀o∈gH a,∃k:Nat,H[k]?=some o)->HC P f args H (.val (.bool true)) H)
  (h0:w.cell? ⟨1,0,none⟩=some (haltV a)) (h1:w.cell? ⟨0,0,none⟩=some etV) (hr:au (c0 w) args vs) :
  Calls P f vs.toArray w fun e w'=>e=.returned (.bool true)/\Below w.heap.size w w':=by
 have dull:∀{j:Nat} {oj:Ob},(gH a)[j]?=some oj->oj.live=true->False:=fun q1 q2=>by
  obtain⟨g,u,rfl⟩:=fF a _ (List.mem_of_getElem? q1);cases q2
 have nw:∀b off,¬(False\/kM (fun _=>none) (gH a) b off):=by
  rintro b off (q|⟨i,oi,q1,_,q3⟩)
  ·exact q
  obtain⟨g,u,rfl⟩:=fF a _ (List.mem_of_getElem? q1);cases q3
 have s:Sim (fun _ _=>False) (gH a) (fun _=>none) w:=by
  refine⟨fun i j b oi oj q _ l=>(dull q l).elim,fun i b oi q l=>(dull q l).elim,fun b off q=>q.elim,fun i oi q=>?_⟩
  have hm:=List.mem_of_getElem? q
  unfold gH at hm
  simp only[List.mem_cons,List.not_mem_nil,or_false]at hm
  rcases hm with rfl|rfl
  ·exact⟨h0,nw _ _⟩
  exact⟨h1,nw _ _⟩
 have hr':au (cx (fun _ _=>False) (gH a) (fun _=>none) w) args vs:=dv (c:=c0 w) (c':=cx (fun _ _=>False) (gH a) (fun _=>none) w) rfl (fun b off q=>(nw b off q).elim) hf hr
 refine Calls.mono (h (gH a) (fun o ho=>by obtain⟨k,hk⟩:=List.getElem?_of_mem ho;exact⟨k,hk⟩) (fun _ _=>False) (fun _=>none) w vs s hr') ?_
 rintro e w' ⟨v,σ',rfl,h1,_,h3⟩
 unfold Rep at h1
 subst h1
 exact⟨rfl,⟨h3.os,h3.tape,h3.output,h3.size,fun b hb=>h3.block b hb (fun i oi hi hl=>(dull hi hl).elim)⟩⟩
open Go.WideShapes
section
variable {P : Program} {B : Nat -> Nat -> Prop} {n : Nat} {ops : Array Oper} {cl : Nat -> Nat} {T : Nat -> PV} {H : List Ob} {o : Oper} {l : List Nat} {i : Nat} {K : (Nat -> PV) -> List Ob -> Prop} {x : PV} {d : Option Tmp}
def BH[DL](h0:ops[i]?=some o)(hc:cl i=1)(hd:nfD n o.dst=some d)(hw:bf ops T o=some true)(h:∀E,ly P B o T (H++E) x (H++E))(k:WU P B n ops cl l (d8 d x T) H K):WU P B n ops cl (i::l) T H K :=
 ⟨o,h0,x,H,.inl ⟨hw,.inr (by have:=h [];rwa [List.append_nil]at this)⟩,by rw[hc];exact⟨rfl,fun E=>.inl ⟨hw,.inr (h E)⟩⟩,(iD hd).1▸k⟩
end
def Y2(x:List Int)(h:x.length<=1000000):ab prog 20 [sq ao x,sq ao x] (boo true):=by
 have:=tj x x h h
 rwa [decide_eq_true rfl]at this
def TR(v:VVm)(h:VSm v):ab prog 28 [eVm v,eVm v] (boo true):=by
 have:=K4 v v h h
 rwa [decide_eq_true rfl]at this
def RM(l:List VCf)(hl:l.length<=1000000)(hv:∀c∈l,c.leaves.length<=1000000):ab prog 29 [sq cCf l,sq cCf l] (boo true):=by
 refine zH func29 fun B=>?_
 refine Wf rfl (by exact bne_self_eq_false _) ?_
 refine Wj<|Ws<|zu1 ?_
 refine Wl ?_
 show W _ _ _ _ _ _ _
 refine dJ (fun(k:Nat)=>[(0,sq cCf l),(1,sq cCf l),(5,i64 k)]) (fun(k:Nat)=>[]) (fun(k:Nat)=>[]) (fun(k:Nat)=>k<=l.length) (fun(k:Nat)=>l.length-k) (0) (by exact Nat.zero_le _) [] ?_ ?_
 ·exact dK
 intro k hk
 refine zd ?_
 refine Wi rfl ?_ ?_<;>intro hi2
 ·have hlt:k<l.length:=by have:=oT hi2;omega
  have pS:=Y2 (l.getD k zCf).leaves (hv _ (by rw[List.getD_eq_getElem?_getD,List.getElem?_eq_getElem hlt];exact List.getElem_mem _))
  refine zd ?_
  refine zW [0,0,0,0,1,0,0,0,0,1,0,0] [0,1,2,3,4,5,6,7,8,9,10,11] ?_
  refine zK cCf 3 zCf ?_
  refine zK cCf 3 zCf ?_
  refine Xc rfl rfl rfl rfl (fun _=>dC rfl func20 rfl rfl ((pS) _)) ?_
  refine zd ?_
  refine lg [0,0,0,0,0,0,0,1,0,0,0,0,1,0,0,0,0,0,0,0,1,0,0,0,0,1,0,0] [0,1,2,3,4,5,6,7,8,9,10,11,12,13,14,15,16,17,18,19,20,21,22,23,24,25,26,27] mG rfl (by kernel_rfl) ?_
  iterate 3 refine z3 ?_
  refine Ba 31 rfl (by rfl) ?_
  refine zd ?_
  refine zK cCf 3 zCf ?_
  refine Xi tG rfl rfl rfl rfl (fun _=>rfl) (by omega) (iN cCf 3 (fun _=>rfl) zCf (by omega)) ?_
  refine z3 ?_
  refine z5 ?_
  iterate 3 refine z3 ?_
  refine Ba 44 rfl (by exact bne_self_eq_false _) ?_
  refine zd ?_
  refine zK cCf 3 zCf ?_
  refine zK cCf 3 zCf ?_
  refine Wf rfl (by exact bne_self_eq_false _) ?_
  refine zd ?_
  exact⟨k+1,[],(by exact hlt),(by omega),dK⟩
 refine aW ?_
 refine zd ?_
 rfl
def RZ(f:aa)(h:VSm f.vm)(hl:f.comp.cf.length<=1000000)(hv:∀c∈f.comp.cf,c.leaves.length<=1000000):ab prog 15 [bG f,bG f] (boo true):=by
 refine zH func15 fun B=>?_
 refine zC rfl func28 ((TR f.vm h) _) ?_
 refine zc rfl func29 ((RM f.comp.cf hl hv) _) ?_
 refine zs1 ?_
 refine zp2 ?_
 refine cT 20 rfl (by rfl) ?_
 refine zy3 ?_
 refine cT 23 rfl (by rfl) ?_
 refine zy5 ?_
 refine zy4 ?_
 refine cT 32 rfl (by exact beq_self_eq_true _) ?_
 refine zy5 ?_
 refine zy4 ?_
 refine cT 41 rfl (by exact beq_self_eq_true _) ?_
 refine zy5 ?_
 refine zy4 ?_
 refine cT 50 rfl (by exact beq_self_eq_true _) ?_
 refine zy5 ?_
 refine zy4 ?_
 refine cT 59 rfl (by exact beq_self_eq_true _) ?_
 refine zy5 ?_
 refine zy4 ?_
 refine cT 68 rfl (by exact beq_self_eq_true _) ?_
 refine zd ?_
 exact congrArg boo (beq_self_eq_true _)
def ab1{k:Nat}(hk:k<256):IntKind.i64.wrap (k:Int)=(k:Int)/\((k:Int)).tmod ((wdS.length:Nat):Int)=((k%24:Nat):Int):=by
 constructor
 ·simp only[bU];unfold wrap64;omega
 rw[show wdS.length=24 from rfl,Int.tmod_eq_emod_of_nonneg (by omega)];omega
def Hv(l:List UInt8)(hl:l.length<=12):ab prog 14 [sq aH l] (str (sP l l.length)):=by
 refine zY func14 fun B=>?_
 refine zu1 ?_
 refine zp1 ?_
 refine Wa 6 rfl ((show PV.seq 24 _ .clip=.seq (List.length wdS) (List.flatMap gj wdS) .clip from rfl)) ?_
 refine zs1 ?_
 refine zu1 ?_
 refine Ws<|zu1 ?_
 refine Wl ?_
 show W _ _ _ _ _ _ _
 refine dJ (fun(i:Nat)=>[(0,sq aH l),(3,sq gj wdS),(4,str (sP l i)),(5,i64 i)]) (fun(i:Nat)=>[]) (fun(i:Nat)=>[]) (fun(i:Nat)=>i<=l.length) (fun(i:Nat)=>l.length-i) (0) (by exact Nat.zero_le _) [] ?_ ?_
 ·exact dK
 intro i hi
 refine zd ?_
 refine Wi rfl ?_ ?_<;>intro hi1
 ·have hlt:i<l.length:=by have:=oT hi1;omega
  have h256:(l.getD i 0).toNat<256:=by have:=(l.getD i 0).toNat_lt;omega
  have kwi:=(ab1 h256).1
  have kmi:=(ab1 h256).2
  have m24:(l.getD i 0).toNat%24<24:=Nat.mod_lt _ (by decide)
  have l24:wdS.length=24:=rfl
  have hlen:=w9 l i (by omega)
  have hw:(wdS.getD ((l.getD i 0).toNat%24) []).length<=22:=(Mn (l.getD i 0)).2.2
  refine zd ?_
  refine z2 ?_ (q:=(by simp only[dc];((simp_all;omega))))
  refine zA 14 rfl (ou _ _) ?_
  refine Wv tG rfl rfl rfl (by omega) (iN aH 1 (fun _=>rfl) 0 (by omega)) ?_
  refine zy2 ?_
  refine Wa 20 rfl (j_ kwi) ?_
  refine zy3 ?_
  refine Wa 23 rfl (j_ kmi) ?_
  refine zJ gj 1 [] ?_
  refine z2 ?_ (q:=(by simp only[dc];((simp_all;omega))))
  refine Wa 26 rfl (ou _ _) ?_
  refine zA 26 rfl (congrArg str (FQ hlt)) ?_
  exact⟨i+1,[],(by exact hlt),(by omega),dK⟩
 have hge:i=l.length:=by have:=oF hi1;omega
 subst hge
 refine aW ?_
 refine zd ?_
 rfl
section
variable (a : Addr) (p q : List UInt8) (hp : p.length <= 9223372036854775807) (hq : q.length <= 9223372036854775807) (sh : PG a 9 [] (boo true)) (x y z : aa) (u v w d e g : Int)
include hp hq sh
def Q9(hP:p.length<=12->q.length<=12->PG a 12 [bG fO,str (sP p p.length),i64 200] (rK (x,u,e))/\(e=0->PG a 12 [bG x,str (sP q q.length),i64 u] (rK (y,v,g))/\PG a 12 [bG fO,str (sP p p.length++[32]++sP q q.length),i64 200] (rK (z,w,d))/\(g≠0->d=g)/\(g=0->d=0/\v=w/\ab prog 15 [bG y,bG z] (boo true)))):
  ∀(H:List Ob),(∀o∈gH a,∃k:Nat,H[k]?=some o)->HC prog 4 [sq aH p,sq aH q] H (boo true) H:=by
 refine gD (fF a) tG (rs:=[.tmp 4]) func4 rfl rfl rfl (by simp) (by simp) (fun B=>?_)
 refine zd ?_
 refine zc rfl func9 (sh _ (bS 0 1 rfl rfl)) ?_
 refine zs1 ?_
 refine Ws<|zp4 ?_
 refine Wb 20 rfl ?_ ?_<;>intro hg1
 ·refine zd ?_
  refine Wt rfl rfl ?_
  refine zd ?_
  rfl
 have lp:p.length<=12:=by have:=oF hg1;omega
 refine zd ?_
 refine Wi rfl ?_ ?_<;>intro hi1
 ·refine zd ?_
  rfl
 have lq:q.length<=12:=by have:=oF hi1;omega
 obtain⟨pL,hR⟩:=hP lp lq
 have sA:=Hv p lp
 have sB:=Hv q lq
 have nA:=w9 p p.length (Nat.le_refl _)
 have nB:=w9 q q.length (Nat.le_refl _)
 refine zd ?_
 refine zC rfl func10 ((Dh) _) ?_
 refine zW [1,0,0,1,0,0,0,0,2,3,0,0] [0,1,2,3,4,5,6,7,8,9,10,11] ?_
 refine Xc rfl rfl rfl rfl (fun _=>dC rfl func14 rfl rfl ((sA) _)) ?_
 refine BH rfl rfl rfl rfl (fun _=>dC rfl func12 rfl rfl (pL _ (bS 0 1 rfl rfl))) ?_
 refine zd ?_
 refine lE tG rfl rfl rfl rfl rfl trivial rfl ?_
 refine cr tG rfl rfl rfl rfl rfl trivial ?_
 refine zd ?_
 refine Wi rfl ?_ ?_<;>intro hi2
 ·refine zd ?_
  rfl
 have qe:e=0:=by simpa using hi2
 obtain⟨pM,pN,hG,hZ⟩:=hR qe
 refine zd ?_
 refine zW [1,0,0,0,1,0,0,0,0,2,3,0,0] [0,1,2,3,4,5,6,7,8,9,10,11,12] ?_
 refine Xc rfl rfl rfl rfl (fun _=>dC rfl func14 rfl rfl ((sB) _)) ?_
 refine z3 ?_
 refine BH rfl rfl rfl rfl (fun _=>dC rfl func12 rfl rfl (pM _ (bS 0 1 rfl rfl))) ?_
 refine zd ?_
 refine lE tG rfl rfl rfl rfl rfl trivial rfl ?_
 refine cr tG rfl rfl rfl rfl rfl trivial ?_
 refine zd ?_
 refine zW [1,0,0,0,0,0,0,1,0,0,0,0,2,3,0,0] [0,1,2,3,4,5,6,7,8,9,10,11,12,13,14,15] ?_
 refine Xc rfl rfl rfl rfl (fun _=>dC rfl func14 rfl rfl ((sA) _)) ?_
 refine z4 ?_ (q:=(by simp only[dc];((simp_all;omega))))
 refine zO 51 rfl (ou _ _) ?_
 refine Xc rfl rfl rfl rfl (fun _=>dC rfl func14 rfl rfl ((sB) _)) ?_
 refine z4 ?_ (q:=(by simp only[dc];((simp_all;omega))))
 refine Xa 54 rfl (ou _ _) ?_
 refine BH rfl rfl rfl rfl (fun _=>dC rfl func12 rfl rfl (pN _ (bS 0 1 rfl rfl))) ?_
 refine zd ?_
 refine lE tG rfl rfl rfl rfl rfl trivial rfl ?_
 refine cr tG rfl rfl rfl rfl rfl trivial ?_
 refine zd ?_
 refine Wi rfl ?_ ?_<;>intro hi3
 ·have qg:g≠0:=by simpa using hi3
  have qd:=hG qg
  refine zp2 ?_
  refine cT 62 rfl (by rfl) ?_
  refine zd ?_
  exact congrArg boo (beq_iff_eq.2 qd)
 have qg:g=0:=by simpa using hi3
 obtain⟨qd,qv,pS⟩:=hZ qg
 refine Wj<|zp2 ?_
 refine cT 68 rfl (by rfl) ?_
 refine zy4 ?_
 refine cT 72 rfl (by exact beq_iff_eq.2 qd) ?_
 refine zy5 ?_
 refine cT 77 rfl (by exact beq_iff_eq.2 qv) ?_
 refine zd ?_
 refine zC rfl func15 ((pS) _) ?_
 rfl
end
def BX(a:Addr)(p q:List UInt8)(hp:p.length<=9223372036854775807)(hq:q.length<=9223372036854775807):∀(H:List Ob),(∀o∈gH a,∃k:Nat,H[k]?=some o)->HC prog 4 [sq aH p,sq aH q] H (boo true) H:=by
 obtain⟨R1,h1⟩:∃R,cE fO (sP p p.length) 200=R:=⟨_,rfl⟩
 obtain⟨R2,h2⟩:∃R,cE R1.1 (sP q q.length) R1.2.1=R:=⟨_,rfl⟩
 obtain⟨R3,h3⟩:∃R,cE fO (sP p p.length++[32]++sP q q.length) 200=R:=⟨_,rfl⟩
 refine Q9 a p q hp hq (LY a) R1.1 R2.1 R3.1 R1.2.1 R2.2.1 R3.2.1 R3.2.2 R1.2.2 R2.2.2 fun lp lq=>?_
 have np:=w9 p p.length (Nat.le_refl _)
 have nq:=w9 q q.length (Nat.le_refl _)
 have l3:(sP p p.length++[32]++sP q q.length).length<=1000:=by simp only[List.length_append,List.length_singleton];omega
 have o1:=Bp (tx:=sP p p.length) (fuel:=200) okO (by omega) (by decide) (by decide)
 have g1:=tv a (u:=R1.2.1) (e:=R1.2.2) (f':=R1.1) okO (by omega) (by decide) h1
 have g3:=tv a (u:=R3.2.1) (e:=R3.2.2) (f':=R3.1) okO l3 (by decide) h3
 rw[h1]at o1
 have g2:=tv a (u:=R2.2.1) (e:=R2.2.2) (f':=R2.1) (fuel:=R1.2.1) g1.2 (tx:=sP q q.length) (by omega) (by have:=o1.2.2.2;omega) h2
 refine⟨g1.1,fun e0=>⟨g2.1,g3.1,?_⟩⟩
 have k:=Y8 lp lq (by rw[h1];exact e0)
 rw[h1,h2,h3]at k
 refine⟨k.1,fun e2=>?_⟩
 have e:=k.2 e2
 have s:=SH g2.2.g.right (by have:=g2.2.g.old;omega)
 have c1:=g2.2.cfl
 refine⟨by rw[e];exact e2,by rw[e],?_⟩
 rw[e]
 exact RZ R2.1 s (by omega) fun c hc=>by have:=(g2.2.cf c hc).len;omega
def vR{w:World}{v:Value}(h:Io w 22 v):∃l:List UInt8,l.length<=9223372036854775807/\Rep (c0 w) (sq aH l) v:=by
 obtain⟨a,len,cap,rfl,hr⟩:=G6 underlying22 h
 obtain⟨l,h1,h3⟩:=R7 hr
 exact⟨l,h1,(af.1 h3).1⟩
def walk_OuterParts(a:Addr)(v0 v1:Value)(w:World)(h0:w.cell? ⟨1,0,none⟩=some (haltV a))(h1:w.cell? ⟨0,0,none⟩=some etV)(r0:Io w 22 v0)(r1:Io w 22 v1):
  Calls prog 4 #[v0,v1] w fun e w'=>e=.returned (.bool true)/\Below w.heap.size w w':=by
 obtain⟨p,hp,p0⟩:=vR r0
 obtain⟨q,hq,p1⟩:=vR r1
 exact Lw (args:=[sq aH p,sq aH q]) (by simp[aF,aR]) (BX a p q hp hq) h0 h1 (af.2 ⟨p0,af.2 ⟨p1,aG.2 rfl⟩⟩)
end Go.Proofs.YtjcminooghmpeaaGreatDoor
