import Derived.Test.YtjcminooghmpeaaGreatDoorPk11
set_option linter.all false
set_option maxRecDepth 100000
set_option maxHeartbeats 40000000
open Go.Proofs.Tryz
namespace Go.Proofs.YtjcminooghmpeaaGreatDoor
open Go.RowKit
section
variable {v : VVm} {l D : List VCf} {L : Nat} {g : Int -> Int} {a o : Int}
def T0:ma [40,63,100,111,41]=72:=by decide +kernel
def Ko:ma [40,108,111,111,112,41]=80:=by decide +kernel
def OQ:ab 72:=by unfold ab;omega
def IA:ab 80:=by unfold ab;omega
def XG(hl:l.length<32):bh v l [66,69,71,73,78]=(v,l++[⟨2,v.here,[]⟩],0):=by
 rw[nr (g:=ud) rfl (by unfold jK;rw[if_pos (.inr (.inl rfl))];simp;omega)]
 unfold ud
 rw[nM (by exact hl),js rfl]
def XN(R:gg v L g)(h:v.here+16<=(L:Int))(hl:l=D++[⟨2,a,[]⟩])(hD:D.length<31):bh v l [87,72,73,76,69]=(bF (bF v 56) 0,D++[⟨1,v.here+8,[]⟩]++[⟨2,a,[]⟩],0):=by
 rw[nr (g:=tI) rfl (by unfold jK;rw[if_pos (.inr (.inr (.inl rfl)))];subst hl;simp;omega)]
 unfold tI
 rw[nd (w:=⟨v,l,0⟩) hl rfl]
 dsimp only
 have e:(ce ⟨v,D,0⟩ [40,48,98,114,97,110,99,104,41]).v.here=v.here+8:=by
  unfold ce;rw[it (w:=⟨v,D,0⟩) R (by show v.here+8<=_;omega) rfl];rfl
 rw[e,qm (w:=⟨v,D,0⟩) R h (by rw[vw];exact rQ) rfl,vw,nM (w:=⟨bF (bF v 56) 0,D,0⟩) (c:=⟨1,v.here+8,[]⟩) (by show D.length<32;omega),nM (w:=⟨bF (bF v 56) 0,D++[(⟨1,v.here+8,[]⟩:VCf)],0⟩) (c:=⟨2,a,[]⟩) (by show(D++[(⟨1,v.here+8,[]⟩:VCf)]).length<32;rw[List.length_append,List.length_singleton];omega),js rfl]
def Tn(R:gg v L g)(h:v.here+16<=(L:Int))(hl:l=D++[⟨1,o,[]⟩]++[⟨2,a,[]⟩])(ho:okA L o=true)(ha:ab a):
  bh v l [82,69,80,69,65,84]=({bF (bF v 48) a with mem:=stM (bF (bF v 48) a).mem o (v.here+16)},D,0):=by
 rw[nr (g:=qf) rfl (by unfold jK;rw[if_neg (by decide)];decide)]
 unfold qf
 rw[nd (w:=⟨v,l,0⟩) hl rfl]
 dsimp only
 rw[nd (w:=⟨v,D++[⟨1,o,[]⟩],0⟩) rfl rfl]
 dsimp only
 have R1:=gx (n:=48) R (by omega) qD
 have R2:=gx (n:=a) R1 (by show v.here+8+8<=_;omega) ha
 unfold ce
 rw[xy,it (w:=⟨v,D,0⟩) R (by show v.here+8<=_;omega) rfl,it (w:=⟨bF v 48,D,0⟩) R1 (by show v.here+8+8<=_;omega) rfl,uL (w:=⟨bF (bF v 48) a,D,0⟩) R2.m.mem ho rfl,js rfl]
 have e2:(bF (bF v 48) a).here=v.here+16:=by show v.here+8+8=_;omega
 dsimp only
 rw[e2]
def aq3(R:gg v L g)(h:v.here+16<=(L:Int))(hl:l.length<32):bh v l [63,68,79]=(bF (bF v 72) 0,l++[⟨3,v.here+16,[v.here+8]⟩],0):=by
 rw[nr (g:=TL) rfl (by unfold jK;rw[if_pos (by decide)];simp;omega)]
 unfold TL
 have e:(ce ⟨v,l,0⟩ [40,63,100,111,41]).v.here=v.here+8:=by
  unfold ce;rw[it (w:=⟨v,l,0⟩) R (by show v.here+8<=_;omega) rfl];rfl
 have e2:(bF (bF v 72) 0).here=v.here+16:=by show v.here+8+8=_;omega
 rw[e,qm (w:=⟨v,l,0⟩) R h (by rw[T0];exact OQ) rfl,T0,nM (by exact hl),js rfl]
 dsimp only
 rw[e2]
def YQ(R:gg v L g)(h:v.here+16<=(L:Int))(hl:l=D++[⟨3,a,[o]⟩])(ho:okA L o=true)(ha:ab a):
  bh v l [76,79,79,80]=({bF (bF v 80) a with mem:=stM (bF (bF v 80) a).mem o (v.here+16)},D,0):=by
 rw[nr (g:=vP [40,108,111,111,112,41]) rfl (by unfold jK;rw[if_neg (by decide)];decide)]
 unfold vP
 rw[nd (w:=⟨v,l,0⟩) hl rfl]
 dsimp only
 have R1:=gx (n:=80) R (by omega) IA
 have R2:=gx (n:=a) R1 (by show v.here+8+8<=_;omega) ha
 unfold ce
 rw[Ko,it (w:=⟨v,D,0⟩) R (by show v.here+8<=_;omega) rfl,it (w:=⟨bF v 80,D,0⟩) R1 (by show v.here+8+8<=_;omega) rfl]
 dsimp only[List.foldl]
 rw[uL (w:=⟨bF (bF v 80) a,D,0⟩) R2.m.mem ho rfl,js rfl]
 have e2:(bF (bF v 80) a).here=v.here+16:=by show v.here+8+8=_;omega
 dsimp only
 rw[e2]
end
def CD{l:ag}{v:VVm}{cf:List VCf}{name:Str}(h:bh l.f.vm l.f.comp.cf name=(v,cf,0))(he:l.err=0):kI l name={l with f:=⟨v,{l.f.comp with cf:=cf}⟩}:=by
 unfold kI
 rw[h,sW he,if_pos he]
def SS.cf(s:SS)(l:List VCf):SS:={s with comp:={s.comp with cf:=l}}
def SS.put(s:SS)(a n:Int):SS:={s with cs:=(a,n)::s.cs}
def g9(l:List VCf):VCf:=l.getD (l.length-1) zCf
def zS(l:List VCf):List VCf:=l.take (l.length-1)
def nJ{l:List VCf}{k:Int}(h:(g9 l).kind=k)(hk:k≠0):l=zS l++[g9 l]:=by
 have h0:l.length≠0:=fun z=>hk (by rw[<-h];unfold g9;rw[List.length_eq_zero_iff.1 z];rfl)
 have e:=List.dropLast_concat_getLast (l:=l) (fun z=>h0 (by rw[z];rfl))
 unfold zS g9
 rw[<-List.dropLast_eq_take,List.getD_eq_getElem?_getD,List.getElem?_eq_getElem (by omega)]
 rw[List.getLast_eq_getElem]at e
 exact e.symm
def bdr(a:Int):Bool:=decide (1368<=a)&&okA 4096 a
def cBr(s:SS)(name:Str):Option SS :=
 let l:=s.comp.cf
 let c:=g9 l
 let D:=zS l
 if s.here+16<=4096/\l.length<20 then
  if name=[73,70]then some (((s.lay 56).lay 0).cf (l++[⟨1,s.here+8,[]⟩]))
  else if name=[66,69,71,73,78]then some (s.cf (l++[⟨2,s.here,[]⟩]))
  else if name=[63,68,79]then some (((s.lay 72).lay 0).cf (l++[⟨3,s.here+16,[s.here+8]⟩]))
  else if name=[84,72,69,78]then(if c.kind=1/\c.leaves=[]/\bdr c.at_=true then some ((s.put c.at_ s.here).cf D)else none)
  else if name=[69,76,83,69]then(if c.kind=1/\c.leaves=[]/\bdr c.at_=true then some ((((s.lay 48).lay 0).put c.at_ (s.here+16)).cf (D++[⟨1,s.here+8,[]⟩]))else none)
  else if name=[87,72,73,76,69]then(if c.kind=2/\c.leaves=[]then some (((s.lay 56).lay 0).cf (D++[⟨1,s.here+8,[]⟩]++[⟨2,c.at_,[]⟩]))else none)
  else if name=[82,69,80,69,65,84]then(if c.kind=2/\c.leaves=[]/\bdr c.at_=true/\(g9 D).kind=1/\(g9 D).leaves=[]/\bdr (g9 D).at_=true then some ((((s.lay 48).lay c.at_).put (g9 D).at_ (s.here+16)).cf (zS D))else none)
  else if name=[76,79,79,80]then(if c.kind=3/\c.leaves=[c.leaves.getD 0 0]/\bdr c.at_=true/\bdr (c.leaves.getD 0 0)=true then some ((((s.lay 80).lay c.at_).put (c.leaves.getD 0 0) (s.here+16)).cf D)else none)
  else none
 else none
def jP{a:Int}(h:bdr a=true):1368<=a/\okA 4096 a=true/\ab a:=by
 unfold bdr at h
 rw[Bool.and_eq_true]at h
 have q:=eg.1 h.2
 exact⟨oT h.1,h.2,by unfold ab;omega⟩
def zb{f:ae}{s:SS}(h:At f s){a n:Int}(ha:bdr a=true)(hn:ab n):At {f with vm:={f.vm with mem:=stM f.vm.mem a n}} (s.put a n):=by
 have q:=jP ha
 obtain⟨m,rfl,hm⟩:=h.ex
 exact⟨⟨stM m a n,rfl,hm.store hn q.2.1⟩,tP h.std q.1,h.h0,h.h1,h.h8,h.ext⟩
def rI{f:ae}{s:SS}(h:At f s)(l:List VCf):At {f with comp:={f.comp with cf:=l}} (s.cf l):=by
 obtain⟨m,rfl,hm⟩:=h.ex
 exact⟨⟨m,rfl,hm⟩,h.std,h.h0,h.h1,h.h8,h.ext⟩
def qt{α:Type}{c:Prop}[Decidable c]{a r:α}(h:(if c then some a else none)=some r):c/\a=r:=by
 by_cases hc:c
 ·rw[if_pos hc]at h;exact⟨hc,Option.some.inj h⟩
 rw[if_neg hc]at h;cases h
def sI{α:Type}{c:Prop}[Decidable c]{a r:α}{b:Option α}(h:(if c then some a else b)=some r):(c/\a=r)\/(¬c/\b=some r):=by
 by_cases hc:c
 ·rw[if_pos hc]at h;exact .inl ⟨hc,Option.some.inj h⟩
 rw[if_neg hc]at h;exact .inr ⟨hc,h⟩
def zl{n:Int}(h0:0<=n)(h1:n<=1000000):ab n:=by unfold ab;omega
def aE6{s s':SS}{name:Str}(h:cBr s name=some s'){f:ae}(a:At f s):∃f',At f' s'/\bh f.vm f.comp.cf name=(f'.vm,f'.comp.cf,0)/\f'.comp={f.comp with cf:=f'.comp.cf}:=by
 have h0:=a.h0
 have h1:=a.h1
 obtain⟨m,rfl,hm⟩:=a.ex
 have R:=a.room hm
 unfold cBr at h
 dsimp only at h
 by_cases q:s.here+16<=4096/\s.comp.cf.length<20
 case neg=>rw[if_neg q]at h;cases h
 rw[if_pos q]at h
 have l56:=jV a (n:=56) rQ (by omega)
 have l56':=jV l56.2 (n:=0) bt (by show s.here+8+8<=_;omega)
 have l48:=jV a (n:=48) qD (by omega)
 have hq:(vS s m).here+16<=((4096:Nat):Int):=q.1
 rcases sI h with ⟨rfl,rfl⟩|⟨n0,h⟩
 ·exact⟨_,rI l56'.2 _,aF5 R hq (by show s.comp.cf.length<32;omega),rfl⟩
 rcases sI h with ⟨rfl,rfl⟩|⟨n1,h⟩
 ·exact⟨_,rI a _,XG (by show s.comp.cf.length<32;omega),rfl⟩
 rcases sI h with ⟨rfl,rfl⟩|⟨n2,h⟩
 ·have l72:=jV a (n:=72) OQ (by omega)
  have l72':=jV l72.2 (n:=0) bt (by show s.here+8+8<=_;omega)
  exact⟨_,rI l72'.2 _,aq3 R hq (by show s.comp.cf.length<32;omega),rfl⟩
 by_cases n3:name=[84,72,69,78]
 ·subst n3
  rw[if_pos rfl]at h
  rcases qt h with ⟨⟨k1,k2,k3⟩,rfl⟩
  have e:=nJ k1 (by decide)
  have b:=jP k3
  have ec:g9 s.comp.cf=⟨1,(g9 s.comp.cf).at_,[]⟩:=by rw[<-k1,<-k2]
  rw[ec]at e
  exact⟨_,rI (zb a k3 (zl (by omega) (by omega))) _,ab9 R e b.2.1,rfl⟩
 rw[if_neg n3]at h
 by_cases n4:name=[69,76,83,69]
 ·subst n4
  rw[if_pos rfl]at h
  rcases qt h with ⟨⟨k1,k2,k3⟩,rfl⟩
  have e:=nJ k1 (by decide)
  have b:=jP k3
  have ec:g9 s.comp.cf=⟨1,(g9 s.comp.cf).at_,[]⟩:=by rw[<-k1,<-k2]
  rw[ec]at e
  have l48':=jV l48.2 (n:=0) bt (by show s.here+8+8<=_;omega)
  exact⟨_,rI (zb l48'.2 k3 (zl (n:=s.here+16) (by omega) (by omega))) _,ZU R hq e b.2.1 (by show(zS s.comp.cf).length<32;unfold zS;rw[List.length_take];omega) (by show s.here<=_;omega),rfl⟩
 rw[if_neg n4]at h
 by_cases n5:name=[87,72,73,76,69]
 ·subst n5
  rw[if_pos rfl]at h
  rcases qt h with ⟨⟨k1,k2⟩,rfl⟩
  have e:=nJ k1 (by decide)
  have ec:g9 s.comp.cf=⟨2,(g9 s.comp.cf).at_,[]⟩:=by rw[<-k1,<-k2]
  rw[ec]at e
  exact⟨_,rI l56'.2 _,XN R hq e (by show(zS s.comp.cf).length<31;unfold zS;rw[List.length_take];omega),rfl⟩
 rw[if_neg n5]at h
 by_cases n6:name=[82,69,80,69,65,84]
 ·subst n6
  rw[if_pos rfl]at h
  rcases qt h with ⟨⟨k1,k2,k3,k4,k5,k6⟩,rfl⟩
  have e:=nJ k1 (by decide)
  have e2:=nJ k4 (by decide)
  have b:=jP k3
  have b2:=jP k6
  have ec:g9 s.comp.cf=⟨2,(g9 s.comp.cf).at_,[]⟩:=by rw[<-k1,<-k2]
  have ed:g9 (zS s.comp.cf)=⟨1,(g9 (zS s.comp.cf)).at_,[]⟩:=by rw[<-k4,<-k5]
  rw[ed]at e2
  rw[ec,e2]at e
  have l':=jV l48.2 (n:=(g9 s.comp.cf).at_) b.2.2 (by show s.here+8+8<=_;omega)
  exact⟨_,rI (zb l'.2 k6 (zl (n:=s.here+16) (by omega) (by omega))) _,Tn R hq e b2.2.1 b.2.2,rfl⟩
 rw[if_neg n6]at h
 by_cases n7:name=[76,79,79,80]
 ·subst n7
  rw[if_pos rfl]at h
  rcases qt h with ⟨⟨k1,k2,k3,k4⟩,rfl⟩
  have e:=nJ k1 (by decide)
  have b:=jP k3
  have b2:=jP k4
  have ec:g9 s.comp.cf=⟨3,(g9 s.comp.cf).at_,[(g9 s.comp.cf).leaves.getD 0 0]⟩:=by rw[<-k1,<-k2]
  rw[ec]at e
  have l80:=jV a (n:=80) IA (by omega)
  have l':=jV l80.2 (n:=(g9 s.comp.cf).at_) b.2.2 (by show s.here+8+8<=_;omega)
  exact⟨_,rI (zb l'.2 k4 (zl (n:=s.here+16) (by omega) (by omega))) _,YQ R hq e b2.2.1 b.2.2,rfl⟩
 rw[if_neg n7]at h
 cases h
open Go.RowKit
def tm(l:List aL):aL:=l.getD (l.length-1) default
def xI(l:List aL):List aL:=l.take (l.length-1)
def CE{l:List aL}(h0:l.length≠0):l=xI l++[tm l]:=by
 have e:=List.dropLast_concat_getLast (l:=l) (fun z=>h0 (by rw[z];rfl))
 unfold xI tm
 rw[<-List.dropLast_eq_take,List.getD_eq_getElem?_getD,List.getElem?_eq_getElem (by omega)]
 rw[List.getLast_eq_getElem]at e
 exact e.symm
def SS.begun(s:SS)(name:Str):SS:={s with ext:=s.ext++[⟨name,s.here,2⟩],cs:=(8,-1)::(s.here,256)::s.cs,here:=s.here+8,comp:=⟨s.here,[],s.here,((167+s.ext.length:Nat):Int),s.last,false,0⟩}
def SS.ended(s:SS):SS:={s with ext:=xI s.ext++[{tm s.ext with flags:=gQ (tm s.ext).flags}],cs:=(8,0)::(s.here,32)::s.cs,here:=s.here+8,comp:=im}
def Y0:ab (-1):=by unfold ab;omega
def aa4:ab 32:=by unfold ab;omega
def FX{l:List (Int×Int)}(h:rV (gL l))(n:Int):rV (gL ((8,n)::l)):=h.set (.inr (by show(8:Int)<=8;decide))
def R6{f:ae}{s:SS}(h:At f s){name:Str}(hx:s.comp.xt=0)(hr:s.here+8<=4096)(hn:cI name=0)(he:s.ext.length<70):gX f name false 0=(C6 f name,0)/\At (C6 f name) (s.begun name):=by
 have h0:=h.h0
 have h8:=h.h8
 obtain⟨m,rfl,hm⟩:=h.ex
 have R:=h.room hm
 have hl:((du 167++s.ext).length:Int)=167+s.ext.length:=by rw[List.length_append,l9];omega
 have e:=NF (f:=⟨vS s m,s.comp⟩) R hx (by show s.here+8<=_;exact hr) (by decide) hn (by show((du 167++s.ext).length:Int)<250;omega) (by show((du 167++s.ext).length:Int)<1024;omega)
 have hm1:=hm.store UH (a:=s.here) (eg.2 ⟨by omega,h8,hr⟩)
 have hm2:=hm1.store Y0 (a:=8) rfl
 refine⟨e,⟨⟨stM (stM m s.here 256) 8 (-1),?_,hm2⟩,FX (tP h.std h0) _,by show 1368<=s.here+8;omega,by show s.here+8<=4096;exact hr,by show(s.here+8)%8=0;omega,by show(s.ext++[_]).length<=80;rw[List.length_append,List.length_singleton];omega⟩⟩
 unfold C6 vS SS.begun gp bF
 dsimp only
 rw[List.append_assoc,List.length_append,l9]
def Pu{f:ae}{s:SS}(h:At f s)(hx:s.comp.xt≠0)(hr:s.here+8<=4096)(hcf:s.comp.cf=[])(ho:s.comp.on=false)(he:s.ext.length≠0)(hd:s.comp.dict=((167+(s.ext.length-1):Nat):Int)):
  ∃f',At f' s.ended/\kj f=(f',0):=by
 have h0:=h.h0
 have h8:=h.h8
 have hx8:=h.ext
 obtain⟨m,rfl,hm⟩:=h.ex
 have R:=h.room hm
 have hb:(xI s.ext).length=s.ext.length-1:=by unfold xI;rw[List.length_take];omega
 have e:=VW (f:=⟨vS s m,s.comp⟩) (D:=du 167++xI s.ext) (w:=tm s.ext) R hx hcf ho (by show du 167++s.ext=_;rw[List.append_assoc,<-CE he]) (by rw[List.length_append,l9,hb];exact hd) (by show s.here+8<=_;exact hr) (by decide)
 have hm1:=hm.store aa4 (a:=s.here) (eg.2 ⟨by omega,h8,hr⟩)
 have hm2:=hm1.store bt (a:=8) rfl
 refine⟨_,⟨⟨stM (stM m s.here 32) 8 0,?_,hm2⟩,FX (tP h.std h0) _,by show 1368<=s.here+8;omega,by show s.here+8<=4096;exact hr,by show(s.here+8)%8=0;omega,by show(xI s.ext++[_]).length<=80;rw[List.length_append,List.length_singleton,hb];omega⟩,e⟩
 unfold Rj vS SS.ended bF
 dsimp only
 rw[List.append_assoc]
def U0:ma [40,100,111,101,115,41]=112:=by decide +kernel
def cW(s:SS)(w:Str):Option SS :=
 match xiS s w with
 | none=>if (cd (du 167++s.ext) w).2.2=false/\(dR w (gL s.cs 0)).2=true/\s.cmp=true/\s.here+16<=4096 then some ((s.lay 40).lay (dR w (gL s.cs 0)).1)else none
 | some y =>
  if s.cmp=true/\s.here+24<=4096 then
   if y.x.flags%2=0 then some (s.lay y.x.xt)
   else if y.x.flags%2=1/\300<=y.k then
    if bG.getD (y.k-300).toNat []=[59]then(if s.comp.cf.length=0/\s.comp.on=false/\s.ext.length≠0/\s.comp.dict=((167+(s.ext.length-1):Nat):Int)then some s.ended else none)
    else if bG.getD (y.k-300).toNat []=[68,79,69,83,62]then some (s.lay 112)
    else if spF (bG.getD (y.k-300).toNat [])=none then cBr s (bG.getD (y.k-300).toNat [])else none
   else none
  else none
instance (name:Str):Decidable (spF name=none):=by
 cases h:spF name with
 | none=>exact .isTrue rfl
 | some g=>exact .isFalse (by simp)
def an9{s s':SS}{w:Str}(h:cW s w=some s'):SW s w s' 0:=by
 unfold cW at h
 cases hx:xiS s w with
 | none =>
  rw[hx]at h
  obtain⟨⟨a,b,c,d⟩,rfl⟩:=qt h
  exact QT a (Prod.ext rfl b) c d
 | some y =>
  rw[hx]at h
  dsimp only at h
  by_cases q:s.cmp=true/\s.here+24<=4096
  case neg=>rw[if_neg q]at h;cases h
  rw[if_pos q]at h
  have hxt:s.comp.xt≠0:=by
   have:=q.1
   unfold SS.cmp at this
   exact(oT this).1
  rcases sI h with ⟨hi,rfl⟩|⟨hi,h⟩
  ·exact QJ hx q.1 hi (by omega)
  by_cases h3:y.x.flags%2=1/\300<=y.k
  case neg=>rw[if_neg h3]at h;cases h
  rw[if_pos h3]at h
  generalize hn:bG.getD (y.k-300).toNat []=name at h
  refine Va hx q.1 h3.1 h3.2 hn fun f a=>?_
  by_cases n0:name=[59]
  ·rw[if_pos n0]at h
   obtain⟨⟨c1,c2,c3,c4⟩,rfl⟩:=qt h
   obtain⟨f',a',e⟩:=Pu a hxt (by omega) (List.length_eq_zero_iff.1 c1) c2 c3 c4
   refine⟨f',a',fun tx p u=>?_⟩
   rw[n0,wC (g:=yJ) rfl]
   unfold yJ ka
   rw[show(aI f tx p u).f=f from rfl,e,An rfl,if_pos (show(aI f tx p u).err=0 from rfl)];rfl
  rw[if_neg n0]at h
  by_cases n1:name=[68,79,69,83,62]
  ·rw[if_pos n1]at h
   injection h with h
   subst h
   have l:=jV a (n:=112) (by unfold ab;omega) (by omega)
   refine⟨_,l.2,fun tx p u=>?_⟩
   rw[n1,wC (g:=Ls) rfl]
   unfold Ls xc ri
   rw[U0,do0 rfl,show(aI f tx p u).f.vm=f.vm from rfl,l.1,sW rfl];rfl
  rw[if_neg n1]at h
  by_cases ns:spF name=none
  case neg=>rw[if_neg ns]at h;cases h
  rw[if_pos ns]at h
  obtain⟨f',a',e1,e2⟩:=aE6 h a
  refine⟨f',a',fun tx p u=>?_⟩
  rw[KS ns,CD (l:=aI f tx p u) e1 rfl]
  show(⟨⟨f'.vm,{f.comp with cf:=f'.comp.cf}⟩,tx,p,u,0⟩:ag)=_
  rw[<-e2];rfl
structure LA (f0:ae) (tx:Str) (u0:Int) (k:Nat) (p:Str) (ws:List Tk) (s:SS) (u:Int):Prop where
 etx:tx=p++ld ws
 go:∃f,At f s/\yq f0 tx ⟨f0,0,max u0 0⟩ ⟨f,p.length,u⟩ k
 hu:0<=u/\u<=5000
def LA.start{f0:ae}{u0:Int}{ws:List Tk}{s:SS}(h:At f0 s)(hu:0<=u0/\u0<=5000):LA f0 (ld ws) u0 0 [] ws s u0 :=
 ⟨rfl,⟨f0,h,by rw[show max u0 0=u0 by omega];exact .rf _ _ _⟩,hu⟩
def LA.init{f0:ae}{tx:Str}{u0:Int}{ws:List Tk}{s:SS}(h:At f0 s)(hu:0<=u0/\u0<=5000)(e:tx=ld ws):LA f0 tx u0 0 [] ws s u0:=by rw[e];exact .start h hu
section
variable {f0 : ae} {tx p : Str} {u0 u c : Int} {k : Nat} {t : Tk} {ws : List Tk} {s s' : SS}
def LA.step(h:LA f0 tx u0 k p (t::ws) s u)(ht:okT t)(hw:SW s t.2 s' c)(hc:0<=c/\c<=u):LA f0 tx u0 (k+1) (nxT p t ws) ws s' (u-c):=by
 obtain⟨f,a,g⟩:=h.go
 have hu:=h.hu
 obtain⟨f',a',e⟩:=hw f a
 refine⟨h.etx.trans (EB p t ws),⟨f',a',?_⟩,by omega⟩
 refine g.tr (.one (e tx _ _ u ?_ ht.2.1 hu.1 hc.2 hu.2))
 rw[h.etx];exact sH p ws ht
def Kz:∀(ws:List Tk),(∀t∈ws,okT t)->ws.length<=(ld ws).length
 | [],_=>Nat.le_refl _
 | [t],h=>by
  have:=(h t (List.mem_cons_self ..)).2.1
  show 1<=(t.1++t.2).length
  have:=List.length_pos_iff.2 this
  rw[List.length_append];omega
 | t::v::ws,h=>by
  have ih:=Kz (v::ws) fun x hx=>h x (List.mem_cons_of_mem _ hx)
  show(v::ws).length+1<=(t.1++(t.2++(32::ld (v::ws)))).length
  simp only[List.length_append,List.length_cons]at ih ⊢
  omega
def LA.fin(h:LA f0 tx u0 k p [] s u)(hk:k<=tx.length+1):∃f,At f s/\j6 f0 tx u0=(oR f,u,0):=by
 obtain⟨f,a,g⟩:=h.go
 exact⟨f,a,PT g hk h.hu.1 (by rw[h.etx];exact Uy p)⟩
def cWs(s:SS):List Tk->Option SS
 | []=>some s
 | t::ws=>match cW s t.2 with
  | none=>none
  | some s'=>cWs s' ws
def Qg{s s':SS}{t:Tk}{ws:List Tk}(h:cWs s (t::ws)=some s'):∃s1,cW s t.2=some s1/\cWs s1 ws=some s':=by
 have h:(match cW s t.2 with|none=>none|some s1=>cWs s1 ws)=some s':=h
 generalize cW s t.2=o at h
 cases o with
 | none=>cases h
 | some s1=>exact⟨s1,rfl,h⟩
def LA.words:∀(ws:List Tk) {vs:List Tk} {p:Str} {s s':SS} {k:Nat},LA f0 tx u0 k p (ws++vs) s u->(∀t∈ws,okT t)->cWs s ws=some s'->∃q,LA f0 tx u0 (k+ws.length) q vs s' u
 | [],vs,p,s,s',k,h,_,hc=>by
  have e:s=s':=Option.some.inj (show some s=some s' from hc)
  rw[<-e];exact⟨p,h⟩
 | t::ws,vs,p,s,s',k,h,ht,hc=>by
  obtain⟨s1,hw,hc⟩:=Qg hc
  have h1:=LA.step (ws:=ws++vs) h (ht t (List.mem_cons_self ..)) (an9 hw) ⟨Int.le_refl _,h.hu.1⟩
  rw[show u-0=u by omega]at h1
  obtain⟨q,r⟩:=LA.words ws h1 (fun x hx=>ht x (List.mem_cons_of_mem _ hx)) hc
  exact⟨q,by rw[show k+(t::ws).length=k+1+ws.length by rw[List.length_cons];omega];exact r⟩
end
open Go.RowKit
section
variable {v : VVm} {L : Nat} {g : Int -> Int} {d r : List Int} {f : List ja} {ip xt x : Int}
end
def rS(s:SS)(m:bf)(r:List Int)(ip fu:Int):bD:=mr (vS s m) s.d r [] ip fu
def XS(n:Nat)(s:SS)(r:List Int)(ip:Int)(s':SS)(r':List Int)(ip':Int):Prop:=∀m,gP m 4096 (gL s.cs)->rV (gL s.cs)->∃m',gP m' 4096 (gL s'.cs)/\rV (gL s'.cs)/\∀fu:Int,(n:Int)<=fu->fu<=5000->GoE n (rS s m r ip fu) (rS s' m' r' ip' (fu-n))
section
variable {s s' s'' : SS} {r r' r'' : List Int} {ip ip' ip'' x n : Int} {d d' : List Int}
def XS.tr{a b:Nat}(h:XS a s r ip s' r' ip')(k:XS b s' r' ip' s'' r'' ip''):XS (a+b) s r ip s'' r'' ip'':=by
 intro m hm hs
 obtain⟨m',hm',hs',g⟩:=h m hm hs
 obtain⟨m'',hm'',hs'',g'⟩:=k m' hm' hs'
 refine⟨m'',hm'',hs'',fun fu h1 h2=>?_⟩
 have q:=GoE.trans (g fu (by omega) h2) (g' (fu-a) (by omega) (by omega))
 rw[show fu-(a:Int)-(b:Int)=fu-((a+b:Nat):Int) by omega,Nat.add_comm]at q
 exact q
def XS.rf:XS 0 s r ip s r ip:=fun m hm hs=>⟨m,hm,hs,fun fu _ _=>by rw[show fu-((0:Nat):Int)=fu by omega];exact .nil _⟩
def ah6{g1:∀m fu,gP m 4096 (gL s.cs)->rV (gL s.cs)->1<=fu/\fu<=300000->Go1 (rS s m r ip fu) (rS s' m r' ip' (fu-1))}(hc:gL s'.cs=gL s.cs):XS 1 s r ip s' r' ip':=fun m hm hs =>
 ⟨m,by rw[hc];exact hm,by rw[hc];exact hs,fun fu h1 h2=>.cons (g1 m fu hm hs ⟨h1,by omega⟩) rfl (by show ¬fu<1;omega) (.nil _)⟩
def ap0(i:Nat)(hi:i<130)(ha:okA 4096 ip=true)(hx:gL s.cs ip=32+8*(i:Int))(hk:∀m,gP m 4096 (gL s.cs)->lV (mz (vS s m) s.d r [] (ip+8)) (32+8*(i:Int)) (i:Int)=mz (vS s' m) s'.d r' [] ip')(hc:gL s'.cs=gL s.cs):XS 1 s r ip s' r' ip' :=
 ah6 (g1:=fun m fu hm hs hf=>aB3 (At.mach hm) hs.std i hi hf ha hx (hk m hm)) hc
def SS.st(s:SS)(d:List Int):SS:={s with d:=d}
def aq4(i:Nat)(d':List Int)(h1:23<=i/\i<130)(ha:okA 4096 ip=true)(hx:gL s.cs ip=32+8*(i:Int))(hd:∀m,gP m 4096 (gL s.cs)->doS (mk (vS s m) s.d r []) (i:Int)=(mk (vS (s.st d') m) d' r [],0)):XS 1 s r ip (s.st d') r (ip+8) :=
 ap0 i h1.2 ha hx (fun m hm=>QW (by omega) (by omega) (hd m hm)) rfl
def Vd(ha:okA 4096 ip=true)(hx:gL s.cs ip=32):XS 1 s (r++[x]) ip s r x :=
 ap0 0 (by decide) ha hx (fun m hm=>ab5) rfl
end
def XR(s:SS)(xt:Int)(s':SS)(c:Int):Prop:=∀f,At f s->∃f',At f' s'/\∀(tx:Str) (a u:Int),0<=u->c<=u->u<=5000->lN (aI f tx a u) xt=⟨f',tx,a,u-c,0⟩
def Sk(s s':SS):Prop:=s'.here=s.here/\s'.ext=s.ext/\s'.comp=s.comp
def Pi{f:ae}{s s':SS}(h:At f s){m:bf}(hm:gP m 4096 (gL s'.cs))(hs:rV (gL s'.cs))(k:Sk s s'):At ⟨vS s' m,s.comp⟩ s' :=
 ⟨⟨m,by rw[k.2.2],hm⟩,hs,by rw[k.1];exact h.h0,by rw[k.1];exact h.h1,by rw[k.1];exact h.h8,by rw[k.2.1];exact h.ext⟩
def Kw{s s':SS}(i:Nat)(h1:23<=i/\i<=129)(hc:gL s'.cs=gL s.cs)(k:Sk s s')(hd:∀m,gP m 4096 (gL s.cs)->doS (mk (vS s m) s.d [] []) (i:Int)=(mk (vS s' m) s'.d [] [],0)):XR s (32+8*(i:Int)) s' 2:=by
 intro f h
 have hstd:=h.std
 have cm:f.comp=s.comp:=by obtain⟨m,rfl,hm⟩:=h.ex;rfl
 obtain⟨m,e,hm⟩:=h.ex
 have hm':gP m 4096 (gL s'.cs):=by rw[hc];exact hm
 have hs':rV (gL s'.cs):=by rw[hc];exact hstd
 refine⟨⟨vS s' m,s.comp⟩,Pi h hm' hs' k,fun tx a u u0 cu u9=>?_⟩
 subst e
 exact Ot (l:=aI ⟨vS s m,s.comp⟩ tx a u) (u:=vS s' m) (d':=s'.d) (At.mach hm) hstd.std (At.mach hm') hs'.std h1.1 h1.2 (hd m hm) ⟨cu,by show u<=300000;omega⟩ rfl
def R9{s s':SS}{n:Nat}{xt:Int}(hx:okA 4096 xt=true)(hq:gL s.cs xt=256)(k:Sk s s')(hr:XS n s [16] (xt+8) s' [] 16):XR s xt s' ((n+2:Nat):Int):=by
 intro f h
 have hstd:=h.std
 obtain⟨m,e,hm⟩:=h.ex
 obtain⟨m',hm',hs',g⟩:=hr m hm hstd
 refine⟨⟨vS s' m',s.comp⟩,Pi h hm' hs' k,fun tx a u u0 cu u9=>?_⟩
 subst e
 exact Ja (l:=aI ⟨vS s m,s.comp⟩ tx a u) (u:=vS s' m') (d':=s'.d) (n:=n) (At.mach hm) hx hq (At.mach hm') hs'.std (g (u-1) (by omega) (by omega)) ⟨by show(n:Int)+2<=u;omega,by show u<=300000;omega⟩ rfl
def KB{s s':SS}{w:Str}{y:XI}{c:Int}(h:xiS s w=some y)(hc:s.cmp=false)(ho:l8 y.x y.k=false)(h3:¬300<=y.k)(hx:XR s y.x.xt s' c):SW s w s' c:=by
 obtain⟨hf,ha,hk,hkk⟩:=xf h
 refine yB hf fun f a=>?_
 obtain⟨f',a',e⟩:=hx f a
 refine⟨f',a',fun tx p u u0 cu u9=>⟨true,?_⟩⟩
 have ek:az f.vm y.x.xt=(y.k,0):=by rw[ou a ha (by rw[<-hk];exact hkk),hk]
 have ec:bJ (aI f tx p u).f=false:=by rw[show bJ (aI f tx p u).f=bJ f from rfl,ni a];exact hc
 rw[U3 (l:=aI f tx p u) ek h3 (by rw[ho];rfl) (by rw[ec];rfl),e tx p u u0 cu u9]
def VU{f0:ae}{tx p:Str}{u0 u:Int}{k:Nat}{t n:Tk}{ws:List Tk}{s s':SS}{y:XI}{name:Str}(h:LA f0 tx u0 k p (t::n::ws) s u)(ht:okT t)(hn:okT n)
  (hx:xiS s t.2=some y) (hc:s.cmp=false) (ho:l8 y.x y.k=false) (h3:300<=y.k) (hnm:bG.getD (y.k-300).toNat []=name)
  (hs:∀f,At f s->∃f',At f' s'/\∀(tx:Str) (a a2 u:Int),bu tx a=(n.2,a2)->rc (aI f tx a u) name=aI f' tx a2 u):LA f0 tx u0 (k+1) (nxT (nxT p t (n::ws)) n ws) ws s' u:=by
 obtain⟨f,a,g⟩:=h.go
 have hu:=h.hu
 obtain⟨hf,ha,hk,hkk⟩:=xf hx
 obtain⟨f',a',e⟩:=hs f a
 have htx:=h.etx
 have w1:bu tx (p.length:Int)=(t.2,((nxT p t (n::ws)).length:Int)):=by rw[htx];exact sH p (n::ws) ht
 have t2:tx=nxT p t (n::ws)++ld (n::ws):=htx.trans (EB p t (n::ws))
 have w2:bu tx ((nxT p t (n::ws)).length:Int)=(n.2,((nxT (nxT p t (n::ws)) n ws).length:Int)):=by rw[t2];exact sH _ ws hn
 refine⟨t2.trans (EB _ n ws),⟨f',a',g.tr (.one ?_)⟩,hu⟩
 have ek:az f.vm y.x.xt=(y.k,0):=by rw[ou a ha (by rw[<-hk];exact hkk),hk]
 have ec:∀b,bJ (aI f tx b u).f=false:=fun b=>by rw[show bJ (aI f tx b u).f=bJ f from rfl,ni a];exact hc
 have eo:kU (aI f tx ((nxT p t (n::ws)).length:Int) (max u 0)) t.2=(aI f' tx ((nxT (nxT p t (n::ws)) n ws).length:Int) u,false):=by
  rw[show max u 0=u by omega,mY (x:=y.x) (i:=(cd (du 167++s.ext) t.2).2.1) (by show cd f.vm.dict t.2=_;rw[kH a];exact hf)]
  rw[sE (l:=aI f tx _ u) ek h3 (by rw[ho];rfl) (by rw[ec];rfl),hnm,e tx _ _ u w2]
 exact Oi w1 ht.2.1 eo rfl
def PE{f:ae}{tx n:Str}{a a2 u:Int}(h:bu tx a=(n,a2))(h0:n≠[]):bY (aI f tx a u)=(aI f tx a2 u,n):=by
 unfold bY
 rw[show(aI f tx a u).s=tx from rfl,show(aI f tx a u).at_=a from rfl,h,if_neg h0];rfl
def NU{f f':ae}{tx n:Str}{a a2 u:Int}(h:bu tx a=(n,a2))(h0:n≠[])(hb:gX f n false 0=(f',0)):rc (aI f tx a u) [58]=aI f' tx a2 u:=by
 rw[wC (g:=EM) rfl]
 unfold EM ui
 rw[PE h h0]
 dsimp only
 rw[if_pos (show(aI f tx a2 u).err=0 from rfl),show(aI f tx a2 u).f=f from rfl,hb]
 unfold ka
 rw[An (show(aI f tx a2 u).err=0 from rfl),if_pos (show(aI f tx a2 u).err=0 from rfl)];rfl
def yz{f0:ae}{tx p:Str}{u0 u:Int}{k:Nat}{t n:Tk}{ws:List Tk}{s:SS}{y:XI}(h:LA f0 tx u0 k p (t::n::ws) s u)(ht:okT t)(hn:okT n)
  (hx:xiS s t.2=some y) (hk:y.k=300/\y.x.flags=0) (hxt:s.comp.xt=0) (hr:s.here+8<=4096) (hnm:cI n.2=0) (he:s.ext.length<70):LA f0 tx u0 (k+1) (nxT (nxT p t (n::ws)) n ws) ws (s.begun n.2) u:=by
 refine VU h ht hn hx (by unfold SS.cmp;rw[hxt];rfl) (by unfold l8;rw[hk.1,hk.2];rfl) (by omega) (name:=[58]) (by rw[hk.1];decide +kernel) fun f a=>?_
 have b:=R6 a hxt hr hnm he
 exact⟨_,b.2,fun tx a1 a2 u hw=>NU hw hn.2.1 b.1⟩
open Go.RowKit
def ac6{v:VVm}{x b:Int}{r:List Int}(hb:(an v.mem 0).1=b)(s:Str)(hs:iV x b=(s,0))(hd:1<=v.conf.data)(ho:¬((s++[32]).length:Int)>v.conf.out-v.out.length):doS (mk v [x] r []) 110=(mk {v with out:=v.out++(s++[32])} [] r [],0):=by
 have e:doS (mk v [x] r []) 110=(if (dm (mk v [x] r []) (rh (iV x (an v.mem 0).1))).2.2≠0 then(mk v [x] r [],(dm (mk v [x] r []) (rh (iV x (an v.mem 0).1))).2.2)else if v.conf.data<((0+(dm (mk v [x] r []) (rh (iV x (an v.mem 0).1))).2.1.length:Nat):Int)then(mk v [x] r [],-3)else({(dm (mk v [x] r []) (rh (iV x (an v.mem 0).1))).1 with d:=[]++(dm (mk v [x] r []) (rh (iV x (an v.mem 0).1))).2.1},0)):=by kernel_rfl
 have p:dm (mk v [x] r []) (rh (iV x (an v.mem 0).1))=(mk {v with out:=v.out++(s++[32])} [x] r [],[],0):=by
  rw[hb,hs]
  unfold rh dm
  rw[if_pos rfl]
  unfold iJ
  rw[if_neg (by exact ho)];rfl
 rw[e,p,if_neg (fun z=>z rfl),if_neg (by show ¬v.conf.data<((0:Nat):Int);omega)];rfl
def KY{f:ae}{s:SS}(h:At f s):At (oR f) s:=by
 obtain⟨m,rfl,hm⟩:=h.ex
 exact⟨⟨⟨m.b,[]⟩,rfl,hm.bare⟩,h.std,h.h0,h.h1,h.h8,h.ext⟩
def LA.free{f0:ae}{tx p:Str}{u0 u:Int}{k:Nat}{s:SS}(h:LA f0 tx u0 k p [] s u)(hk:k<=tx.length+1):∃f,At f s/\j6 f0 tx u0=(f,u,0):=by
 obtain⟨f,a,e⟩:=h.fin hk
 exact⟨_,KY a,e⟩
def tk(w:Str):Tk:=([],w)
def kR{w:Str}(h:(!w.isEmpty&&w.all fun c=>decide (32<c.toNat))=true):okT (tk w):=by
 rw[Bool.and_eq_true,List.all_eq_true]at h
 refine⟨(fun c hc=>by cases hc),fun z=>?_,fun c hc=>oT (h.2 c hc)⟩
 have z:w=[]:=z
 rw[z]at h
 exact absurd h.1 (by decide)
def Kb{l:List Str}(h:(l.all fun w=>!w.isEmpty&&w.all fun c=>decide (32<c.toNat))=true):∀t∈l.map tk,okT t:=fun t ht=>by
 obtain⟨w,hw,rfl⟩:=List.mem_map.1 ht
 exact kR (List.all_eq_true.1 h w hw)
def sA1:SS:=⟨[],[(8,0),(1392,32),(1384,360),(1376,216),(8,-1),(1368,256)],1400,[⟨[83,81],1368,0⟩],0,[],im⟩
def sA:SS:={sA1 with out:=[50,53,32]}
def sQ:XI:=⟨⟨[83,81],1368,0⟩,256⟩
def an8(s:SS)(n:Int)(hcs:s.cs=sA1.cs)(hd:s.d=[n]):XS 3 s [16] 1376 (s.st [wrap64 (n*n)]) [] 16:=by
 obtain⟨d,cs,here,ext,last,out,comp⟩:=s
 simp only at hcs hd
 subst hcs hd
 exact(aq4 23 [n,n] (by decide) rfl (by kernel_rfl) (fun m _=>by kernel_rfl)).tr ((aq4 41 [wrap64 (n*n)] (by decide) rfl (by kernel_rfl) (fun m _=>by kernel_rfl)).tr (Vd (r:=[]) rfl (by kernel_rfl)))
def al8{s s':SS}{m:bf}{x:Int}{t:Str}(hm:gP m 4096 (gL s.cs))(hb:gL s.cs 0=10)(hd:s.d=[x])(ht:iV x 10=(t,0))(ho:(s.out.length+t.length:Nat)<1999)(e:s'={s with d:=[],out:=s.out++(t++[32])}):doS (mk (vS s m) s.d [] []) 110=(mk (vS s' m) s'.d [] [],0):=by
 have hf:(an (vS s m).mem 0).1=10:=by rw[show(vS s m).mem=m from rfl,hm.cell 0 (by decide) (by decide) (by decide),hb]
 rw[hd,e]
 exact ac6 hf t ht (by show(1:Int)<=32;decide) (by show ¬((t++[32]).length:Int)>2000-(s.out.length:Int);rw[List.length_append,List.length_singleton];omega)
def av8:∃f,At f sA/\j6 fO [58,32,83,81,32,68,85,80,32,42,32,59,32,53,32,83,81,32,46] 100=(f,93,0):=by
 have h0:LA fO [58,32,83,81,32,68,85,80,32,42,32,59,32,53,32,83,81,32,46] 100 0 [] ([[58],[83,81],[68,85,80],[42],[59],[53],[83,81],[46]].map tk) sO 100:=.init aw9 (by decide) rfl
 have h1:=yz (ws:=[[68,85,80],[42],[59],[53],[83,81],[46]].map tk) h0 (kR rfl) (kR rfl) (y:=⟨⟨[58],1072,0⟩,300⟩) (by kernel_rfl) ⟨rfl,rfl⟩ rfl (by decide) rfl (by decide)
 obtain⟨q,h2⟩:=LA.words ([[68,85,80],[42],[59]].map tk) (vs:=[[53],[83,81],[46]].map tk) (s':=sA1) h1 (Kb rfl) (by kernel_rfl)
 have h3:=LA.step h2 (kR rfl) (PH (n:=5) (by kernel_rfl) (by kernel_rfl) rfl (by decide)) (by decide)
 have run:XS 3 {sA1 with d:=[5]} [16] 1376 {sA1 with d:=[25]} [] 16:=by
  have q:=an8 {sA1 with d:=[5]} 5 rfl rfl
  rw[show wrap64 (5*5)=25 by unfold wrap64;omega]at q
  exact q
 have h4:=LA.step (s':={sA1 with d:=[25]}) h3 (kR rfl) (KB (y:=sQ) (c:=5) (by kernel_rfl) rfl rfl (by decide) (R9 (n:=3) (xt:=1368) rfl (by kernel_rfl) ⟨rfl,rfl,rfl⟩ run)) (by decide)
 have h5:=LA.step (s':=sA) h4 (kR rfl) (KB (y:=⟨⟨[46],912,0⟩,110⟩) (c:=2) (by kernel_rfl) rfl rfl (by decide) (Kw 110 (by decide) rfl ⟨rfl,rfl,rfl⟩ fun m hm=>al8 hm (by kernel_rfl) rfl (x:=25) (t:=[50,53]) (by kernel_rfl) (by decide) rfl)) (by decide)
 exact h5.free (by decide)
def sB:SS:=⟨[],[(1416,0),(1408,56),(8,-1),(1400,256),(8,0),(1392,32),(1384,360),(1376,216),(8,-1),(1368,256)],1424,[⟨[83,81],1368,0⟩,⟨[88],1400,2⟩],0,[50,53,32],⟨1400,[⟨1,1416,[]⟩],1400,168,0,false,0⟩⟩
def am6{f:ae}(a:At f sA):∃f',At f' sB/\j6 f [58,32,88,32,73,70] 100=(f',100,0):=by
 have h0:LA f [58,32,88,32,73,70] 100 0 [] ([[58],[88],[73,70]].map tk) sA 100:=.init a (by decide) rfl
 have h1:=yz (ws:=[[73,70]].map tk) h0 (kR rfl) (kR rfl) (y:=⟨⟨[58],1072,0⟩,300⟩) (by kernel_rfl) ⟨rfl,rfl⟩ rfl (by decide) rfl (by decide)
 obtain⟨q,h2⟩:=LA.words ([[73,70]].map tk) (vs:=[]) (s':=sB) h1 (Kb rfl) (by kernel_rfl)
 exact h2.free (by decide)
def sC3:SS:=⟨[],[(8,0),(1424,32),(1416,1424),(1416,0),(1408,56),(8,-1),(1400,256),(8,0),(1392,32),(1384,360),(1376,216),(8,-1),(1368,256)],1432,[⟨[83,81],1368,0⟩,⟨[88],1400,0⟩],0,[50,53,32],im⟩
def Nd{f:ae}(h:f.comp.xt=0):iB f=f:=by unfold iB;rw[if_pos h]
def ZS{f0 f:ae}{s0 s:SS}(h0:At f0 s0)(h:At f s)(hx:s.comp.xt=0):At (tb f0 f) {s with d:=[]}:=by
 obtain⟨m0,rfl,hm0⟩:=h0.ex
 obtain⟨m,rfl,hm⟩:=h.ex
 unfold tb
 rw[Nd (by exact hx)]
 exact⟨⟨m,rfl,hm⟩,h.std,h.h0,h.h1,h.h8,h.ext⟩
def V6{f:ae}{s:SS}(h:At f s){w tx:Str}{p a u:Int}(hw:bu tx p=(w,a))(h0:w≠[])(hu:0<=u)(hf:(cd (du 167++s.ext) w).2.2=false)(hn:(dR w (gL s.cs 0)).2=false):jv f tx p u=(f,p,u,true,-13):=by
 have e:kU (aI f tx a (max u 0)) w=(oOk (aI f tx a (max u 0)) (-13),false):=by
  unfold kU
  rw[show(aI f tx a (max u 0)).f=f from rfl,kH h,hf,if_neg (by decide)]
  unfold Is
  rw[show(aI f tx a (max u 0)).f=f from rfl,EU h,hn,if_pos rfl]
 have q:=AL (f:=f) (s:=tx) (a:=p) (fuel:=u) (r:=(oOk (aI f tx a (max u 0)) (-13),false)) (by rw[hw];exact h0) (by rw[hw];exact e) (by rw[ok0 rfl];show(-13:Int)≠0;decide) rfl
 rw[q,ok0 rfl,show max u 0=u by omega]
def LA.none{f0:ae}{tx p:Str}{u0 u:Int}{k:Nat}{t:Tk}{ws:List Tk}{s s0:SS}(h:LA f0 tx u0 k p (t::ws) s u)(h0:At f0 s0)(ht:okT t)(hk:k<=tx.length+1)(hf:(cd (du 167++s.ext) t.2).2.2=false)(hn:(dR t.2 (gL s.cs 0)).2=false)(hx:s.comp.xt=0):
  ∃f,At f {s with d:=[]}/\j6 f0 tx u0=(f,u,-13):=by
 obtain⟨f,a,g⟩:=h.go
 have hw:bu tx (p.length:Int)=(t.2,((nxT p t ws).length:Int)):=by rw[h.etx];exact sH p ws ht
 exact⟨_,KY (ZS h0 a hx),AB g hk (V6 a hw ht.2.1 h.hu.1 hf hn) (by decide)⟩
def ag4{f:ae}(a:At f sB):∃f',At f' sC3/\j6 f [84,72,69,78,32,59,32,110,111,112,101] 100=(f',100,-13):=by
 have h0:LA f [84,72,69,78,32,59,32,110,111,112,101] 100 0 [] ([[84,72,69,78],[59],[110,111,112,101]].map tk) sB 100:=.init a (by decide) rfl
 obtain⟨q,h2⟩:=LA.words ([[84,72,69,78],[59]].map tk) (vs:=[[110,111,112,101]].map tk) (s':=sC3) h0 (Kb rfl) (by kernel_rfl)
 exact h2.none a (kR rfl) (by decide) (by kernel_rfl) (by kernel_rfl) rfl
def av6{f:ae}(a:At f sA):∃f',At f' {sA with d:=[7]}/\jv f [32,32,55,32,56] 0 9=(f',4,9,true,0):=by
 obtain⟨f',a',e⟩:=PH (s:=sA) (w:=[55]) (n:=7) (by kernel_rfl) (by kernel_rfl) rfl (by decide) f a
 exact⟨f',a',e [32,32,55,32,56] 0 4 9 (by kernel_rfl) (by decide) (by decide) (by decide) (by decide)⟩
def at0{f:ae}(a:At f {sA with d:=[7]}):∃f',At f' {sA with d:=[7,7]}/\Lf f 216 [] 0 9=(f',0,7,0):=by
 obtain⟨f',a',e⟩:=Kw (s:={sA with d:=[7]}) (s':={sA with d:=[7,7]}) 23 (by decide) rfl ⟨rfl,rfl,rfl⟩ (fun m _=>by kernel_rfl) f a
 refine⟨f',a',?_⟩
 have q:=e [] 0 9 (by decide) (by decide) (by decide)
 unfold Lf
 rw[show max (9:Int) 0=9 from rfl]
 have q:lN (aI f [] 0 9) 216=⟨f',[],0,7,0⟩:=q
 rw[q]
def wt:af prog 10 [] (bE fO):=by
 refine zY func10 fun B=>?_
 refine zu1 ?_
 refine zp1 ?_
 refine zc rfl func24 ((UF cO KK) _) ?_
 refine zy5 ?_
 refine zs1 ?_
 refine zu3 ?_
 refine zR ?_
 rfl
def okO:OkF 0 fO:=by
 refine yG Xd fun x hx=>?_
 obtain⟨i,hi,rfl⟩:=List.mem_map.1 (show x∈(List.range 167).map gF from hx)
 have:=List.mem_range.1 hi
 show ab ((32+8*i:Nat):Int)
 unfold ab;omega
def Ya{l l':List Int}(h:l=l')(hl:l'.length<=1000000):af prog 20 [sq au l,sq au l'] (boo true):=by
 subst h
 have:=MW l l hl hl
 rwa [decide_eq_true rfl]at this
def PG(a:Addr)(f:FuncId)(args:List PV)(res:PV):Prop:=∀(H:List Ob),(∀o∈fS a,∃k:Nat,H[k]?=some o)->HC prog f args H res H
def TR(a:Addr)(f0 fA fB fC fD fE:ae)(n0:af prog 10 [] (bE f0))(pA:PG a 12 [bE f0,str [58,32,83,81,32,68,85,80,32,42,32,59,32,53,32,83,81,32,46],i64 100] (qY (fA,93,0)))(pB:PG a 12 [bE fA,str [58,32,88,32,73,70],i64 100] (qY (fB,100,0)))
  (pC:PG a 12 [bE fB,str [84,72,69,78,32,59,32,110,111,112,101],i64 100] (qY (fC,100,-13))) (pD:PG a 21 [bE fA,str [32,32,55,32,56],i64 0,i64 9] (Lz (fD,4,9,true,0))) (pE:PG a 22 [bE fD,i64 216,str [],i64 0,i64 9] (Kf (fE,0,7,0)))
  (cA:af prog 23 [bE fA] (boo false)) (cB:af prog 23 [bE fB] (boo true)) (cC:af prog 23 [bE fC] (boo false)) (oA:fA.vm.out=[50,53,32]) (dD:fD.vm.d=[7]) (dE:fE.vm.d=[7,7]):∀(H:List Ob),(∀o∈fS a,∃k:Nat,H[k]?=some o)->HC prog 9 [] H (boo true) H:=by
 refine fh (ey a) tG (rs:=[.tmp 0]) func9 rfl rfl rfl (by simp) (by simp) (fun B=>?_)
 refine zu1 ?_
 refine z8 ?_
 refine zc rfl func10 ((n0) _) ?_
 refine zs2 ?_
 refine zp1 ?_
 refine zc rfl func12 (pA _ (bO 0 1 rfl rfl)) ?_
 refine zy5 ?_
 refine zs3 ?_
 refine zp1 ?_
 refine zc rfl func12 (pB _ (bO 0 1 rfl rfl)) ?_
 refine zy5 ?_
 refine zs3 ?_
 refine zp1 ?_
 refine zc rfl func12 (pC _ (bO 0 1 rfl rfl)) ?_
 refine zy5 ?_
 refine zs3 ?_
 refine zp1 ?_
 refine zc rfl func21 (pD _ (bO 0 1 rfl rfl)) ?_
 refine zy5 ?_
 refine zy5 ?_
 refine zs2 ?_
 refine zp1 ?_
 refine zc rfl func22 (pE _ (bO 0 1 rfl rfl)) ?_
 refine zy5 ?_
 refine zs5 ?_
 refine zp3 ?_
 refine dF 56 rfl (by rfl) ?_
 refine zy3 ?_
 refine Wd rfl rfl (i6 (lO tG rfl) rfl (lO tG rfl) rfl (lO tG rfl) rfl rfl rfl) ?_
 refine z1 ?_
 refine zq 61 ?_
 refine zy2 ?_
 refine dF 63 rfl (by exact decide_eq_true oA) ?_
 refine zy4 ?_
 refine dF 67 rfl (by rfl) ?_
 refine z1 ?_
 refine zc rfl func23 ((cA) _) ?_
 refine zy3 ?_
 refine dF 72 rfl (by rfl) ?_
 refine zy4 ?_
 refine dF 76 rfl (by rfl) ?_
 refine z1 ?_
 refine zc rfl func23 ((cB) _) ?_
 refine zy2 ?_
 refine dF 80 rfl (by rfl) ?_
 refine zy4 ?_
 refine dF 84 rfl (by rfl) ?_
 refine z1 ?_
 refine zc rfl func23 ((cC) _) ?_
 refine zy3 ?_
 refine dF 89 rfl (by rfl) ?_
 refine zy4 ?_
 refine dF 93 rfl (by rfl) ?_
 refine zy3 ?_
 refine dF 96 rfl (by rfl) ?_
 refine zy4 ?_
 refine dF 100 rfl (by rfl) ?_
 refine zy4 ?_
 refine dF 104 rfl (by rfl) ?_
 refine zy4 ?_
 refine Wa 108 rfl (bsL au [_] rfl rfl) ?_
 refine zc rfl func20 ((Ya dD (by decide)) _) ?_
 refine zy2 ?_
 refine dF 111 rfl (by rfl) ?_
 refine zy4 ?_
 refine dF 115 rfl (by rfl) ?_
 refine zy4 ?_
 refine Wa 119 rfl (bsL au [_,_] rfl rfl) ?_
 refine zc rfl func20 ((Ya dE (by decide)) _) ?_
 refine zs2 ?_
 refine zR ?_
 rfl
def EA{f:ae}{s:SS}(h:At f s){b:Bool}(hb:s.cmp=b):af prog 23 [bE f] (boo b):=by
 have hm:f.vm.mem.b.length<=140737488355328:=by
  obtain⟨m,rfl,hm⟩:=h.ex
  have:=hm.len
  show m.b.length<=_;omega
 have:=jM f hm
 rwa [ni h,hb]at this
def Ic{f:ae}{s:SS}(h:At f s):f.vm.out=s.out/\f.vm.d=s.d/\f.comp=s.comp:=by obtain⟨m,rfl,hm⟩:=h.ex;exact⟨rfl,rfl,rfl⟩
def Eo(a:Addr){f f':ae}{tx:Str}{fuel u e:Int}(h:OkF 0 f)(ht:tx.length<=1000)(hu:fuel<=5000)(hl:j6 f tx fuel=(f',u,e)):PG a 12 [bE f,str tx,i64 fuel] (qY (f',u,e))/\OkF 0 f':=by
 have p:PG a 12 [bE f,str tx,i64 fuel] (qY (j6 f tx fuel)):=xm a h ht hu (by decide)
 have o:=(GS h ht hu (by decide)).2.1
 rw[hl]at p o
 exact⟨p,o⟩
def ut(a:Addr):∀(H:List Ob),(∀o∈fS a,∃k:Nat,H[k]?=some o)->HC prog 9 [] H (boo true) H:=by
 obtain⟨fA,aA,eA⟩:=av8
 obtain⟨fB,aB,eB⟩:=am6 aA
 obtain⟨fC,aC,eC⟩:=ag4 aB
 obtain⟨fD,aD,eD⟩:=av6 aA
 obtain⟨fE,aE,eE⟩:=at0 aD
 obtain⟨pA,kA⟩:=Eo a okO (by decide) (by decide) eA
 obtain⟨pB,kB⟩:=Eo a kA (by decide) (by decide) eB
 obtain⟨pC,kC⟩:=Eo a kB (by decide) (by decide) eC
 have wD:=okw (s:=[32,32,55,32,56]) (a:=0) (fuel:=9) kA (by decide) (by decide) (by decide) (by decide)
 have pD:PG a 21 _ _:=AI a fA [32,32,55,32,56] 0 9 0 ⟨Tu kA (by decide) (by decide),kA.g,by decide,by decide⟩
 rw[eD]at pD wD
 have pE:PG a 22 _ _:=IH a fD 216 [] 0 9 _ wD.f.g (by unfold ab;omega) (by decide) (by show 0+270+3*Int.toNat 9-3*Int.toNat 9<=190000;decide) (by decide)
 rw[eE]at pE
 exact TR a fO fA fB fC fD fE wt pA pB pC pD pE (EA aA rfl) (EA aB rfl) (EA aC rfl) (Ic aA).1 (Ic aD).2.1 (Ic aE).2.1
structure CfV (l:List VCf):Prop where
 len:l.length<=32
 at_:∀c∈l,bdr c.at_=true
 lv:∀c∈l,c.leaves.length<=32/\∀x∈c.leaves,bdr x=true
structure Pv (k:Int) (s s':SS):Prop where
 d:s'.d=s.d
 ext:s'.ext=s.ext
 last:s'.last=s.last
 out:s'.out=s.out
 comp:∃l,s'.comp={s.comp with cf:=l}
 g8:∀x,x<=8->gL s'.cs x=gL s.cs x
 h0:s.here<=s'.here
 h1:s'.here<=s.here+k
def Pv.rf(s:SS):Pv 0 s s:=⟨rfl,rfl,rfl,rfl,⟨s.comp.cf,rfl⟩,fun _ _=>rfl,Int.le_refl _,by omega⟩
def Pv.tr{j k:Int}{a b c:SS}(h:Pv j a b)(g:Pv k b c):Pv (j+k) a c:=by
 obtain⟨l,e⟩:=h.comp
 obtain⟨l2,e2⟩:=g.comp
 exact⟨g.d.trans h.d,g.ext.trans h.ext,g.last.trans h.last,g.out.trans h.out,⟨l2,by rw[e2,e]⟩,fun x hx=>(g.g8 x hx).trans (h.g8 x hx),by have:=h.h0;have:=g.h0;omega,by have:=h.h1;have:=g.h1;omega⟩
def Pv.up{j k:Int}{a b:SS}(h:Pv j a b)(hk:j<=k):Pv k a b:=⟨h.d,h.ext,h.last,h.out,h.comp,h.g8,h.h0,by have:=h.h1;omega⟩
def Gf{l:List (Int×Int)}{a n x:Int}(h:1368<=a)(hx:x<=8):gL ((a,n)::l) x=gL l x:=by
 show jO (gL l) a n x=_
 unfold jO
 rw[if_neg (by omega)]
def gW{s:SS}(n:Int)(h:1368<=s.here):Pv 8 s (s.lay n):=⟨rfl,rfl,rfl,rfl,⟨s.comp.cf,rfl⟩,fun x hx=>Gf h hx,by show s.here<=s.here+8;omega,Int.le_refl _⟩
def Db{s:SS}{a:Int}(n:Int)(h:1368<=a):Pv 0 s (s.put a n):=⟨rfl,rfl,rfl,rfl,⟨s.comp.cf,rfl⟩,fun x hx=>Gf h hx,Int.le_refl _,by show s.here<=s.here+0;omega⟩
def om(s:SS)(l:List VCf):Pv 0 s (s.cf l):=⟨rfl,rfl,rfl,rfl,⟨l,rfl⟩,fun _ _=>rfl,Int.le_refl _,by show s.here<=s.here+0;omega⟩
structure AW (w:CW) (s:SS):Prop where
 bad:w.bad=0
 l:w.l=s.comp.cf
 at_:At ⟨w.v,s.comp⟩ s
section
variable {w : CW} {s : SS}
def qk(h:AW w s):w.v.here=s.here:=by obtain⟨m,e,hm⟩:=h.at_.ex;have:=congrArg (fun f:ae=>f.vm.here) e;exact this
def vf(h:AW w s){n:Int}(hn:ab n)(hr:s.here+8<=4096):AW (gi w n) (s.lay n):=by
 have a:=jV h.at_ hn hr
 have e:gi w n={w with v:=bF w.v n}:=by rw[QM h.bad];rw[a.1,<-h.bad]
 rw[e]
 exact⟨h.bad,h.l,a.2⟩
def D3(h:AW w s){a:Int}(ha:bdr a=true)(hs:s.here<=4096):AW (gV w a) (s.put a s.here):=by
 have q:=jP ha
 have e:=qk h
 have h0:=h.at_.h0
 have p:=zb h.at_ ha (n:=s.here) (zl (by omega) (by omega))
 obtain⟨m,em,hm⟩:=h.at_.ex
 have hmem:w.v.mem=m:=by have:=congrArg (fun f:ae=>f.vm.mem) em;exact this
 have e2:gV w a={w with v:={w.v with mem:=stM w.v.mem a s.here}}:=by
  rw[ju h.bad,e,hmem,hm.put q.2.1,<-h.bad]
 rw[e2]
 exact⟨h.bad,h.l,p⟩
def sP(h:AW w s){c:VCf}(hl:s.comp.cf.length<32):AW (io w c) (s.cf (s.comp.cf++[c])):=by
 rw[nM (by rw[h.l];exact hl)]
 exact⟨h.bad,by rw[h.l];rfl,rI h.at_ _⟩
def nn(h:AW w s){kind:Int}(hk:kind≠0):(∃D c,s.comp.cf=D++[c]/\c.kind=kind/\aZ w kind=({w with l:=D},c)/\AW {w with l:=D} (s.cf D))\/(aZ w kind).1.bad = -22:=by
 unfold aZ
 by_cases q:w.l.length=0\/(w.l.getD (w.l.length-1) zCf).kind≠kind
 ·rw[if_pos q]
  right
  show(w.fail (-22)).bad = -22
  rw[cf0 h.bad]
 rw[if_neg q]
 left
 have q1:(g9 w.l).kind=kind:=Decidable.not_not.1 fun z=>q (.inr z)
 have e:=nJ q1 hk
 refine⟨zS w.l,g9 w.l,by rw[<-h.l];exact e,q1,rfl,⟨h.bad,rfl,rI h.at_ _⟩⟩
end
def iq{w:CW}(h:w.bad = -22)(n:Int):(gi w n).bad = -22:=by rw[Yf (by rw[h];decide)];exact h
def sc{w:CW}(h:w.bad = -22)(a:Int):(gV w a).bad = -22:=by rw[jx (by rw[h];decide)];exact h
def AN{w:CW}(h:w.bad = -22)(c:VCf):(io w c).bad = -22:=by
 unfold io
 split
 ·rw[cf1 (by rw[h];decide)];exact h
 exact h
def Mr{w:CW}(h:w.bad = -22)(k:Int):(aZ w k).1.bad = -22:=by
 unfold aZ
 split
 ·show(w.fail (-22)).bad = -22
  rw[cf1 (by rw[h];decide)];exact h
 exact h
def HG:∀(l:List Int) {w:CW},w.bad = -22->(l.foldl gV w).bad = -22
 | [],_,h=>h
 | x::l,w,h=>by rw[List.foldl_cons];exact HG l (sc h x)
def xD(s:SS)(w:CW):Prop:=w.bad = -22\/∃s',AW w s'/\Pv 24 s s'/\CfV s'.comp.cf
def sK{l:List VCf}{c:VCf}(h:CfV l)(hl:l.length<32)(ha:bdr c.at_=true)(hv:c.leaves.length<=32/\∀x∈c.leaves,bdr x=true):CfV (l++[c]):=by
 refine⟨by rw[List.length_append,List.length_singleton];omega,fun x hx=>?_,fun x hx=>?_⟩
 ·rcases List.mem_append.1 hx with q|q
  ·exact h.at_ x q
  rw[List.mem_singleton.1 q];exact ha
 rcases List.mem_append.1 hx with q|q
 ·exact h.lv x q
 rw[List.mem_singleton.1 q];exact hv
def qV{D:List VCf}{c:VCf}(h:CfV (D++[c])):CfV D/\bdr c.at_=true/\c.leaves.length<=32/\(∀x∈c.leaves,bdr x=true)/\D.length<32:=by
 have hl:=h.len
 rw[List.length_append,List.length_singleton]at hl
 have hc:c∈D++[c]:=List.mem_append_right _ (List.mem_singleton.2 rfl)
 exact⟨⟨by omega,fun x hx=>h.at_ x (List.mem_append_left _ hx),fun x hx=>h.lv x (List.mem_append_left _ hx)⟩,h.at_ c hc,(h.lv c hc).1,(h.lv c hc).2,by omega⟩
def pG{f:ae}{s:SS}(h:At f s){k:Int}(h0:0<=k)(h8:k%8=0)(hr:s.here+k+8<=4096):bdr (s.here+k)=true:=by
 have a:=h.h0
 have b:=h.h8
 unfold bdr
 rw[Bool.and_eq_true]
 exact⟨decide_eq_true (by omega),eg.2 ⟨by omega,by omega,by omega⟩⟩
section
variable {w : CW} {s : SS}
def lF(h:AW w s)(name:Str){x:Int}(hx:ma name=x)(hf:ab x)(hr:s.here+8<=4096):AW (ce w name) (s.lay x):=by
 unfold ce
 rw[hx];exact vf h hf hr
def sN(h:AW w s)(name:Str){x:Int}(hx:ma name=x)(hf:ab x)(hr:s.here+16<=4096):AW (eO w name) ((s.lay x).lay 0):=vf (lF h name hx hf (by omega)) bt (by show s.here+8+8<=4096;omega)
def aF2(h:AW w s)(v:CfV s.comp.cf)(hr:s.here+40<=4096):xD s (ifC w):=by
 unfold ifC
 have b:=sN h [40,48,98,114,97,110,99,104,41] vw rQ (by omega)
 by_cases hl:s.comp.cf.length<32
 ·have e:(ce w [40,48,98,114,97,110,99,104,41]).v.here=s.here+8:=qk (lF h [40,48,98,114,97,110,99,104,41] vw rQ (by omega))
  rw[e]
  exact .inr ⟨_,sP b hl,((gW _ h.at_.h0).tr ((gW _ (by have:=h.at_.h0;show 1368<=s.here+8;omega)).tr (om _ _))).up (by decide),sK v hl (pG h.at_ (by decide) (by decide) (by omega)) ⟨Nat.zero_le _,fun x hx=>by cases hx⟩⟩
 left
 unfold io
 rw[if_pos (by rw[b.l];show 32<=s.comp.cf.length;omega),cf0 b.bad]
def Uv(h:AW w s)(v:CfV s.comp.cf)(hr:s.here+40<=4096):xD s (ud w):=by
 unfold ud
 by_cases hl:s.comp.cf.length<32
 ·rw[qk h]
  exact .inr ⟨_,sP h hl,(om _ _).up (by decide),sK v hl (by have:=pG h.at_ (k:=0) (by decide) (by decide) (by omega);rwa [Int.add_zero]at this) ⟨Nat.zero_le _,fun x hx=>by cases hx⟩⟩
 left
 unfold io
 rw[if_pos (by rw[h.l];omega),cf0 h.bad]
def ap3:ma [40,100,111,41]=64:=by decide +kernel
def Zo:ma [85,78,76,79,79,80]=168:=by decide +kernel
def Zm:ab 64:=by unfold ab;omega
def Xq:ab 168:=by unfold ab;omega
def aB8(h:AW w s)(v:CfV s.comp.cf)(hr:s.here+40<=4096):xD s (doC w):=by
 unfold doC
 have b:=lF h [40,100,111,41] ap3 Zm (by omega)
 by_cases hl:s.comp.cf.length<32
 ·have e:(ce w [40,100,111,41]).v.here=s.here+8:=qk b
  rw[e]
  exact .inr ⟨_,sP b hl,((gW _ h.at_.h0).tr (om _ _)).up (by decide),sK v hl (pG h.at_ (by decide) (by decide) (by omega)) ⟨Nat.zero_le _,fun x hx=>by cases hx⟩⟩
 left
 unfold io
 rw[if_pos (by rw[b.l];show 32<=s.comp.cf.length;omega),cf0 b.bad]
def YR(h:AW w s)(v:CfV s.comp.cf)(hr:s.here+40<=4096):xD s (Ak w):=by
 unfold Ak
 rcases nn h (kind:=1) (by decide)with ⟨D,c,hD,hc,e,a⟩|b
 ·rw[e]
  rw[hD]at v
  have q:=qV v
  have p:=D3 a q.2.1 (by show s.here<=4096;omega)
  exact .inr ⟨_,p,((om s D).tr (Db _ (jP q.2.1).1)).up (by decide),q.1⟩
 exact .inl (sc b _)
def Ze(h:AW w s)(v:CfV s.comp.cf)(hr:s.here+40<=4096):xD s (yX w):=by
 unfold yX
 rcases nn h (kind:=1) (by decide)with ⟨D,c,hD,hc,e,a⟩|b
 ·rw[e]
  rw[hD]at v
  have q:=qV v
  dsimp only
  have b:=sN a [40,98,114,97,110,99,104,41] xy qD (by show s.here+16<=4096;omega)
  have p:=D3 b q.2.1 (by show s.here+8+8<=4096;omega)
  have e2:(ce ({w with l:=D}:CW) [40,98,114,97,110,99,104,41]).v.here=s.here+8:=qk (lF a [40,98,114,97,110,99,104,41] xy qD (by show s.here+8<=4096;omega))
  rw[e2]
  exact .inr ⟨_,sP p (by exact q.2.2.2.2),((om s D).tr ((gW _ a.at_.h0).tr ((gW _ (by have:=h.at_.h0;show 1368<=s.here+8;omega)).tr ((Db _ (jP q.2.1).1).tr (om _ _))))).up (by decide),sK q.1 q.2.2.2.2 (pG h.at_ (by decide) (by decide) (by omega)) ⟨Nat.zero_le _,fun x hx=>by cases hx⟩⟩
 exact .inl (AN (sc (iq (iq b _) _) _) _)
def WD(h:AW w s)(v:CfV s.comp.cf)(hr:s.here+40<=4096):xD s (tI w):=by
 unfold tI
 rcases nn h (kind:=2) (by decide)with ⟨D,c,hD,hc,e,a⟩|b
 ·rw[e]
  rw[hD]at v
  have q:=qV v
  dsimp only
  have b:=sN a [40,48,98,114,97,110,99,104,41] vw rQ (by show s.here+16<=4096;omega)
  have e2:(ce ({w with l:=D}:CW) [40,48,98,114,97,110,99,104,41]).v.here=s.here+8:=qk (lF a [40,48,98,114,97,110,99,104,41] vw rQ (by show s.here+8<=4096;omega))
  rw[e2]
  have o:=sP (c:=⟨1,s.here+8,[]⟩) b (by exact q.2.2.2.2)
  have v1:CfV (D++[⟨1,s.here+8,[]⟩]):=sK q.1 q.2.2.2.2 (pG h.at_ (by decide) (by decide) (by omega)) ⟨Nat.zero_le _,fun x hx=>by cases hx⟩
  by_cases hl:(D++[(⟨1,s.here+8,[]⟩:VCf)]).length<32
  ·exact .inr ⟨_,sP o (by exact hl),((om s D).tr ((gW _ a.at_.h0).tr ((gW _ (by have:=h.at_.h0;show 1368<=s.here+8;omega)).tr ((om _ _).tr (om _ _))))).up (by decide),sK v1 hl q.2.1 ⟨q.2.2.1,q.2.2.2.1⟩⟩
  left
  have hl2:32<=(io (eO ({w with l:=D}:CW) [40,48,98,114,97,110,99,104,41]) ⟨1,s.here+8,[]⟩).l.length:=by rw[o.l];show 32<=(D++[(⟨1,s.here+8,[]⟩:VCf)]).length;omega
  generalize io (eO ({w with l:=D}:CW) [40,48,98,114,97,110,99,104,41]) ⟨1,s.here+8,[]⟩=z at o hl2
  unfold io
  rw[if_pos hl2,cf0 o.bad]
 exact .inl (AN (AN (iq (iq b _) _) _) _)
def ZF{name:Str}{x:Int}(hx:ma name=x)(hf:ab x)(h:AW w s)(v:CfV s.comp.cf)(hr:s.here+40<=4096):xD s (uO name w):=by
 unfold uO
 rcases nn h (kind:=2) (by decide)with ⟨D,c,hD,hc,e,a⟩|b
 ·rw[e]
  rw[hD]at v
  have q:=qV v
  dsimp only
  have b:=lF a name hx hf (by show s.here+8<=4096;omega)
  exact .inr ⟨_,vf b (jP q.2.1).2.2 (by show s.here+8+8<=4096;omega),((om s D).tr ((gW _ a.at_.h0).tr (gW _ (by have:=h.at_.h0;show 1368<=s.here+8;omega)))).up (by decide),q.1⟩
 exact .inl (iq (iq b _) _)
def O6(h:AW w s)(v:CfV s.comp.cf)(hr:s.here+40<=4096):xD s (qf w):=by
 unfold qf
 rcases nn h (kind:=2) (by decide)with ⟨D,c,hD,hc,e,a⟩|b
 ·rw[e]
  rw[hD]at v
  have q:=qV v
  dsimp only
  rcases nn a (kind:=1) (by decide)with ⟨D2,o,hD2,ho,e2,a2⟩|b
  ·rw[e2]
   have v2:CfV (D2++[o]):=by rw[<-hD2];exact q.1
   have q2:=qV v2
   dsimp only
   have b:=lF a2 [40,98,114,97,110,99,104,41] xy qD (by show s.here+8<=4096;omega)
   have p:=D3 (vf b (jP q.2.1).2.2 (by show s.here+8+8<=4096;omega)) q2.2.1 (by show s.here+8+8<=4096;omega)
   exact .inr ⟨_,p,((om s D).tr ((om _ D2).tr ((gW _ a2.at_.h0).tr ((gW _ (by have:=h.at_.h0;show 1368<=s.here+8;omega)).tr (Db _ (jP q2.2.1).1))))).up (by decide),q2.1⟩
  exact .inl (sc (iq (iq b _) _) _)
 exact .inl (sc (iq (iq (Mr b _) _) _) _)
def Tx:∀(l:List Int) {w:CW} {s:SS},AW w s->s.here<=4096->(∀x∈l,bdr x=true)->∃s',AW (l.foldl gV w) s'/\Pv 0 s s'/\s'.comp=s.comp
 | [],w,s,h,_,_=>⟨s,h,.rf s,rfl⟩
 | x::l,w,s,h,hs,hl=>by
  have p:=D3 h (hl x (List.mem_cons_self ..)) hs
  obtain⟨s',a,v,e⟩:=Tx l p (by exact hs) fun y hy=>hl y (List.mem_cons_of_mem _ hy)
  exact⟨s',a,((Db _ (jP (hl x (List.mem_cons_self ..))).1).tr v).up (by decide),e⟩
def ZN(h:AW w s)(v:CfV s.comp.cf)(hr:s.here+40<=4096):xD s (vP [40,108,111,111,112,41] w):=by
 unfold vP
 rcases nn h (kind:=3) (by decide)with ⟨D,c,hD,hc,e,a⟩|b
 ·rw[e]
  rw[hD]at v
  have q:=qV v
  dsimp only
  have b:=vf (lF a [40,108,111,111,112,41] Ko IA (by show s.here+8<=4096;omega)) (jP q.2.1).2.2 (by show s.here+8+8<=4096;omega)
  obtain⟨s',a',p,ec⟩:=Tx c.leaves b (by show s.here+8+8<=4096;omega) q.2.2.2.1
  exact .inr ⟨s',a',((om s D).tr ((gW _ a.at_.h0).tr ((gW _ (by have:=h.at_.h0;show 1368<=s.here+8;omega)).tr p))).up (by decide),by rw[ec];exact q.1⟩
 exact .inl (HG _ (iq (iq b _) _))
def V7(h:AW w s)(v:CfV s.comp.cf)(hr:s.here+40<=4096):xD s (qd w):=by
 unfold qd
 by_cases q:jd w.l w.l.length<0\/32<=(w.l.getD (jd w.l w.l.length).toNat zCf).leaves.length
 ·rw[if_pos q];left;rw[cf0 h.bad]
 rw[if_neg q]
 right
 have a1:=lF h [85,78,76,79,79,80] Zo Xq (by omega)
 have a2:=sN a1 [40,98,114,97,110,99,104,41] xy qD (by show s.here+8+16<=4096;omega)
 have e1:(ce (ce w [85,78,76,79,79,80]) [40,98,114,97,110,99,104,41]).v.here=s.here+16:=by
  have:=qk (lF a1 [40,98,114,97,110,99,104,41] xy qD (by show s.here+8+8<=4096;omega))
  rw[this];show s.here+8+8=_;omega
 rw[e1]
 have rg:=sn w.l w.l.length
 have hn:(jd w.l w.l.length).toNat<w.l.length:=by omega
 have hm:w.l.getD (jd w.l w.l.length).toNat zCf∈w.l:=by rw[List.getD_eq_getElem?_getD,List.getElem?_eq_getElem hn];exact List.getElem_mem _
 rw[<-h.l]at v
 generalize hi:(jd w.l w.l.length).toNat=i at q hn hm ⊢
 generalize hc:w.l.getD i zCf=c at q hm ⊢
 have b16:=pG h.at_ (k:=16) (by decide) (by decide) (by omega)
 refine⟨SS.cf (((s.lay 168).lay 48).lay 0) (w.l.set i {c with leaves:=c.leaves++[s.here+16]}),⟨a2.bad,rfl,rI a2.at_ _⟩,((gW _ h.at_.h0).tr ((gW _ (by have:=h.at_.h0;show 1368<=s.here+8;omega)).tr ((gW _ (by have:=h.at_.h0;show 1368<=s.here+8+8;omega)).tr (om _ _)))).up (by decide),?_⟩
 refine⟨by show(w.l.set _ _).length<=32;rw[List.length_set];exact v.len,fun x hx=>?_,fun x hx=>?_⟩
 ·rcases List.mem_or_eq_of_mem_set hx with hx|hx
  ·exact v.at_ x hx
  subst hx;exact v.at_ c hm
 rcases List.mem_or_eq_of_mem_set hx with hx|hx
 ·exact v.lv x hx
 subst hx
 refine⟨by show(c.leaves++[s.here+16]).length<=32;rw[List.length_append,List.length_singleton];omega,fun y hy=>?_⟩
 rcases List.mem_append.1 hy with hy|hy
 ·exact(v.lv c hm).2 y hy
 rw[List.mem_singleton.1 hy];exact b16
end
open Go.RowKit
def Ay(l ext:List aL)(name:Str)(h:∀e∈ext,pp e name=false):cd (l++ext) name=cd l name:=by
 have k:∀(n:Nat) (ext:List aL),ext.length=n->(∀e∈ext,pp e name=false)->cd (l++ext) name=cd l name:=by
  intro n
  induction n with
  | zero=>intro ext hl _;rw[List.length_eq_zero_iff.1 hl,List.append_nil]
  | succ n ih =>
   intro ext hl he
   have e:=CE (l:=ext) (by omega)
   have hb:(xI ext).length=n:=by unfold xI;rw[List.length_take];omega
   have hx:pp (tm ext) name=false:=he _ (by rw[e];exact List.mem_append_right _ (by rw[<-e];exact List.mem_singleton.2 rfl))
   rw[e,<-List.append_assoc,N0,if_neg (by rw[hx];decide)]
   exact ih _ hb fun x hx=>he x (List.mem_of_mem_take hx)
 exact k _ ext rfl h
def Bi(f:ae)(s:SS)(w:Str):Prop :=
 (∃f' s',At f' s'/\Pv 24 s s'/\CfV s'.comp.cf/\∀(tx:Str) (p a u:Int),bu tx p=(w,a)->0<=u->u<=5000->jv f tx p u=(f',a,u,true,0)) \/
 (∀(tx:Str) (p a u:Int),bu tx p=(w,a)->0<=u->u<=5000->jv f tx p u=(f,p,u,true,-22))
def KO{f:ae}{s s':SS}{w:Str}(a:At f s)(h:SW s w s' 0)(h0:w≠[])(p:Pv 24 s s')(v:CfV s'.comp.cf):Bi f s w:=by
 obtain⟨f',a',e⟩:=h f a
 refine .inl ⟨f',s',a',p,v,fun tx p a u hw u0 u9=>?_⟩
 have:=e tx p a u hw h0 u0 u0 u9
 rwa [show u-0=u by omega]at this
def C5{s:SS}{i:Nat}(hi:i<167)(hh:Bg (gF i)=false)(hs:rV (gL s.cs))(he:∀e∈s.ext,pp e (gj.getD i [])=false):xiS s (gj.getD i [])=some ⟨gF i,(kf i:Int)⟩:=by
 have e1:cd (du 167++s.ext) (gj.getD i [])=(gF i,(i:Int),true):=by rw[Ay _ _ _ he];exact Z4 hi hh
 have ex:(gF i).xt=32+8*(i:Int):=by show((32+8*i:Nat):Int)=_;omega
 have ek:gL s.cs (gF i).xt=(kf i:Int):=by rw[ex];exact hs.prim i hi
 have ok:eU (kf i:Int):=by unfold eU kf;split<;>omega
 unfold xiS
 rw[e1]
 dsimp only
 rw[ek,if_pos ⟨rfl,eg.2 (by rw[ex];omega),ok⟩]
def Vq{f:ae}{s:SS}{w:Str}{y:XI}{g:CW->CW}(a:At f s)(h0:w≠[])(h:xiS s w=some y)(hc:s.cmp=true)(hi:y.x.flags%2=1)(h3:300<=y.k)(hn:bG.getD (y.k-300).toNat []=w)(hs:spF w=none)(hb:brF w=some g)
  (hw:∀c:CW,AW c s->xD s (g c)):Bi f s w:=by
 have aw:AW ⟨f.vm,s.comp.cf,0⟩ s:=⟨rfl,rfl,by obtain⟨m,rfl,hm⟩:=a.ex;exact a⟩
 have ecf:f.comp=s.comp:=by obtain⟨m,rfl,hm⟩:=a.ex;rfl
 have bad:bh f.vm f.comp.cf w=(f.vm,f.comp.cf,-22)->Bi f s w:=fun e=>by
  obtain⟨hf,ha,hk,hkk⟩:=xf h
  refine .inr fun tx p b u hw u0 u9=>?_
  have ek:az f.vm y.x.xt=(y.k,0):=by rw[ou a ha (by rw[<-hk];exact hkk),hk]
  have ec:bJ (aI f tx b u).f=true:=by rw[show bJ (aI f tx b u).f=bJ f from rfl,ni a];exact hc
  have eo:kU (aI f tx b (max u 0)) w=(oOk (aI f tx b u) (-22),false):=by
   rw[show max u 0=u by omega,mY (x:=y.x) (i:=(cd (du 167++s.ext) w).2.1) (by show cd f.vm.dict w=_;rw[kH a];exact hf)]
   rw[sE (l:=aI f tx b u) ek h3 (by rw[ec];simp) (by rw[ec,hi];rfl),hn,KS hs]
   unfold kI fJ
   rw[show(aI f tx b u).f=f from rfl,e]
   rw[ok0 (show(aI f tx b u).err=0 from rfl)]
   rfl
  have q:=AL (f:=f) (s:=tx) (a:=p) (fuel:=u) (r:=(oOk (aI f tx b u) (-22),false)) (by rw[hw];exact h0) (by rw[hw];exact eo) (by rw[ok0 rfl];show(-22:Int)≠0;decide) rfl
  rw[q,ok0 rfl,show max u 0=u by omega]
 by_cases hfull:jK f.comp.cf w=true
 ·exact bad (L7 hb hfull)
 rw[ecf]at hfull bad
 rcases hw _ aw with hbad|⟨s',a',p,v⟩
 ·refine bad ?_
  rw[nr hb hfull]
  unfold nS
  rw[if_pos (by rw[hbad];decide),hbad]
 have e:bh f.vm s.comp.cf w=((g ⟨f.vm,s.comp.cf,0⟩).v,(g ⟨f.vm,s.comp.cf,0⟩).l,0):=by
  rw[nr hb hfull];exact js a'.bad
 obtain⟨l2,hl2⟩:=p.comp
 obtain⟨hf,ha,hk,hkk⟩:=xf h
 refine .inl ⟨⟨(g ⟨f.vm,s.comp.cf,0⟩).v,s'.comp⟩,s',a'.at_,p,v,fun tx q b u hw u0 u9=>?_⟩
 have ek:az f.vm y.x.xt=(y.k,0):=by rw[ou a ha (by rw[<-hk];exact hkk),hk]
 have ec:bJ (aI f tx b u).f=true:=by rw[show bJ (aI f tx b u).f=bJ f from rfl,ni a];exact hc
 have ef:(⟨(g ⟨f.vm,s.comp.cf,0⟩).v,{s.comp with cf:=(g ⟨f.vm,s.comp.cf,0⟩).l}⟩:ae)=⟨(g ⟨f.vm,s.comp.cf,0⟩).v,s'.comp⟩:=by rw[a'.l,hl2]
 have eo:kU (aI f tx b (max u 0)) w=(aI ⟨(g ⟨f.vm,s.comp.cf,0⟩).v,s'.comp⟩ tx b u,false):=by
  rw[show max u 0=u by omega,mY (x:=y.x) (i:=(cd (du 167++s.ext) w).2.1) (by show cd f.vm.dict w=_;rw[kH a];exact hf)]
  rw[sE (l:=aI f tx b u) ek h3 (by rw[ec];simp) (by rw[ec,hi];rfl),hn,KS hs,CD (l:=aI f tx b u) (by rw[show(aI f tx b u).f=f from rfl,ecf];exact e) rfl,<-ef]
  show((⟨⟨_,{f.comp with cf:=_}⟩,tx,b,u,0⟩:ag),false)=_
  rw[ecf];rfl
 exact Oi hw h0 eo rfl
def WA{f:ae}{s:SS}{w:Str}{y:XI}{g:ag->ag}{n:Int}(a:At f s)(h0:w≠[])(h:xiS s w=some y)(hc:s.cmp=true)(hi:y.x.flags%2=1)(h3:300<=y.k)(hn:bG.getD (y.k-300).toNat []=w)(hs:spF w=some g)
  (hg:∀l,l.f=f->g l=ri l n) (fn:ab n) (hr:s.here+8<=4096) (v:CfV s.comp.cf):Bi f s w:=by
 have l:=jV a fn hr
 obtain⟨hf,ha,hk,hkk⟩:=xf h
 refine .inl ⟨_,s.lay n,l.2,(gW n a.h0).up (by decide),v,fun tx q b u hw u0 u9=>?_⟩
 have ek:az f.vm y.x.xt=(y.k,0):=by rw[ou a ha (by rw[<-hk];exact hkk),hk]
 have ec:bJ (aI f tx b u).f=true:=by rw[show bJ (aI f tx b u).f=bJ f from rfl,ni a];exact hc
 have eo:kU (aI f tx b (max u 0)) w=(aI {f with vm:=bF f.vm n} tx b u,false):=by
  rw[show max u 0=u by omega,mY (x:=y.x) (i:=(cd (du 167++s.ext) w).2.1) (by show cd f.vm.dict w=_;rw[kH a];exact hf)]
  rw[sE (l:=aI f tx b u) ek h3 (by rw[ec];simp) (by rw[ec,hi];rfl),hn,wC hs,hg _ rfl]
  unfold ri
  rw[do0 (show(aI f tx b u).err=0 from rfl),show(aI f tx b u).f.vm=f.vm from rfl,l.1,sW (show(aI f tx b u).err=0 from rfl)];rfl
 exact Oi hw h0 eo rfl
def wdU:List Str:=[[68,85,80],[83,87,65,80],[43],[73,70],[69,76,83,69],[84,72,69,78],[66,69,71,73,78],[85,78,84,73,76],[68,79],[76,79,79,80],[73],[49],[45,55],[69,88,73,84],[82,69,67,85,82,83,69],[87,72,73,76,69],[82,69,80,69,65,84],[76,69,65,86,69]]
def Uj:ma [40,101,120,105,116,41]=32:=by decide +kernel
def RJ{f:ae}{s:SS}(a:At f s)(hc:s.cmp=true)(v:CfV s.comp.cf)(hr:s.here+40<=4096)(hb:gL s.cs 0=10)(fx:ab s.comp.xt)(hE:∀w∈wdU,∀e∈s.ext,pp e w=false):∀w∈wdU,Bi f s w:=by
 have ecf:f.comp=s.comp:=by obtain⟨m,rfl,hm⟩:=a.ex;rfl
 have X:∀(i:Nat),i<167->Bg (gF i)=false->gj.getD i []∈wdU->xiS s (gj.getD i [])=some ⟨gF i,(kf i:Int)⟩:=fun i hi hh hw=>C5 hi hh a.std (hE _ hw)
 have lay:∀(i:Nat),i<167->Bg (gF i)=false->gj.getD i []∈wdU->(gF i).flags%2=0->gj.getD i []≠[]->Bi f s (gj.getD i []):=fun i hi hh hw hf h0 =>
  KO a (QJ (X i hi hh hw) hc hf (by omega)) h0 ((gW _ a.h0).up (by decide)) v
 have num:∀(w:Str) (n:Int),w∈wdU->(cd (du 167) w).2.2=false->dR w 10=(n,true)->w≠[]->Bi f s w:=fun w n hw hf hp h0 =>
  KO a (QT (by rw[Ay _ _ _ (hE w hw)];exact hf) (by rw[hb];exact hp) hc (by omega)) h0 (((gW 40 a.h0).tr (gW n (by have:=a.h0;show 1368<=s.here+8;omega))).up (by decide)) v
 have br:∀(i:Nat) (g:CW->CW),i<167->Bg (gF i)=false->gj.getD i []∈wdU->(gF i).flags%2=1->300<=kf i->bG.getD (kf i-300) []=gj.getD i []->spF (gj.getD i [])=none->brF (gj.getD i [])=some g->gj.getD i []≠[]->(∀c:CW,AW c s->xD s (g c))->Bi f s (gj.getD i []):=fun i g hi hh hw hf h3 hn hs hb h0 hg =>
  Vq a h0 (X i hi hh hw) hc hf (by show(300:Int)<=(kf i:Int);omega) (by show bG.getD ((kf i:Int)-300).toNat []=_;rw[show((kf i:Int)-300).toNat=kf i-300 by omega];exact hn) hs hb hg
 have sp:∀(i:Nat) (g:ag->ag) (n:Int),i<167->Bg (gF i)=false->gj.getD i []∈wdU->(gF i).flags%2=1->300<=kf i->bG.getD (kf i-300) []=gj.getD i []->spF (gj.getD i [])=some g->gj.getD i []≠[]->(∀l:ag,l.f=f->g l=ri l n)->ab n->Bi f s (gj.getD i []):=fun i g n hi hh hw hf h3 hn hs h0 hg fn =>
  WA a h0 (X i hi hh hw) hc hf (by show(300:Int)<=(kf i:Int);omega) (by show bG.getD ((kf i:Int)-300).toNat []=_;rw[show((kf i:Int)-300).toNat=kf i-300 by omega];exact hn) hs hg fn (by omega) v
 intro w hw
 simp only[wdU,List.mem_cons,List.not_mem_nil,or_false]at hw
 rcases hw with rfl|rfl|rfl|rfl|rfl|rfl|rfl|rfl|rfl|rfl|rfl|rfl|rfl|rfl|rfl|rfl|rfl|rfl
 ·exact lay 23 (by decide) rfl (by decide) rfl (by decide)
 ·exact lay 25 (by decide) rfl (by decide) rfl (by decide)
 ·exact lay 39 (by decide) rfl (by decide) rfl (by decide)
 ·exact br 144 ifC (by decide) rfl (by decide) rfl (by decide) rfl rfl rfl (by decide) fun c h=>aF2 h v hr
 ·exact br 145 yX (by decide) rfl (by decide) rfl (by decide) rfl rfl rfl (by decide) fun c h=>Ze h v hr
 ·exact br 146 Ak (by decide) rfl (by decide) rfl (by decide) rfl rfl rfl (by decide) fun c h=>YR h v hr
 ·exact br 147 ud (by decide) rfl (by decide) rfl (by decide) rfl rfl rfl (by decide) fun c h=>Uv h v hr
 ·exact br 150 (uO [40,48,98,114,97,110,99,104,41]) (by decide) rfl (by decide) rfl (by decide) rfl rfl rfl (by decide) fun c h=>ZF vw rQ h v hr
 ·exact br 152 doC (by decide) rfl (by decide) rfl (by decide) rfl rfl rfl (by decide) fun c h=>aB8 h v hr
 ·exact br 154 (vP [40,108,111,111,112,41]) (by decide) rfl (by decide) rfl (by decide) rfl rfl rfl (by decide) fun c h=>ZN h v hr
 ·exact lay 15 (by decide) rfl (by decide) rfl (by decide)
 ·exact num [49] 1 (by decide) (by kernel_rfl) (by kernel_rfl) (by decide)
 ·exact num [45,55] (-7) (by decide) (by kernel_rfl) (by kernel_rfl) (by decide)
 ·exact sp 166 Qr 32 (by decide) rfl (by decide) rfl (by decide) rfl rfl (by decide) (fun l _=>by show ri l (ma _)=_;rw[Uj]) (by unfold ab;omega)
 ·exact sp 143 Zv s.comp.xt (by decide) rfl (by decide) rfl (by decide) rfl rfl (by decide) (fun l e=>by show ri l l.f.comp.xt=_;rw[e,ecf]) fx
 ·exact br 148 tI (by decide) rfl (by decide) rfl (by decide) rfl rfl rfl (by decide) fun c h=>WD h v hr
 ·exact br 149 qf (by decide) rfl (by decide) rfl (by decide) rfl rfl rfl (by decide) fun c h=>O6 h v hr
 exact br 156 qd (by decide) rfl (by decide) rfl (by decide) rfl rfl rfl (by decide) fun c h=>V7 h v hr
section
variable {f0 : ae} {tx p : Str} {u0 u : Int} {k : Nat} {t : Tk} {ws : List Tk} {s : SS}
def LA.dout(h:LA f0 tx u0 k p (t::ws) s u)(ht:okT t)(hd:∀f,At f s->Bi f s t.2):
  (∃s',LA f0 tx u0 (k+1) (nxT p t ws) ws s' u/\Pv 24 s s'/\CfV s'.comp.cf)\/(∃f,At f s/\(k<=tx.length+1->j6 f0 tx u0=(oR (tb f0 f),u,-22))):=by
 obtain⟨f,a,g⟩:=h.go
 have hu:=h.hu
 have hw:bu tx (p.length:Int)=(t.2,((nxT p t ws).length:Int)):=by rw[h.etx];exact sH p ws ht
 rcases hd f a with ⟨f',s',a',pv,v,e⟩|e
 ·exact .inl ⟨s',⟨h.etx.trans (EB p t ws),⟨f',a',g.tr (.one (e tx _ _ u hw hu.1 hu.2))⟩,hu⟩,pv,v⟩
 exact .inr ⟨f,a,fun hk=>AB g hk (e tx _ _ u hw hu.1 hu.2) (by decide)⟩
end
def LA.douts{f0:ae}{tx:Str}{u0:Int}:∀(ws:List Tk) {vs:List Tk} {p:Str} {s:SS} {k:Nat} {u:Int},LA f0 tx u0 k p (ws++vs) s u->(∀t∈ws,okT t/\t.2∈wdU)->s.cmp=true->CfV s.comp.cf->s.here+24*(ws.length:Int)+40<=4096 ->
  gL s.cs 0=10->ab s.comp.xt->(∀w∈wdU,∀e∈s.ext,pp e w=false)->k+ws.length<=tx.length+1 ->
  (∃q s',LA f0 tx u0 (k+ws.length) q vs s' u/\Pv (24*(ws.length:Int)) s s'/\CfV s'.comp.cf)\/(∃f s',At f s'/\Pv (24*(ws.length:Int)) s s'/\j6 f0 tx u0=(oR (tb f0 f),u,-22))
 | [],vs,p,s,k,u,h,_,_,v,_,_,_,_,_=>.inl ⟨p,s,h,(Pv.rf s).up (by simp),v⟩
 | t::ws,vs,p,s,k,u,h,ho,hc,v,hr,hb,fx,hE,hk=>by
  have hl:((t::ws).length:Int)=(ws.length:Int)+1:=by rw[List.length_cons];omega
  rw[hl]at hr
  have hk':k+(ws.length+1)<=tx.length+1:=hk
  rcases LA.dout (ws:=ws++vs) h (ho t (List.mem_cons_self ..)).1 (fun f a=>RJ a hc v (by omega) hb fx hE t.2 (ho t (List.mem_cons_self ..)).2)with ⟨s',h',pv,v'⟩|⟨f,a,e⟩
  ·have e8:=pv.g8 8 (Int.le_refl _)
   have e0:=pv.g8 0 (by decide)
   obtain⟨l,el⟩:=pv.comp
   have hc':s'.cmp=true:=by unfold SS.cmp at hc ⊢;rw[e8,el];exact hc
   have h1:=pv.h1
   rcases LA.douts ws h' (fun x hx=>ho x (List.mem_cons_of_mem _ hx)) hc' v' (by omega) (e0.trans hb) (by rw[el];exact fx) (by rw[pv.ext];exact hE) (by omega)with ⟨q,s2,h2,p2,v2⟩|⟨f,s2,a2,p2,e2⟩
   ·refine .inl ⟨q,s2,?_,(pv.tr p2).up (by rw[hl];omega),v2⟩
    rw[show k+(t::ws).length=k+1+ws.length by rw[List.length_cons];omega];exact h2
   exact .inr ⟨f,s2,a2,(pv.tr p2).up (by rw[hl];omega),e2⟩
  exact .inr ⟨f,s,a,(Pv.rf s).up (by omega),e (by omega)⟩
open Go.RowKit
def Rl{f:ae}{s:SS}(a:At f s)(hc:s.cmp=true)(hcf:s.comp.cf.length≠0){y:XI}(h:xiS s [59]=some y)(hi:y.x.flags%2=1)(h3:300<=y.k)(hn:bG.getD (y.k-300).toNat []=[59]){tx:Str}{p b u:Int}(hw:bu tx p=([59],b))(u0:0<=u)(u9:u<=5000):jv f tx p u=(f,p,u,true,-22):=by
 have ecf:f.comp=s.comp:=by obtain⟨m,rfl,hm⟩:=a.ex;rfl
 have hxt:s.comp.xt≠0:=by have:=hc;unfold SS.cmp at this;exact(oT this).1
 obtain⟨hf,ha,hk,hkk⟩:=xf h
 have ek:az f.vm y.x.xt=(y.k,0):=by rw[ou a ha (by rw[<-hk];exact hkk),hk]
 have ec:bJ (aI f tx b u).f=true:=by rw[show bJ (aI f tx b u).f=bJ f from rfl,ni a];exact hc
 have ee:kj f=(f,-22):=by
  have e:lM f = -22:=by unfold lM;rw[ecf,if_neg hxt,if_pos (by omega)]
  unfold kj
  rw[e,if_pos (by decide)]
 have eo:kU (aI f tx b (max u 0)) [59]=(oOk (aI f tx b u) (-22),false):=by
  rw[show max u 0=u by omega,mY (x:=y.x) (i:=(cd (du 167++s.ext) [59]).2.1) (by show cd f.vm.dict _=_;rw[kH a];exact hf)]
  rw[sE (l:=aI f tx b u) ek h3 (by rw[ec];simp) (by rw[ec,hi];rfl),hn,wC (g:=yJ) rfl]
  unfold yJ ka
  rw[show(aI f tx b u).f=f from rfl,ee,ok0 (show(aI f tx b u).err=0 from rfl)]
  rfl
 have q:=AL (f:=f) (s:=tx) (a:=p) (fuel:=u) (r:=(oOk (aI f tx b u) (-22),false)) (by rw[hw];exact List.cons_ne_nil _ _) (by rw[hw];exact eo) (by rw[ok0 rfl];show(-22:Int)≠0;decide) rfl
 rw[q,ok0 rfl,show max u 0=u by omega]
def CV{f0 f:ae}{s:SS}{x y:List aL}(a:At f s)(hx:s.comp.xt≠0)(he:s.ext=x++y)(hd:s.comp.dict=((167+x.length:Nat):Int)):
  (tb f0 f).vm.dict=du 167++x/\(tb f0 f).vm.here=s.comp.here/\(tb f0 f).comp.xt=0:=by
 obtain⟨m,rfl,hm⟩:=a.ex
 have e:iB ⟨vS s m,s.comp⟩=(ax8 (dv ⟨⟨vS s m,s.comp⟩,0⟩ 0) s.comp).f:=by unfold iB;rw[if_neg hx]
 have l167:(du 167).length=167:=by decide +kernel
 unfold tb
 rw[e]
 refine⟨?_,rfl,rfl⟩
 show(fZ (dv ⟨⟨vS s m,s.comp⟩,0⟩ 0).f.vm.dict s.comp.dict).1=_
 rw[tL (w:=⟨⟨vS s m,s.comp⟩,0⟩) hm (by decide) rfl]
 show(fZ (du 167++s.ext) s.comp.dict).1=_
 unfold fZ
 have hl:(du 167++s.ext).length=167+x.length+y.length:=by rw[List.length_append,he,List.length_append,l167];omega
 rw[if_neg (by rw[hl,hd];omega),hd]
 show(du 167++s.ext).take ((167+x.length:Nat):Int).toNat=_
 rw[Int.toNat_natCast,he,<-List.append_assoc]
 have:167+x.length=(du 167++x).length:=by rw[List.length_append,l167]
 rw[this,List.take_left']
 rfl
structure Zc (s:SS):Prop where
 comp:s.comp=im
 base:gL s.cs 0=10
 here:s.here<=2000
 ext:s.ext.length<=4
 no:∀w∈[58]::[59]::[110,111,115,117,99,104,119,111,114,100]::wdU,∀e∈s.ext,pp e w=false
def MB(x:List aL)(y:aL):xI (x++[y])=x:=by
 unfold xI
 rw[List.length_append,List.length_singleton,Nat.add_sub_cancel,List.take_left']
 rfl
def JB(x:List aL)(y:aL):tm (x++[y])=y:=by
 unfold tm
 rw[List.length_append,List.length_singleton,Nat.add_sub_cancel,List.getD_eq_getElem?_getD,List.getElem?_append_right (Nat.le_refl _),Nat.sub_self]
 rfl
def CN{w:aL}{n:Str}(h:FV w.name n=false):pp w n=false:=by unfold pp;rw[h,Bool.and_false]
def uv(s:SS)(k:Int):aL:=⟨[104,97,108,102],s.here,k⟩
def M1(s:SS)(k:Int):∀w∈[58]::[59]::[110,111,115,117,99,104,119,111,114,100]::wdU,pp (uv s k) w=false:=by
 have h:∀w∈[58]::[59]::[110,111,115,117,99,104,119,111,114,100]::wdU,FV [104,97,108,102] w=false:=by decide +kernel
 exact fun w hw=>CN (w:=uv s k) (h w hw)
def I0{s0:SS}(U:Zc s0){k:Int}:∀w∈[58]::[59]::[110,111,115,117,99,104,119,111,114,100]::wdU,∀e∈s0.ext++[uv s0 k],pp e w=false:=by
 intro w hw e he
 rcases List.mem_append.1 he with he|he
 ·exact U.no w hw e he
 rw[List.mem_singleton.1 he];exact M1 s0 k w hw
def tkU(ws:List Str):List Tk:=tk [58]::tk [104,97,108,102]::((ws.map tk++[([32],[84,72,69,78])])++[tk [59],tk [110,111,115,117,99,104,119,111,114,100]])
def Ia:∀w∈wdU,okT (tk w):=by
 have h:∀w∈wdU,(!w.isEmpty&&w.all fun c=>decide (32<c.toNat))=true:=by decide +kernel
 exact fun w hw=>kR (h w hw)
def Kk:okT ([32],[84,72,69,78]):=by
 refine⟨fun c hc=>?_,by decide,?_⟩
 ·rw[List.mem_singleton.1 hc];decide
 have:=(Ia [84,72,69,78] (by decide)).2.2;exact this
def ai6{f0:ae}{s0:SS}(a0:At f0 s0)(U:Zc s0){ws:List Str}(hw:∀w∈ws,w∈wdU)(hl:ws.length<=20):
  ∃x e,j6 f0 (ld (tkU ws)) 200=(x,200,e)/\x.comp.xt=0 /\
   ((x.vm.dict=du 167++s0.ext/\x.vm.here=s0.here/\e = -22)\/(e = -13/\∃y,x.vm.dict=du 167++s0.ext++[y])):=by
 have hh:=a0.h0
 have hc0:s0.comp.xt=0:=by rw[U.comp];rfl
 have i0:LA f0 (ld (tkU ws)) 200 0 [] (tkU ws) s0 200:=.init a0 (by decide) rfl
 have i1:=yz (n:=tk [104,97,108,102]) i0 (kR rfl) (kR rfl) (C5 (i:=130) (by decide) rfl a0.std (U.no [58] (List.mem_cons_self ..))) ⟨by decide +kernel,by decide +kernel⟩ hc0 (by have:=U.here;omega) (by decide) (by have:=U.ext;omega)
 let s1:SS:=s0.begun [104,97,108,102]
 have e1:s1.ext=s0.ext++[uv s0 2]:=rfl
 have h1:s1.here=s0.here+8:=rfl
 have g8:gL s1.cs 8 = -1:=rfl
 have g0:gL s1.cs 0=10:=by
  show jO (jO (gL s0.cs) s0.here 256) 8 (-1) 0=10
  unfold jO
  rw[if_neg (by decide),if_neg (by omega)];exact U.base
 have c1:s1.cmp=true:=by
  unfold SS.cmp
  exact decide_eq_true ⟨by show s0.here≠0;omega,by rw[g8];decide⟩
 have v1:CfV s1.comp.cf:=⟨(show(0:Nat)<=32 by decide),(fun c h=>by cases h),(fun c h=>by cases h)⟩
 have ll:((ws.map tk++[(([32],[84,72,69,78]):Tk)]).length:Int)<=21:=by rw[List.length_append,List.length_map];simp;omega
 have kk:1+(ws.map tk++[(([32],[84,72,69,78]):Tk)]).length+1<=(ld (tkU ws)).length+1:=by
  have q:=Kz (tkU ws) ?_
  ·have:(tkU ws).length=(ws.map tk++[(([32],[84,72,69,78]):Tk)]).length+4:=by unfold tkU;simp
   omega
  intro t ht
  unfold tkU at ht
  simp only[List.mem_cons,List.mem_append,List.mem_map,List.not_mem_nil,or_false]at ht
  rcases ht with rfl|rfl|((⟨w,h,rfl⟩|rfl)|(rfl|rfl))
  ·exact kR rfl
  ·exact kR rfl
  ·exact Ia w (hw w h)
  ·exact Kk
  ·exact kR rfl
  exact kR rfl
 have oo:∀t∈ws.map tk++[(([32],[84,72,69,78]):Tk)],okT t/\t.2∈wdU:=by
  intro t ht
  rcases List.mem_append.1 ht with ht|ht
  ·obtain⟨w,h,rfl⟩:=List.mem_map.1 ht;exact⟨Ia w (hw w h),hw w h⟩
  rw[List.mem_singleton.1 ht];exact⟨Kk,by decide⟩
 have up:∀w∈wdU,w∈[58]::[59]::[110,111,115,117,99,104,119,111,114,100]::wdU:=fun w h=>List.mem_cons_of_mem _ (List.mem_cons_of_mem _ (List.mem_cons_of_mem _ h))
 have fx:ab s1.comp.xt:=by show ab s0.here;have:=U.here;unfold ab;omega
 rcases LA.douts _ (s:=s1) i1 oo c1 v1 (by rw[h1];have:=U.here;omega) g0 fx (fun w h=>by rw[e1];exact I0 U w (up w h)) (by omega)with ⟨q,s',h2,pv,v⟩|⟨f,s',a,pv,e⟩
 case inr =>
  obtain⟨l,el⟩:=pv.comp
  have g:=CV (f0:=f0) (x:=s0.ext) (y:=[uv s0 2]) a (by rw[el];show s0.here≠0;omega) (by rw[pv.ext,e1]) (by rw[el];rfl)
  exact⟨_,_,e,g.2.2,.inl ⟨g.1,by rw[show(oR (tb f0 f)).vm.here=(tb f0 f).vm.here from rfl,g.2.1,el];rfl,rfl⟩⟩
 obtain⟨l,el⟩:=pv.comp
 obtain⟨f,a,g⟩:=h2.go
 have e':s'.ext=s0.ext++[uv s0 2]:=by rw[pv.ext,e1]
 have c':s'.cmp=true:=by have:=c1;unfold SS.cmp at this ⊢;rw[pv.g8 8 (Int.le_refl _),el];exact this
 have hx:xiS s' [59]=some ⟨gF 131,(kf 131:Int)⟩:=C5 (i:=131) (by decide) rfl a.std (by rw[e'];exact I0 U [59] (by decide))
 have pu:(1:Nat)+(ws.map tk++[(([32],[84,72,69,78]):Tk)]).length<=(ld (tkU ws)).length+1:=by omega
 by_cases hcf:s'.comp.cf.length=0
 case neg =>
  have hw2:bu (ld (tkU ws)) (q.length:Int)=([59],((nxT q (tk [59]) [tk [110,111,115,117,99,104,119,111,114,100]]).length:Int)):=by rw[h2.etx];exact sH q _ (kR rfl)
  have b:=AB g pu (Rl a c' hcf hx (by decide +kernel) (by decide +kernel) (by decide +kernel) hw2 h2.hu.1 h2.hu.2) (by decide)
  have g:=CV (f0:=f0) (x:=s0.ext) (y:=[uv s0 2]) a (by rw[el];show s0.here≠0;omega) e' (by rw[el];rfl)
  exact⟨_,_,b,g.2.2,.inl ⟨g.1,by rw[show(oR (tb f0 f)).vm.here=(tb f0 f).vm.here from rfl,g.2.1,el];rfl,rfl⟩⟩
 have ph:=pv.h1
 have hw3:cW s' [59]=some s'.ended:=by
  unfold cW
  rw[hx]
  dsimp only
  rw[if_pos ⟨c',by have:=U.here;rw[h1]at ph;omega⟩,if_neg (by decide +kernel),if_pos (by decide +kernel),if_pos (by decide +kernel),if_pos ⟨hcf,by rw[el];rfl,by rw[e'];simp,by rw[el,e'];simp;rfl⟩]
 have h3:=h2.step (kR rfl) (an9 hw3) ⟨Int.le_refl _,by decide⟩
 have ee:s'.ended.ext=s0.ext++[uv s0 (gQ 2)]:=by
  show xI s'.ext++[{tm s'.ext with flags:=gQ (tm s'.ext).flags}]=_
  rw[e',MB,JB];rfl
 have g0':gL s'.ended.cs 0=10:=by
  show jO (jO (gL s'.cs) s'.here 32) 8 0 0=10
  unfold jO
  have:=a.h0
  rw[if_neg (by decide),if_neg (by omega),pv.g8 0 (by decide)];exact g0
 obtain⟨x,ax,ex⟩:=h3.none a0 (kR rfl) (by omega) (by rw[ee,show(tk [110,111,115,117,99,104,119,111,114,100]).2=[110,111,115,117,99,104,119,111,114,100] from rfl,Ay _ _ _ (I0 U (k:=gQ 2) [110,111,115,117,99,104,119,111,114,100] (by decide))];kernel_rfl) (by rw[g0',show(tk [110,111,115,117,99,104,119,111,114,100]).2=[110,111,115,117,99,104,119,111,114,100] from rfl];kernel_rfl) rfl
 refine⟨x,-13,by rw[ex];rfl,?_,.inr ⟨rfl,uv s0 (gQ 2),?_⟩⟩
 ·obtain⟨m,rfl,hm⟩:=ax.ex;rfl
 rw[kH ax,List.append_assoc,<-ee]
def SS.Yi(s:SS)(name:Str):SS:={s with ext:=s.ext++[⟨name,s.here,0⟩],cs:=(s.here+8,0)::(s.here,257)::s.cs,here:=s.here+8+8,last:=s.here}
def SS.made3(s:SS)(name:Str)(n:Int):SS:={s with ext:=s.ext++[⟨name,s.here,0⟩],cs:=(s.here+8+8,n)::(s.here+8,0)::(s.here,258)::s.cs,here:=s.here+8+8+8}
def EQ:ab 258:=by unfold ab;omega
section
variable {s : SS} {m : bf} {name : Str} {n : Int}
def Up(hm:gP m 4096 (gL s.cs))(h0:1368<=s.here)(h8:s.here%8=0)(d r:List Int):gg (mk (vS s m) d r []) 4096 (gL s.cs):=⟨⟨hm,by decide,by decide,rfl,rfl⟩,by show 0<=s.here;omega,h8⟩
def FZ(he:s.ext.length<70):((du 167++s.ext).length:Int)<250:=by rw[List.length_append,l9];omega
def YE{a b c:Int}(h1:ab a)(h2:ab b)(h3:ab c):ew [a,b,c]:=fun x hx=>by simp at hx;rcases hx with rfl|rfl|rfl<;>assumption
def P4(hm:gP m 4096 (gL s.cs))(h0:1368<=s.here)(h8:s.here%8=0)(hr:s.here+24<=4096)(hn:cI name=0)(he:s.ext.length<70)(hv:ab n):
  ∃m',gP m' 4096 (gL (s.made3 name n).cs)/\∀(c:ti),c.xt=0->bR ⟨vS s m,c⟩ name false [258,0,n]=(⟨vS (s.made3 name n) m',c⟩,0):=by
 have h1:=hm.store EQ (a:=s.here) (eg.2 ⟨by omega,h8,by omega⟩)
 have h2:=h1.store bt (a:=s.here+8) (eg.2 ⟨by omega,by omega,by omega⟩)
 have h3:=h2.store hv (a:=s.here+8+8) (eg.2 ⟨by omega,by omega,by omega⟩)
 refine⟨stM (stM (stM m s.here 258) (s.here+8) 0) (s.here+8+8) n,h3,fun c hx=>?_⟩
 have q:=FZ he
 rw[wZ (f:=⟨vS s m,c⟩) (Up hm h0 h8 s.d []) hx (YE EQ bt hv) (by show s.here+8*((3:Nat):Int)<=4096;omega) hn (by show((du 167++s.ext).length:Int)<250;exact q) (by show((du 167++s.ext).length:Int)<1024;omega)]
 refine Prod.ext ?_ rfl
 unfold LB np SS.made3 vS gp bF
 dsimp only[List.foldl]
 rw[if_neg (by decide),List.append_assoc]
end
open Go.RowKit
def kNm(i:Nat):Str:=[107,UInt8.ofNat (48+i)]
def fU:Nat->ae
 | 0=>fO
 | k+1=>(bR (fU k) (kNm k) false [258,0,(k:Int)]).1
def sU:Nat->SS
 | 0=>sO
 | k+1=>(sU k).made3 (kNm k) k
def sG:∀k,(sU k).here=1368+24*(k:Int)
 | 0=>rfl
 | k+1=>by show(sU k).here+8+8+8=_;rw[sG k];omega
def wI:∀k,(sU k).ext.length=k
 | 0=>rfl
 | k+1=>by show((sU k).ext++[_]).length=_;rw[List.length_append,List.length_singleton,wI k]
def vv:∀k,(sU k).comp=im
 | 0=>rfl
 | k+1=>vv k
def K9:∀k,gL (sU k).cs 0=10
 | 0=>rfl
 | k+1=>by
  have h:=sG k
  show jO (jO (jO (gL (sU k).cs) (sU k).here 258) ((sU k).here+8) 0) ((sU k).here+8+8) (k:Int) 0=10
  unfold jO
  rw[if_neg (by omega),if_neg (by omega),if_neg (by omega)]
  exact K9 k
def G0:∀k,∀e∈(sU k).ext,∃i,i<k/\e.name=kNm i
 | 0,e,h=>by cases h
 | k+1,e,h=>by
  rcases List.mem_append.1 (show e∈(sU k).ext++[_] from h)with h|h
  ·obtain⟨i,hi,q⟩:=G0 k e h;exact⟨i,by omega,q⟩
  rw[List.mem_singleton.1 h];exact⟨k,by omega,rfl⟩
def vQ:∀i,i<4->cI (kNm i)=0:=by decide +kernel
def Ud{f:ae}{s:SS}(h:At f s){name:Str}{n:Int}(hr:s.here+24<=4096)(hn:cI name=0)(he:s.ext.length<70)(hv:ab n)(hx:s.comp.xt=0):
  At (bR f name false [258,0,n]).1 (s.made3 name n)/\(bR f name false [258,0,n]).2=0:=by
 have h0:=h.h0
 have h8:=h.h8
 have hs:=h.std
 obtain⟨m,rfl,hm⟩:=h.ex
 obtain⟨m',hm',q⟩:=P4 hm h0 h8 hr hn he hv
 rw[q s.comp hx]
 exact⟨⟨⟨m',rfl,hm'⟩,tP (tP (tP hs h0) (by omega)) (by omega),by show 1368<=s.here+8+8+8;omega,by show s.here+8+8+8<=4096;omega,by show(s.here+8+8+8)%8=0;omega,by show(s.ext++[_]).length<=80;rw[List.length_append,List.length_singleton];omega⟩,rfl⟩
def X0:∀k,k<=4->At (fU k) (sU k)
 | 0,_=>aw9
 | k+1,hk=>(Ud (X0 k (by omega)) (by rw[sG];omega) (vQ k (by omega)) (by rw[wI];omega) (by unfold ab;omega) (by rw[vv];rfl)).1
def ax5(k:Nat)(hk:k<=4):Zc (sU k):=by
 refine⟨vv k,K9 k,by rw[sG];omega,by rw[wI];exact hk,fun w hw e he=>?_⟩
 obtain⟨i,hi,q⟩:=G0 k e he
 have h:∀i,i<4->∀w∈[58]::[59]::[110,111,115,117,99,104,119,111,114,100]::wdU,FV (kNm i) w=false:=by decide +kernel
 exact CN (by rw[q];exact h i (by omega) w hw)
def an5(ws:List Str):ld (tkU ws)=[58,32,104,97,108,102,32]++(ws.flatMap fun w=>w++[32])++[32,84,72,69,78,32,59,32,110,111,115,117,99,104,119,111,114,100]:=by
 have h:∀ws:List Str,ld (tk [104,97,108,102]::((ws.map tk++[([32],[84,72,69,78])])++[tk [59],tk [110,111,115,117,99,104,119,111,114,100]]))=[104,97,108,102,32]++(ws.flatMap fun w=>w++[32])++[32,84,72,69,78,32,59,32,110,111,115,117,99,104,119,111,114,100]:=by
  have g:∀(ws:List Str) (v:Str),ld (tk v::((ws.map tk++[([32],[84,72,69,78])])++[tk [59],tk [110,111,115,117,99,104,119,111,114,100]]))=v++[32]++(ws.flatMap fun w=>w++[32])++[32,84,72,69,78,32,59,32,110,111,115,117,99,104,119,111,114,100]:=by
   intro ws
   induction ws with
   | nil=>intro v;simp[ld,tk]
   | cons w ws ih =>
    intro v
    rw[List.map_cons,List.cons_append,List.cons_append,List.flatMap_cons]
    show []++(v++(32::ld (tk w::((ws.map tk++[([32],[84,72,69,78])])++[tk [59],tk [110,111,115,117,99,104,119,111,114,100]]))))=_
    rw[ih w];simp
  intro ws
  exact g ws [104,97,108,102]
 unfold tkU
 show []++([58]++(32::ld _))=_
 rw[h];simp
def NE(v:VVm)(n:Int)(hm:cy v.mem)(hh:fG v.mem v.here):af prog 122 [eVm v,i64 n] (tVm (lT v n)):=by
 refine zY func122 fun B=>?_
 refine zu3 ?_
 refine zp5 ?_
 refine zc rfl func170 ((Nf v.mem v.here n hm hh) _) ?_
 refine zy5 ?_
 refine zs3 ?_
 refine zu3 ?_
 refine zu3 ?_
 refine zu4 ?_
 refine zR ?_
 rfl
def I9(s:Str)(hs:s.length<=1000000):af prog 121 [str s] (i64 (cI s)):=by
 refine zY func121 fun B=>?_
 refine zu1 ?_
 refine Ws<|zp2 ?_
 refine Wa 5 rfl (eM _) ?_
 refine zs1 ?_
 refine Wi rfl (fun hi1=>?_) (fun hi1=>?_)
 ·have q1:s.length=0:=by simpa using hi1
  refine zu1 ?_
  refine zR ?_
  (rw[cI,if_pos q1];rfl)
 have q1:¬s.length=0:=by simpa using hi1
 refine Wj<|Ws<|zp2 ?_
 refine Wa 8 rfl (eM _) ?_
 refine zs1 ?_
 refine Wi rfl (fun hi2=>?_) (fun hi2=>?_)
 ·have q2:31<s.length:=by have:=oT hi2;omega
  refine zu1 ?_
  refine zR ?_
  (rw[cI,if_neg q1,if_pos q2];rfl)
 have q2:¬31<s.length:=by have:=oF hi2;omega
 refine Wj<|Ws<|zu1 ?_
 refine Wl ?_
 show W _ _ _ _ _ _ _
 refine cQ (fun(k:Nat)=>[(0,str s),(3,i64 k)]) (fun(k:Nat)=>[]) (fun(k:Nat)=>[]) (fun(k:Nat)=>k<=s.length/\∀j,j<k->32<(s.getD j 0).toNat) (fun(k:Nat)=>s.length-k) (0) (by exact⟨Nat.zero_le _,fun j hj=>absurd hj (Nat.not_lt_zero _)⟩) [] ?_ ?_
 ·exact cV
 intro k hk
 refine Ws<|zp3 ?_
 refine Wa 12 rfl (eM _) ?_
 refine zs1 ?_
 refine Wi rfl (fun hi3=>?_) (fun hi3=>?_)
 ·have hlt:k<s.length:=by have:=oT hi3;omega
  refine Wj<|Ws<|Wl<|zp2 ?_
  refine z2 ?_ (q:=(by simp only[cE];omega))
  refine Wa 18 rfl (oO _ _) ?_
  refine zs1 ?_
  refine Wi rfl (fun hi4=>?_) (fun hi4=>?_)
  ·have q4:¬32<(s.getD k 0).toNat:=by have:=oT hi4;omega
   refine zu1 ?_
   refine zR ?_
   (rw[cI,if_neg q1,if_neg q2,E8 hlt q4];rfl)
  have q4:32<(s.getD k 0).toNat:=by have:=oF hi4;omega
  refine Wj<|aa rfl ?_
  refine zs3 ?_
  exact⟨k+1,[],(by exact⟨hlt,fun j hj=>by rcases Nat.lt_succ_iff_lt_or_eq.1 hj with h|h;exact hk.2 j h;rw[h];exact q4⟩),(by omega),cV⟩
 have hge:s.length<=k:=by have:=oF hi3;omega
 refine aU ?_
 refine zu1 ?_
 refine zR ?_
 (rw[cI,if_neg q1,if_neg q2,BS (fun j hj=>hk.2 j (by omega))];rfl)
def PK(l:List aL)(name:Str)(xt flags limit:Int)(hl:l.length<=100000)(hn:name.length<=1000000)(h0:0<=flags)(h7:flags<=7):af prog 90 [sq bP l,str name,i64 xt,i64 flags,i64 limit] (gY (sq bP (bU l name xt flags limit).1) (i64 (bU l name xt flags limit).2)):=by
 refine zY func90 fun B=>?_
 refine zu2 ?_
 refine zp1 ?_
 refine zc rfl func121 ((I9 name hn) _) ?_
 refine zs1 ?_
 refine Ws<|zu2 ?_
 refine Wi rfl (fun hi1=>?_) (fun hi1=>?_)
 ·have q1:cI name≠0:=by simpa using hi1
  refine zu4 ?_
  refine zR ?_
  (rw[bU,if_pos q1];rfl)
 have q1:¬cI name≠0:=by simpa using hi1
 refine Wj<|Ws<|zp3 ?_
 refine Wb 21 rfl (fun hg1=>?_) (fun hg1=>?_)
 ·have q2:flags<0:=oT hg1
  iterate 2 refine z6 ?_
  refine zs1 ?_
  refine Wt rfl rfl ?_
  refine zu3 ?_
  refine zR ?_
  (exact absurd q2 (by omega))
 refine zs3 ?_
 refine Wi rfl (fun hi2=>?_) (fun hi2=>?_)
 ·exact absurd (oT hi2) (by omega)
 refine Wj<|Ws<|zp5 ?_
 refine Wb 30 rfl (fun hg2=>?_) (fun hg2=>?_)
 ·have q4:(if 1024<limit then 1024 else limit)<=(l.length:Int):=by have:=oT hg2;split<;>omega
  iterate 3 refine z6 ?_
  refine zs1 ?_
  refine Wt rfl rfl ?_
  refine zu3 ?_
  refine zR ?_
  (rw[bU,if_neg q1,if_pos q4];rfl)
 have q3:¬limit<=(l.length:Int):=oF hg2
 refine zs4 ?_
 refine Wi rfl (fun hi3=>?_) (fun hi3=>?_)
 ·have q4:(if 1024<limit then 1024 else limit)<=(l.length:Int):=by have:=oT hi3;split<;>omega
  refine zu3 ?_
  refine zR ?_
  (rw[bU,if_neg q1,if_pos q4];rfl)
 have q4:¬(if 1024<limit then 1024 else limit)<=(l.length:Int):=by have:=oF hi3;split<;>omega
 refine Wj<|zp2 ?_
 refine Wd rfl rfl (bK (lO tG rfl) rfl (lO tG rfl) (lO tG rfl) rfl rfl (by exact⟨_,rfl⟩) (by exact⟨rfl,rfl,al _ 3 (fun _=>rfl) _,bi _ (fun _=>rfl) _⟩) (by rfl) (by(dsimp only;omega)) (by(omega))) ?_
 refine Wa 38 rfl (sr bP) ?_
 refine zy5 ?_
 refine Wa 43 rfl ((show _=PV.seq (List.length [(⟨name,xt,flags⟩:aL)]) (List.flatMap bP [(⟨name,xt,flags⟩:aL)]) .clip from rfl)) ?_
 refine Wd rfl rfl (cH (lO tG rfl) rfl (lO tG rfl) (lO tG rfl) rfl rfl rfl rfl (by simp) (by exact⟨_,rfl⟩) (by exact⟨rfl,rfl,al _ 3 (fun _=>rfl) _,bi _ (fun _=>rfl) _⟩) (by((simp_all;omega))) (by((simp_all;omega)))) ?_
 refine Wa 44 rfl (bT bP) ?_
 refine zs2 ?_
 refine zR ?_
 (rw[bU,if_neg q1,if_neg q4];rfl)
structure LT (v:VVm) (L:Nat) (l:List Int) (s:Nat×VVm):Prop where
 le:s.1<=l.length
 e:s.2=np v (l.take s.1)
 r:∃g,gg s.2 L g
 h:s.2.here=v.here+8*(s.1:Int)
 fk:FK (l.length-s.1) ⟨s.2,im⟩
def LT.next{v:VVm}{L:Nat}{l:List Int}{s:Nat×VVm}(h:LT v L l s)(hk:s.1<l.length)(hr:v.here+8*(l.length:Int)<=L)(hf:ew l):lT s.2 (l.getD s.1 0)=(bF s.2 (l.getD s.1 0),0)/\LT v L l (s.1+1,(lT s.2 (l.getD s.1 0)).1):=by
 obtain⟨g,R⟩:=h.r
 have hh:=h.h
 have hq:s.2.here+8<=L:=by omega
 have e:=x8 (n:=l.getD s.1 0) R hq
 refine⟨e,hk,?_,?_,?_,SN (f:=⟨s.2,im⟩) (h.fk.down (by show l.length-(s.1+1)+1<=_;omega)) _⟩
 ·show(lT s.2 (l.getD s.1 0)).1=np v (l.take (s.1+1))
  rw[e,fI l s.1 0 hk]
  unfold np
  rw[List.foldl_append]
  have:=h.e
  unfold np at this
  rw[<-this];rfl
 ·show ∃g,gg (lT s.2 (l.getD s.1 0)).1 L g
  rw[e]
  exact⟨_,gx R hq (hf _ (by rw[List.getD_eq_getElem?_getD,List.getElem?_eq_getElem hk];exact List.getElem_mem hk))⟩
 show(lT s.2 (l.getD s.1 0)).1.here=_
 rw[e]
 show s.2.here+8=v.here+8*((s.1+1:Nat):Int)
 omega
def Jw(v:VVm)(l:List Int){L:Nat}{g:Int->Int}(R:gg v L g)(hf:ew l)(hr:v.here+8*(l.length:Int)<=L)(hl:l.length<=1000)(h:FK l.length ⟨v,im⟩):af prog 91 [eVm v,sq au l] (tVm (np v l,0)):=by
 refine zY func91 fun B=>?_
 refine zu3 ?_
 refine zu3 ?_
 refine Ws<|zu1 ?_
 refine Wl ?_
 show W _ _ _ _ _ _ _
 refine cQ (fun(s:(Nat×VVm))=>[(1,sq au l),(2,.ptr 0 0),(4,.ptr 1 0),(6,.ptr 2 0),(7,i64 s.1)]) (fun(s:(Nat×VVm))=>[.cells (cVm v) 37,.cells zVm 37,.cells (cVm s.2) 37]) (fun(s:(Nat×VVm))=>[]) (fun(s:(Nat×VVm))=>LT v L l s) (fun(s:(Nat×VVm))=>l.length-s.1) ((0,v)) (by exact⟨Nat.zero_le _,rfl,⟨g,R⟩,by show v.here=v.here+8*((0:Nat):Int);omega,h⟩) [] ?_ ?_
 ·exact cV
 intro s hs
 refine Ws<|zu4 ?_
 refine Wi rfl (fun hi1=>?_) (fun hi1=>?_)
 ·have hlt:s.1<l.length:=by have:=oT hi1;omega
  have nx:=hs.next hlt hr hf
  refine Wj<|Ws<|Wl<|Ws<|am [8,0,0,0,1,0,0,0,0,2,3,0] [0,1,2,3,4,5,6,7,8,9,10,11] mG rfl (by kernel_rfl) ?_
  refine zU 2 ?_
  iterate 2 refine z3 ?_
  refine Xi tG rfl rfl rfl rfl (fun _=>rfl) (by omega) (iN au 1 (fun _=>rfl) 0 (by omega)) ?_
  refine z5 ?_
  refine Xc rfl rfl rfl rfl (fun _=>dC rfl func122 rfl rfl ((NE s.2 (l.getD s.1 0) hs.fk.mem hs.fk.here) _)) ?_
  iterate 3 refine z3 ?_
  refine mj tG rfl rfl rfl rfl rfl trivial rfl ?_
  refine ct tG rfl rfl rfl rfl rfl trivial ?_
  refine z3 ?_
  refine ap ?_
  refine Ws<|zu2 ?_
  refine Wi rfl (fun hi2=>?_) (fun hi2=>?_)
  ·exact absurd hi2 (by rw[nx.1];show ¬((0:Int) != 0)=true;decide)
  refine Wj<|aa rfl ?_
  refine zs2 ?_
  refine aa rfl ?_
  refine zs3 ?_
  exact⟨(s.1+1,(lT s.2 (l.getD s.1 0)).1),[],(by exact nx.2),(by omega),cV⟩
 have hge:l.length<=s.1:=by have:=oF hi1;omega
 refine aU ?_
 refine zu3 ?_
 refine zR ?_
 rw[hs.e,List.take_of_length_le hge];rfl
def Mm(v:VVm)(name:Str)(l:List Int){L:Nat}{g:Int->Int}(R:gg v L g)(hf:ew l)(hr:v.here+8*(l.length:Int)<=L)(hl:l.length<=1000)(h:FK (l.length+1) ⟨v,im⟩)(hn:cI name=0)(hw:(v.dict.length:Int)<v.conf.words)(hw2:(v.dict.length:Int)<1024)(hm:name.length<=1000000):
  af prog 50 [eVm v,str name,i64 0,sq au l] (.tup [eVm (np (gp v name 0) l),i64 v.here,i64 0]):=by
 have pA:=Fb v.mem v.here h.mem h.here
 rw[sJ R (by omega)]at pA
 have pD:=PK v.dict name v.here 0 v.conf.words (by omega) hm (by decide) (by decide)
 have q:=OG (name:=name) (xt:=v.here) (flags:=0) (limit:=v.conf.words) h.dict h.each (by decide) (by decide)
 have ea:=KZ (xt:=v.here) (flags:=0) hn hw hw2
 rw[ea]at pD q
 have pC:=Jw (gp v name 0) l (ox R 0) hf hr hl ⟨h.b,(h.down (by omega)).old,h.h0,h.h1,q.1,q.2,h.hand⟩
 refine zY func50 fun B=>?_
 refine zu4 ?_
 refine zp4 ?_
 refine zc rfl func89 ((pA) _) ?_
 refine zy5 ?_
 refine zs3 ?_
 refine Ws<|zu2 ?_
 refine Wf rfl (by rfl) ?_
 refine Wj<|zp5 ?_
 refine zy3 ?_
 refine zc rfl func90 ((pD) _) ?_
 refine zs5 ?_
 refine Ws<|zu2 ?_
 refine Wf rfl (by rfl) ?_
 refine Wj<|zu3 ?_
 refine zu3 ?_
 refine zu3 ?_
 refine zu3 ?_
 refine zp2 ?_
 refine zc rfl func91 ((pC) _) ?_
 refine zy5 ?_
 refine zs1 ?_
 refine Ws<|zu2 ?_
 refine Wf rfl (by rfl) ?_
 refine Wj<|zu5 ?_
 refine zR ?_
 rfl
def tu(f:ae)(s:SS)(a:At f s)(name:Str)(n:Int)(hx:s.comp.xt=0)(hr:s.here+24<=4096)(hn:cI name=0)(he:s.ext.length<70)(hv:ab n)(hm:name.length<=1000000)(h:FK 4 f):af prog 11 [bE f,str name,i64 n] (gE (bR f name false [258,0,n])):=by
 obtain⟨m,rfl,hM⟩:=a.ex
 have R:=a.room hM
 have q:=FZ he
 have hf:ew [258,0,n]:=YE EQ bt hv
 have pW:=Mm (vS s m) name [258,0,n] R hf (by show s.here+8*((3:Nat):Int)<=((4096:Nat):Int);omega) (by simp) ⟨h.b,h.old,h.h0,h.h1,h.dict,h.each,h.hand⟩ hn (by show((du 167++s.ext).length:Int)<250;exact q) (by show((du 167++s.ext).length:Int)<1024;omega) hm
 rw[wZ (f:=⟨vS s m,s.comp⟩) R hx hf (by show s.here+8*((3:Nat):Int)<=4096;omega) hn (by show((du 167++s.ext).length:Int)<250;exact q) (by show((du 167++s.ext).length:Int)<1024;omega)]
 have pC:af prog 25 [bE ⟨vS s m,s.comp⟩,str name,boo false,sq au [258,0,n]] (gE (⟨LB (vS s m) name false [258,0,n],s.comp⟩,0)):=by
  refine zY func25 fun B=>?_
  refine zu3 ?_
  refine Ws<|zu4 ?_
  refine Wf rfl (by rw[bne_eq_false_iff_eq];exact hx) ?_
  refine Wj<|zp4 ?_
  refine zc rfl func50 ((pW) _) ?_
  refine zy5 ?_
  refine zs3 ?_
  refine Ws<|zu2 ?_
  refine Wf rfl (by rfl) ?_
  refine Wj<|Ws<|zu1 ?_
  refine Wf rfl (by rfl) ?_
  refine Wj<|zp5 ?_
  refine zs1 ?_
  refine zR ?_
  rfl
 refine zY func11 fun B=>?_
 refine zu3 ?_
 refine zp4 ?_
 refine Wa 11 rfl ((show _=PV.seq (List.length [(258:Int),0,n]) (List.flatMap au [(258:Int),0,n]) .clip from rfl)) ?_
 refine zc rfl func25 ((pC) _) ?_
 refine zs4 ?_
 refine zR ?_
 rfl
open Go.WideShapes
def JK{P:Program}{a:Addr}{f:FuncId}{args:List PV}{vs:List Value}{w:World}(hf:aG args)(h:∀(H:List Ob),(∀o∈fS a,∃k:Nat,H[k]?=some o)->HC P f args H (.val (.bool true)) H)
  (h0:w.cell? ⟨1,0,none⟩=some (haltV a)) (h1:w.cell? ⟨0,0,none⟩=some etV) (hr:ay (c0 w) args vs) :
  Calls P f vs.toArray w fun e w'=>e=.returned (.bool true)/\Below w.heap.size w w':=by
 have dull:∀{j:Nat} {oj:Ob},(fS a)[j]?=some oj->oj.live=true->False:=fun q1 q2=>by
  obtain⟨g,u,rfl⟩:=ey a _ (List.mem_of_getElem? q1);cases q2
 have nw:∀b off,¬(False\/j8 (fun _=>none) (fS a) b off):=by
  rintro b off (q|⟨i,oi,q1,_,q3⟩)
  ·exact q
  obtain⟨g,u,rfl⟩:=ey a _ (List.mem_of_getElem? q1);cases q3
 have s:Sim (fun _ _=>False) (fS a) (fun _=>none) w:=by
  refine⟨fun i j b oi oj q _ l=>(dull q l).elim,fun i b oi q l=>(dull q l).elim,fun b off q=>q.elim,fun i oi q=>?_⟩
  have hm:=List.mem_of_getElem? q
  unfold fS at hm
  simp only[List.mem_cons,List.not_mem_nil,or_false]at hm
  rcases hm with rfl|rfl
  ·exact⟨h0,nw _ _⟩
  exact⟨h1,nw _ _⟩
 have hr':ay (cx (fun _ _=>False) (fS a) (fun _=>none) w) args vs:=dj (c:=c0 w) (c':=cx (fun _ _=>False) (fS a) (fun _=>none) w) rfl (fun b off q=>(nw b off q).elim) hf hr
 refine Calls.mono (h (fS a) (fun o ho=>by obtain⟨k,hk⟩:=List.getElem?_of_mem ho;exact⟨k,hk⟩) (fun _ _=>False) (fun _=>none) w vs s hr') ?_
 rintro e w' ⟨v,σ',rfl,h1,_,h3⟩
 unfold Rep at h1
 subst h1
 exact⟨rfl,⟨h3.os,h3.tape,h3.output,h3.size,fun b hb=>h3.block b hb (fun i oi hi hl=>(dull hi hl).elim)⟩⟩
def PM{w:World}{v:Value}(h:zL w 5 v):∃k:Nat,k<256/\Rep (c0 w) (.val (.int .u8 (k:Int))) v:=by
 obtain⟨n,rfl,h2⟩:=Om underlying5 h
 have h3:0<=n/\n<=255:=by simp[Lit.wf,IntKind.min,IntKind.max,IntKind.bits,IntKind.signed]at h2;omega
 obtain⟨k,rfl⟩:∃k:Nat,n=(k:Int):=⟨n.toNat,by omega⟩
 exact⟨k,by omega,av _ _⟩
open Go.WideShapes
def GK{w:World}{v:Value}(h:zL w 22 v):∃l:List UInt8,l.length<=9223372036854775807/\Rep (c0 w) (sq ar l) v:=by
 obtain⟨a,len,cap,rfl,hr⟩:=Fv underlying22 h
 obtain⟨l,h1,h3⟩:=Qe hr
 exact⟨l,h1,(ai.1 h3).1⟩
def okU:∀k,OkF (4*k) (fU k)
 | 0=>okO
 | k+1=>(lQ (okU k) (kNm k) false [258,0,(k:Int)]).up (by simp;omega)
def wU(c:UInt8):Str:=wdU.getD (c.toNat%18) []
def sT(ps:List UInt8)(i:Nat):Str:=[58,32,104,97,108,102,32]++(ps.take i).flatMap fun c=>wU c++[32]
def D7{ps:List UInt8}{i:Nat}(h:i<ps.length):sT ps i++wU (ps.getD i 0)++[32]=sT ps (i+1):=by
 unfold sT
 rw[fI ps i 0 h,List.flatMap_append]
 simp
def EK(c:UInt8):wU c∈wdU/\(wU c).length<=7:=by
 have h:∀k,k<18->wdU.getD k []∈wdU/\(wdU.getD k []).length<=7:=by decide +kernel
 exact h _ (Nat.mod_lt _ (by decide))
def wh(ps:List UInt8):∀i,i<=ps.length->(sT ps i).length<=7+8*i
 | 0,_=>by unfold sT;simp
 | i+1,h=>by
  have ih:=wh ps i (by omega)
  have w:=(EK (ps.getD i 0)).2
  rw[<-D7 (by omega)]
  simp only[List.length_append,List.length_singleton]
  omega
def kb:∀k:Nat,k<4->IntKind.u8.wrap (IntKind.i64.wrap (48+(k:Int)))=((UInt8.ofNat (48+k)).toNat:Int):=by
 intro k hk
 rcases(by omega:k=0\/k=1\/k=2\/k=3)with rfl|rfl|rfl|rfl<;>rfl
def xg{k:Nat}(hk:k<256)(n:Nat)(hn:0<n):IntKind.i64.wrap (k:Int)=(k:Int)/\((k:Int)).tmod (n:Int)=((k%n:Nat):Int):=by
 constructor
 ·simp only[bB];unfold wrap64;omega
 rw[Int.tmod_eq_emod_of_nonneg (by omega)];omega
section
variable (a : Addr) (n : Nat) (hn : n < 256) (ps : List UInt8) (hps : ps.length <= 9223372036854775807) (sh : PG a 9 [] (boo true)) (x : ae) (u : Int)
include hn hps sh
def AP(hU:ps.length<=20->PG a 12 [bE (fU (n%5)),str (sT ps ps.length++[32,84,72,69,78,32,59,32,110,111,115,117,99,104,119,111,114,100]),i64 200] (qY (x,u,-22))/\x.comp.xt=0/\x.vm.dict=(fU (n%5)).vm.dict/\x.vm.here=(fU (n%5)).vm.here/\x.vm.dict.length<=1000):
  ∀(H:List Ob),(∀o∈fS a,∃k:Nat,H[k]?=some o)->HC prog 3 [.val (.int .u8 (n:Int)),sq ar ps] H (boo true) H:=by
 have kw:=(xg hn 5 (by decide)).1
 have km:=(xg hn 5 (by decide)).2
 refine fh (ey a) tG (rs:=[.tmp 4]) func3 rfl rfl rfl (by simp) (by simp) (fun B=>?_)
 refine zu1 ?_
 refine z8 ?_
 refine zc rfl func9 (sh _ (bO 0 1 rfl rfl)) ?_
 refine zs1 ?_
 refine Ws<|zu3 ?_
 refine Wi rfl (fun hi1=>?_) (fun hi1=>?_)
 ·refine zu2 ?_
  refine zR ?_
  rfl
 have h20:ps.length<=20:=by have:=oF hi1;omega
 obtain⟨pL,ex,ed,eh,el⟩:=hU h20
 refine Wj<|z8 ?_
 refine zc rfl func10 ((wt) _) ?_
 refine zs2 ?_
 refine Ws<|zu1 ?_
 refine Wl ?_
 show W _ _ _ _ _ _ _
 refine cQ (fun(k:Nat)=>[(0,.val (.int .u8 (n:Int))),(1,sq ar ps),(5,boo true),(6,.ptr 2 0),(7,i64 k)]) (fun(k:Nat)=>[.glob 1 (haltV a),.glob 0 etV,.cells (gA (fU k)) 42]) (fun(k:Nat)=>[]) (fun(k:Nat)=>k<=n%5) (fun(k:Nat)=>n%5-k) (0) (by exact Nat.zero_le _) [] ?_ ?_
 ·exact cV
 intro k hk
 refine Ws<|zp3 ?_
 refine Wa 26 rfl (zI9 kw) ?_
 refine z1 ?_
 refine Wa 27 rfl (zI9 km) ?_
 refine zs1 ?_
 refine Wi rfl (fun hi2=>?_) (fun hi2=>?_)
 ·have hlt:k<n%5:=by have:=oT hi2;omega
  refine Wj<|Ws<|Wl<|zp5 ?_
  refine Wa 36 rfl ((show PV.seq 2 [PV.val (.int .u8 107),PV.val (.int .u8 (IntKind.u8.wrap (IntKind.i64.wrap (48+(k:Int)))))] .clip=.seq (List.length (kNm k)) (List.flatMap ar (kNm k)) .clip by rw[kb k (by omega)];rfl)) ?_
  refine Wd rfl rfl (i6 (lO tG rfl) rfl (lO tG rfl) rfl (lO tG rfl) rfl rfl rfl) ?_
  refine z1 ?_
  refine zc rfl func11 ((tu (fU k) (sU k) (X0 k (by omega)) (kNm k) k (by rw[vv];rfl) (by rw[sG];omega) (vQ k (by omega)) (by rw[wI];omega) (by unfold ab;omega) (by show(2:Nat)<=_;decide) ((okU k).fk (by omega))) _) ?_
  refine zy5 ?_
  refine zs1 ?_
  refine aa rfl ?_
  refine zs2 ?_
  refine aa rfl ?_
  refine zs3 ?_
  exact⟨k+1,[],(by exact hlt),(by omega),cV⟩
 have hk5:k=n%5:=by have:=oF hi2;omega
 subst hk5
 refine aU ?_
 refine zp1 ?_
 refine Wa 43 rfl ((show PV.seq 18 _ .clip=.seq (List.length wdU) (List.flatMap fa wdU) .clip from rfl)) ?_
 refine zs1 ?_
 refine zu1 ?_
 refine Ws<|zu1 ?_
 refine Wl ?_
 show W _ _ _ _ _ _ _
 refine cQ (fun(i:Nat)=>[(1,sq ar ps),(5,boo true),(6,.ptr 2 0),(10,sq fa wdU),(11,str (sT ps i)),(12,i64 i)]) (fun(i:Nat)=>[.glob 1 (haltV a),.glob 0 etV,.cells (gA (fU (n%5))) 42]) (fun(i:Nat)=>[]) (fun(i:Nat)=>i<=ps.length) (fun(i:Nat)=>ps.length-i) (0) (by exact Nat.zero_le _) [] ?_ ?_
 ·exact cV
 intro i hi
 refine Ws<|zu4 ?_
 refine Wi rfl (fun hi3=>?_) (fun hi3=>?_)
 ·have hlt:i<ps.length:=by have:=oT hi3;omega
  have h256:(ps.getD i 0).toNat<256:=by have:=(ps.getD i 0).toNat_lt;omega
  have kwi:=(xg h256 18 (by decide)).1
  have kmi:(((ps.getD i 0).toNat:Nat):Int).tmod ((wdU.length:Nat):Int)=(((ps.getD i 0).toNat%18:Nat):Int):=(xg h256 18 (by decide)).2
  have m18:(ps.getD i 0).toNat%18<18:=Nat.mod_lt _ (by decide)
  have l18:wdU.length=18:=rfl
  have hlen:=wh ps i (by omega)
  have hw:(wdU.getD ((ps.getD i 0).toNat%18) []).length<=7:=(EK (ps.getD i 0)).2
  refine Wj<|Ws<|Wl<|aa rfl ?_
  refine zy4 ?_
  refine Wv tG rfl rfl rfl (by omega) (iN ar 1 (fun _=>rfl) 0 (by omega)) ?_
  refine zy2 ?_
  refine Wa 56 rfl (zI9 kwi) ?_
  refine zy3 ?_
  refine Wa 59 rfl (zI9 kmi) ?_
  refine Wv tG rfl rfl rfl (by omega) (iN fa 1 (fun _=>rfl) [] (by omega)) ?_
  refine z1 ?_
  refine z2 ?_ (q:=(by simp only[cE];omega))
  refine Wa 62 rfl (jS _ _) ?_
  refine z2 ?_ (q:=(by simp only[cE];((simp_all;omega))))
  refine Wa 63 rfl (jS _ _) ?_
  refine Wa 63 rfl (congrArg str (D7 hlt)) ?_
  refine zs1 ?_
  refine aa rfl ?_
  refine zs3 ?_
  exact⟨i+1,[],(by exact hlt),(by omega),cV⟩
 have hge:i=ps.length:=by have:=oF hi3;omega
 subst hge
 have hlen:=wh ps ps.length (Nat.le_refl _)
 refine aU ?_
 refine zp2 ?_
 refine z2 ?_ (q:=(by simp only[cE];((simp_all;omega))))
 refine Wa 67 rfl (jS _ _) ?_
 refine zc rfl func12 (pL _ (bO 0 1 rfl rfl)) ?_
 refine zy5 ?_
 refine zs3 ?_
 refine zp5 ?_
 refine z1 ?_
 refine zc rfl func13 ((wN x.vm.dict (fU (n%5)).vm.dict (by omega) (by rw[<-ed];omega)) _) ?_
 refine z1 ?_
 refine dF 79 rfl (by exact decide_eq_true ed) ?_
 refine zy5 ?_
 refine zy4 ?_
 refine dF 88 rfl (by exact decide_eq_true eh) ?_
 refine zs4 ?_
 refine Ws<|am [0,0,0,0,0,1,0,0,0,1,0,0,0,0,0,0,0,1,0,0,1,0,0,0,0,1,0,0,0] [0,1,2,3,4,5,6,7,8,9,10,11,12,13,14,15,16,17,18,19,20,21,22,23,24,25,26,27,28] mG rfl (by kernel_rfl) ?_
 iterate 3 refine z3 ?_
 refine GA 94 rfl (by rfl) ?_
 iterate 10 refine z7 ?_
 iterate 2 refine z3 ?_
 iterate 12 refine z7 ?_
 iterate 2 refine z3 ?_
 refine ap ?_
 refine zp2 ?_
 refine dF 121 rfl (by rfl) ?_
 refine zy5 ?_
 refine z1 ?_
 refine dF 127 rfl (by exact decide_eq_true ex) ?_
 refine zy2 ?_
 refine dF 129 rfl (by rfl) ?_
 refine z6 ?_
 refine zs3 ?_
 refine zR ?_
 rfl
def JX(y:aL)(hU:ps.length<=20->PG a 12 [bE (fU (n%5)),str (sT ps ps.length++[32,84,72,69,78,32,59,32,110,111,115,117,99,104,119,111,114,100]),i64 200] (qY (x,u,-13))/\x.comp.xt=0/\x.vm.dict=(fU (n%5)).vm.dict++[y]/\x.vm.dict.length<=1000):
  ∀(H:List Ob),(∀o∈fS a,∃k:Nat,H[k]?=some o)->HC prog 3 [.val (.int .u8 (n:Int)),sq ar ps] H (boo true) H:=by
 have kw:=(xg hn 5 (by decide)).1
 have km:=(xg hn 5 (by decide)).2
 refine fh (ey a) tG (rs:=[.tmp 4]) func3 rfl rfl rfl (by simp) (by simp) (fun B=>?_)
 refine zu1 ?_
 refine z8 ?_
 refine zc rfl func9 (sh _ (bO 0 1 rfl rfl)) ?_
 refine zs1 ?_
 refine Ws<|zu3 ?_
 refine Wi rfl (fun hi1=>?_) (fun hi1=>?_)
 ·refine zu2 ?_
  refine zR ?_
  rfl
 have h20:ps.length<=20:=by have:=oF hi1;omega
 obtain⟨pL,ex,ed,el⟩:=hU h20
 have ln:x.vm.dict.length=(fU (n%5)).vm.dict.length+1:=by rw[ed,List.length_append,List.length_singleton]
 have nb:¬x.vm.dict=(fU (n%5)).vm.dict:=fun z=>by rw[z]at ln;omega
 have tk1:(x.vm.dict.take (((fU (n%5)).vm.dict.length:Nat):Int).toNat).drop 0=(fU (n%5)).vm.dict:=by rw[List.drop_zero,Int.toNat_natCast,ed,List.take_left' rfl]
 refine Wj<|z8 ?_
 refine zc rfl func10 ((wt) _) ?_
 refine zs2 ?_
 refine Ws<|zu1 ?_
 refine Wl ?_
 show W _ _ _ _ _ _ _
 refine cQ (fun(k:Nat)=>[(0,.val (.int .u8 (n:Int))),(1,sq ar ps),(5,boo true),(6,.ptr 2 0),(7,i64 k)]) (fun(k:Nat)=>[.glob 1 (haltV a),.glob 0 etV,.cells (gA (fU k)) 42]) (fun(k:Nat)=>[]) (fun(k:Nat)=>k<=n%5) (fun(k:Nat)=>n%5-k) (0) (by exact Nat.zero_le _) [] ?_ ?_
 ·exact cV
 intro k hk
 refine Ws<|zp3 ?_
 refine Wa 26 rfl (zI9 kw) ?_
 refine z1 ?_
 refine Wa 27 rfl (zI9 km) ?_
 refine zs1 ?_
 refine Wi rfl (fun hi2=>?_) (fun hi2=>?_)
 ·have hlt:k<n%5:=by have:=oT hi2;omega
  refine Wj<|Ws<|Wl<|zp5 ?_
  refine Wa 36 rfl ((show PV.seq 2 [PV.val (.int .u8 107),PV.val (.int .u8 (IntKind.u8.wrap (IntKind.i64.wrap (48+(k:Int)))))] .clip=.seq (List.length (kNm k)) (List.flatMap ar (kNm k)) .clip by rw[kb k (by omega)];rfl)) ?_
  refine Wd rfl rfl (i6 (lO tG rfl) rfl (lO tG rfl) rfl (lO tG rfl) rfl rfl rfl) ?_
  refine z1 ?_
  refine zc rfl func11 ((tu (fU k) (sU k) (X0 k (by omega)) (kNm k) k (by rw[vv];rfl) (by rw[sG];omega) (vQ k (by omega)) (by rw[wI];omega) (by unfold ab;omega) (by show(2:Nat)<=_;decide) ((okU k).fk (by omega))) _) ?_
  refine zy5 ?_
  refine zs1 ?_
  refine aa rfl ?_
  refine zs2 ?_
  refine aa rfl ?_
  refine zs3 ?_
  exact⟨k+1,[],(by exact hlt),(by omega),cV⟩
 have hk5:k=n%5:=by have:=oF hi2;omega
 subst hk5
 refine aU ?_
 refine zp1 ?_
 refine Wa 43 rfl ((show PV.seq 18 _ .clip=.seq (List.length wdU) (List.flatMap fa wdU) .clip from rfl)) ?_
 refine zs1 ?_
 refine zu1 ?_
 refine Ws<|zu1 ?_
 refine Wl ?_
 show W _ _ _ _ _ _ _
 refine cQ (fun(i:Nat)=>[(1,sq ar ps),(5,boo true),(6,.ptr 2 0),(10,sq fa wdU),(11,str (sT ps i)),(12,i64 i)]) (fun(i:Nat)=>[.glob 1 (haltV a),.glob 0 etV,.cells (gA (fU (n%5))) 42]) (fun(i:Nat)=>[]) (fun(i:Nat)=>i<=ps.length) (fun(i:Nat)=>ps.length-i) (0) (by exact Nat.zero_le _) [] ?_ ?_
 ·exact cV
 intro i hi
 refine Ws<|zu4 ?_
 refine Wi rfl (fun hi3=>?_) (fun hi3=>?_)
 ·have hlt:i<ps.length:=by have:=oT hi3;omega
  have h256:(ps.getD i 0).toNat<256:=by have:=(ps.getD i 0).toNat_lt;omega
  have kwi:=(xg h256 18 (by decide)).1
  have kmi:(((ps.getD i 0).toNat:Nat):Int).tmod ((wdU.length:Nat):Int)=(((ps.getD i 0).toNat%18:Nat):Int):=(xg h256 18 (by decide)).2
  have m18:(ps.getD i 0).toNat%18<18:=Nat.mod_lt _ (by decide)
  have l18:wdU.length=18:=rfl
  have hlen:=wh ps i (by omega)
  have hw:(wdU.getD ((ps.getD i 0).toNat%18) []).length<=7:=(EK (ps.getD i 0)).2
  refine Wj<|Ws<|Wl<|aa rfl ?_
  refine zy4 ?_
  refine Wv tG rfl rfl rfl (by omega) (iN ar 1 (fun _=>rfl) 0 (by omega)) ?_
  refine zy2 ?_
  refine Wa 56 rfl (zI9 kwi) ?_
  refine zy3 ?_
  refine Wa 59 rfl (zI9 kmi) ?_
  refine Wv tG rfl rfl rfl (by omega) (iN fa 1 (fun _=>rfl) [] (by omega)) ?_
  refine z1 ?_
  refine z2 ?_ (q:=(by simp only[cE];omega))
  refine Wa 62 rfl (jS _ _) ?_
  refine z2 ?_ (q:=(by simp only[cE];((simp_all;omega))))
  refine Wa 63 rfl (jS _ _) ?_
  refine Wa 63 rfl (congrArg str (D7 hlt)) ?_
  refine zs1 ?_
  refine aa rfl ?_
  refine zs3 ?_
  exact⟨i+1,[],(by exact hlt),(by omega),cV⟩
 have hge:i=ps.length:=by have:=oF hi3;omega
 subst hge
 have hlen:=wh ps ps.length (Nat.le_refl _)
 refine aU ?_
 refine zp2 ?_
 refine z2 ?_ (q:=(by simp only[cE];((simp_all;omega))))
 refine Wa 67 rfl (jS _ _) ?_
 refine zc rfl func12 (pL _ (bO 0 1 rfl rfl)) ?_
 refine zy5 ?_
 refine zs3 ?_
 refine zp5 ?_
 refine z1 ?_
 refine zc rfl func13 ((wN x.vm.dict (fU (n%5)).vm.dict (by omega) (by omega)) _) ?_
 refine z1 ?_
 refine nB 79 rfl (by exact decide_eq_false nb) ?_
 iterate 7 refine z6 ?_
 refine zy2 ?_
 iterate 2 refine z6 ?_
 refine zs2 ?_
 refine Ws<|am [0,0,0,0,0,1,0,0,0,1,0,0,0,0,0,0,0,1,0,0,1,0,0,0,0,1,0,0,0] [0,1,2,3,4,5,6,7,8,9,10,11,12,13,14,15,16,17,18,19,20,21,22,23,24,25,26,27,28] mG rfl (by kernel_rfl) ?_
 iterate 3 refine z3 ?_
 refine C7 94 rfl (by rfl) ?_
 iterate 2 refine z3 ?_
 refine z5 ?_
 iterate 3 refine z3 ?_
 refine z5 ?_
 iterate 5 refine z3 ?_
 refine C7 106 rfl (by exact beq_iff_eq.2 (by have w:IntKind.i64.wrap (((fU (n%5)).vm.dict.length:Int)+1)=((fU (n%5)).vm.dict.length:Int)+1:=(by((rw[bB];unfold wrap64;(try simp only[dnL]at *);omega)));rw[w];show(x.vm.dict.length:Int)=_;omega)) ?_
 iterate 2 refine z3 ?_
 refine z5 ?_
 iterate 2 refine z3 ?_
 refine z5 ?_
 refine z3 ?_
 refine z4 ?_ (q:=(by(simp_all;done)))
 refine Xa 114 rfl (cF bP 3 (fun _=>rfl) (by(simp only[dnL]at *;omega))) ?_
 refine Xa 114 rfl (congrArg (sq bP) tk1) ?_
 iterate 2 refine z3 ?_
 refine z5 ?_
 refine Xc rfl rfl rfl rfl (fun _=>dC rfl func13 rfl rfl ((wN (fU (n%5)).vm.dict (fU (n%5)).vm.dict (by omega) (by omega)) _)) ?_
 iterate 2 refine z3 ?_
 refine ap ?_
 refine zp2 ?_
 refine dF 121 rfl (by rfl) ?_
 refine zy5 ?_
 refine z1 ?_
 refine dF 127 rfl (by exact decide_eq_true ex) ?_
 refine zy5 ?_
 refine zs1 ?_
 refine zR ?_
 exact congrArg boo (decide_eq_true rfl)
end
def xG(a:Addr)(n:Nat)(hn:n<256)(ps:List UInt8)(hps:ps.length<=9223372036854775807):∀(H:List Ob),(∀o∈fS a,∃k:Nat,H[k]?=some o)->HC prog 3 [.val (.int .u8 (n:Int)),sq ar ps] H (boo true) H:=by
 have h5:n%5<=4:=by omega
 have a0:=X0 (n%5) h5
 have o0:=okU (n%5)
 by_cases h20:ps.length<=20
 case neg=>exact AP a n hn ps hps (ut a) fO 0 fun h=>absurd h h20
 have hw:∀w∈ps.map wU,w∈wdU:=fun w hw=>by obtain⟨c,_,rfl⟩:=List.mem_map.1 hw;exact(EK c).1
 obtain⟨x,e,el,ex,ee⟩:=ai6 a0 (ax5 (n%5) h5) hw (by rw[List.length_map];exact h20)
 have et:ld (tkU (ps.map wU))=sT ps ps.length++[32,84,72,69,78,32,59,32,110,111,115,117,99,104,119,111,114,100]:=by
  rw[an5]
  unfold sT
  rw[List.take_length,List.flatMap_map]
 rw[et]at el
 have hlen:=wh ps ps.length (Nat.le_refl _)
 have pL:PG a 12 [bE (fU (n%5)),str (sT ps ps.length++[32,84,72,69,78,32,59,32,110,111,115,117,99,104,119,111,114,100]),i64 200] (qY (j6 (fU (n%5)) (sT ps ps.length++[32,84,72,69,78,32,59,32,110,111,115,117,99,104,119,111,114,100]) 200)):=xm a o0 (by rw[List.length_append];show _+18<=1000;omega) (by decide) (by omega)
 rw[el]at pL
 have hd:=kH a0
 have hl:(du 167++(sU (n%5)).ext).length<=200:=by rw[List.length_append,l9,wI];omega
 rcases ee with ⟨d1,d2,rfl⟩|⟨rfl,y,d1⟩
 ·refine AP a n hn ps hps (ut a) x 200 fun _=>⟨pL,ex,by rw[d1,hd],?_,by rw[d1];omega⟩
  rw[d2]
  obtain⟨m,e,_⟩:=a0.ex
  rw[e];rfl
 exact JX a n hn ps hps (ut a) x 200 y fun _=>⟨pL,ex,by rw[d1,hd],by rw[d1,List.length_append,List.length_singleton];omega⟩
def walk_OuterUndoes(a:Addr)(v0 v1:Value)(w:World)(h0:w.cell? ⟨1,0,none⟩=some (haltV a))(h1:w.cell? ⟨0,0,none⟩=some etV)(r0:zL w 5 v0)(r1:zL w 22 v1):
  Calls prog 3 #[v0,v1] w fun e w'=>e=.returned (.bool true)/\Below w.heap.size w w':=by
 obtain⟨n,hn,p0⟩:=PM r0
 obtain⟨ps,hps,p1⟩:=GK r1
 exact JK (args:=[.val (.int .u8 (n:Int)),sq ar ps]) (by simp[aG,aQ]) (xG a n hn ps hps) h0 h1 (ai.2 ⟨p0,ai.2 ⟨p1,aF.2 rfl⟩⟩)
end Go.Proofs.YtjcminooghmpeaaGreatDoor
