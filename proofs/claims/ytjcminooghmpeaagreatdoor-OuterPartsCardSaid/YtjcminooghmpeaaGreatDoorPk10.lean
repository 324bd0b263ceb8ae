import Derived.Test.YtjcminooghmpeaaGreatDoorPk9
set_option linter.all false
set_option maxRecDepth 100000
set_option maxHeartbeats 40000000
open Go.Proofs.Tryz
namespace Go.Proofs.YtjcminooghmpeaaGreatDoor
open Go.RowKit
def yO(w:FW)(n:Int):(dT w n).f.vm.conf=w.f.vm.conf/\(dT w n).f.vm.dict=w.f.vm.dict/\(dT w n).f.vm.hand=w.f.vm.hand/\(dT w n).f.comp=w.f.comp/\(dT w n).f.vm.here=w.f.vm.here/\((dT w n).bad=0->w.bad=0):=by
 unfold dT
 rw[m9]
 exact⟨rfl,rfl,rfl,rfl,rfl,fun q=>(u4 q).1⟩
def Qb{N:Nat}{f:aa}(h:OkF N f)(name:Str)(on:Bool)(fuel:Int):OkF (N+3) (ik f name on fuel).1:=by
 unfold ik
 by_cases hB:(fY f on fuel).bad≠0
 ·rw[if_pos hB];exact h.up (by omega)
 rw[if_neg hB]
 have ck:=zo (Decidable.not_not.1 hB)
 rw[ck.2.1]
 obtain⟨fu,hfu⟩:∃fu,(if on=true then fuel else 0)=fu:=⟨_,rfl⟩
 rw[hfu]
 unfold gK
 split
 ·exact h.up (by omega)
 rename_i q
 have q:(dT (eM (aN f) name 2 [256]).1 (-1)).bad=0:=Decidable.not_not.1 q
 have s:=yO (eM (aN f) name 2 [256]).1 (-1)
 have w:=Si (aN f) name 2 [256]
 have g:=AN (Fb (l:=[256]) (w:=aN f) h.g name (flags:=2) (by decide) (by decide)) (-1)
 have hd:=w.2.2.1 (s.2.2.2.2.2 q)
 have R:=h.g.right
 refine⟨g,Nat.zero_le _,(fun c hc=>by cases hc),fun _=>⟨Int.natCast_nonneg _,?_⟩,fun _=>⟨R.jM,?_⟩,h.g.la,fun z=>?_,?_⟩
 ·show(f.vm.dict.length:Int)<((dT (eM (aN f) name 2 [256]).1 (-1)).f.vm.dict.length:Int)
  rw[s.2.1,hd]
  show(f.vm.dict.length:Int)<((f.vm.dict.length+1:Nat):Int)
  omega
 ·show f.vm.here<=(dT (eM (aN f) name 2 [256]).1 (-1)).f.vm.conf.mem
  rw[s.1,w.1];exact R.jP
 ·have z:on=true:=z
  have:=(ck.2.2 z).1
  show 0<=fu
  rw[<-hfu,if_pos z];omega
 show DX (dT (eM (aN f) name 2 [256]).1 (-1)).f.vm.dict
 rw[s.2.1];exact Ez (w:=aN f) h.g h.xts name 2 [256]
def YA{N:Nat}{v:VVm}(g:be N v){l:List og}(h:l.all Gg=true)(hl:l.length<=64):be N {v with hand:=l}:=by
 have R:=g.right
 exact⟨⟨R.gl,R.mem,R.dict,R.pic,R.len,R.jM,R.jP,R.f,h,R.d,R.r,R.fl,R.dl,R.out,R.req,R.free0,R.free1,R.next0,R.next1,hl⟩,g.old,g.fd,g.fr,g.ff,g.ints,g.la⟩
def Bq{l:List aP}(h:iz l=true)(a:Int){n:Int}(h0:0<=n)(h7:n<=7):iz (cH l a n).1=true/\(cH l a n).1.length=l.length:=by
 unfold cH
 split
 ·exact⟨h,rfl⟩
 rename_i q
 have hlt:a.toNat<l.length:=by omega
 refine⟨?_,List.length_set ..⟩
 unfold iz at h ⊢
 simp only[Bool.and_eq_true,decide_eq_true_eq]at h ⊢
 refine⟨List.all_eq_true.2 fun x hx=>?_,by show(l.set _ _).length<=_;rw[List.length_set];exact h.2⟩
 rcases List.mem_or_eq_of_mem_set hx with hx|hx
 ·exact List.all_eq_true.1 h.1 x hx
 subst hx
 have:=List.all_eq_true.1 h.1 (l.getD a.toNat default) (by rw[List.getD_eq_getElem?_getD,List.getElem?_eq_getElem hlt];exact List.getElem_mem _)
 unfold BO at this ⊢
 simp only[decide_eq_true_eq]at this ⊢
 exact⟨this.1,h0,h7⟩
def MS{N:Nat}{v:VVm}(g:be N v)(a:Int){n:Int}(h0:0<=n)(h7:n<=7):be N {v with dict:=(cH v.dict a n).1}:=by
 have q:=Bq g.right.dict a h0 h7
 exact E7 g q.1 (by rw[q.2];exact g.right.dl)
def zT{N:Nat}{v:VVm}(g:be N v)(hx:DX v.dict):OkF N ⟨v,kV⟩:=⟨g,Nat.zero_le _,(fun c hc=>by cases hc),fun q=>absurd rfl q,fun q=>absurd rfl q,bC,(fun q=>by cases q),hx⟩
def Ng{l:List aP}(h:DX l)(a n:Int):DX (cH l a n).1:=by
 unfold cH
 split
 ·exact h
 rename_i q
 intro x hx
 rcases List.mem_or_eq_of_mem_set hx with hx|hx
 ·exact h x hx
 subst hx
 show ae (l.getD a.toNat default).xt
 rw[List.getD_eq_getElem?_getD,List.getElem?_eq_getElem (by omega)]
 exact h _ (List.getElem_mem _)
def Vk{l:List aP}(h:DX l)(n:Int):DX (i9 l n).1:=by
 unfold i9
 split
 ·exact h
 exact fun x hx=>h x (List.mem_of_mem_take hx)
def Kh(w:FW)(d:List aP×Int):(ng w d).f.vm={w.f.vm with dict:=d.1}:=by unfold ng;rw[m9]
def au9{l:List aP}(h:iz l=true)(i:Nat):0<=js (l.getD i default).flags/\js (l.getD i default).flags<=7:=by
 by_cases hi:i<l.length
 ·have q:=((tB h).get hi)
  exact NA q.2.1 q.2.2
 rw[List.getD_eq_getElem?_getD,List.getElem?_eq_none (by omega)];exact⟨by decide,by decide⟩
def Wx{N:Nat}{f:aa}(h:OkF N f):OkF (N+2) (kZ f).1:=by
 unfold kZ
 by_cases hE:mF f≠0
 ·rw[if_pos hE];exact h.up (by omega)
 rw[if_neg hE]
 have hE:mF f=0:=Decidable.not_not.1 hE
 have ho:¬(f.comp.on=true/\64<=f.vm.hand.length):=fun q=>by
  unfold mF at hE
  by_cases c1:f.comp.xt=0
  ·rw[if_pos c1]at hE;cases hE
  by_cases c2:0<f.comp.cf.length
  ·rw[if_neg c1,if_pos c2]at hE;cases hE
  rw[if_neg c1,if_neg c2,if_pos q]at hE;cases hE
 unfold gK
 split
 ·exact h.up (by omega)
 have hdx:DX (yC f).f.vm.dict:=by
  have e1:(yC f).f.vm.dict=(dT (ng (ce ⟨f,0⟩ 32) (sY (ce ⟨f,0⟩ 32) f.comp)) 0).f.vm.dict:=by unfold yC jb;split<;>rfl
  rw[e1,(yO _ 0).2.1,Kh]
  show DX (cH (ce ⟨f,0⟩ 32).f.vm.dict _ _).1
  rw[(Li ⟨f,0⟩ 32).2.1];exact Ng h.xts _ _
 refine zT ?_ hdx
 have g1:be (N+1) (ce ⟨f,0⟩ 32).f.vm:=Mi (w:=⟨f,0⟩) h.g 32
 have c1:=Li ⟨f,0⟩ 32
 have u7:=au9 g1.right.dict f.comp.dict.toNat
 have g2:be (N+1) (ng (ce ⟨f,0⟩ 32) (sY (ce ⟨f,0⟩ 32) f.comp)).f.vm:=by rw[Kh];exact MS g1 _ u7.1 u7.2
 have g3:=AN g2 0
 have s3:=yO (ng (ce ⟨f,0⟩ 32) (sY (ce ⟨f,0⟩ 32) f.comp)) 0
 have hh:(dT (ng (ce ⟨f,0⟩ 32) (sY (ce ⟨f,0⟩ 32) f.comp)) 0).f.vm.hand=f.vm.hand:=by rw[s3.2.2.1,Kh];exact c1.2.2.1
 show be (N+2) (yC f).f.vm
 unfold yC jb
 split
 ·rename_i q
  have hr:=h.g.right.hand
  refine YA g3 ?_ ?_
  ·rw[hh,List.all_append,hr,Bool.true_and,List.all_cons,List.all_nil,Bool.and_true]
   unfold Gg
   exact decide_eq_true (h.fu q)
  rw[hh,List.length_append,List.length_singleton]
  have:¬64<=f.vm.hand.length:=fun z=>ho ⟨q,z⟩
  omega
 exact g3
def Lj{l:List aP}(h:iz l=true)(n:Nat):iz (l.take n)=true:=by
 unfold iz at h ⊢
 simp only[Bool.and_eq_true,decide_eq_true_eq]at h ⊢
 exact⟨List.all_eq_true.2 fun x hx=>List.all_eq_true.1 h.1 x (List.mem_of_mem_take hx),by rw[List.length_take];omega⟩
def QA{N:Nat}{v:VVm}(g:be N v)(n:Int):be N {v with dict:=(i9 v.dict n).1}:=by
 unfold i9
 split
 ·exact g
 exact E7 g (Lj g.right.dict _) (by have:=g.right.dl;rw[List.length_take];omega)
def Nq{N:Nat}{v:VVm}(g:be N v){here:Int}(h0:1368<=here)(h1:here<=v.conf.mem):be N {v with here:=here}:=by
 have R:=g.right
 exact⟨⟨R.gl,R.mem,R.dict,R.pic,R.len,h0,h1,R.f,R.hand,R.d,R.r,R.fl,R.dl,R.out,R.req,R.free0,R.free1,R.next0,R.next1,R.handl⟩,g.old,g.fd,g.fr,g.ff,g.ints,g.la⟩
def Ra{N:Nat}{f:aa}(h:OkF N f):OkF (N+1) (kc f):=by
 unfold kc
 split
 ·exact h.up (by omega)
 rename_i q
 have g:=AN (w:=⟨f,0⟩) h.g 0
 have s:=yO ⟨f,0⟩ 0
 refine zT (v:={(dT ⟨f,0⟩ 0).f.vm with dict:=(i9 (dT ⟨f,0⟩ 0).f.vm.dict f.comp.dict).1,here:=f.comp.here,last:=f.comp.last}) ?_ (by show DX (i9 (dT ⟨f,0⟩ 0).f.vm.dict f.comp.dict).1;rw[s.2.1];exact Vk h.xts _)
 have hq:=h.here q
 exact yM (Nq (QA g _) hq.1 (by show f.comp.here<=(dT ⟨f,0⟩ 0).f.vm.conf.mem;rw[s.1];exact hq.2)) h.la
def YQ{N:Nat}{v:VVm}(g:be N v){n:Int}(hn:ae n):be N (dZ v n).1:=by
 unfold dZ fR
 by_cases c:v.conf.data<=(v.d.length:Int)
 ·rw[if_pos c];exact g
 rw[if_neg c];exact Uy g (by simp only[List.length_append,List.length_singleton];omega) (jr g.fd (db hn))
def UN{N:Nat}{v:VVm}(g:be N v):be N (dH v).2.1/\ae (dH v).1:=by
 refine⟨?_,(FE g.x).2⟩
 unfold dH bg
 split
 ·exact g
 exact Uy g (by have:=g.right.d;simp only[List.length_take];omega) (nR _ g.fd)
def Ia{N:Nat}{v:VVm}(g:be N v)(s:Str):be N (gF v s).1/\KV v (gF v s).1:=by
 unfold gF
 split
 ·exact⟨g,.rf _⟩
 rename_i q
 have R:=g.right
 exact⟨⟨⟨R.gl,R.mem,R.dict,R.pic,R.len,R.jM,R.jP,R.f,R.hand,R.d,R.r,R.fl,R.dl,by show((v.out++s).length:Int)<=v.conf.out;rw[List.length_append];omega,R.req,R.free0,R.free1,R.next0,R.next1,R.handl⟩,g.old,g.fd,g.fr,g.ff,g.ints,g.la⟩,⟨rfl,rfl,rfl⟩⟩
structure Nx (N:Nat) (l0 l:ag):Prop where
 f:OkF N l.f
 s:l.s=l0.s
 a:l0.at_<=l.at_
 b:l.at_<=l0.s.length
 u:l.fuel=l0.fuel
def Nx.up{N M:Nat}{l0 l:ag}(h:Nx N l0 l)(hM:N<=M):Nx M l0 l:=⟨h.f.up hM,h.s,h.a,h.b,h.u⟩
def Nx.to{N M:Nat}{l0 l l':ag}(h:Nx N l0 l)(hf:OkF M l'.f)(hs:l'.s=l.s)(ha:l'.at_=l.at_)(hu:l'.fuel=l.fuel):Nx M l0 l':=⟨hf,hs.trans h.s,by rw[ha];exact h.a,by rw[ha];exact h.b,hu.trans h.u⟩
def zy(l:ag)(e:Int):(oOk l e).s=l.s/\(oOk l e).at_=l.at_/\(oOk l e).fuel=l.fuel:=by unfold oOk;split<;>exact⟨rfl,rfl,rfl⟩
def EM(l:ag)(r:VVm×Int):(fT l r).s=l.s/\(fT l r).at_=l.at_/\(fT l r).fuel=l.fuel:=by
 have q:=zy l r.2
 unfold fT;split<;>exact q
def yU(l:ag)(r:aa×Int):(j8 l r).s=l.s/\(j8 l r).at_=l.at_/\(j8 l r).fuel=l.fuel:=by
 have q:=zy l r.2
 unfold j8;split<;>exact q
def Fx(s:Str){a:Int}(h0:0<=a)(h1:a<=s.length)(hw:(bt s a).1≠[]):a<(bt s a).2/\(bt s a).2<=s.length/\(a+2<=(bt s a).2\/(bt s a).2=s.length):=by
 have hf:dF s a=a.toNat:=by unfold dF;rw[if_neg (by omega)]
 have hb:=A7 s (s.length-dF s a) (dF s a) (F6 s a)
 have he:=Ek s (s.length-lN s (dF s a)) (lN s (dF s a)) hb.2
 have hb1:dF s a<=lN s (dF s a):=hb.1
 have he1:nZ s (lN s (dF s a))<=s.length:=he.2
 have hlt:lN s (dF s a)<nZ s (lN s (dF s a)):=by
  refine Nat.lt_of_not_le fun q=>hw ?_
  unfold bt
  dsimp only
  exact List.drop_eq_nil_of_le (by rw[List.length_take];omega)
 have e2:(bt s a).2=min ((nZ s (lN s (dF s a)):Int)+1) s.length:=rfl
 omega
def YG(s:Str){a:Int}(c:UInt8)(h0:0<=a)(h1:a<=s.length):a<=(lM s a c).2.1/\(lM s a c).2.1<=s.length:=by
 have hf:dF s a=a.toNat:=by unfold dF;rw[if_neg (by omega)]
 have hi:=BG (s.drop (dF s a)) c
 rw[List.length_drop]at hi
 unfold lM
 dsimp only
 split
 ·exact⟨h1,Int.le_refl _⟩
 rename_i q
 dsimp only
 rw[hf]at hi q ⊢
 omega
section
variable {N M : Nat} {l0 l : ag}
def vh(h:Nx N l0 l)(e:Int):Nx N l0 (oOk l e):=h.to (by rw[(uO l e).1];exact h.f) (zy l e).1 (zy l e).2.1 (zy l e).2.2
def yQ(h:Nx M l0 l){r:VVm×Int}(hr:OkF M {l.f with vm:=r.1}):Nx M l0 (fT l r):=by
 refine h.to ?_ (EM l r).1 (EM l r).2.1 (EM l r).2.2
 unfold fT
 rw[(uO l r.2).1]
 split
 ·exact hr
 rw[(uO l r.2).1];exact h.f
def zj(h:Nx M l0 l){r:aa×Int}(hr:OkF M r.1):Nx M l0 (j8 l r):=by
 refine h.to ?_ (yU l r).1 (yU l r).2.1 (yU l r).2.2
 rcases KC l r with e|e
 ·rw[e];exact hr
 rw[e];exact h.f
def IF(h:Nx M l0 l){r:VVm×Int}(hr:OkF M {l.f with vm:=r.1}):Nx M l0 (oDo l r):=by
 unfold oDo;split
 ·exact yQ h hr
 exact h
def Ey(h:Nx N l0 l)(n:Int):Nx (N+1) l0 (rO l n):=IF (h.up (by omega)) (h.f.kv (J9 h.f.g n) ⟨rfl,rfl,rfl⟩)
def Az(h:Nx N l0 l)(n:Int):Nx (N+2) l0 (tQ l n):=IF (h.up (by omega)) (h.f.kv (Rq h.f.g n).1 (Rq h.f.g n).2)
def FH(h:Nx N l0 l){n:Int}(hn:ae n):Nx N l0 (tV l n):=IF h (h.f.kv (YQ h.f.g hn) ⟨rfl,rfl,rfl⟩)
def KJ(h:Nx N l0 l):Nx N l0 (mZ l).1/\ae (mZ l).2:=⟨yQ h (h.f.kv (UN h.f.g).1 ⟨rfl,rfl,rfl⟩),(UN h.f.g).2⟩
def yK(h:Nx N l0 l)(name:Str):Nx (N+1) l0 (x9 l name):=Ey h _
def wI(h:Nx N l0 l)(h0:0<=l0.at_):Nx N l0 (bW l).1:=by
 unfold bW;split
 ·exact vh h _
 rename_i q
 have w:=Fx l.s (a:=l.at_) (by have:=h.a;omega) (by rw[h.s];exact h.b) q
 have e:=h.s
 have a:=h.a
 exact⟨h.f,e,by show l0.at_<=(bt l.s l.at_).2;omega,by show(bt l.s l.at_).2<=_;rw[<-e];exact w.2.1,h.u⟩
def FL(h:Nx N l0 l)(h0:0<=l0.at_)(c:UInt8):Nx N l0 (iO l c).1:=by
 have w:=YG l.s (a:=l.at_) c (by have:=h.a;omega) (by rw[h.s];exact h.b)
 unfold iO;split
 ·have e:=h.s
  have a:=h.a
  exact⟨h.f,e,by show l0.at_<=(lM l.s l.at_ c).2.1;omega,by show(lM l.s l.at_ c).2.1<=_;rw[<-e];exact w.2,h.u⟩
 exact vh h _
def Xy(h:Nx N l0 l):Nx N l0 (Uc l):=⟨h.f,h.s,by show l0.at_<=(l.s.length:Int);rw[h.s];have:=h.a;have:=h.b;omega,by show(l.s.length:Int)<=_;rw[h.s];exact Int.le_refl _,h.u⟩
def Gx(h:Nx N l0 l)(h0:0<=l0.at_)(on:Bool)(fuel:Int):Nx (N+3) l0 (uP l on fuel):=by
 have q:=wI h h0
 unfold uP;split
 ·exact zj (q.up (by omega)) (Qb q.f _ _ _)
 exact q.up (by omega)
def XT(h:Nx N l0 l):Nx (N+2) l0 (va l):=zj (h.up (by omega)) (Wx h.f)
def Mb(h:Nx N l0 l)(h0:0<=l0.at_):Nx (N+4) l0 (vQ l):=by
 have q:=FL h h0 34
 exact IF (q.up (by omega)) (q.f.kv (Sv q.f.g _).1 (Sv q.f.g _).2)
def VH(h:Nx N l0 l)(h0:0<=l0.at_):Nx (N+5) l0 (uL l):=by
 unfold uL;split
 ·exact yK (Mb h h0) _
 have q:=FL h h0 34
 exact(IF q (q.f.kv (Ia q.f.g _).1 (Ia q.f.g _).2)).up (by omega)
def JZ(h:Nx N l0 l)(name:Str):Nx (N+40) l0 (j6 l name):=by
 have b:=Hu h.f name
 have m:Nx (N+40) l0 (fT l ((bo l.f.vm l.f.comp.cf name).1,(bo l.f.vm l.f.comp.cf name).2.2)):=yQ (h.up (by omega)) b.1
 have e:(fT l ((bo l.f.vm l.f.comp.cf name).1,(bo l.f.vm l.f.comp.cf name).2.2)).err=0->(fT l ((bo l.f.vm l.f.comp.cf name).1,(bo l.f.vm l.f.comp.cf name).2.2)).f={l.f with vm:=(bo l.f.vm l.f.comp.cf name).1}:=fun q=>by
  unfold fT at q ⊢
  split at q
  ·rename_i z;rw[if_pos z];dsimp only;rw[(uO l _).1]
  rename_i z;exact absurd q z
 unfold j6
 split
 ·rename_i q
  refine m.to ?_ rfl rfl rfl
  rw[e q];exact b.2
 exact m
def vU(h:Nx N l0 l)(h0:0<=l0.at_){D:aa->Str->aa×Int}{j:Nat}(hD:∀f name,OkF N f->OkF (N+j) (D f name).1):Nx (N+j) l0 (jU l D):=by
 have q:=wI h h0
 unfold jU;split
 ·exact zj (q.up (by omega)) (hD _ _ q.f)
 exact q.up (by omega)
def Pw(h:Nx N l0 l)(h0:0<=l0.at_):Nx (N+3) l0 (eJ l):=vU h h0 fun f name o=>oX o name true [257,0]
def CS(h:Nx N l0 l)(h0:0<=l0.at_){D:aa->Str->Int->aa×Int}{j:Nat}(hD:∀f name n,OkF N f->OkF (N+j) (D f name n).1):Nx (N+j) l0 (s8 l D):=by
 have p:=KJ h
 unfold s8;split
 ·exact vU p.1 h0 fun f name o=>hD f name _ o
 exact p.1.up (by omega)
def Va(h:Nx N l0 l)(h0:0<=l0.at_):Nx (N+4) l0 (Lo l):=CS h h0 fun f name n o=>oX o name false [258,0,n]
end
open Go.RowKit
def iE:List Str:=[[58],[67,82,69,65,84,69],[86,65,82,73,65,66,76,69],[67,79,78,83,84,65,78,84],[73,77,77,69,68,73,65,84,69],[39],[67,72,65,82],[46,34],[40],[92],[91],[93],[70,79,82,71,69,84],[77,65,67,72,73,78,69],[79,78,58]]
def vc(k:Int):Bool:=if k<300 then false else !decide (bJ.getD (k-300).toNat []∈iE)
def Gm(k:Int)(h1:k<337)(h0:ae k):ab prog 68 [i64 k] (boo (vc k)):=by
 have hL:=iF
 unfold ae at h0
 have w1:¬k<300->IntKind.i64.wrap (k-300)=k-300:=fun q=>by rw[gS (by omega) (by omega)]
 obtain⟨x,hx⟩:∃x,bJ.getD (k-300).toNat []=x:=⟨_,rfl⟩
 have e1:¬k<300->vc k = !decide (x∈iE):=fun q=>by unfold vc;rw[if_neg q,hx]
 refine zH func68 fun B=>?_
 refine Wi rfl ?_ ?_<;>intro hi1
 ·have q:k<300:=oT hi1
  refine zd ?_
  (unfold vc;rw[if_pos q];rfl)
 have q:¬k<300:=oF hi1
 refine zd ?_
 refine zc rfl func71 ((fg) _) ?_
 refine zy2 ?_
 refine Wa 7 rfl (j_ (w1 q)) ?_
 refine Wv tG rfl rfl rfl (by omega) (iR gj 1 (fun _=>rfl) [] (by omega)) ?_
 refine z1 ?_
 refine Wa 9 rfl (congrArg str hx) ?_
 refine Wn<|Wl<|Ws<|zp1 ?_
 refine zQ 11 ?_
 refine Wi rfl ?_ ?_<;>intro hi2
 ·have m:x∈iE:=by rw[oT hi2];decide
  refine zd ?_
  refine Wt rfl hi2 ?_
  refine zd ?_
  (rw[e1 q,decide_eq_true m];rfl)
 have n0:=oF hi2
 refine zp1 ?_
 refine zQ 12 ?_
 refine Wi rfl ?_ ?_<;>intro hi3
 ·have m:x∈iE:=by rw[oT hi3];decide
  refine zd ?_
  refine Wt rfl hi3 ?_
  refine zd ?_
  (rw[e1 q,decide_eq_true m];rfl)
 have n1:=oF hi3
 refine zp1 ?_
 refine zQ 13 ?_
 refine Wi rfl ?_ ?_<;>intro hi4
 ·have m:x∈iE:=by rw[oT hi4];decide
  refine zd ?_
  refine Wt rfl hi4 ?_
  refine zd ?_
  (rw[e1 q,decide_eq_true m];rfl)
 have n2:=oF hi4
 refine zp1 ?_
 refine zQ 14 ?_
 refine Wi rfl ?_ ?_<;>intro hi5
 ·have m:x∈iE:=by rw[oT hi5];decide
  refine zd ?_
  refine Wt rfl hi5 ?_
  refine zd ?_
  (rw[e1 q,decide_eq_true m];rfl)
 have n3:=oF hi5
 refine zp1 ?_
 refine zQ 15 ?_
 refine Wi rfl ?_ ?_<;>intro hi6
 ·have m:x∈iE:=by rw[oT hi6];decide
  refine zd ?_
  refine Wt rfl hi6 ?_
  refine zd ?_
  (rw[e1 q,decide_eq_true m];rfl)
 have n4:=oF hi6
 refine zp1 ?_
 refine zQ 16 ?_
 refine Wi rfl ?_ ?_<;>intro hi7
 ·have m:x∈iE:=by rw[oT hi7];decide
  refine zd ?_
  refine Wt rfl hi7 ?_
  refine zd ?_
  (rw[e1 q,decide_eq_true m];rfl)
 have n5:=oF hi7
 refine zp1 ?_
 refine zQ 17 ?_
 refine Wi rfl ?_ ?_<;>intro hi8
 ·have m:x∈iE:=by rw[oT hi8];decide
  refine zd ?_
  refine Wt rfl hi8 ?_
  refine zd ?_
  (rw[e1 q,decide_eq_true m];rfl)
 have n6:=oF hi8
 refine zp1 ?_
 refine zQ 18 ?_
 refine Wi rfl ?_ ?_<;>intro hi9
 ·have m:x∈iE:=by rw[oT hi9];decide
  refine zd ?_
  refine Wt rfl hi9 ?_
  refine zd ?_
  (rw[e1 q,decide_eq_true m];rfl)
 have n7:=oF hi9
 refine zp1 ?_
 refine zQ 19 ?_
 refine Wi rfl ?_ ?_<;>intro hi10
 ·have m:x∈iE:=by rw[oT hi10];decide
  refine zd ?_
  refine Wt rfl hi10 ?_
  refine zd ?_
  (rw[e1 q,decide_eq_true m];rfl)
 have n8:=oF hi10
 refine zp1 ?_
 refine zQ 20 ?_
 refine Wi rfl ?_ ?_<;>intro hi11
 ·have m:x∈iE:=by rw[oT hi11];decide
  refine zd ?_
  refine Wt rfl hi11 ?_
  refine zd ?_
  (rw[e1 q,decide_eq_true m];rfl)
 have n9:=oF hi11
 refine zp1 ?_
 refine zQ 21 ?_
 refine Wi rfl ?_ ?_<;>intro hi12
 ·have m:x∈iE:=by rw[oT hi12];decide
  refine zd ?_
  refine Wt rfl hi12 ?_
  refine zd ?_
  (rw[e1 q,decide_eq_true m];rfl)
 have n10:=oF hi12
 refine zp1 ?_
 refine zQ 22 ?_
 refine Wi rfl ?_ ?_<;>intro hi13
 ·have m:x∈iE:=by rw[oT hi13];decide
  refine zd ?_
  refine Wt rfl hi13 ?_
  refine zd ?_
  (rw[e1 q,decide_eq_true m];rfl)
 have n11:=oF hi13
 refine zp1 ?_
 refine zQ 23 ?_
 refine Wi rfl ?_ ?_<;>intro hi14
 ·have m:x∈iE:=by rw[oT hi14];decide
  refine zd ?_
  refine Wt rfl hi14 ?_
  refine zd ?_
  (rw[e1 q,decide_eq_true m];rfl)
 have n12:=oF hi14
 refine zp1 ?_
 refine zQ 24 ?_
 refine Wi rfl ?_ ?_<;>intro hi15
 ·have m:x∈iE:=by rw[oT hi15];decide
  refine zd ?_
  refine Wt rfl hi15 ?_
  refine zd ?_
  (rw[e1 q,decide_eq_true m];rfl)
 have n13:=oF hi15
 refine aI rfl ?_
 refine z1 ?_
 refine zQ 25 ?_
 refine Wi rfl ?_ ?_<;>intro hi16
 ·have m:x∈iE:=by rw[oT hi16];decide
  refine zd ?_
  (rw[e1 q,decide_eq_true m];rfl)
 have n14:=oF hi16
 have m:¬x∈iE:=by unfold iE;simp only[List.mem_cons,List.not_mem_nil,or_false,not_or];exact⟨n0,n1,n2,n3,n4,n5,n6,n7,n8,n9,n10,n11,n12,n13,n14⟩
 refine zd ?_
 (rw[e1 q,decide_eq_false m];rfl)
def kC:Int:=300+tP bJ [67,82,69,65,84,69] bJ.length 0
def yz(r:bH)(xt ip:Int):Bool×Int:=(decide ((az r.vm xt).2=0/\(az r.vm xt).1=kC),ip)
def ab8{r:bH}{xt ip:Int}(h:(az r.vm xt).2=0):yz r xt ip=((az r.vm xt).1==kC,ip):=by
 unfold yz
 by_cases q:(az r.vm xt).1=kC
 ·rw[decide_eq_true ⟨h,q⟩,beq_iff_eq.2 q]
 rw[decide_eq_false (fun z=>q z.2),beq_eq_false_iff_ne.2 q]
def ac4{r:bH}{xt ip:Int}(h:¬(az r.vm xt).2=0):yz r xt ip=(false,ip):=by
 unfold yz;rw[decide_eq_false (fun z=>h z.1)]
def bR(r:bH):Bool×Int:=if r.dof=true then yz r r.w r.ip else if (am r.vm.mem r.ip).2≠0 then(false,r.ip)else yz r (am r.vm.mem r.ip).1 (W64 (r.ip+8))
def B3(r:bH)(hm:r.vm.mem.b.length<=140737488355328)(hi:ae r.ip)(hw:ae r.w):ab prog 85 [xh r] (iy (boo (bR r).1) (i64 (bR r).2)):=by
 have hL:=iF
 have w1:IntKind.i64.wrap (300+tP bJ [67,82,69,65,84,69] bJ.length 0)=kC:=by decide +kernel
 have c1:r.dof=true->bR r=yz r r.w r.ip:=fun q=>by unfold bR;rw[if_pos q]
 have c2:r.dof=false->(am r.vm.mem r.ip).2≠0->bR r=(false,r.ip):=fun q q1=>by unfold bR;rw[if_neg (by rw[q];decide),if_pos q1]
 have c3:r.dof=false->¬(am r.vm.mem r.ip).2≠0->bR r=yz r (am r.vm.mem r.ip).1 (W64 (r.ip+8)):=fun q q1=>by unfold bR;rw[if_neg (by rw[q];decide),if_neg q1]
 refine zH func85 fun B=>?_
 refine zW [0,1,0,1,0,0] [0,1,2,3,4,5] ?_
 refine Wi rfl ?_ ?_<;>intro hi1
 ·have q0:r.dof=false:=by simpa using hi1
  have k0:=qK r.vm (am r.vm.mem r.ip).1 hm (tt _ _)
  refine zd ?_
  refine zC rfl func39 ((gy r.vm.mem r.ip hm hi) _) ?_
  refine Wi rfl ?_ ?_<;>intro hi2
  ·have q1:(am r.vm.mem r.ip).2≠0:=by simpa using hi2
   refine zd ?_
   (rw[c2 q0 q1];rfl)
  have q1:¬(am r.vm.mem r.ip).2≠0:=by simpa using hi2
  refine zd ?_
  refine zc rfl func67 ((k0) _) ?_
  refine zs5 ?_
  refine zp3 ?_
  refine zB 41 (fun hg1=>?_) (fun hg1=>?_)
  ·refine zc rfl func71 ((fg) _) ?_
   refine zc rfl func113 ((tF bJ [67,82,69,65,84,69] (by rw[hL];omega)) _) ?_
   refine z1 ?_
   refine zA 45 rfl (j_ w1) ?_
   (rw[c3 q0 q1,ab8 (by simpa using hg1)];rfl)
  (rw[c3 q0 q1,ac4 (by simpa using hg1)];rfl)
 have q0:r.dof=true:=by simpa using hi1
 have k0:=qK r.vm r.w hm hw
 refine zd ?_
 refine zc rfl func67 ((k0) _) ?_
 refine zs5 ?_
 refine zp3 ?_
 refine zB 41 (fun hg1=>?_) (fun hg1=>?_)
 ·refine zc rfl func71 ((fg) _) ?_
  refine zc rfl func113 ((tF bJ [67,82,69,65,84,69] (by rw[hL];omega)) _) ?_
  refine z1 ?_
  refine zA 45 rfl (j_ w1) ?_
  (rw[c1 q0,ab8 (by simpa using hg1)];rfl)
 (rw[c1 q0,ac4 (by simpa using hg1)];rfl)
def r6(s:List Int)(n:Nat)(hs:s.length<=1000000)(hn:n<=1000000):ab prog 160 [sq ao s,i64 (n:Int)] (sqc ao (lc s n)):=by
 refine zH func160 fun B=>?_
 refine zP ?_ (q:=(by(simp_all;omega)))
 refine Wd rfl rfl (nL (lO tG rfl) rfl (lO tG rfl) rfl rfl rfl rfl (an _ 1 (fun _=>rfl) _) (bD _ (fun _=>rfl) _) (by rw[mS _ _ rfl];simp)) ?_
 refine jQ (H':=[.cells ((lc s n).flatMap ao) 3]) (by refine congrArg (fun z=>[Ob.cells z 3]) (yv s n ?_ ?_).symm<;>rfl) ?_
 refine Wn<|zp1 ?_
 refine Bd 11 0 n n rfl rfl (by rw[oO,List.length_map,mb];exact Nat.le_refl _) ?_
 refine Wa 11 rfl (NS s n) ?_
 refine zs1 ?_
 refine Wq ?_
 exact oq rfl rfl
def ND(r:bH×Int):PV:=iy (xh r.1) (i64 r.2)
@[simp] theorem as6 (r : bH × Int) : aR (ND r) := by simp [ND]
def Fi(r:bH)(e:Int)(N:Nat)(g:be N r.vm):ab prog 115 [xh r,i64 e] (ND (bZ r e)):=by
 have R:=g.right
 have hc:=R.gl
 unfold eG at hc
 have hfl:=R.fl
 have hd:=R.d
 have hr:=R.r
 by_cases h0:r.vm.f.length=0
 ·have e1:bZ r e=(r,e):=by unfold bZ;rw[if_pos h0]
  rw[e1]
  refine zH func115 fun B=>?_
  refine Wt rfl (by(try simp only[dnL]at *);omega) ?_
  refine zd ?_
  rfl
 have hm:r.vm.f.getD (r.vm.f.length-1) default∈r.vm.f:=by rw[List.getD_eq_getElem?_getD,List.getElem?_eq_getElem (by omega)];exact List.getElem_mem _
 have hf:=List.all_eq_true.1 R.f _ hm
 unfold qs at hf
 simp only[decide_eq_true_eq,Bool.and_eq_true]at hf
 have e1:bZ r e=({r with vm:={r.vm with f:=r.vm.f.take (r.vm.f.length-1),d:=lc r.vm.d (min (r.vm.f.getD (r.vm.f.length-1) default).d (r.vm.conf.data-1)).toNat++[e],r:=lc r.vm.r (min (r.vm.f.getD (r.vm.f.length-1) default).r r.vm.conf.ret).toNat},ip:=(r.vm.f.getD (r.vm.f.length-1) default).ip},0):=by
  unfold bZ;rw[if_neg h0]
 rw[e1]
 have w0:IntKind.i64.wrap ((r.vm.f.length:Int)-1)=((r.vm.f.length-1:Nat):Int):=by((rw[bU];unfold wrap64;(try simp only[dnL]at *);omega))
 have w1:IntKind.i64.wrap (r.vm.conf.data-1)=r.vm.conf.data-1:=by((rw[bU];unfold wrap64;(try simp only[dnL]at *);omega))
 have w2:(if r.vm.conf.data-1<(r.vm.f.getD (r.vm.f.length-1) default).d then r.vm.conf.data-1 else(r.vm.f.getD (r.vm.f.length-1) default).d)=((min (r.vm.f.getD (r.vm.f.length-1) default).d (r.vm.conf.data-1)).toNat:Int):=by split<;>omega
 have w3:(if r.vm.conf.ret<(r.vm.f.getD (r.vm.f.length-1) default).r then r.vm.conf.ret else(r.vm.f.getD (r.vm.f.length-1) default).r)=((min (r.vm.f.getD (r.vm.f.length-1) default).r r.vm.conf.ret).toNat:Int):=by split<;>omega
 have hdl:=mb r.vm.d (min (r.vm.f.getD (r.vm.f.length-1) default).d (r.vm.conf.data-1)).toNat
 refine zH func115 fun B=>?_
 refine Wf rfl (by(try simp only[dnL]at *);omega) ?_
 refine Wj<|zp5 ?_
 refine Wa 20 rfl (j_ w0) ?_
 refine Wv tG rfl rfl rfl (by omega) (iN eW 3 (fun _=>rfl) default (by omega)) ?_
 refine zs3 ?_
 refine zp5 ?_
 refine Wa 27 rfl (j_ w0) ?_
 refine z2 ?_ (q:=(by(simp_all;done)))
 refine Wa 28 rfl (cK eW 3 (fun _=>rfl) (by omega)) ?_
 refine zs3 ?_
 refine zp5 ?_
 refine zy5 ?_
 refine Wa 40 rfl (j_ w1) ?_
 refine z1 ?_
 refine Wa 41 rfl (j_ w2) ?_
 refine zc rfl func160 ((r6 r.vm.d (min (r.vm.f.getD (r.vm.f.length-1) default).d (r.vm.conf.data-1)).toNat (by omega) (by omega)) _) ?_
 refine zy2 ?_
 refine Wa 44 rfl (bsL ao [_] rfl rfl) ?_
 refine Wd rfl rfl (cd (lO tG rfl) rfl (lO tG rfl) (lO tG rfl) rfl rfl (by exact⟨_,rfl⟩) (by exact⟨rfl,rfl,an _ 1 (fun _=>rfl) _,bD _ (fun _=>rfl) _⟩) (by exact an _ 1 (fun _=>rfl) _) (by((simp_all;omega))) (by((simp_all;omega)))) ?_
 refine Wa 45 rfl (cw ao) ?_
 refine zs3 ?_
 refine zp5 ?_
 refine zy5 ?_
 refine Wa 57 rfl (j_ w3) ?_
 refine zC rfl func160 ((r6 r.vm.r (min (r.vm.f.getD (r.vm.f.length-1) default).r r.vm.conf.ret).toNat (by omega) (by omega)) _) ?_
 rfl
end Go.Proofs.YtjcminooghmpeaaGreatDoor
namespace Go.Proofs.YtjcminooghmpeaaGreatDoor
open Go.RowKit Go.Extern.Stop Go.Stop Go.Extern
def K1(t:Addr)(w:World):(ReflectliteValue.unpack (.iface 143 (.pointer (some t)))).run prog w
  = .ok (.agg #[.pointer (some ⟨5,143,none⟩),.pointer (some ⟨w.heap.size,0,none⟩),.int .u64 150]) (w.alloc (.cells #[.pointer (some t)] 143)):=by kernel_rfl
def XC (a : Addr) (w : World) : (ReflectliteValue.methodAny (ReflectliteValue.valueError "reflectlite.Value.Type" 0) (fun t _ _ _ => ReflectliteType.toType t) #[.agg #[.pointer (some ⟨5, 143, none⟩), .pointer (some a), .int .u64 150]]).run prog w
  = .ok (.iface 221 (.agg #[.pointer (some ⟨5,143,none⟩)])) w:=by kernel_rfl
def R8 (h : Value) (w : World) : (Go.method 513 221 (.agg #[h]) "Kind").run prog w = .ok (408, h) w := by kernel_rfl
def Tv(w:World):((ReflectliteType.abiMethod fun t=>(fun a:Nat=>Value.int IntKind.u8 (a:Int)) <$> Rtype.kind t) #[.pointer (some ⟨5,143,none⟩)]).run prog w=.ok (.int .u8 22) w:=by kernel_rfl
def VF(w:World):((ReflectliteType.abiMethod fun t=>(fun a:Nat=>Value.int IntKind.u8 (a:Int)) <$> Rtype.kind t) #[.pointer (some ⟨5,141,none⟩)]).run prog w=.ok (.int .u8 25) w:=by kernel_rfl
def Rp(z:Sem Value)(f:TypeId->Addr->Nat->Nat->Sem Value)(v:Value):
  ReflectliteValue.method z f #[v]=(do match <-ReflectliteValue.parts v with|none=>z|some (t,a,fl)=>f t a fl (fl%32)):=rfl
def Du(a:Addr)(w:World):(ReflectliteValue.parts (.agg #[.pointer (some ⟨5,143,none⟩),.pointer (some a),.int .u64 150])).run prog w=.ok (some (143,a,150)) w:=by kernel_rfl
def RA(a p:Addr)(W:World)(ha:W.cell? a=some (.pointer (some p))):
  (ReflectliteValue.method (ReflectliteValue.valueError "reflectlite.Value.IsNil" 0) ReflectliteValue.isNil #[.agg #[.pointer (some ⟨5, 143, none⟩), .pointer (some a), .int .u64 150]]).run prog W = .ok (.bool false) W := by
 rw[Rp]
 simp only[Sem.run_bind,Du,Result.andThen]
 simp[ReflectliteValue.isNil,loadVar,isAgg,underlying,underlying143,ha,Result.andThen]
def U2 (h : Value) (w : World) : (Go.method 513 221 (.agg #[h]) "Elem").run prog w = .ok (421, .agg #[h]) w := by kernel_rfl
def Vp (h : Value) (w : World) : (Go.method 513 221 (.agg #[h]) "Implements").run prog w = .ok (422, .agg #[h]) w := by kernel_rfl
def Lv (h : Value) (w : World) : (Go.method 513 221 (.agg #[h]) "AssignableTo").run prog w = .ok (419, .agg #[h]) w := by kernel_rfl
def XE(w:World):(ReflectliteType.method ReflectliteType.elem #[.agg #[.pointer (some ⟨5,143,none⟩)]]).run prog w=.ok (.iface 221 (.agg #[.pointer (some ⟨5,141,none⟩)])) w:=by kernel_rfl
def Xx (w : World) : (ReflectliteType.relation "Implements" ReflectliteType.implements_ #[.agg #[.pointer (some ⟨5, 141, none⟩)], .iface 221 (.agg #[.pointer (some ⟨5, 87, none⟩)])]).run prog w = .ok (.bool true) w := by kernel_rfl
def Uw(v:Value)(w:World):(ReflectliteType.typeOf #[.iface 141 v]).run prog w=.ok (.iface 221 (.agg #[.pointer (some ⟨5,141,none⟩)])) w:=by kernel_rfl
def Z2 (w : World) : (ReflectliteType.relation "AssignableTo" ReflectliteType.assignableTo #[.agg #[.pointer (some ⟨5, 141, none⟩)], .iface 221 (.agg #[.pointer (some ⟨5, 141, none⟩)])]).run prog w = .ok (.bool true) w := by kernel_rfl
def OT(c:Int)(w:World):(ReflectliteValue.unpack (.iface 141 (.agg #[.int .i64 c]))).run prog w
  = .ok (.agg #[.pointer (some ⟨5,141,none⟩),.pointer (some ⟨w.heap.size,0,none⟩),.int .u64 153]) (w.alloc (.cells #[.int .i64 c] 141)):=by kernel_rfl
def Oo(w:World):(Rtype.elem? 143).run prog w=.ok (some 141) w:=by kernel_rfl
def aJ9(p:Addr)(w:World):(ReflectliteValue.mk 141 p ReflectliteValue.flagAddr).run prog w=.ok (.agg #[.pointer (some ⟨5,141,none⟩),.pointer (some p),.int .u64 409]) w:=by kernel_rfl
def Ud(a p:Addr)(W:World)(ha:W.cell? a=some (.pointer (some p))):
  (ReflectliteValue.method (ReflectliteValue.valueError "reflectlite.Value.Elem" 0) ReflectliteValue.elem #[.agg #[.pointer (some ⟨5, 143, none⟩), .pointer (some a), .int .u64 150]]).run prog W
   = .ok (.agg #[.pointer (some ⟨5,141,none⟩),.pointer (some p),.int .u64 409]) W:=by
 rw[Rp]
 simp only[Sem.run_bind,Du,Result.andThen]
 simp[ReflectliteValue.elem,loadVar,isAgg,underlying,underlying143,ha,Result.andThen,Oo,aJ9]
def N2(a:Addr)(w:World):(ReflectliteValue.parts (.agg #[.pointer (some ⟨5,141,none⟩),.pointer (some a),.int .u64 409])).run prog w=.ok (some (141,a,409)) w:=by kernel_rfl
def PR(a:Addr)(w:World):(ReflectliteValue.parts (.agg #[.pointer (some ⟨5,141,none⟩),.pointer (some a),.int .u64 153])).run prog w=.ok (some (141,a,153)) w:=by kernel_rfl
def N8(w:World):(Rtype.directlyAssignable 141 141).run prog w=.ok true w:=by kernel_rfl
def ao4(v x:Value):ReflectliteValue.set #[v,x]=(do
  let (some (dst,a,fl),some (src,b,_)):=(<-ReflectliteValue.parts v,<-ReflectliteValue.parts x)
   | unsupported (.noEntry "extern/(internal/reflectlite.Value).Set.zeroValue")
  if fl / ReflectliteValue.flagAddr % 2 == 0 then unsupported (.noEntry "extern/(internal/reflectlite.Value).Set.unaddressable")
  let val <-loadVar src b
  if <-Rtype.directlyAssignable dst src then storeVar dst a val
  else if <-Rtype.implements dst src then
   if (<-Rtype.kind src)==20 then
    match val with
    | .nilIface => unsupported (.noEntry "extern/reflectlite: a nil value of one interface type handed on as a value of another")
    | _=>storeVar dst a val
   else storeVar dst a (.iface src val)
  else panicString ("reflectlite.Set: value of type " ++ (← Rtype.spelt src) ++ " is not assignable to type " ++ (← Rtype.spelt dst))
  pure (.tuple #[])):=rfl
def NC(w:World):(sizeOf 141).run prog w=.ok 1 w:=by kernel_rfl
def ak7(ta b:Addr)(c:Int)(old:Value)(W:World)(hb:W.cell? b=some (.int .i64 c))(ht:W.cell? ta=some old)(hf:W.frozen? ta=false):
  (ReflectliteValue.set #[.agg #[.pointer (some ⟨5,141,none⟩),.pointer (some ta),.int .u64 409],.agg #[.pointer (some ⟨5,141,none⟩),.pointer (some b),.int .u64 153]]).run prog W
   = .ok (.tuple #[]) (W.setCell ta (.int .i64 c)):=by
 have hl:(loadVar 141 b).run prog W=.ok (.agg #[.int .i64 c]) W:=by
  have h1:=run_loadCells_list (P:=prog) W b [.int .i64 c] (fun j v hj=>by
   match j,hj with
   | 0,hj=>cases hj;rw[show b.add 0=b from by simp[Addr.add]];exact hb
   | j+1,hj=>simp at hj)
  unfold loadVar
  have h2:(loadCells b 1).run prog W=.ok #[.int .i64 c] W:=by simpa using h1
  simp[isAgg,underlying,underlying141,Result.andThen,NC,h2]
 have hs:(storeVar 141 ta (.agg #[.int .i64 c])).run prog W=.ok () (W.setCell ta (.int .i64 c)):=by
  simp[storeVar,Value.cells,storeCells,Addr.add,NC,Result.andThen]
  rw[run_store prog W ta _ _ (by rfl)]
  simp[ht,hf]
 rw[ao4]
 simp only[Sem.run_bind,N2,PR,Result.andThen]
 simp[ReflectliteValue.flagAddr,hl,hs,Result.andThen,N8]
def Yf(c:Int)(t:Addr)(old:Value)(w:World)(hg:w.cell? ⟨0,0,none⟩=some (.iface 221 (.agg #[.pointer (some ⟨5,87,none⟩)])))(ht0:w.cell? t=some old)(hf0:w.frozen? t=false):
  Calls prog 83 #[.iface 141 (.agg #[.int .i64 c]),.iface 143 (.pointer (some t))] w fun ev w'=>ev=.returned (.bool true)/\∃w1,bj w w1/\w'=w1.setCell t (.int .i64 c):=by
 have h6:=@run_callFunc_extern prog 108 _ (fun args=>ReflectliteValue.unpack (args.getD 0 (.tuple #[]))) func108 (by kernel_rfl) (by kernel_rfl) (by kernel_rfl) (by kernel_rfl)
 have h7 := @run_callFunc_extern prog 109 _ (ReflectliteValue.methodAny (ReflectliteValue.valueError "reflectlite.Value.Type" 0) (fun t _ _ _ => ReflectliteType.toType t)) func109 (by kernel_rfl) (by kernel_rfl) (by kernel_rfl) (by kernel_rfl)
 have h8 := @run_callFunc_extern prog 110 _ (ReflectliteValue.method (ReflectliteValue.valueError "reflectlite.Value.IsNil" 0) ReflectliteValue.isNil) func110 (by kernel_rfl) (by kernel_rfl) (by kernel_rfl) (by kernel_rfl)
 have h27:=@run_callFunc_extern prog 408 _ (ReflectliteType.abiMethod fun t=>do pure (.int .u8 (<-Rtype.kind t))) func408 (by kernel_rfl) (by kernel_rfl) (by kernel_rfl) (by kernel_rfl)
 have h37:=@run_callFunc_extern prog 421 _ (ReflectliteType.method ReflectliteType.elem) func421 (by kernel_rfl) (by kernel_rfl) (by kernel_rfl) (by kernel_rfl)
 have h38 := @run_callFunc_extern prog 422 _ (ReflectliteType.relation "Implements" ReflectliteType.implements_) func422 (by kernel_rfl) (by kernel_rfl) (by kernel_rfl) (by kernel_rfl)
 have h10:=@run_callFunc_extern prog 155 _ ReflectliteType.typeOf func155 (by kernel_rfl) (by kernel_rfl) (by kernel_rfl) (by kernel_rfl)
 have h35 := @run_callFunc_extern prog 419 _ (ReflectliteType.relation "AssignableTo" ReflectliteType.assignableTo) func419 (by kernel_rfl) (by kernel_rfl) (by kernel_rfl) (by kernel_rfl)
 have h11 := @run_callFunc_extern prog 156 _ (ReflectliteValue.method (ReflectliteValue.valueError "reflectlite.Value.Elem" 0) ReflectliteValue.elem) func156 (by kernel_rfl) (by kernel_rfl) (by kernel_rfl) (by kernel_rfl)
 have h12:=@run_callFunc_extern prog 157 _ ReflectliteValue.set func157 (by kernel_rfl) (by kernel_rfl) (by kernel_rfl) (by kernel_rfl)
 have tT:=Uw
 have mA:=Lv
 have aT:=Z2
 have vT:=OT
 have f6:=K1
 have f7:=XC
 have mK:=R8
 have mE:=U2
 have mI:=Vp
 have kP:=Tv
 have kT:=VF
 have eP:=XE
 have iT:=Xx
 have hlt:0<w.heap.size:=by
  rcases Nat.lt_or_ge 0 w.heap.size with h|h
  ·exact h
  simp[World.cell?,Array.getElem?_eq_none h]at hg
 have htl:t.block<w.heap.size:=by
  rcases Nat.lt_or_ge t.block w.heap.size with h|h
  ·exact h
  simp[World.cell?,Array.getElem?_eq_none h]at ht0
 let A1:Obj:=.cells #[.pointer (some t)] 143
 let A2:Obj:=.cells #[.pointer (some ⟨5,143,none⟩),.pointer (some ⟨w.heap.size,0,none⟩),.int .u64 150] 184
 let A5:Obj:=.cells #[.int .i64 c] 141
 have n8:=RA ⟨w.heap.size,0,none⟩ t ((w.alloc A1).alloc A2) (by simp[A1])
 have hg2:((w.alloc A1).alloc A2).cell? ⟨0,0,none⟩=some (.iface 221 (.agg #[.pointer (some ⟨5,87,none⟩)])):=by
  rw[World.cell?_alloc_lt _ _ ⟨0,0,none⟩ (by(simp;done)),World.cell?_alloc_lt _ _ ⟨0,0,none⟩ hlt];exact hg
 have el:=Ud ⟨w.heap.size,0,none⟩ t (((w.alloc A1).alloc A2).alloc A2) (by rw[World.cell?_alloc_lt _ _ ⟨w.heap.size,0,none⟩ (by(simp;omega)),World.cell?_alloc_lt _ _ ⟨w.heap.size,0,none⟩ (by simp)];simp[A1])
 have st:=ak7 t ⟨w.heap.size+1+1+1,0,none⟩ c old ((((w.alloc A1).alloc A2).alloc A2).alloc A5)
  (by rw[World.cell?_alloc_at _ _ _ _ (by simp)];rfl)
  (by rw[World.cell?_alloc_lt _ _ t (by(simp;omega)),World.cell?_alloc_lt _ _ t (by(simp;omega)),World.cell?_alloc_lt _ _ t (by(simp;omega)),World.cell?_alloc_lt _ _ t htl];exact ht0)
  (by rw[World.frozen?_alloc_old _ _ t (by(simp;omega)),World.frozen?_alloc_old _ _ t (by(simp;omega)),World.frozen?_alloc_old _ _ t (by(simp;omega)),World.frozen?_alloc_old _ _ t (Nat.ne_of_lt htl)];exact hf0)
 simp only[A1,A2,A5]at n8 hg2 el st
 clear A1 A2 A5
 go_enter func83,ntmps83
 go_wp2
 refine wp_loop_rounds 1 ?_
 rw[rounds_succ]
 go_wp2
 go_ret
 exact⟨rfl,_,(((bj.alloc _ _).trans (bj.alloc _ _)).trans (bj.alloc _ _)).trans (bj.alloc _ _),rfl⟩
def X0(t:Value)(w:World):Calls prog 83 #[.nilIface,t] w fun ev w'=>ev=.returned (.bool false)/\w'=w:=by
 go_enter func83,ntmps83
 go_wp2
 go_ret
 exact⟨rfl,rfl⟩
def aP2(k:Int){x0:PV}(H:List Ob)(i j:Nat)(hi:H[i]?=some (.cells [x0] 141))(hj:H[j]?=some (.glob 0 etV)):
  HC prog 83 [.ifc 141 (.agg [i64 k]),.ifc 143 (.ptr i 0)] H (boo true) (H.set i (.cells [i64 k] 141)):=by
 intro B σ w vs s hv
 obtain⟨b,vs0,fr,hb,hw,hfr,p,q,rfl,hp⟩:=s.holds i _ hi
 simp only[cx]at hb hw
 match p,hp with
 | [],hp=>have:=au.length hp;simp at this
 | _::_::_,hp=>have:=au.length hp;simp at this
 | [old],hp =>
 have hvs:vs=[.iface 141 (.agg #[.int .i64 k]),.iface 143 (.pointer (some ⟨b,0,none⟩))]:=vi hv (fun u hu=>yW hu) (fun u hu=>by
  unfold Rep at hu
  obtain⟨z,rfl,hz⟩:=hu
  unfold Rep at hz
  obtain⟨_,b2,h2,rfl⟩:=hz
  simp only[cx]at h2
  rw[hb]at h2;cases h2;rfl)
 subst hvs
 obtain⟨hg,_⟩:=s.holds j _ hj
 have ht0:w.cell? ⟨b,0,none⟩=some old:=by rw[fa hw];rfl
 have hf0:w.frozen? ⟨b,0,none⟩=false:=by
  rcases hfr with rfl|hz
  ·simp[World.frozen?,hw]
  obtain⟨lo,hi'⟩:=fr
  simp only[World.frozen?,hw,Bool.and_eq_false_iff,decide_eq_false_iff_not]
  simp only[List.length_append,List.length_cons]at hz
  exact .inl (by omega)
 refine Calls.mono (Yf k ⟨b,0,none⟩ old w hg ht0 hf0) ?_
 rintro e w' ⟨rfl,w1,g,rfl⟩
 obtain⟨s1,st1⟩:=gU s g
 have hw1:w1.heap[b]?=some (Obj.cells (old::q).toArray 141 fr):=(g.block b (Array.getElem?_eq_some_iff.1 hw).1).trans hw
 obtain⟨s2,st2⟩:=lV s1 (ys:=[i64 k]) (us:=.int .i64 k::q) hi hb hw1 hfr rfl ⟨[.int .i64 k],q,rfl,af.2 ⟨ar _ _,aG.2 rfl⟩⟩
 have e1:w1.setCell ⟨b,0,none⟩ (.int .i64 k)=w1.setRow b (Value.int .i64 k::q).toArray:=by
  rw[setCell_eq_setRow w1 b 0 _ _ _ _ hw1];simp
 rw[e1]
 exact⟨.bool true,σ,rfl,ar _ _,s2,st1.trans st2⟩
def aI7(H:List Ob)(y:PV):HC prog 83 [.val .nilIface,y] H (boo false) H:=by
 intro B σ w vs s hv
 match vs,hv with
 | [],hv=>have:=au.length hv;simp at this
 | [_],hv=>have:=au.length hv;simp at this
 | p::q::r::l,hv=>have:=au.length hv;simp at this
 | [p,q],hv =>
 have hp:p=.nilIface:=BQ (af.1 hv).1
 subst hp
 refine Calls.mono (X0 q w) ?_
 rintro e w' ⟨rfl,rfl⟩
 exact⟨.bool false,σ,rfl,ar _ _,s,eH.refl _ _ _ _⟩
open Go.RowKit
def aq0{P:Program}{f:FuncId}{x y:PV}{l:List PV}{H H':List Ob}{res:PV}(h:Imp x y)(k:HC P f (y::l) H res H'):HC P f (x::l) H res H':=by
 intro B σ w vs s hv
 match vs,hv with
 | [],hv=>have:=au.length hv;simp at this
 | v::vs,hv=>exact k B σ w (v::vs) s (af.2 ⟨h _ _ (af.1 hv).1,(af.1 hv).2⟩)
def Xb(e:Int):Imp (.val (.iface 141 (.agg #[.int .i64 e]))) (.ifc 141 (.agg [i64 e])):=fun c v h=>by
 rw[BQ h]
 unfold Rep
 refine⟨_,rfl,?_⟩
 unfold Rep
 exact⟨[.int .i64 e],rfl,af.2 ⟨ar _ _,aG.2 rfl⟩⟩
def gd(a:Addr)(e:Int):∀(H:List Ob),(∀o∈gH a,∃k:Nat,H[k]?=some o)->HC prog 44 [Ce e] H (i64 e) H:=by
 by_cases he:e=0
 ·subst he
  refine gD (fF a) tG (rs:=[.tmp 2]) func44 rfl rfl rfl (by simp) (by simp) (fun B=>?_)
  refine zu1 ?_
  refine zu1 ?_
  refine Ws<|zp1 ?_
  refine Wa 4 rfl (aQ3) ?_
  refine Wd rfl rfl (p5 rfl (by kernel_rfl) rfl) ?_
  refine zC rfl func83 (aI7 _ _) ?_
  refine Wf rfl (by rfl) ?_
  refine zd ?_
  rfl
 have h1:=T7 he
 refine gD (fF a) tG (rs:=[.tmp 2]) func44 rfl rfl rfl (by simp) (by simp) (fun B=>?_)
 refine zu1 ?_
 refine zu1 ?_
 refine Ws<|zp1 ?_
 refine Wa 4 rfl (h1) ?_
 refine Wd rfl rfl (p5 rfl (by kernel_rfl) rfl) ?_
 refine zC rfl func83 (aq0 (Xb e) (aP2 e _ 2 1 rfl rfl)) ?_
 refine Wt rfl (by rfl) ?_
 refine zd ?_
 rfl
def SmE(e:Int):Prop:=-1000<=e/\e<=0
def SmE.fit{e:Int}(h:SmE e):ae e:=by unfold SmE at h;unfold ae;omega
def smk{e:Int}(h:(decide (-1000<=e)&&decide (e<=0))=true):SmE e:=by
 rw[Bool.and_eq_true]at h;exact⟨oT h.1,oT h.2⟩
def UM(m:bh)(here:Int)(b:List UInt8):SmE (cZ m here b).2.2:=by unfold cZ;split;exact(smk rfl:SmE (-8));exact(smk rfl:SmE 0)
def QX(m:bh)(here n:Int):SmE (ct m here n).2.2:=by
 unfold ct;split
 ·exact UM _ _ _
 exact(smk rfl:SmE (-23))
def U3(s:Str):SmE (eS s):=by
 unfold eS SmE
 (repeat' split)<;>exact⟨by decide,by decide⟩
def as9(l:List aP)(name:Str)(xt flags limit:Int):SmE (cD l name xt flags limit).2:=by
 unfold cD
 by_cases q1:eS name≠0
 ·rw[if_pos q1];exact U3 name
 rw[if_neg q1]
 by_cases q2:(if 1024<limit then 1024 else limit)<=(l.length:Int)
 ·rw[if_pos q2];exact(smk rfl:SmE (-8))
 rw[if_neg q2];exact(smk rfl:SmE 0)
def SY{w:FW}{e:Int}(h:SmE w.bad)(he:SmE e):SmE (okF w e).bad:=by unfold okF;split;exact he;exact h
def YI{w:FW}(h:SmE w.bad)(n:Int):SmE (ce w n).bad:=by
 unfold ce;split
 ·exact QX _ _ _
 exact h
def GU:∀(l:List Int) (w:FW),SmE w.bad->SmE (l.foldl ce w).bad
 | [],_,h=>h
 | x::l,w,h=>GU l _ (YI h x)
def W5{w:FW}(h:SmE w.bad)(name:Str)(flags:Int)(l:List Int):SmE (eM w name flags l).1.bad:=by
 refine GU l _ ?_
 have q:SmE (okF (okF w (aO w.f.vm.mem w.f.vm.here).2.2) (cD w.f.vm.dict name (aO w.f.vm.mem w.f.vm.here).2.1 flags w.f.vm.conf.words).2).bad:=SY (SY h (UM _ _ _)) (as9 _ _ _ _ _)
 unfold fL
 split
 ·exact q
 exact q
def Kw(f:aa)(name:Str)(last:Bool)(l:List Int):SmE (cJ f name last l).2:=by
 unfold cJ
 split
 ·exact(smk rfl:SmE (-29))
 unfold gK
 split
 ·have q:SmE (eM (aN f) name 0 l).1.bad:=W5 (by unfold aN;split;exact(smk rfl:SmE 0);exact(smk rfl:SmE (-29))) _ _ _
  unfold jo;split<;>exact q
 exact(smk rfl:SmE 0)
def LB{l:ag}{e:Int}(h:SmE l.err)(he:SmE e):SmE (oOk l e).err:=by unfold oOk;split;exact he;exact h
def L1{l:ag}(h:SmE l.err):SmE (bW l).1.err:=by
 unfold bW;split
 ·exact LB h (smk rfl:SmE (-16))
 exact h
def Yu{l:ag}{r:aa×Int}(h:SmE l.err)(he:SmE r.2):SmE (j8 l r).err:=by
 unfold j8;split
 ·exact LB h he
 exact LB h he
def Pb{l:ag}(h:SmE l.err):SmE (eJ l).err:=by
 unfold eJ jU;split
 ·exact Yu (L1 h) (Kw _ _ _ _)
 exact L1 h
def aL4{N k:Nat}{f:aa}(g:be N f.vm)(hk:N+k<=1000000):FK k f:=by
 have R:=g.right
 have hc:=R.gl
 unfold eG at hc
 have h1:=R.len
 have h2:=R.jM
 have h3:=R.jP
 have h4:=g.old
 have h5:=R.handl
 have h6:=R.dict
 have h7:f.vm.dict.length<=1024:=by
  unfold iz at h6
  simp only[Bool.and_eq_true,decide_eq_true_eq]at h6
  exact h6.2
 exact⟨by omega,by omega,h2,by omega,by omega,tB h6,by omega⟩
def LU{N:Nat}{f:aa}(g:be N f.vm)(name:Str)(last:Bool)(l:List Int):be (N+1+l.length) (cJ f name last l).1.vm:=by
 unfold cJ
 split
 ·exact g.up (by omega)
 unfold gK
 split
 ·exact g.up (by omega)
 have q:=Fb (l:=l) (w:=aN f) g name (flags:=0) (by decide) (by decide)
 unfold jo;split
 ·exact yM q (xr g)
 exact q
def PJ{N:Nat}{l:ag}(g:be N l.f.vm):be (N+3) (eJ l).f.vm:=by
 have e:=(me l).1
 unfold eJ jU
 split
 ·rcases KC (bW l).1 (cJ (bW l).1.f (bW l).2 true [257,0])with q|q
  ·rw[q,e];exact LU g _ _ [257,0]
  rw[q,e];exact g.up (by omega)
 rw[e];exact g.up (by omega)
def kX(l:ag)(r:bH):ag:=⟨⟨r.vm,l.f.comp⟩,l.s,l.at_,0,0⟩
def LD(v:VVm)(r:bH)(ip:Int):bH:=⟨v,ip,0,false,W64 (r.fuel-1)⟩
def jf(l:ag)(r:bH)(ip:Int):ag×bH×Int :=
 if r.fuel<1 then(l,r,-256)else if (eJ (kX l r)).err=0 then({l with at_:=(eJ (kX l r)).at_},LD (eJ (kX l r)).f.vm r ip,0)else(l,bZ (LD r.vm r ip) (eJ (kX l r)).err)
def Ux{l:ag}{r:bH}{ip:Int}(h:r.fuel<1):jf l r ip=(l,r,-256):=by unfold jf;rw[if_pos h]
def aN2{l:ag}{r:bH}{ip:Int}(h:¬r.fuel<1)(q:(eJ (kX l r)).err=0):jf l r ip=({l with at_:=(eJ (kX l r)).at_},LD (eJ (kX l r)).f.vm r ip,0):=by unfold jf;rw[if_neg h,if_pos q]
def aH9{l:ag}{r:bH}{ip:Int}(h:¬r.fuel<1)(q:¬(eJ (kX l r)).err=0):jf l r ip=(l,bZ (LD r.vm r ip) (eJ (kX l r)).err):=by unfold jf;rw[if_neg h,if_neg q]
def Ze(a:Addr)(l:ag)(r:bH)(ip:Int)(N:Nat)(g:be N r.vm)(hN:N+3<=1000000)(hs:l.s.length<=1000000):∀(H:List Ob) (i:Nat),H[i]?=some (.cells (aS l) 89)->(∀o∈gH a,∃k:Nat,H[k]?=some o)->HC prog 86 (.ptr i 0::[xh r,i64 ip]) H (ND (jf l r ip).2) (H.set i (.cells (aS (jf l r ip).1) 89)):=by
 have pC:=Dp (kX l r) hs (aL4 (f:=(kX l r).f) g hN)
 have m0:=Ux (l:=l) (r:=r) (ip:=ip)
 have m1:=aN2 (l:=l) (r:=r) (ip:=ip)
 have m2:=aH9 (l:=l) (r:=r) (ip:=ip)
 obtain⟨c,hc⟩:∃c,eJ (kX l r)=c:=⟨_,rfl⟩
 rw[hc]at pC m1 m2
 refine l7 (fF a) tG (rs:=[.cell 6 145,.tmp 7]) func86 rfl rfl rfl (by simp) (by simp) (by simp) (by simp) (fun B=>?_)
 refine zd ?_
 refine Wi rfl ?_ ?_<;>intro hi1
 ·have q0:r.fuel<1:=oT hi1
  refine zd ?_
  refine Wq<|aQ rfl rfl ?_ ?_
  ·(rw[m0 q0];rfl)
  (rw[m0 q0];rfl)
 have q0:¬r.fuel<1:=oF hi1
 refine zd ?_
 refine zW [0,1,0,0,0,0,1,0,0,0,0,1,0,0,0,1,0,2,3] [0,1,2,3,4,5,6,7,8,9,10,11,12,13,14,15,16,17,18] ?_
 refine lE tG rfl rfl rfl rfl rfl trivial rfl ?_
 refine cr tG rfl rfl rfl rfl rfl trivial ?_
 refine zd ?_
 refine zC rfl func114 ((pC) _ _ rfl) ?_
 refine Wd rfl rfl (aY rfl (by kernel_rfl) rfl (by exact dR _)) ?_
 refine zd ?_
 refine Wi rfl ?_ ?_<;>intro hi2
 ·have q1:c.err=0:=oT hi2
  refine zd ?_
  refine Wq<|aQ rfl rfl ?_ ?_
  ·(rw[m1 q0 q1];rfl)
  (rw[m1 q0 q1];rfl)
 have q1:¬c.err=0:=oF hi2
 refine zd ?_
 refine zW [0,1,0,0,1,0,0,0,1,2,0,0,0,3,0] [0,1,2,3,4,5,6,7,8,9,10,11,12,13,14] ?_
 refine iV rfl rfl rfl rfl (dC rfl func44 rfl rfl (gd a _ _ (bS 1 2 rfl rfl))) ?_
 refine Xc rfl rfl rfl rfl (fun _=>dC rfl func115 rfl rfl ((Fi (LD r.vm r ip) c.err N g) _)) ?_
 refine zd ?_
 refine cr tG rfl rfl rfl rfl rfl trivial ?_
 refine zd ?_
 refine Wq<|aQ rfl rfl ?_ ?_
 ·(rw[m2 q0 q1];rfl)
 (rw[m2 q0 q1];rfl)
structure EX where
 l:ag
 r:bH
 over:Bool
 e:Int
def exM(x:EX):ag×bH×Int:=jf x.l x.r (bR x.r).2
def pj(x:EX):EX:=if (bR x.r).1=true then⟨(exM x).1,(exM x).2.1,x.over,(exM x).2.2⟩else⟨x.l,(bz x.r).1,(bz x.r).2.1,(bz x.r).2.2⟩
def EX.stops(x:EX):Prop:=x.over=true\/x.e≠0
instance (x:EX):Decidable x.stops:=by unfold EX.stops;infer_instance
def ja:Nat->EX->EX
 | 0,x=>x
 | n+1,x=>if x.stops then x else ja n (pj x)
def rH{x:EX}(h:x.stops):∀n,ja n x=x
 | 0=>rfl
 | n+1=>by rw[ja,if_pos h]
def IM{x:EX}(h:¬x.stops)(n:Nat):ja (n+1) x=ja n (pj x):=by rw[ja,if_neg h]
def Y4{x:EX}(h:(bR x.r).1=true):pj x=⟨(exM x).1,(exM x).2.1,x.over,(exM x).2.2⟩:=by unfold pj;rw[if_pos h]
def Jo{x:EX}(h:¬(bR x.r).1=true):pj x=⟨x.l,(bz x.r).1,(bz x.r).2.1,(bz x.r).2.2⟩:=by unfold pj;rw[if_neg h]
structure ExI (R:EX) (s:Nat×EX):Prop where
 out:ja s.1 s.2=R
 live:¬s.2.stops->0<=s.2.r.fuel/\s.2.r.fuel+1<s.1
 g:gM (700000-5*s.1) s.2.r
 n:s.1<=100000
 sl:s.2.l.s.length<=1000000
 fu:ae s.2.r.fuel
def Rm(l:ag)(r:bH)(ip:Int):(jf l r ip).1.s=l.s/\(jf l r ip).1.f=l.f/\(jf l r ip).1.err=l.err:=by
 unfold jf
 split
 ·exact⟨rfl,rfl,rfl⟩
 split<;>exact⟨rfl,rfl,rfl⟩
def DC{l:ag}{r:bH}{ip:Int}{N:Nat}(g:gM N r)(hi:ae ip):gM (N+3) (jf l r ip).2.1:=by
 unfold jf
 split
 ·exact g.up (by omega)
 split
 ·exact⟨PJ (l:=kX l r) g.m,hi,bC⟩
 exact xM (r:=LD r.vm r ip) ⟨g.m.up (by omega),hi,bC⟩ (Pb (smk rfl:SmE 0)).fit
def xZ{r:bH}(hi:ae r.ip):ae (bR r).2:=by
 unfold bR yz
 split
 ·exact hi
 split
 ·exact hi
 exact cU _
def ExI.next{R:EX}{s:Nat×EX}(h:ExI R s)(k:¬s.2.stops):ExI R (s.1-1,pj s.2)/\s.1-1<s.1:=by
 obtain⟨f0,f1⟩:=h.live k
 have f2:=h.n
 obtain⟨n,hn⟩:∃n,s.1=n+1:=⟨s.1-1,by omega⟩
 have hr:=h.out
 rw[hn,IM k]at hr
 have hw:W64 (s.2.r.fuel-1)=s.2.r.fuel-1:=gS (by omega) (by omega)
 refine⟨?_,by omega⟩
 by_cases c:(bR s.2.r).1=true
 ·have e:=Y4 c
  have fm:¬s.2.r.fuel<1->(exM s.2).2.1.fuel=s.2.r.fuel-1:=fun q=>by
   unfold exM jf
   rw[if_neg q]
   split
   ·exact hw
   show(bZ _ _).1.fuel=_;rw[rq];exact hw
  have fs:s.2.r.fuel<1->(exM s.2).2.2 = -256/\(exM s.2).2.1.fuel=s.2.r.fuel:=fun q=>by unfold exM;rw[Ux q];exact⟨rfl,rfl⟩
  refine⟨by rw[show((s.1-1,pj s.2):Nat×EX).1=n by show s.1-1=n;omega];exact hr,fun k2=>?_,?_,by show s.1-1<=_;omega,?_,?_⟩
  ·rw[e]at k2 ⊢
   by_cases q:s.2.r.fuel<1
   ·exact absurd (.inr (by show(exM s.2).2.2≠0;rw[(fs q).1];decide)) k2
   show 0<=(exM s.2).2.1.fuel/\(exM s.2).2.1.fuel+1<((s.1-1:Nat):Int)
   rw[fm q];omega
  ·rw[e];exact(DC h.g (xZ h.g.ip)).up (by show 700000-5*s.1+3<=700000-5*(s.1-1);omega)
  ·rw[e];show(exM s.2).1.s.length<=_;unfold exM;rw[(Rm _ _ _).1];exact h.sl
  rw[e];show ae (exM s.2).2.1.fuel
  by_cases q:s.2.r.fuel<1
  ·rw[(fs q).2];exact h.fu
  rw[fm q];unfold ae;omega
 have e:=Jo c
 have fm:¬s.2.r.fuel<1->(bz s.2.r).1.fuel=s.2.r.fuel-1:=fun q=>by rw[wS h.g.m.right.d q];exact hw
 have fs:s.2.r.fuel<1->bz s.2.r=(s.2.r,false,-256):=fun q=>xy q
 refine⟨by rw[show((s.1-1,pj s.2):Nat×EX).1=n by show s.1-1=n;omega];exact hr,fun k2=>?_,?_,by show s.1-1<=_;omega,?_,?_⟩
 ·rw[e]at k2 ⊢
  by_cases q:s.2.r.fuel<1
  ·exact absurd (.inr (by show(bz s.2.r).2.2≠0;rw[fs q];show(-256:Int)≠0;decide)) k2
  show 0<=(bz s.2.r).1.fuel/\(bz s.2.r).1.fuel+1<((s.1-1:Nat):Int)
  rw[fm q];omega
 ·rw[e];exact(ub h.g).up (by show 700000-5*s.1+2<=700000-5*(s.1-1);omega)
 ·rw[e];exact h.sl
 rw[e];show ae (bz s.2.r).1.fuel
 by_cases q:s.2.r.fuel<1
 ·rw[fs q];exact h.fu
 rw[fm q];unfold ae;omega
def xO(l:ag)(xt:Int):EX:=⟨l,g7 l.f.vm xt l.fuel,false,0⟩
def vw(x:EX):ag:={x.l with f:={x.l.f with vm:=zV x.r.vm},fuel:=x.r.fuel}
def exR(l:ag)(xt:Int):EX:=ja (l.fuel.toNat+2) (xO l xt)
def jN(l:ag)(xt:Int):ag:=oOk (vw (exR l xt)) (exR l xt).e
def qC(a:Addr)(l:ag)(xt:Int)(N:Nat)(g:be N l.f.vm)(hx:ae xt)(h0:0<=l.fuel)(h1:l.fuel<=90000)(hN:N<=190000)(hs:l.s.length<=1000000):∀(H:List Ob) (i:Nat),H[i]?=some (.cells (aS l) 89)->(∀o∈gH a,∃k:Nat,H[k]?=some o)->HC prog 45 (.ptr i 0::[i64 xt]) H (.tup []) (H.set i (.cells (aS (jN l xt)) 89)):=by
 unfold jN
 obtain⟨R,hR⟩:∃R,exR l xt=R:=⟨_,rfl⟩
 rw[hR]
 have i0:ExI R (l.fuel.toNat+2,xO l xt):=⟨hR,fun _=>⟨h0,by show l.fuel+1<((l.fuel.toNat+2:Nat):Int);omega⟩,(BD g hx).up (by show N<=700000-5*(l.fuel.toNat+2);omega),by show l.fuel.toNat+2<=100000;omega,hs,by show ae l.fuel;unfold ae;omega⟩
 clear hR
 refine l7 (fF a) tG (rs:=[]) func45 rfl rfl rfl (by simp) (by simp) (by simp) (by simp) (fun B=>?_)
 refine zd ?_
 refine zW [0,0,0,0,1,0,0,0,0,1,0,2,3] [0,1,2,3,4,5,6,7,8,9,10,11,12] ?_
 refine Xc rfl rfl rfl rfl (fun _=>dC rfl func84 rfl rfl ((HK l.f.vm xt l.fuel) _)) ?_
 refine lE tG rfl rfl rfl rfl rfl trivial rfl ?_
 refine cr tG rfl rfl rfl rfl rfl trivial ?_
 refine fS ?_
 refine zu2 ?_
 refine Ws<|Wl ?_
 show W _ _ _ _ _ _ _
 refine dJ (fun(s:(Nat×EX))=>[(0,.ptr 0 0),(4,.ptr 3 0),(5,boo s.2.over),(6,i64 s.2.e)]) (fun(s:(Nat×EX))=>[.cells (aS s.2.l) 89,.glob 1 (haltV a),.glob 0 etV,.cells (sW s.2.r) 145]) (fun(s:(Nat×EX))=>[]) (fun(s:(Nat×EX))=>ExI R s) (fun(s:(Nat×EX))=>s.1) ((l.fuel.toNat+2,xO l xt)) (by exact i0) [] ?_ ?_
 ·exact dK
 intro s hs
 refine Ws<|zp3 ?_
 refine Wb 25 rfl ?_ ?_<;>intro hg1
 ·have q1:s.2.over=false:=by simpa using hg1
  refine zd ?_
  refine Wi rfl ?_ ?_<;>intro hi1
  ·have q2:s.2.e=0:=by simpa using hi1
   have lv:¬s.2.stops:=fun z=>z.elim (fun z=>by rw[q1]at z;cases z) (fun z=>z q2)
   have nx:=hs.next lv
   refine zd ?_
   refine zC rfl func85 ((B3 s.2.r (by have:=hs.g.m.right.len;have:=hs.g.m.right.gl;unfold eG at this;omega) hs.g.ip hs.g.w) _) ?_
   refine Wi rfl ?_ ?_<;>intro hi2
   ·have q3:(bR s.2.r).1=true:=hi2
    have ee:=Y4 q3
    rw[ee]at nx
    let xx:EX:=⟨(exM s.2).1,(exM s.2).2.1,s.2.over,(exM s.2).2.2⟩
    refine zd ?_
    refine zC rfl func86 (Ze a s.2.l s.2.r (bR s.2.r).2 _ hs.g.m (by omega) hs.sl _ 0 rfl (bS 1 2 rfl rfl)) ?_
    refine aW ?_
    exact⟨(s.1-1,xx),[],(by exact nx.1),(by exact nx.2),dK⟩
   have q3:¬(bR s.2.r).1=true:=by rw[hi2];decide
   have ee:=Jo q3
   rw[ee]at nx
   let xx:EX:=⟨s.2.l,(bz s.2.r).1,(bz s.2.r).2.1,(bz s.2.r).2.2⟩
   refine zd ?_
   refine zC rfl func87 (G8 a s.2.r _ hs.g (by omega) hs.fu _ (bS 1 2 rfl rfl)) ?_
   exact⟨(s.1-1,xx),[],(by exact nx.1),(by exact nx.2),dK⟩
  have q2:¬s.2.e=0:=by simpa using hi1
  have st:s.2=R:=(rH (.inr q2) s.1).symm.trans hs.out
  refine aW ?_
  refine zd ?_
  refine zW [0,0,0,10,0,10,0,0,0,5,0,0,5] [0,1,2,3,4,5,6,7,8,9,10,11,12] ?_
  refine zU 3 ?_
  refine z3 ?_
  refine zU 3 ?_
  refine zd ?_
  refine dW 0 tG rfl rfl rfl rfl rfl trivial rfl ?_
  refine zd ?_
  refine dW 0 tG rfl rfl rfl rfl rfl trivial rfl ?_
  refine fS ?_
  refine Nb 0 rfl rfl (ys:=aS (vw s.2)) rfl rfl ?_
  refine zd ?_
  refine zC rfl func41 ((o6 (vw s.2) s.2.e) _ _ rfl) ?_
  refine aV rfl rfl ?_ ?_
  ·rfl
  rw[<-st];rfl
 have q1:s.2.over=true:=by simpa using hg1
 have st:s.2=R:=(rH (.inl q1) s.1).symm.trans hs.out
 refine zd ?_
 refine Wf rfl rfl ?_
 refine aW ?_
 refine zd ?_
 refine zW [0,0,0,10,0,10,0,0,0,5,0,0,5] [0,1,2,3,4,5,6,7,8,9,10,11,12] ?_
 refine zU 3 ?_
 refine z3 ?_
 refine zU 3 ?_
 refine zd ?_
 refine dW 0 tG rfl rfl rfl rfl rfl trivial rfl ?_
 refine zd ?_
 refine dW 0 tG rfl rfl rfl rfl rfl trivial rfl ?_
 refine fS ?_
 refine Nb 0 rfl rfl (ys:=aS (vw s.2)) rfl rfl ?_
 refine zd ?_
 refine zC rfl func41 ((o6 (vw s.2) s.2.e) _ _ rfl) ?_
 refine aV rfl rfl ?_ ?_
 ·rfl
 rw[<-st];rfl
structure KD (v w:VVm):Prop where
 conf:w.conf=v.conf
 hand:w.hand=v.hand
 dict:v.dict.length<=w.dict.length
 xts:DX v.dict->DX w.dict
def KV.kd{v w:VVm}(h:KV v w):KD v w:=⟨h.conf,h.hand,by rw[h.dict];exact Nat.le_refl _,by rw[h.dict];exact id⟩
def KD.tr{a b c:VVm}(h:KD a b)(g:KD b c):KD a c:=⟨g.conf.trans h.conf,g.hand.trans h.hand,Nat.le_trans h.dict g.dict,fun q=>g.xts (h.xts q)⟩
def LV{N:Nat}(f:aa)(name:Str)(last:Bool)(l:List Int)(g:be N f.vm):KD f.vm (cJ f name last l).1.vm:=by
 have w:=Si (aN f) name 0 l
 unfold cJ
 split
 ·exact(KV.rf _).kd
 unfold gK
 split
 ·exact(KV.rf _).kd
 unfold jo
 split<;>exact⟨w.1,w.2.1,w.2.2.2,fun q=>Ez (w:=aN f) g q name 0 l⟩
def Pq{N:Nat}(l:ag)(g:be N l.f.vm):KD l.f.vm (eJ l).f.vm:=by
 have e:=(me l).1
 unfold eJ jU
 split
 ·rcases KC (bW l).1 (cJ (bW l).1.f (bW l).2 true [257,0])with q|q
  ·rw[q,<-e];exact LV _ _ _ _ (by rw[e];exact g)
  rw[q,e];exact(KV.rf _).kd
 rw[e];exact(KV.rf _).kd
def WE{N:Nat}(l:ag)(r:bH)(ip:Int)(g:be N r.vm):KD r.vm (jf l r ip).2.1.vm:=by
 unfold jf
 split
 ·exact(KV.rf _).kd
 split
 ·exact Pq (kX l r) g
 exact(Aq (LD r.vm r ip) _).kd
def Yn{l:ag}{r:bH}{ip:Int}(h0:0<=l.at_)(h1:l.at_<=l.s.length):l.at_<=(jf l r ip).1.at_/\(jf l r ip).1.at_<=l.s.length:=by
 unfold jf
 split
 ·exact⟨Int.le_refl _,h1⟩
 split
 ·show l.at_<=(eJ (kX l r)).at_/\(eJ (kX l r)).at_<=_
  have q:l.at_<=(bW (kX l r)).1.at_/\(bW (kX l r)).1.at_<=l.s.length:=by
   unfold bW;split
   ·rw[(zy (kX l r) (-16)).2.1];exact⟨Int.le_refl _,h1⟩
   rename_i z
   have w:=Fx l.s h0 h1 z
   exact⟨by show l.at_<=(bt l.s l.at_).2;omega,w.2.1⟩
  unfold eJ jU
  split
  ·rw[(yU _ _).2.1];exact q
  exact q
 exact⟨Int.le_refl _,h1⟩
structure ExG (M:Nat) (l0:ag) (v0:VVm) (x:EX):Prop where
 g:gM (M-3*x.r.fuel.toNat) x.r
 m:3*x.r.fuel.toNat<=M
 k:KD v0 x.r.vm
 s:x.l.s=l0.s
 f:x.l.f=l0.f
 a:l0.at_<=x.l.at_
 b:x.l.at_<=l0.s.length
 u0:0<=x.r.fuel
 u1:x.r.fuel<=l0.fuel
def ZB{M:Nat}{l0:ag}{v0:VVm}{x:EX}(h:ExG M l0 v0 x)(h0:0<=l0.at_)(h9:l0.fuel<=90000):ExG M l0 v0 (pj x):=by
 have u0:=h.u0
 have u1:=h.u1
 have m:=h.m
 by_cases hf:x.r.fuel<1
 ·by_cases c:(bR x.r).1=true
  ·rw[Y4 c]
   have e:exM x=(x.l,x.r,-256):=Ux hf
   rw[e]
   exact⟨h.g,h.m,h.k,h.s,h.f,h.a,h.b,h.u0,h.u1⟩
  rw[Jo c]
  have e:bz x.r=(x.r,false,-256):=xy hf
  rw[e]
  exact⟨h.g,h.m,h.k,h.s,h.f,h.a,h.b,h.u0,h.u1⟩
 have hw:W64 (x.r.fuel-1)=x.r.fuel-1:=gS (by omega) (by omega)
 have hm:M-3*x.r.fuel.toNat+3<=M-3*(x.r.fuel-1).toNat:=by omega
 by_cases c:(bR x.r).1=true
 ·rw[Y4 c]
  have fu:(exM x).2.1.fuel=x.r.fuel-1:=by
   unfold exM jf
   rw[if_neg hf]
   split
   ·exact hw
   show(bZ _ _).1.fuel=_;rw[rq];exact hw
  have sf:=Rm x.l x.r (bR x.r).2
  have at_:=Yn (l:=x.l) (r:=x.r) (ip:=(bR x.r).2) (by have:=h.a;omega) (by rw[h.s];exact h.b)
  have a:=h.a
  have es:=h.s
  refine⟨?_,?_,h.k.tr (WE x.l x.r _ h.g.m),sf.1.trans es,sf.2.1.trans h.f,by show l0.at_<=(jf x.l x.r (bR x.r).2).1.at_;omega,by show(jf x.l x.r (bR x.r).2).1.at_<=_;rw[<-es];exact at_.2,?_,?_⟩
  ·show gM (M-3*(exM x).2.1.fuel.toNat) (exM x).2.1
   rw[fu];exact(DC h.g (xZ h.g.ip)).up hm
  ·show 3*(exM x).2.1.fuel.toNat<=M
   rw[fu];omega
  ·show 0<=(exM x).2.1.fuel
   rw[fu];omega
  show(exM x).2.1.fuel<=_
  rw[fu];omega
 rw[Jo c]
 have fu:(bz x.r).1.fuel=x.r.fuel-1:=by rw[wS h.g.m.right.d hf];exact hw
 refine⟨?_,?_,h.k.tr (W6 h.g).kd,h.s,h.f,h.a,h.b,?_,?_⟩
 ·show gM (M-3*(bz x.r).1.fuel.toNat) (bz x.r).1
  rw[fu];exact(ub h.g).up (by omega)
 ·show 3*(bz x.r).1.fuel.toNat<=M
  rw[fu];omega
 ·show 0<=(bz x.r).1.fuel
  rw[fu];omega
 show(bz x.r).1.fuel<=_
 rw[fu];omega
def MJ{M:Nat}{l0:ag}{v0:VVm}(h0:0<=l0.at_)(h9:l0.fuel<=90000):∀(n:Nat) (x:EX),ExG M l0 v0 x->ExG M l0 v0 (ja n x)
 | 0,x,h=>h
 | n+1,x,h=>by
  rw[ja]
  split
  ·exact h
  exact MJ h0 h9 n _ (ZB h h0 h9)
structure Nr (l0 l:ag) (N:Nat):Prop where
 f:OkF (N+3*l0.fuel.toNat-3*l.fuel.toNat) l.f
 s:l.s=l0.s
 a:l0.at_<=l.at_
 b:l.at_<=l0.s.length
 u0:0<=l.fuel
 u1:l.fuel<=l0.fuel
def Rj{N:Nat}{l:ag}(h:OkF N l.f){xt:Int}(hx:ae xt)(h0:0<=l.at_)(h1:l.at_<=l.s.length)(u0:0<=l.fuel)(u9:l.fuel<=90000):Nr l (jN l xt) N:=by
 have b:ExG (N+3*l.fuel.toNat) l l.f.vm (xO l xt):=by
  refine⟨?_,?_,⟨rfl,rfl,Nat.le_refl _,id⟩,rfl,rfl,Int.le_refl _,h1,u0,Int.le_refl _⟩
  ·show gM (N+3*l.fuel.toNat-3*l.fuel.toNat) (g7 l.f.vm xt l.fuel)
   rw[Nat.add_sub_cancel];exact BD h.g hx
  show 3*l.fuel.toNat<=_;omega
 have r:=MJ h0 u9 (l.fuel.toNat+2) _ b
 unfold jN exR
 generalize ja (l.fuel.toNat+2) (xO l xt)=x at r ⊢
 have g:=r.g.m
 have hc:=g.right.gl
 unfold eG at hc
 have g2:=SV (Su g (r:=[]) (by show(0:Int)<=_;omega) bE) (f:=[]) rfl (by show(0:Nat)<=64;omega) (fun y hy=>by cases hy)
 have hf:(vw x).f={l.f with vm:=zV x.r.vm}:=by unfold vw;dsimp only;rw[r.f]
 have o:OkF (N+3*l.fuel.toNat-3*x.r.fuel.toNat) (vw x).f:=by
  rw[hf]
  exact h.vm (v:=zV x.r.vm) g2 r.k.dict r.k.conf (r.k.xts h.xts)
 have sf:=zy (vw x) x.e
 refine⟨?_,sf.1.trans r.s,?_,?_,?_,?_⟩
 ·rw[(uO _ _).1,sf.2.2];exact o
 ·rw[sf.2.1];exact r.a
 ·rw[sf.2.1];exact r.b
 ·rw[sf.2.2];exact r.u0
 rw[sf.2.2];exact r.u1
def aC3{f:Int}(h0:0<=f)(h7:f<=7):(IntKind.i64.wrap ↑(BitVec.ofInt IntKind.i64.bits f &&& BitVec.ofInt IntKind.i64.bits 4).toNat != 0)=decide (f/4%2=1):=by
 rcases qP h0 h7 with rfl|rfl|rfl|rfl|rfl|rfl|rfl|rfl<;>decide
def aK1{f:Int}(h0:0<=f)(h7:f<=7):(IntKind.i64.wrap ↑(BitVec.ofInt IntKind.i64.bits f &&& BitVec.ofInt IntKind.i64.bits 1).toNat==0)=decide (f%2=0):=by
 rcases qP h0 h7 with rfl|rfl|rfl|rfl|rfl|rfl|rfl|rfl<;>decide
def jh(w:aP)(k:Int):Bool:=decide (w.flags/4%2=1)||vc k
def i8(l:ag)(w:aP):ag×Bool :=
 if (az l.f.vm w.xt).2≠0 then(oOk l (az l.f.vm w.xt).2,false)
 else if (jh w (az l.f.vm w.xt).1&&!bK l.f)=true then(oOk l (-14),false)
 else if (bK l.f&&decide (w.flags%2=0))=true then(rO l w.xt,false)
 else if 300<=(az l.f.vm w.xt).1 then(rN l (bJ.getD ((az l.f.vm w.xt).1-300).toNat []),false)
 else(jN l w.xt,true)
structure aR5 (N:Nat) (l:ag) (w:aP):Prop where
 lk:LK 300 l
 g:be N l.f.vm
 n:N<=190000
 xt:ae w.xt
 f0:0<=w.flags
 f7:w.flags<=7
 u0:0<=l.fuel
 u1:l.fuel<=90000
 e:l.err=0
def xB{l:ag}(h:l.err=0):oOk l 0=l:=by
 rw[ok0 h];cases l;simp only at h;rw[h]
def VR(a:Addr)(l:ag)(w:aP)(N:Nat)(h:aR5 N l w):∀(H:List Ob) (i:Nat),H[i]?=some (.cells (aS l) 89)->(∀o∈gH a,∃k:Nat,H[k]?=some o)->HC prog 38 (.ptr i 0::[yq w]) H (boo (i8 l w).2) (H.set i (.cells (aS (i8 l w).1) 89)):=by
 have hm:l.f.vm.mem.b.length<=140737488355328:=by have:=h.lk.f.b;omega
 have pK:=qK l.f.vm w.xt hm h.xt
 have hkO:=@Gn l.f.vm w.xt
 have l4:=aC3 h.f0 h.f7
 have l1:=aK1 h.f0 h.f7
 have hL:=iF
 unfold i8
 obtain⟨k,hk⟩:∃k,az l.f.vm w.xt=k:=⟨_,rfl⟩
 rw[hk]at pK hkO ⊢
 by_cases z:k.2=0
 ·have e0:∀{α:Type} (x y:α),(if k.2≠0 then x else y)=y:=fun x y=>if_neg (fun q=>q z)
  have pO:=o6 l k.2
  rw[z,xB h.e]at pO
  have hb:=hkO z
  unfold d7 at hb
  have w1:300<=k.1->IntKind.i64.wrap (k.1-300)=k.1-300:=fun q=>gS (by omega) (by omega)
  refine l7 (fF a) tG (rs:=[.tmp 4]) func38 rfl rfl rfl (by simp) (by simp) (by simp) (by simp) (fun B=>?_)
  refine zd ?_
  refine zW [0,0,0,0,1,0,1,0,0,0,0,0,0] [0,1,2,3,4,5,6,7,8,9,10,11,12] ?_
  refine Xc rfl rfl rfl rfl (fun _=>dC rfl func67 rfl rfl ((pK) _)) ?_
  iterate 3 refine z3 ?_
  refine zO 18 rfl (j_ z) ?_
  refine zC rfl func41 ((pO) _ _ rfl) ?_
  refine Wf rfl (by rw[h.e];rfl) ?_
  refine zd ?_
  refine zc rfl func23 ((kg l.f hm) _) ?_
  refine zs1 ?_
  refine Ws<|Wl<|zp5 ?_
  refine Wb 37 rfl ?_ ?_<;>intro hg1
  ·have o:jh w k.1=true:=by unfold jh;rw[l4]at hg1;rw[hg1];rfl
   refine zd ?_
   refine Wi rfl ?_ ?_<;>intro hi2
   ·have c:bK l.f=false:=by simpa using hi2
    have n1:(jh w k.1&&!bK l.f)=true:=by rw[o,c];rfl
    refine zd ?_
    refine zC rfl func41 ((o6 l (-14)) _ _ rfl) ?_
    refine Wq<|aQ rfl rfl ?_ ?_
    ·(rw[e0,if_pos n1];rfl)
    (rw[e0,if_pos n1];rfl)
   have c:bK l.f=true:=by simpa using hi2
   have n1:¬(jh w k.1&&!bK l.f)=true:=by rw[o,c];decide
   refine zp2 ?_
   refine Wb 49 rfl ?_ ?_<;>intro hg2
   ·have c2:bK l.f=true:=hg2
    refine zd ?_
    refine Wi rfl ?_ ?_<;>intro hi3
    ·have b1:decide (w.flags%2=0)=true:=by rw[l1]at hi3;exact hi3
     have n2:(bK l.f&&decide (w.flags%2=0))=true:=by rw[c2,b1];rfl
     refine zd ?_
     refine zC rfl func69 ((sG l w.xt h.lk.f.mem h.lk.f.here) _ _ rfl) ?_
     refine Wq<|aQ rfl rfl ?_ ?_
     ·(rw[e0,if_neg n1,if_pos n2];rfl)
     (rw[e0,if_neg n1,if_pos n2];rfl)
    have b1:decide (w.flags%2=0)=false:=by rw[l1]at hi3;exact hi3
    have n2:¬(bK l.f&&decide (w.flags%2=0))=true:=by rw[b1];simp
    refine zd ?_
    refine Wi rfl ?_ ?_<;>intro hi4
    ·have q:300<=k.1:=oT hi4
     refine zd ?_
     refine zc rfl func71 ((fg) _) ?_
     refine zy2 ?_
     refine Wa 65 rfl (j_ (w1 q)) ?_
     refine Wv tG rfl rfl rfl (by omega) (iR gj 1 (fun _=>rfl) [] (by omega)) ?_
     refine z1 ?_
     refine zC rfl func70 ((l9 l (bJ.getD (k.1-300).toNat []) h.lk) _ _ rfl) ?_
     refine Wq<|aQ rfl rfl ?_ ?_
     ·(rw[e0,if_neg n1,if_neg n2,if_pos q];rfl)
     (rw[e0,if_neg n1,if_neg n2,if_pos q];rfl)
    have q:¬300<=k.1:=oF hi4
    refine zd ?_
    refine zC rfl func45 (qC a l w.xt N h.g h.xt h.u0 h.u1 h.n h.lk.s _ 0 rfl (bS 1 2 rfl rfl)) ?_
    refine Wq<|aQ rfl rfl ?_ ?_
    ·(rw[e0,if_neg n1,if_neg n2,if_neg q];rfl)
    (rw[e0,if_neg n1,if_neg n2,if_neg q];rfl)
   have c2:bK l.f=false:=hg2
   have n2:¬(bK l.f&&decide (w.flags%2=0))=true:=by rw[c2];simp
   refine zd ?_
   refine Wf rfl rfl ?_
   refine zd ?_
   refine Wi rfl ?_ ?_<;>intro hi4
   ·have q:300<=k.1:=oT hi4
    refine zd ?_
    refine zc rfl func71 ((fg) _) ?_
    refine zy2 ?_
    refine Wa 65 rfl (j_ (w1 q)) ?_
    refine Wv tG rfl rfl rfl (by omega) (iN gj 1 (fun _=>rfl) [] (by(simp_all;done))) ?_
    refine z1 ?_
    refine zC rfl func70 ((l9 l (bJ.getD (k.1-300).toNat []) h.lk) _ _ rfl) ?_
    refine Wq<|aQ rfl rfl ?_ ?_
    ·(rw[e0,if_neg n1,if_neg n2,if_pos q];rfl)
    (rw[e0,if_neg n1,if_neg n2,if_pos q];rfl)
   have q:¬300<=k.1:=oF hi4
   refine zd ?_
   refine zC rfl func45 (qC a l w.xt N h.g h.xt h.u0 h.u1 h.n h.lk.s _ 0 rfl (bS 1 2 rfl rfl)) ?_
   refine Wq<|aQ rfl rfl ?_ ?_
   ·(rw[e0,if_neg n1,if_neg n2,if_neg q];rfl)
   (rw[e0,if_neg n1,if_neg n2,if_neg q];rfl)
  have o1:decide (w.flags/4%2=1)=false:=by rw[l4]at hg1;exact hg1
  refine z1 ?_
  refine zc rfl func68 ((Gm k.1 (by omega) (by unfold ae;omega)) _) ?_
  refine zy2 ?_
  refine Wb 41 rfl ?_ ?_<;>intro hg3
  ·have o:jh w k.1=true:=by unfold jh;rw[o1,hg3];rfl
   refine zd ?_
   refine Wi rfl ?_ ?_<;>intro hi2
   ·have c:bK l.f=false:=by simpa using hi2
    have n1:(jh w k.1&&!bK l.f)=true:=by rw[o,c];rfl
    refine zd ?_
    refine zC rfl func41 ((o6 l (-14)) _ _ rfl) ?_
    refine Wq<|aQ rfl rfl ?_ ?_
    ·(rw[e0,if_pos n1];rfl)
    (rw[e0,if_pos n1];rfl)
   have c:bK l.f=true:=by simpa using hi2
   have n1:¬(jh w k.1&&!bK l.f)=true:=by rw[o,c];decide
   refine zp2 ?_
   refine Wb 49 rfl ?_ ?_<;>intro hg2
   ·have c2:bK l.f=true:=hg2
    refine zd ?_
    refine Wi rfl ?_ ?_<;>intro hi3
    ·have b1:decide (w.flags%2=0)=true:=by rw[l1]at hi3;exact hi3
     have n2:(bK l.f&&decide (w.flags%2=0))=true:=by rw[c2,b1];rfl
     refine zd ?_
     refine zC rfl func69 ((sG l w.xt h.lk.f.mem h.lk.f.here) _ _ rfl) ?_
     refine Wq<|aQ rfl rfl ?_ ?_
     ·(rw[e0,if_neg n1,if_pos n2];rfl)
     (rw[e0,if_neg n1,if_pos n2];rfl)
    have b1:decide (w.flags%2=0)=false:=by rw[l1]at hi3;exact hi3
    have n2:¬(bK l.f&&decide (w.flags%2=0))=true:=by rw[b1];simp
    refine zd ?_
    refine Wi rfl ?_ ?_<;>intro hi4
    ·have q:300<=k.1:=oT hi4
     refine zd ?_
     refine zc rfl func71 ((fg) _) ?_
     refine zy2 ?_
     refine Wa 65 rfl (j_ (w1 q)) ?_
     refine Wv tG rfl rfl rfl (by omega) (iR gj 1 (fun _=>rfl) [] (by omega)) ?_
     refine z1 ?_
     refine zC rfl func70 ((l9 l (bJ.getD (k.1-300).toNat []) h.lk) _ _ rfl) ?_
     refine Wq<|aQ rfl rfl ?_ ?_
     ·(rw[e0,if_neg n1,if_neg n2,if_pos q];rfl)
     (rw[e0,if_neg n1,if_neg n2,if_pos q];rfl)
    have q:¬300<=k.1:=oF hi4
    refine zd ?_
    refine zC rfl func45 (qC a l w.xt N h.g h.xt h.u0 h.u1 h.n h.lk.s _ 0 rfl (bS 1 2 rfl rfl)) ?_
    refine Wq<|aQ rfl rfl ?_ ?_
    ·(rw[e0,if_neg n1,if_neg n2,if_neg q];rfl)
    (rw[e0,if_neg n1,if_neg n2,if_neg q];rfl)
   have c2:bK l.f=false:=hg2
   have n2:¬(bK l.f&&decide (w.flags%2=0))=true:=by rw[c2];simp
   refine zd ?_
   refine Wf rfl rfl ?_
   refine zd ?_
   refine Wi rfl ?_ ?_<;>intro hi4
   ·have q:300<=k.1:=oT hi4
    refine zd ?_
    refine zc rfl func71 ((fg) _) ?_
    refine zy2 ?_
    refine Wa 65 rfl (j_ (w1 q)) ?_
    refine Wv tG rfl rfl rfl (by omega) (iN gj 1 (fun _=>rfl) [] (by(simp_all;done))) ?_
    refine z1 ?_
    refine zC rfl func70 ((l9 l (bJ.getD (k.1-300).toNat []) h.lk) _ _ rfl) ?_
    refine Wq<|aQ rfl rfl ?_ ?_
    ·(rw[e0,if_neg n1,if_neg n2,if_pos q];rfl)
    (rw[e0,if_neg n1,if_neg n2,if_pos q];rfl)
   have q:¬300<=k.1:=oF hi4
   refine zd ?_
   refine zC rfl func45 (qC a l w.xt N h.g h.xt h.u0 h.u1 h.n h.lk.s _ 0 rfl (bS 1 2 rfl rfl)) ?_
   refine Wq<|aQ rfl rfl ?_ ?_
   ·(rw[e0,if_neg n1,if_neg n2,if_neg q];rfl)
   (rw[e0,if_neg n1,if_neg n2,if_neg q];rfl)
  have o:jh w k.1=false:=by unfold jh;rw[o1,hg3];rfl
  have n1:¬(jh w k.1&&!bK l.f)=true:=by rw[o];simp
  refine zd ?_
  refine Wf rfl rfl ?_
  refine zp2 ?_
  refine Wb 49 rfl ?_ ?_<;>intro hg2
  ·have c2:bK l.f=true:=hg2
   refine zd ?_
   refine Wi rfl ?_ ?_<;>intro hi3
   ·have b1:decide (w.flags%2=0)=true:=by rw[l1]at hi3;exact hi3
    have n2:(bK l.f&&decide (w.flags%2=0))=true:=by rw[c2,b1];rfl
    refine zd ?_
    refine zC rfl func69 ((sG l w.xt h.lk.f.mem h.lk.f.here) _ _ rfl) ?_
    refine Wq<|aQ rfl rfl ?_ ?_
    ·(rw[e0,if_neg n1,if_pos n2];rfl)
    (rw[e0,if_neg n1,if_pos n2];rfl)
   have b1:decide (w.flags%2=0)=false:=by rw[l1]at hi3;exact hi3
   have n2:¬(bK l.f&&decide (w.flags%2=0))=true:=by rw[b1];simp
   refine zd ?_
   refine Wi rfl ?_ ?_<;>intro hi4
   ·have q:300<=k.1:=oT hi4
    refine zd ?_
    refine zc rfl func71 ((fg) _) ?_
    refine zy2 ?_
    refine Wa 65 rfl (j_ (w1 q)) ?_
    refine Wv tG rfl rfl rfl (by omega) (iR gj 1 (fun _=>rfl) [] (by omega)) ?_
    refine z1 ?_
    refine zC rfl func70 ((l9 l (bJ.getD (k.1-300).toNat []) h.lk) _ _ rfl) ?_
    refine Wq<|aQ rfl rfl ?_ ?_
    ·(rw[e0,if_neg n1,if_neg n2,if_pos q];rfl)
    (rw[e0,if_neg n1,if_neg n2,if_pos q];rfl)
   have q:¬300<=k.1:=oF hi4
   refine zd ?_
   refine zC rfl func45 (qC a l w.xt N h.g h.xt h.u0 h.u1 h.n h.lk.s _ 0 rfl (bS 1 2 rfl rfl)) ?_
   refine Wq<|aQ rfl rfl ?_ ?_
   ·(rw[e0,if_neg n1,if_neg n2,if_neg q];rfl)
   (rw[e0,if_neg n1,if_neg n2,if_neg q];rfl)
  have c2:bK l.f=false:=hg2
  have n2:¬(bK l.f&&decide (w.flags%2=0))=true:=by rw[c2];simp
  refine zd ?_
  refine Wf rfl rfl ?_
  refine zd ?_
  refine Wi rfl ?_ ?_<;>intro hi4
  ·have q:300<=k.1:=oT hi4
   refine zd ?_
   refine zc rfl func71 ((fg) _) ?_
   refine zy2 ?_
   refine Wa 65 rfl (j_ (w1 q)) ?_
   refine Wv tG rfl rfl rfl (by omega) (iR gj 1 (fun _=>rfl) [] (by omega)) ?_
   refine z1 ?_
   refine zC rfl func70 ((l9 l (bJ.getD (k.1-300).toNat []) h.lk) _ _ rfl) ?_
   refine Wq<|aQ rfl rfl ?_ ?_
   ·(rw[e0,if_neg n1,if_neg n2,if_pos q];rfl)
   (rw[e0,if_neg n1,if_neg n2,if_pos q];rfl)
  have q:¬300<=k.1:=oF hi4
  refine zd ?_
  refine zC rfl func45 (qC a l w.xt N h.g h.xt h.u0 h.u1 h.n h.lk.s _ 0 rfl (bS 1 2 rfl rfl)) ?_
  refine Wq<|aQ rfl rfl ?_ ?_
  ·(rw[e0,if_neg n1,if_neg n2,if_neg q];rfl)
  (rw[e0,if_neg n1,if_neg n2,if_neg q];rfl)
 have e0:∀{α:Type} (x y:α),(if k.2≠0 then x else y)=x:=fun x y=>if_pos z
 have er:(oOk l k.2).err=k.2:=by rw[ok0 h.e]
 have pO:=o6 l k.2
 refine l7 (fF a) tG (rs:=[.tmp 4]) func38 rfl rfl rfl (by simp) (by simp) (by simp) (by simp) (fun B=>?_)
 refine zd ?_
 refine zW [0,0,0,0,1,0,1,0,0,0,0,0,0] [0,1,2,3,4,5,6,7,8,9,10,11,12] ?_
 refine Xc rfl rfl rfl rfl (fun _=>dC rfl func67 rfl rfl ((pK) _)) ?_
 refine zd ?_
 refine zC rfl func41 ((pO) _ _ rfl) ?_
 refine Wt rfl (by rw[er,decide_eq_false z];rfl) ?_
 refine zd ?_
 refine Wq<|aQ rfl rfl ?_ ?_
 ·rw[e0];rfl
 rw[e0];rfl
def XQ(w:Str)(b:Int)(h:w.length<=9223372036854775807):ab prog 40 [str w,i64 b] (iy (i64 (dw w b).1) (boo (dw w b).2)) :=
 dY (args:=[.string ⟨w.toArray⟩,.int .i64 b]) (v:=.tuple #[.int .i64 (dw w b).1,.bool (dw w b).2]) (fun c=>by unfold iy Rep;exact⟨[_,_],rfl,af.2 ⟨ar _ _,af.2 ⟨ar _ _,aG.2 rfl⟩⟩⟩)
  fun W=>Calls.mono (OM ⟨w.toArray⟩ b W (by unfold ByteArray.size;simpa using h)) fun _ _ q=>⟨q.1,bj.of_below q.2⟩
def av(f:aa)(s:Str)(a fuel:Int):ag:=⟨f,s,a,fuel,0⟩
def Ew(l:ag)(name:Str):ag :=
 if (dw name (am l.f.vm.mem 0).1).2=false then oOk l (-13)else if bK l.f=true then tQ l (dw name (am l.f.vm.mem 0).1).1 else tV l (dw name (am l.f.vm.mem 0).1).1
def j5(l:ag)(name:Str):ag×Bool:=if (bL l.f.vm.dict name).2.2=true then i8 l (bL l.f.vm.dict name).1 else(Ew l name,false)
def iJ(f:aa)(s:Str)(a fuel:Int):aa×Int×Int×Bool×Int :=
 if (bt s a).1=[]then(f,(s.length:Int),max fuel 0,false,0)
 else if (j5 (av f s (bt s a).2 (max fuel 0)) (bt s a).1).1.err≠0/\(j5 (av f s (bt s a).2 (max fuel 0)) (bt s a).1).2=false then(f,a,max fuel 0,true,(j5 (av f s (bt s a).2 (max fuel 0)) (bt s a).1).1.err)
 else((j5 (av f s (bt s a).2 (max fuel 0)) (bt s a).1).1.f,(j5 (av f s (bt s a).2 (max fuel 0)) (bt s a).1).1.at_,(j5 (av f s (bt s a).2 (max fuel 0)) (bt s a).1).1.fuel,true,(j5 (av f s (bt s a).2 (max fuel 0)) (bt s a).1).1.err)
def MI{f:aa}{s:Str}{a fuel:Int}(h:(bt s a).1=[]):iJ f s a fuel=(f,(s.length:Int),max fuel 0,false,0):=by unfold iJ;rw[if_pos h]
def BU{f:aa}{s:Str}{a fuel:Int}{r:ag×Bool}(h:¬(bt s a).1=[])(e:j5 (av f s (bt s a).2 (max fuel 0)) (bt s a).1=r)(q1:r.1.err≠0)(q2:r.2=false):iJ f s a fuel=(f,a,max fuel 0,true,r.1.err):=by
 unfold iJ;rw[if_neg h,e,if_pos ⟨q1,q2⟩]
def Hl{f:aa}{s:Str}{a fuel:Int}{r:ag×Bool}(h:¬(bt s a).1=[])(e:j5 (av f s (bt s a).2 (max fuel 0)) (bt s a).1=r)(q:¬(r.1.err≠0/\r.2=false)):iJ f s a fuel=(r.1.f,r.1.at_,r.1.fuel,true,r.1.err):=by
 unfold iJ;rw[if_neg h,e,if_neg q]
def qp{p:Prop}[Decidable p](h:(!decide p)=true):¬p:=by simpa using h
def pa{p:Prop}[Decidable p](h:(!decide p)=false):p:=by simpa using h
structure VO (N:Nat) (f:aa) (s:Str) (a fuel:Int):Prop where
 lk:LK 300 (av f s 0 0)
 g:be N f.vm
 n:N<=190000
 u1:fuel<=90000
def VO.line{N:Nat}{f:aa}{s:Str}{a fuel:Int}(h:VO N f s a fuel)(b u:Int):LK 300 (av f s b u):=⟨h.lk.f,h.lk.s,h.lk.d,h.lk.data,h.lk.out0,h.lk.out1,h.lk.out,h.lk.cfl,h.lk.cf,h.lk.dict,h.lk.xts⟩
def Nm(r:aa×Int×Int×Bool×Int):PV:=.tup [bG r.1,i64 r.2.1,i64 r.2.2.1,boo r.2.2.2.1,i64 r.2.2.2.2]
@[simp] theorem ai5 (r : aa × Int × Int × Bool × Int) : aR (Nm r) := by unfold Nm; simp [aR, aF]
def BR(a:Addr)(f:aa)(s:Str)(p fuel:Int)(N:Nat)(h:VO N f s p fuel):∀(H:List Ob),(∀o∈gH a,∃k:Nat,H[k]?=some o)->HC prog 21 [bG f,str s,i64 p,i64 fuel] H (Nm (iJ f s p fuel)) H:=by
 have hs:s.length<=1000000:=h.lk.s
 have pW:=H9 s p hs
 have wl:=I1 s p
 have b0:=@MI f s p fuel
 have b1:=@BU f s p fuel
 have b2:=@Hl f s p fuel
 have hxt:ae (bL f.vm.dict (bt s p).1).1.xt:=Bw h.lk.xts (bt s p).1
 have wm:(if fuel<0 then 0 else fuel)=max fuel 0:=by split<;>omega
 have hm:f.vm.mem.b.length<=140737488355328:=by have:f.vm.mem.b.length<=1000000:=h.lk.f.b;omega
 have hD:kw f.vm.dict:=h.lk.f.each
 obtain⟨w,hw⟩:∃w,bt s p=w:=⟨_,rfl⟩
 rw[hw]at pW wl b0 b1 b2 hxt
 have L:=h.line w.2 (max fuel 0)
 have u1:=h.u1
 have fl:=r4 (fun x hx=>(hD.2 x hx).2) w.1 _ (Nat.le_refl _)
 have pD:=xe f.vm.dict w.1 hD (by omega)
 have eF:j5 (av f s w.2 (max fuel 0)) w.1=if (bL f.vm.dict w.1).2.2=true then i8 (av f s w.2 (max fuel 0)) (bL f.vm.dict w.1).1 else(Ew (av f s w.2 (max fuel 0)) w.1,false):=rfl
 change 0<=(bL f.vm.dict w.1).1.flags/\(bL f.vm.dict w.1).1.flags<=7 at fl
 obtain⟨d,hd⟩:∃d,bL f.vm.dict w.1=d:=⟨_,rfl⟩
 rw[hd]at hxt fl pD eF
 have pP:=XQ w.1 (am f.vm.mem 0).1 (by omega)
 have eN:Ew (av f s w.2 (max fuel 0)) w.1=if (dw w.1 (am f.vm.mem 0).1).2=false then oOk (av f s w.2 (max fuel 0)) (-13)else if bK f=true then tQ (av f s w.2 (max fuel 0)) (dw w.1 (am f.vm.mem 0).1).1 else tV (av f s w.2 (max fuel 0)) (dw w.1 (am f.vm.mem 0).1).1:=rfl
 obtain⟨z,hz⟩:∃z,dw w.1 (am f.vm.mem 0).1=z:=⟨_,rfl⟩
 rw[hz]at pP eN
 refine gD (fF a) tG (rs:=[.cell 8 42,.tmp 9,.tmp 10,.tmp 11,.tmp 12]) func21 rfl rfl rfl (by simp) (by simp) (fun B=>?_)
 refine zd ?_
 refine zc rfl func36 ((pW) _) ?_
 refine zs5 ?_
 refine zp2 ?_
 refine Wa 31 rfl (j_ wm) ?_
 refine zs1 ?_
 refine Ws<|zp2 ?_
 refine zQ 33 ?_
 refine Wi rfl ?_ ?_<;>intro hi1
 ·have n0:w.1=[]:=oT hi1
  refine zp3 ?_
  refine zA 36 rfl (gC _) ?_
  (rw[b0 n0];rfl)
 have n0:¬w.1=[]:=oF hi1
 refine zd ?_
 refine zC rfl func37 ((pD) _) ?_
 refine Wi rfl ?_ ?_<;>intro hi2
 ·have n1:d.2.2=true:=hi2
  rw[if_pos n1]at eF
  refine zd ?_
  refine zC rfl func38 (VR a (av f s w.2 (max fuel 0)) d.1 N ⟨L,h.g,h.n,hxt,fl.1,fl.2,by show 0<=max fuel 0;omega,by show max fuel 0<=90000;omega,rfl⟩ _ 4 rfl (bS 0 1 rfl rfl)) ?_
  refine Wd rfl rfl (jp rfl (by kernel_rfl) rfl (by exact dR _)) ?_
  refine z1 ?_
  refine Wb 89 rfl ?_ ?_<;>intro hg1
  ·have q1:=qp hg1
   refine zd ?_
   refine Wi rfl ?_ ?_<;>intro hi3
   ·have q2:(i8 (av f s w.2 (max fuel 0)) d.1).2=false:=by simpa using hi3
    refine zd ?_
    refine zW [8,0,0,0,0,0,12,2,11,0,0,0,0] [0,1,2,3,4,5,6,7,8,9,10,11,12] ?_
    refine zU 2 ?_
    refine zd ?_
    refine zU 4 ?_
    refine iV rfl rfl rfl rfl (dC rfl func44 rfl rfl (gd a _ _ (bS 0 1 rfl rfl))) ?_
    refine dW 3 tG rfl rfl rfl rfl rfl trivial rfl ?_
    refine zd ?_
    (rw[b1 n0 eF q1 q2];rfl)
   have q2:(i8 (av f s w.2 (max fuel 0)) d.1).2=true:=by simpa using hi3
   refine zd ?_
   refine zW [0,0,0,12,0,0,0,12,0,0,0,12,0,0,0,12,2,11,0,0,0,0] [0,1,2,3,4,5,6,7,8,9,10,11,12,13,14,15,16,17,18,19,20,21] ?_
   refine zU 4 ?_
   refine zd ?_
   refine zU 4 ?_
   refine zd ?_
   refine zU 4 ?_
   refine zd ?_
   refine zU 4 ?_
   refine iV rfl rfl rfl rfl (dC rfl func44 rfl rfl (gd a _ _ (bS 0 1 rfl rfl))) ?_
   refine dW 3 tG rfl rfl rfl rfl rfl trivial rfl ?_
   refine zd ?_
   (rw[b2 n0 eF (fun y=>by rw[q2]at y;cases y.2)];rfl)
  have q1:=pa hg1
  refine zd ?_
  refine Wf rfl rfl ?_
  refine zd ?_
  refine zW [0,0,0,12,0,0,0,12,0,0,0,12,0,0,0,12,2,11,0,0,0,0] [0,1,2,3,4,5,6,7,8,9,10,11,12,13,14,15,16,17,18,19,20,21] ?_
  refine zU 4 ?_
  refine zd ?_
  refine zU 4 ?_
  refine zd ?_
  refine zU 4 ?_
  refine zd ?_
  refine zU 4 ?_
  refine iV rfl rfl rfl rfl (dC rfl func44 rfl rfl (gd a _ _ (bS 0 1 rfl rfl))) ?_
  refine dW 3 tG rfl rfl rfl rfl rfl trivial rfl ?_
  refine zd ?_
  (rw[b2 n0 eF (fun y=>y.1 q1)];rfl)
 have n1:¬d.2.2=true:=by rw[hi2];decide
 rw[if_neg n1]at eF
 refine zd ?_
 refine zC rfl func39 ((gy f.vm.mem 0 hm bC) _) ?_
 refine zC rfl func40 ((pP) _) ?_
 refine Wi rfl ?_ ?_<;>intro hi4
 ·have n2:z.2=false:=by simpa using hi4
  rw[eN,if_pos n2]at eF
  refine zd ?_
  refine zC rfl func41 ((o6 (av f s w.2 (max fuel 0)) (-13)) _ _ rfl) ?_
  refine Wd rfl rfl (jp rfl (by kernel_rfl) rfl (by exact dR _)) ?_
  refine z1 ?_
  refine Wb 89 rfl ?_ ?_<;>intro hg1
  ·have q1:=qp hg1
   refine zd ?_
   refine Wt rfl rfl ?_
   refine zd ?_
   refine zW [8,0,0,0,0,0,12,2,11,0,0,0,0] [0,1,2,3,4,5,6,7,8,9,10,11,12] ?_
   refine zU 2 ?_
   refine zd ?_
   refine zU 4 ?_
   refine iV rfl rfl rfl rfl (dC rfl func44 rfl rfl (gd a _ _ (bS 0 1 rfl rfl))) ?_
   refine dW 3 tG rfl rfl rfl rfl rfl trivial rfl ?_
   refine zd ?_
   (rw[b1 n0 eF q1 rfl];rfl)
  have q1:=pa hg1
  refine zd ?_
  refine Wf rfl rfl ?_
  refine zd ?_
  refine zW [0,0,0,12,0,0,0,12,0,0,0,12,0,0,0,12,2,11,0,0,0,0] [0,1,2,3,4,5,6,7,8,9,10,11,12,13,14,15,16,17,18,19,20,21] ?_
  refine zU 4 ?_
  refine zd ?_
  refine zU 4 ?_
  refine zd ?_
  refine zU 4 ?_
  refine zd ?_
  refine zU 4 ?_
  refine iV rfl rfl rfl rfl (dC rfl func44 rfl rfl (gd a _ _ (bS 0 1 rfl rfl))) ?_
  refine dW 3 tG rfl rfl rfl rfl rfl trivial rfl ?_
  refine zd ?_
  (rw[b2 n0 eF (fun y=>y.1 q1)];rfl)
 have n2:¬z.2=false:=by simpa using hi4
 rw[eN,if_neg n2]at eF
 refine zd ?_
 refine zC rfl func23 ((kg f hm) _) ?_
 refine Wi rfl ?_ ?_<;>intro hi5
 ·have n3:bK f=true:=hi5
  rw[if_pos n3]at eF
  refine zd ?_
  refine zC rfl func42 ((uF (av f s w.2 (max fuel 0)) z.1 (L.f.ck.down (by omega))) _ _ rfl) ?_
  refine Wd rfl rfl (jp rfl (by kernel_rfl) rfl (by exact dR _)) ?_
  refine z1 ?_
  refine Wb 89 rfl ?_ ?_<;>intro hg1
  ·have q1:=qp hg1
   refine zd ?_
   refine Wt rfl rfl ?_
   refine zd ?_
   refine zW [8,0,0,0,0,0,12,2,11,0,0,0,0] [0,1,2,3,4,5,6,7,8,9,10,11,12] ?_
   refine zU 2 ?_
   refine zd ?_
   refine zU 4 ?_
   refine iV rfl rfl rfl rfl (dC rfl func44 rfl rfl (gd a _ _ (bS 0 1 rfl rfl))) ?_
   refine dW 3 tG rfl rfl rfl rfl rfl trivial rfl ?_
   refine zd ?_
   (rw[b1 n0 eF q1 rfl];rfl)
  have q1:=pa hg1
  refine zd ?_
  refine Wf rfl rfl ?_
  refine zd ?_
  refine zW [0,0,0,12,0,0,0,12,0,0,0,12,0,0,0,12,2,11,0,0,0,0] [0,1,2,3,4,5,6,7,8,9,10,11,12,13,14,15,16,17,18,19,20,21] ?_
  refine zU 4 ?_
  refine zd ?_
  refine zU 4 ?_
  refine zd ?_
  refine zU 4 ?_
  refine zd ?_
  refine zU 4 ?_
  refine iV rfl rfl rfl rfl (dC rfl func44 rfl rfl (gd a _ _ (bS 0 1 rfl rfl))) ?_
  refine dW 3 tG rfl rfl rfl rfl rfl trivial rfl ?_
  refine zd ?_
  (rw[b2 n0 eF (fun y=>y.1 q1)];rfl)
 have n3:¬bK f=true:=by rw[hi5];decide
 rw[if_neg n3]at eF
 refine zd ?_
 refine zC rfl func43 ((ER (av f s w.2 (max fuel 0)) z.1 L.d L.data) _ _ rfl) ?_
 refine Wd rfl rfl (jp rfl (by kernel_rfl) rfl (by exact dR _)) ?_
 refine z1 ?_
 refine Wb 89 rfl ?_ ?_<;>intro hg1
 ·have q1:=qp hg1
  refine zd ?_
  refine Wt rfl rfl ?_
  refine zd ?_
  refine zW [8,0,0,0,0,0,12,2,11,0,0,0,0] [0,1,2,3,4,5,6,7,8,9,10,11,12] ?_
  refine zU 2 ?_
  refine zd ?_
  refine zU 4 ?_
  refine iV rfl rfl rfl rfl (dC rfl func44 rfl rfl (gd a _ _ (bS 0 1 rfl rfl))) ?_
  refine dW 3 tG rfl rfl rfl rfl rfl trivial rfl ?_
  refine zd ?_
  (rw[b1 n0 eF q1 rfl];rfl)
 have q1:=pa hg1
 refine zd ?_
 refine Wf rfl rfl ?_
 refine zd ?_
 refine zW [0,0,0,12,0,0,0,12,0,0,0,12,0,0,0,12,2,11,0,0,0,0] [0,1,2,3,4,5,6,7,8,9,10,11,12,13,14,15,16,17,18,19,20,21] ?_
 refine zU 4 ?_
 refine zd ?_
 refine zU 4 ?_
 refine zd ?_
 refine zU 4 ?_
 refine zd ?_
 refine zU 4 ?_
 refine iV rfl rfl rfl rfl (dC rfl func44 rfl rfl (gd a _ _ (bS 0 1 rfl rfl))) ?_
 refine dW 3 tG rfl rfl rfl rfl rfl trivial rfl ?_
 refine zd ?_
 (rw[b2 n0 eF (fun y=>y.1 q1)];rfl)
def AO(m:bh):ab prog 27 [jj m] (jj ⟨m.b,[]⟩):=by
 refine zH func27 fun B=>?_
 rfl
def lK(f:aa):aa:={f with vm:={f.vm with mem:=⟨f.vm.mem.b,[]⟩}}
def NY(f0 f:aa):aa:={kc f with vm:={(kc f).vm with d:=[],pic:=⟨[],false⟩,req:=f0.vm.req,free:=f0.vm.free,next:=f0.vm.next}}
structure LS where
 f:aa
 at_:Int
 left:Int
def lnR(x:LS)(tx:Str):aa×Int×Int×Bool×Int:=iJ x.f tx x.at_ x.left
def iI(f0:aa)(tx:Str):Nat->LS->aa×Int×Int
 | 0,x=>(x.f,x.left,0)
 | n+1,x=>if (lnR x tx).2.2.2.2≠0 then(lK (NY f0 (lnR x tx).1),(lnR x tx).2.2.1,(lnR x tx).2.2.2.2)else if (lnR x tx).2.2.2.1=false then(lK (lnR x tx).1,(lnR x tx).2.2.1,0)else iI f0 tx n ⟨(lnR x tx).1,(lnR x tx).2.1,(lnR x tx).2.2.1⟩
def P7(tx:Str):Nat->LS->Prop
 | 0,_=>False
 | n+1,x=>(∃N,VO N x.f tx x.at_ x.left)/\((lnR x tx).2.2.2.2≠0->FK 1 (lnR x tx).1)/\((lnR x tx).2.2.2.2=0->(lnR x tx).2.2.2.1=true->P7 tx n ⟨(lnR x tx).1,(lnR x tx).2.1,(lnR x tx).2.2.1⟩)
structure LnI (R:aa×Int×Int) (f0:aa) (tx:Str) (s:Nat×LS):Prop where
 ok:P7 tx s.1 s.2
 out:iI f0 tx s.1 s.2=R
def LnI.suc{R:aa×Int×Int}{f0:aa}{tx:Str}{s:Nat×LS}(h:LnI R f0 tx s):∃n,s.1=n+1:=by
 have:=h.ok
 cases q:s.1 with
 | zero=>rw[q]at this;exact this.elim
 | succ n=>exact⟨n,rfl⟩
def LnI.one{R:aa×Int×Int}{f0:aa}{tx:Str}{s:Nat×LS}(h:LnI R f0 tx s):∃N,VO N s.2.f tx s.2.at_ s.2.left:=by
 obtain⟨n,hn⟩:=h.suc
 have:=h.ok
 rw[hn]at this
 exact this.1
def LnI.bad{R:aa×Int×Int}{f0:aa}{tx:Str}{s:Nat×LS}(h:LnI R f0 tx s)(q:(lnR s.2 tx).2.2.2.2≠0):FK 1 (lnR s.2 tx).1/\R=(lK (NY f0 (lnR s.2 tx).1),(lnR s.2 tx).2.2.1,(lnR s.2 tx).2.2.2.2):=by
 obtain⟨n,hn⟩:=h.suc
 have h1:=h.ok
 have h2:=h.out
 rw[hn]at h1 h2
 rw[iI,if_pos q]at h2
 exact⟨h1.2.1 q,h2.symm⟩
def LnI.fin{R:aa×Int×Int}{f0:aa}{tx:Str}{s:Nat×LS}(h:LnI R f0 tx s)(q:¬(lnR s.2 tx).2.2.2.2≠0)(q2:(lnR s.2 tx).2.2.2.1=false):R=(lK (lnR s.2 tx).1,(lnR s.2 tx).2.2.1,0):=by
 obtain⟨n,hn⟩:=h.suc
 have h2:=h.out
 rw[hn,iI,if_neg q,if_pos q2]at h2
 exact h2.symm
def LnI.next{R:aa×Int×Int}{f0:aa}{tx:Str}{s:Nat×LS}(h:LnI R f0 tx s)(q:¬(lnR s.2 tx).2.2.2.2≠0)(q2:(lnR s.2 tx).2.2.2.1=true):LnI R f0 tx (s.1-1,⟨(lnR s.2 tx).1,(lnR s.2 tx).2.1,(lnR s.2 tx).2.2.1⟩)/\s.1-1<s.1:=by
 obtain⟨n,hn⟩:=h.suc
 have h1:=h.ok
 have h2:=h.out
 rw[hn]at h1 h2
 rw[iI,if_neg q,if_neg (by rw[q2];decide)]at h2
 have e:s.1-1=n:=by omega
 exact⟨⟨by show P7 tx (s.1-1) _;rw[e];exact h1.2.2 (Decidable.not_not.1 q) q2,by show iI f0 tx (s.1-1) _=R;rw[e];exact h2⟩,by omega⟩
@[simp] theorem aB5 : aF zFc := by simp [zFc, aF, aR]
def rK(r:aa×Int×Int):PV:=.tup [bG r.1,i64 r.2.1,i64 r.2.2]
@[simp] theorem ah2 (r : aa × Int × Int) : aR (rK r) := by unfold rK; simp [aR, aF]
def JJ(a:Addr)(f:aa)(tx:Str)(fuel:Int)(n:Nat)(h:P7 tx n ⟨f,0,max fuel 0⟩):∀(H:List Ob),(∀o∈gH a,∃k:Nat,H[k]?=some o)->HC prog 12 [bG f,str tx,i64 fuel] H (rK (iI f tx n ⟨f,0,max fuel 0⟩)) H:=by
 have wm:(if fuel<0 then 0 else fuel)=max fuel 0:=by split<;>omega
 obtain⟨R,hR⟩:∃R,iI f tx n ⟨f,0,max fuel 0⟩=R:=⟨_,rfl⟩
 have i0:LnI R f tx (n,⟨f,0,max fuel 0⟩):=⟨h,hR⟩
 rw[hR]
 clear hR
 refine gD (fF a) tG (rs:=[.cell 6 42,.tmp 7,.tmp 8]) func12 rfl rfl rfl (by simp) (by simp) (fun B=>?_)
 refine zu4 ?_
 refine zp3 ?_
 refine Wa 19 rfl (j_ wm) ?_
 refine zs4 ?_
 refine Wl ?_
 show W _ _ _ _ _ _ _
 refine dJ (fun(s:(Nat×LS))=>[(1,str tx),(3,.ptr 2 0),(6,.ptr 3 0),(9,.ptr 4 0),(10,i64 s.2.at_),(11,i64 s.2.left)]) (fun(s:(Nat×LS))=>[.glob 1 (haltV a),.glob 0 etV,.cells (jT f) 42,.cells zFc 42,.cells (jT s.2.f) 42]) (fun(s:(Nat×LS))=>[]) (fun(s:(Nat×LS))=>LnI R f tx s) (fun(s:(Nat×LS))=>s.1) ((n,⟨f,0,max fuel 0⟩)) (by exact i0) [] ?_ ?_
 ·exact dK
 intro s hs
 refine Wl<|Ws ?_
 obtain⟨N,hW⟩:=hs.one
 have pW:=BR a s.2.f tx s.2.at_ s.2.left N hW
 have pb:=hs.bad
 have pe:=hs.fin
 have pn:=hs.next
 rw[show iJ s.2.f tx s.2.at_ s.2.left=lnR s.2 tx from rfl]at pW
 obtain⟨r,hr⟩:∃r,lnR s.2 tx=r:=⟨_,rfl⟩
 rw[hr]at pW pb pe pn
 refine zd ?_
 refine zC rfl func21 (pW _ (bS 0 1 rfl rfl)) ?_
 refine Wi rfl ?_ ?_<;>intro hi1
 ·have q:r.2.2.2.2≠0:=by simpa using hi1
  have pb:=pb q
  refine zd ?_
  refine zC rfl func26 ((Oq r.1 pb.1) _) ?_
  refine zW [0,0,8,0,0,8,0,0,8,0,0,13,0,0,13,0,0,13] [0,1,2,3,4,5,6,7,8,9,10,11,12,13,14,15,16,17] ?_
  refine zU 2 ?_
  refine zd ?_
  refine zU 2 ?_
  refine zd ?_
  refine zU 2 ?_
  refine zd ?_
  refine dW 4 tG rfl rfl rfl rfl rfl trivial rfl ?_
  refine zd ?_
  refine dW 4 tG rfl rfl rfl rfl rfl trivial rfl ?_
  refine zd ?_
  refine dW 4 tG rfl rfl rfl rfl rfl trivial rfl ?_
  refine fS ?_
  refine zp3 ?_
  refine Wb 60 rfl ?_ ?_<;>intro hg1
  ·have q2:r.2.2.2.1=false:=by simpa using hg1
   refine zd ?_
   refine Wt rfl rfl ?_
   refine zd ?_
   refine zC rfl func27 ((AO _) _) ?_
   (rw[pb.2];rfl)
  have q2:r.2.2.2.1=true:=by simpa using hg1
  refine zd ?_
  refine Wt rfl (by omega) ?_
  refine zd ?_
  refine zC rfl func27 ((AO _) _) ?_
  (rw[pb.2];rfl)
 have q:¬r.2.2.2.2≠0:=by simpa using hi1
 refine Wj<|zp3 ?_
 refine Wb 60 rfl ?_ ?_<;>intro hg1
 ·have q2:r.2.2.2.1=false:=by simpa using hg1
  refine zd ?_
  refine Wt rfl rfl ?_
  refine zd ?_
  refine zC rfl func27 ((AO _) _) ?_
  (rw[pe q q2,show r.2.2.2.2=0 from Decidable.not_not.1 q];rfl)
 have q2:r.2.2.2.1=true:=by simpa using hg1
 refine zd ?_
 refine Wf rfl (by omega) ?_
 refine zd ?_
 exact⟨(s.1-1,⟨r.1,r.2.1,r.2.2.1⟩),[],(by exact(pn q q2).1),(by exact(pn q q2).2),dK⟩
def Tu{f:aa}(h:(aN f).bad=0):f.comp.xt=0:=by
 unfold aN at h
 split at h
 ·assumption
 cases h
def Qs{N M:Nat}{f:aa}(h:OkF N f){v:VVm}(g:be M v)(hx:DX v.dict)(h0:f.comp.xt=0):OkF M {f with vm:=v} :=
 ⟨g,h.cfl,h.cf,fun q=>absurd h0 q,fun q=>absurd h0 q,h.la,h.fu,hx⟩
def AX{N M:Nat}{f:aa}(h:OkF N f)(hM:N<=M){w:FW}(hw:w.bad=0->OkF M w.f):OkF M (gK w f).1:=by
 unfold gK
 split
 ·exact h.up hM
 rename_i q;exact hw (Decidable.not_not.1 q)
def Yx{N:Nat}{f:aa}(h:OkF N f):OkF N (Ox f).1:=by
 unfold Ox
 split
 ·exact AX h (Nat.le_refl _) fun q=>absurd (u4 q).2 (by decide)
 refine AX h (Nat.le_refl _) fun q=>?_
 have fl:0<=(qi f).flags/\(qi f).flags<=7:=by
  unfold qi
  by_cases hi:f.vm.dict.length-1<f.vm.dict.length
  ·have q:=((tB h.g.right.dict).get hi);exact q.2
  rw[List.getD_eq_getElem?_getD,List.getElem?_eq_none (by omega)];exact⟨by decide,by decide⟩
 have i7:=aE9 fl.1 fl.2
 have e:(ng (aN f) (cH f.vm.dict ((f.vm.dict.length-1:Nat):Int) (FT (qi f).flags))).f={f with vm:={f.vm with dict:=(cH f.vm.dict ((f.vm.dict.length-1:Nat):Int) (FT (qi f).flags)).1}}:=by unfold ng;rw[m9];rfl
 rw[e]
 have hl:=(Bq h.g.right.dict ((f.vm.dict.length-1:Nat):Int) i7.1 i7.2).2
 exact h.vm (MS h.g _ i7.1 i7.2) (by show _<=(cH f.vm.dict _ _).1.length;rw[hl];exact Nat.le_refl _) rfl (Ng h.xts _ _)
def Ss{N:Nat}{f:aa}(h:OkF N f)(name:Str):OkF N (Do f name).1:=by
 unfold Do
 refine AX h (Nat.le_refl _) fun q=>?_
 have q:(Dc f (bL f.vm.dict name)).bad=0:=q
 generalize bL f.vm.dict name=r at q ⊢
 have hB:(aN f).bad=0/\1368<=r.1.xt/\r.1.xt<=f.vm.here/\Dc f r=aN f:=by
  unfold Dc at q ⊢
  split at q
  ·exact absurd (u4 q).2 (by decide)
  rename_i z
  split at q
  ·exact absurd (u4 q).2 (by decide)
  rename_i y
  rw[if_neg z,if_neg y]
  exact⟨q,by omega,by omega,rfl⟩
 have e:(BB (Dc f r) f.vm.dict r).f={f with vm:={f.vm with dict:=(i9 f.vm.dict r.2.1).1,here:=r.1.xt,last:=0}}:=by unfold BB;rw[hB.2.2.2];rfl
 rw[e]
 refine Qs h ?_ (Vk h.xts _) (Tu hB.1)
 have h1:=h.g.right.jP
 exact yM (Nq (QA h.g _) hB.2.1 (by show r.1.xt<=f.vm.conf.mem;omega)) bC
def Vc{N:Nat}{f:aa}(h:OkF N f)(name:Str)(n:Int):OkF (N+261) (vG f name n).1:=by
 unfold vG
 split
 ·exact h.up (by omega)
 rename_i q
 refine(oX h name false (nd f n)).up ?_
 unfold nd
 rw[List.length_append]
 split
 ·rename_i z
  rw[List.length_replicate]
  have:¬(n<1\/256<n):=fun y=>q ⟨z,y⟩
  show N+1+(4+n.toNat)<=_
  omega
 show N+1+(4+0)<=_
 omega
section
variable {N : Nat} {l0 l : ag}
def IT(h:Nx N l0 l)(n:Int):Nx (N+1) l0 (EO l n):=yQ (h.up (by omega)) (h.f.kv (En h.f.g (cN _ _ _)) ⟨rfl,rfl,rfl⟩)
def BN(h:Nx N l0 l)(h0:0<=l0.at_):Nx N l0 (fM l).1:=by
 have q:=wI h h0
 unfold fM;split
 ·dsimp only;split
  ·exact vh q _
  exact q
 exact q
def RR(l:ag):ae (pG l).2:=by
 unfold pG
 dsimp only
 split
 ·exact bC
 unfold XO ae
 have:=((bW l).2.getD 0 0).toNat_lt
 omega
def Yc(h:Nx N l0 l)(h0:0<=l0.at_):Nx (N+3) l0 (Hs l):=by
 have q:=BN h h0
 unfold Hs;split
 ·unfold QQ;split
  ·exact(Ey (vh q _) _).up (by omega)
  exact yK (Az (vh q _) _) _
 exact q.up (by omega)
def XB(h:Nx N l0 l)(h0:0<=l0.at_)(name:Str):Nx (N+270) l0 (rN l name):=by
 unfold rN
 cases hs:spF name with
 | none=>exact(JZ h name).up (by omega)
 | some g =>
  dsimp only
  unfold spF at hs
  rcases al hs with rfl|hs
  ·exact(Gx h h0 false 0).up (by omega)
  rcases al hs with rfl|hs
  ·have p:=KJ h
   unfold oOn;split
   ·exact(Gx p.1 h0 true _).up (by omega)
   exact p.1.up (by omega)
  rcases al hs with rfl|hs
  ·exact(XT h).up (by omega)
  rcases al hs with rfl|hs
  ·exact(Pw h h0).up (by omega)
  rcases al hs with rfl|hs
  ·exact(vU h h0 (j:=4) fun f name o=>oX o name true [257,0,0]).up (by omega)
  rcases al hs with rfl|hs
  ·exact(Va h h0).up (by omega)
  rcases al hs with rfl|hs
  ·exact(CS h h0 (j:=261) fun f name n o=>Vc o name n).up (by omega)
  rcases al hs with rfl|hs
  ·exact(zj h (Yx h.f)).up (by omega)
  rcases al hs with rfl|hs
  ·exact(vU h h0 (j:=0) fun f name o=>Ss o name).up (by omega)
  rcases al hs with rfl|hs
  ·exact(FH (BN h h0) (Dr h.f.xts)).up (by omega)
  rcases al hs with rfl|hs
  ·exact(Az (BN h h0) _).up (by omega)
  rcases al hs with rfl|hs
  ·exact(FH (wI h h0) (RR l)).up (by omega)
  rcases al hs with rfl|hs
  ·exact(Az (wI h h0) _).up (by omega)
  rcases al hs with rfl|hs
  ·exact(Az (KJ h).1 _).up (by omega)
  rcases al hs with rfl|hs
  ·exact(Yc h h0).up (by omega)
  rcases al hs with rfl|hs
  ·exact(Ey h _).up (by omega)
  rcases al hs with rfl|hs
  ·exact(yK h _).up (by omega)
  rcases al hs with rfl|hs
  ·exact(yK h _).up (by omega)
  rcases al hs with rfl|hs
  ·exact(Mb h h0).up (by omega)
  rcases al hs with rfl|hs
  ·exact(VH h h0).up (by omega)
  rcases al hs with rfl|hs
  ·exact(FL h h0 41).up (by omega)
  rcases al hs with rfl|hs
  ·exact(Xy h).up (by omega)
  rcases al hs with rfl|hs
  ·exact(IT h 0).up (by omega)
  rcases al hs with rfl|hs
  ·unfold AU;split
   ·exact(vh h _).up (by omega)
   exact(IT h (-1)).up (by omega)
  cases hs
end
def CE(l:List UInt8)(b:Int):ae (dw l b).1:=by
 have w:∀n:Int,ae (wrap64 n):=fun n=>iB n
 unfold dw p9
 split
 ·rename_i q
  split at q
  ·split at q
   ·injection q with q
    rename_i a c d z
    unfold ae;omega
   cases q
  cases q
 unfold rV
 split
 ·exact bC
 dsimp only
 split
 ·exact w _
 exact w _
def BY{N:Nat}{l0 l:ag}(h:Nx N l0 l)(u0:0<=l0.fuel):Nr l0 l N :=
 ⟨by rw[h.u,Nat.add_sub_cancel];exact h.f,h.s,h.a,h.b,by rw[h.u];exact u0,by rw[h.u];exact Int.le_refl _⟩
def Nr.up{N M:Nat}{l0 l:ag}(h:Nr l0 l N)(hM:N<=M):Nr l0 l M:=⟨h.f.up (by omega),h.s,h.a,h.b,h.u0,h.u1⟩
section
variable {N : Nat} {l : ag}
def Vx(h:OkF N l.f)(h0:0<=l.at_)(h1:l.at_<=l.s.length)(u0:0<=l.fuel)(u9:l.fuel<=90000){x:aP}(hx:ae x.xt):Nr l (i8 l x).1 (N+270):=by
 have n:Nx N l l:=⟨h,rfl,Int.le_refl _,h1,rfl⟩
 have i:∀{c:Prop} [Decidable c] {a b:ag×Bool},Nr l a.1 (N+270)->Nr l b.1 (N+270)->Nr l (if c then a else b).1 (N+270):=fun {c} _ {a b} p q=>by
  by_cases hc:c
  ·rw[if_pos hc];exact p
  rw[if_neg hc];exact q
 unfold i8
 exact i (BY ((vh n _).up (by omega)) u0) (i (BY ((vh n _).up (by omega)) u0) (i (BY ((Ey n _).up (by omega)) u0) (i (BY (XB n h0 _) u0) ((Rj h hx h0 h1 u0 u9).up (by omega)))))
def au1(h:OkF N l.f)(h0:0<=l.at_)(h1:l.at_<=l.s.length)(u0:0<=l.fuel)(u9:l.fuel<=90000)(name:Str):Nr l (j5 l name).1 (N+270):=by
 unfold j5
 split
 ·exact Vx h h0 h1 u0 u9 (Bw h.xts name)
 have n:Nx N l l:=⟨h,rfl,Int.le_refl _,h1,rfl⟩
 unfold Ew
 split
 ·exact BY ((vh n _).up (by omega)) u0
 split
 ·exact BY ((Az n _).up (by omega)) u0
 exact BY ((FH n (CE _ _)).up (by omega)) u0
end
structure Wo (N:Nat) (s:Str) (a fuel:Int) (r:aa×Int×Int×Bool×Int):Prop where
 f:OkF (N+270+3*fuel.toNat-3*r.2.2.1.toNat) r.1
 u0:0<=r.2.2.1
 u1:r.2.2.1<=fuel
 a:r.2.2.2.2=0->r.2.2.2.1=true->a<r.2.1/\(a+2<=r.2.1\/r.2.1=s.length)
 b:r.2.1<=s.length
def okw{N:Nat}{f:aa}{s:Str}{a fuel:Int}(h:OkF N f)(h0:0<=a)(h1:a<=s.length)(u0:0<=fuel)(u9:fuel<=90000):Wo N s a fuel (iJ f s a fuel):=by
 have mu:max fuel 0=fuel:=by omega
 have o:OkF (N+270+3*fuel.toNat-3*fuel.toNat) f:=h.up (by omega)
 by_cases hw:(bt s a).1=[]
 ·rw[MI hw,mu]
  exact⟨o,u0,Int.le_refl _,(fun _ q=>by cases q),Int.le_refl _⟩
 have w:=Fx s h0 h1 hw
 have r:=au1 (l:=av f s (bt s a).2 (max fuel 0)) h (by show 0<=(bt s a).2;omega) w.2.1 (by show 0<=max fuel 0;omega) (by show max fuel 0<=90000;omega) (bt s a).1
 generalize hr:j5 (av f s (bt s a).2 (max fuel 0)) (bt s a).1=x at r
 by_cases hb:x.1.err≠0/\x.2=false
 ·rw[BU hw hr hb.1 hb.2,mu]
  exact⟨o,u0,Int.le_refl _,fun q=>absurd q hb.1,h1⟩
 rw[Hl hw hr hb]
 have ra:=r.a
 have ru:=r.u1
 rw[show(av f s (bt s a).2 (max fuel 0)).at_=(bt s a).2 from rfl]at ra
 rw[show(av f s (bt s a).2 (max fuel 0)).fuel=max fuel 0 from rfl,mu]at ru
 refine⟨?_,r.u0,ru,fun _ _=>?_,r.b⟩
 ·have:=r.f
  rw[show(av f s (bt s a).2 (max fuel 0)).fuel=max fuel 0 from rfl,mu]at this
  exact this
 show a<x.1.at_/\(a+2<=x.1.at_\/x.1.at_=s.length)
 have rb:=r.b
 change x.1.at_<=(s.length:Int)at rb
 omega
def Vu{N:Nat}{f:aa}{s:Str}(h:OkF N f)(hN:N<=190000)(hs:s.length<=1000000):LK 300 (av f s 0 0):=by
 have R:=h.g.right
 have hc:=R.gl
 unfold eG at hc
 have h1:=R.d
 have h2:=R.out
 exact⟨h.fk (by omega),hs,by show f.vm.d.length<=_;omega,by show ae f.vm.conf.data;unfold ae;omega,by show 0<=f.vm.conf.out;omega,by show f.vm.conf.out<=_;omega,by show f.vm.out.length<=_;omega,h.cfl,h.cf,h.dict,h.xts⟩
def Zw{N:Nat}{v:VVm}(g:be N v):be 0 {v with mem:=⟨v.mem.b,[]⟩}:=by
 have R:=g.right
 refine⟨⟨R.gl,?_,R.dict,R.pic,R.len,R.jM,R.jP,R.f,R.hand,R.d,R.r,R.fl,R.dl,R.out,R.req,R.free0,R.free1,R.next0,R.next1,R.handl⟩,Nat.le_refl _,g.fd,g.fr,g.ff,g.ints,g.la⟩
 have m:=R.mem
 unfold mB at m ⊢
 rw[Bool.and_eq_true]at m
 show([].all _&&_)=true
 rw[List.all_nil,Bool.true_and];exact m.2
def Ir{N:Nat}{f:aa}(h:OkF N f):OkF 0 (lK f):=⟨Zw h.g,h.cfl,h.cf,h.dict,h.here,h.la,h.fu,h.xts⟩
def Y7{N K:Nat}{f0 f:aa}(h:OkF N f)(g0:be K f0.vm):OkF (N+1) (NY f0 f):=by
 have u:=Ra h
 have R:=u.g.right
 have R0:=g0.right
 have hc:=R.gl
 unfold eG at hc
 exact⟨⟨⟨R.gl,R.mem,R.dict,⟨(by show(0:Nat)<=130;decide),.inr rfl⟩,R.len,R.jM,R.jP,R.f,R.hand,(by show((0:Nat):Int)<=(kc f).vm.conf.data;omega),R.r,R.fl,R.dl,R.out,R0.req,R0.free0,R0.free1,R0.next0,R0.next1,R.handl⟩,u.g.old,bE,u.g.fr,u.g.ff,u.g.ints,u.g.la⟩,u.cfl,u.cf,u.dict,u.here,u.la,u.fu,u.xts⟩
def Mj{tx:Str}{K:Nat}{f0:aa}(g0:be K f0.vm)(ht:tx.length<=1000000):∀(n N:Nat) (x:LS),OkF N x.f->0<=x.at_->x.at_<=tx.length->0<=x.left->x.left<=90000 ->
  N+3*x.left.toNat+270*((tx.length+1-x.at_.toNat)/2)+270<=190000->tx.length+1-x.at_.toNat<n ->
  P7 tx n x/\OkF 0 (iI f0 tx n x).1/\0<=(iI f0 tx n x).2.1/\(iI f0 tx n x).2.1<=x.left
 | 0,N,x,_,_,_,_,_,_,hn=>by omega
 | n+1,N,x,h,h0,h1,u0,u9,hN,hn=>by
  have w:Wo N tx x.at_ x.left (lnR x tx):=okw h h0 h1 u0 u9
  have hu1:=w.u1
  have hu0:=w.u0
  have hb:=w.b
  have ha:=w.a
  have hf:=w.f
  have ih:=fun e i=>Mj g0 ht n (N+270+3*x.left.toNat-3*(lnR x tx).2.2.1.toNat) ⟨(lnR x tx).1,(lnR x tx).2.1,(lnR x tx).2.2.1⟩ hf (by have:=ha e i;show 0<=(lnR x tx).2.1;omega) hb hu0 (by show(lnR x tx).2.2.1<=90000;omega) (by have:=ha e i;show _+3*(lnR x tx).2.2.1.toNat+270*((tx.length+1-(lnR x tx).2.1.toNat)/2)+270<=_;omega) (by have:=ha e i;show tx.length+1-(lnR x tx).2.1.toNat<n;omega)
  refine⟨⟨⟨N,⟨Vu h (by omega) ht,h.g,by omega,u9⟩⟩,fun _=>hf.fk (by omega),fun e i=>(ih e i).1⟩,?_⟩
  rw[iI]
  by_cases e:(lnR x tx).2.2.2.2≠0
  ·rw[if_pos e]
   exact⟨Ir (Y7 hf g0),hu0,hu1⟩
  rw[if_neg e]
  by_cases i:(lnR x tx).2.2.2.1=false
  ·rw[if_pos i];exact⟨Ir hf,hu0,hu1⟩
  rw[if_neg i]
  have q:=ih (Decidable.not_not.1 e) (by simpa using i)
  exact⟨q.2.1,q.2.2.1,Int.le_trans q.2.2.2 hu1⟩
def cE(f:aa)(tx:Str)(fuel:Int):aa×Int×Int:=iI f tx (tx.length+2) ⟨f,0,max fuel 0⟩
def Bp{N:Nat}{f:aa}{tx:Str}{fuel:Int}(h:OkF N f)(ht:tx.length<=1000)(hu:fuel<=5000)(hN:N<=20000):
  P7 tx (tx.length+2) ⟨f,0,max fuel 0⟩/\OkF 0 (cE f tx fuel).1/\0<=(cE f tx fuel).2.1/\(cE f tx fuel).2.1<=max fuel 0 :=
 Mj h.g (by omega) (tx.length+2) N ⟨f,0,max fuel 0⟩ h (Int.le_refl _) (Int.natCast_nonneg _) (by show 0<=max fuel 0;omega) (by show max fuel 0<=90000;omega) (by show N+3*(max fuel 0).toNat+270*((tx.length+1-(0:Int).toNat)/2)+270<=_;omega) (by show tx.length+1-(0:Int).toNat<_;omega)
def ID(a:Addr){N:Nat}{f:aa}{tx:Str}{fuel:Int}(h:OkF N f)(ht:tx.length<=1000)(hu:fuel<=5000)(hN:N<=20000):∀(H:List Ob),(∀o∈gH a,∃k:Nat,H[k]?=some o)->HC prog 12 [bG f,str tx,i64 fuel] H (rK (cE f tx fuel)) H :=
 JJ a f tx fuel _ (Bp h ht hu hN).1
open Go.RowKit
def M1(f:aa)(xt:Int)(tx:Str)(p fuel:Int):aa×Int×Int×Int :=
 ((jN (av f tx p (max fuel 0)) xt).f,(jN (av f tx p (max fuel 0)) xt).at_,(jN (av f tx p (max fuel 0)) xt).fuel,(jN (av f tx p (max fuel 0)) xt).err)
def L2(r:aa×Int×Int×Int):PV:=.tup [bG r.1,i64 r.2.1,i64 r.2.2.1,i64 r.2.2.2]
@[simp] theorem ae8 (r : aa × Int × Int × Int) : aR (L2 r) := by unfold L2; simp [aR, aF]
def Kj(a:Addr)(f:aa)(xt:Int)(tx:Str)(p fuel:Int)(N:Nat)(g:be N f.vm)(hx:ae xt)(h1:fuel<=90000)(hN:N<=190000)(hs:tx.length<=1000000):∀(H:List Ob),(∀o∈gH a,∃k:Nat,H[k]?=some o)->HC prog 22 [bG f,i64 xt,str tx,i64 p,i64 fuel] H (L2 (M1 f xt tx p fuel)) H:=by
 have wm:(if fuel<0 then 0 else fuel)=max fuel 0:=by split<;>omega
 have pE:=qC a (av f tx p (max fuel 0)) xt N g hx (by show 0<=max fuel 0;omega) (by show max fuel 0<=90000;omega) hN hs
 unfold M1
 obtain⟨r,hr⟩:∃r,jN (av f tx p (max fuel 0)) xt=r:=⟨_,rfl⟩
 rw[hr]at pE ⊢
 refine gD (fF a) tG (rs:=[.cell 10 42,.tmp 11,.tmp 12,.tmp 13]) func22 rfl rfl rfl (by simp) (by simp) (fun B=>?_)
 refine zu5 ?_
 refine zp5 ?_
 refine zA 19 rfl (j_ wm) ?_
 refine zC rfl func45 (pE _ 4 rfl (bS 0 1 rfl rfl)) ?_
 refine zW [0,0,0,12,0,0,0,12,0,0,0,12,0,0,0,12,2,11,0,0,0] [0,1,2,3,4,5,6,7,8,9,10,11,12,13,14,15,16,17,18,19,20] ?_
 refine zU 4 ?_
 refine zd ?_
 refine zU 4 ?_
 refine zd ?_
 refine zU 4 ?_
 refine zd ?_
 refine zU 4 ?_
 refine iV rfl rfl rfl rfl (dC rfl func44 rfl rfl (gd a _ _ (bS 0 1 rfl rfl))) ?_
 refine dW 3 tG rfl rfl rfl rfl rfl trivial rfl ?_
 refine zd ?_
 rfl
@[simp] theorem aC6 (f : Fn) : aR (.fn f [] []) := by unfold aR; exact ⟨by simp [aF], by simp [aF]⟩
def mJ{b:List UInt8}{k n:Nat}{p q:Prop}[Decidable p][Decidable q](hn:gq k=n)(h1:(ez.getD k []=[40,104,97,108,116,41])=p)(h2:(ez.getD k []=[40,99,97,117,103,104,116,41])=q):
  Id b k=if q then yD (if p then yD (yD b (32+8*k) n) 16 (32+8*k)else yD b (32+8*k) n) 24 (32+8*k)else(if p then yD (yD b (32+8*k) n) 16 (32+8*k)else yD b (32+8*k) n):=by
 subst h1 h2 hn
 unfold Id
 simp only
 split<;>split<;>simp_all
def aU2{k:Nat}(h:k<167):IntKind.i64.wrap (32+IntKind.i64.wrap (8*(k:Int)))=((32+8*k:Nat):Int):=by simp only[bU];unfold wrap64;omega
def aR1{k n:Nat}(h:k<167)(hn:n=130)(h3:130<=k):IntKind.i64.wrap (IntKind.i64.wrap (300+(k:Int))-(n:Int))=((170+k:Nat):Int):=by subst hn;simp only[bU];unfold wrap64;omega
def aO8{k:Nat}(h:k<167):IntKind.i64.wrap (((32+8*k:Nat):Int)+1)=((32+8*k+1:Nat):Int):=by simp only[bU];unfold wrap64;omega
def IE(k:Nat){q:SK}:PV.seq (dX k++[cR k]).length ((dX k++[cR k]).flatMap cn) q=.seq (dX (k+1)).length ((dX (k+1)).flatMap cn) q:=by rw[Qm]
def aM2{M:Nat}{b:List UInt8}(h:b.length=M):PV.seq M ((b.flatMap aH).take M) .any=sq aH b:=by rw[Eb,List.take_of_length_le (by omega),<-h];rfl
def aC2(c:lI)(b:List UInt8)(l:List aP):VVm:={conf:=c,mem:=⟨b,[]⟩,here:=1368,d:=[],r:=[],f:=[],dict:=l,last:=0,out:=[],pic:=⟨[],false⟩,req:=[],free:=0,next:=0,arg:=0,self:=0,now:=0,hand:=[]}
def U0(c:lI):HU c=aC2 c (pR c.mem.toNat 167) (dX 167):=rfl
def W1(c:lI)(hc:eG c):ab prog 24 [Ma c] (tVm (HU c,0)):=by
 have hM:2048<=c.mem/\c.mem<=65536:=⟨hc.1,hc.2.1⟩
 obtain⟨M,hMe⟩:∃M:Nat,c.mem=M:=⟨c.mem.toNat,by omega⟩
 have hMt:c.mem.toNat=M:=by omega
 have hN:=lS
 have hS:=iF
 have hA:=Sn
 have hD:decide (eG c)=true:=decide_eq_true hc
 refine zH func24 fun B=>?_
 refine zC rfl func46 ((UH c) _) ?_
 refine Wf rfl (by rw[hD];rfl) ?_
 refine zd ?_
 refine z2 ?_ (q:=(by(simp_all;omega)))
 refine eR 2 rfl (ZF rfl) rfl ?_
 refine Wa 18 rfl (show PV.arr 2 0 c.mem.toNat c.mem.toNat=.arr 2 0 M M by rw[hMt]) ?_
 refine eR 2 rfl (show Ob.cells ((List.replicate c.mem.toNat (0:UInt8)).flatMap aH) 5=.cells ((List.replicate M (0:UInt8)).flatMap aH) 5 by rw[hMt]) rfl ?_
 refine zd ?_
 refine zP ?_ (q:=(by omega))
 refine Wd rfl rfl (bP (lO tG rfl) rfl rfl rfl rfl rfl rfl (by rw[Nat.ble_eq,fQ];simp;omega)) ?_
 refine eR 2 rfl (congrArg (fun z=>Ob.cells z 5) (dO (x:=10) (n:=0) rfl (by simp;omega))) rfl ?_
 refine zd ?_
 refine zc rfl func47 ((JV) _) ?_
 refine zc rfl func48 ((Em) _) ?_
 refine Wd rfl rfl (cd (lO tG rfl) rfl (lO tG rfl) (lO tG rfl) rfl rfl (by exact⟨_,rfl⟩) (by exact⟨rfl,rfl,an _ 1 (fun _=>rfl) _,bD _ (fun _=>rfl) _⟩) (by exact an _ 1 (fun _=>rfl) _) (by(dsimp only;omega)) (by(rw[hN,hS];decide))) ?_
 refine Wa 23 rfl (cw gj) ?_
 refine Wm 23 rfl (oU _ _ _) ?_
 refine zs1 ?_
 refine zp1 ?_
 refine Fc 7 0 3 rfl rfl ?_
 refine Wn<|Ws<|zu1 ?_
 refine Wl ?_
 show W _ _ _ _ _ _ _
 refine dJ (fun(k:Nat)=>[(1,.ptr 0 0),(2,.ptr 1 0),(5,.arr 2 0 M M),(6,sq gj ez),(7,.seq (dX k).length ((dX k).flatMap cn) (.own 5 3)),(8,i64 k)]) (fun(k:Nat)=>[.cells (Jp c) 25,.cells vmZ 37,.cells ((pR M k).flatMap aH) 5,.dead,.dead]) (fun(k:Nat)=>[.free ((dX k).length*3)]) (fun(k:Nat)=>k<=167) (fun(k:Nat)=>167-k) (0) (by omega) [4] ?_ ?_
 ·exact dK
 intro k hk
 refine zd ?_
 refine Wi rfl ?_ ?_<;>intro hi2
 ·have hlt:k<167:=by have:=oT hi2;rw[hA]at this;omega
  have hB:=vA M k
  have hL:=qk k
  have w1:=aU2 hlt
  have w3:=aO8 hlt
  refine Wj<|Ws<|Wl<|zp3 ?_
  refine zA 32 rfl (j_ w1) ?_
  refine zC rfl func47 ((CB) _) ?_
  refine Wi rfl ?_ ?_<;>intro hi3
  ·have hk3:130<=k:=by have:=oT hi3;rw[hN]at this;omega
   have w2:=aR1 hlt hN hk3
   have hn:gq k=170+k:=by unfold gq;rw[if_pos hk3]
   refine zd ?_
   refine zc rfl func47 ((CB) _) ?_
   refine zy2 ?_
   refine Wa 42 rfl (j_ w2) ?_
   refine zs1 ?_
   refine zp5 ?_
   refine Wa 47 rfl (sa _) ?_
   refine zP ?_ (q:=(by omega))
   refine Wd rfl rfl (bP (lO tG rfl) rfl rfl rfl rfl rfl rfl (by rw[Nat.ble_eq,fQ,hB];(try dsimp only);simp;omega)) ?_
   refine eR 2 rfl (congrArg (fun z=>Ob.cells z 5) (dO rfl (by omega))) rfl ?_
   refine Wn<|zp3 ?_
   refine Wa 51 rfl (j_ w3) ?_
   refine zy3 ?_
   refine Wa 54 rfl (sN _ (by omega)) ?_
   refine zP ?_ (q:=(by omega))
   refine Wd rfl rfl (bP (lO tG rfl) rfl rfl rfl rfl rfl rfl (by rw[Nat.ble_eq,fQ,List.length_set,hB];(try dsimp only);simp;omega)) ?_
   refine eR 2 rfl (congrArg (fun z=>Ob.cells z 5) (dO rfl (by rw[List.length_set];omega))) rfl ?_
   refine zd ?_
   refine zW [0,0,0,0,0,0,0,0,0,0,0,0,0,0,3,0] [0,1,2,3,4,5,6,7,8,9,10,11,12,13,14,15] ?_
   refine zK gj 1 [] ?_
   refine zK gj 1 [] ?_
   refine Xc rfl rfl rfl rfl (fun _=>dC rfl func49 rfl rfl ((CP _ k) _)) ?_
   iterate 2 refine z3 ?_
   refine Xa 69 rfl ((show PV.seq 1 _ .clip=.seq (List.length [cR k]) (List.flatMap cn [cR k]) .clip from rfl)) ?_
   refine lD rfl rfl rfl rfl (fy (lO tG rfl) rfl (lO tG rfl) (lO tG rfl) rfl rfl rfl rfl (by simp) (by exact⟨_,rfl⟩) (by exact⟨rfl,rfl,an _ 3 (fun _=>rfl) _,bD _ (fun _=>rfl) _⟩) (by(rw[hL];dsimp only;simp;omega)) (by(simp;omega))) ?_
   refine Xa 70 rfl (cw cn) ?_
   refine z3 ?_
   skip
   refine zd ?_
   refine Wv tG rfl rfl rfl (by omega) (iN gj 1 (fun _=>rfl) [] (by omega)) ?_
   refine zy2 ?_
   refine zQ 75 ?_
   refine Wi rfl ?_ ?_<;>intro hi4
   ·have h1:(ez.getD k []=[40,104,97,108,116,41])=True:=eq_true (oT hi4)
    refine zp4 ?_
    refine Wa 79 rfl (sa _) ?_
    refine zP ?_ (q:=(by omega))
    refine Wd rfl rfl (bP (lO tG rfl) rfl rfl rfl rfl rfl rfl (by rw[Nat.ble_eq,fQ];simp only[List.length_set,hB];(try dsimp only);simp;omega)) ?_
    refine eR 2 rfl (congrArg (fun z=>Ob.cells z 5) (dO rfl (by simp only[List.length_set];omega))) rfl ?_
    refine Wn<|aI rfl ?_
    refine zy4 ?_
    refine Wa 84 rfl (sN _ (by omega)) ?_
    refine zP ?_ (q:=(by omega))
    refine Wd rfl rfl (bP (lO tG rfl) rfl rfl rfl rfl rfl rfl (by rw[Nat.ble_eq,fQ];simp only[List.length_set,hB];(try dsimp only);simp;omega)) ?_
    refine eR 2 rfl (congrArg (fun z=>Ob.cells z 5) (dO rfl (by simp only[List.length_set];omega))) rfl ?_
    refine zd ?_
    refine Wv tG rfl rfl rfl (by omega) (iN gj 1 (fun _=>rfl) [] (by omega)) ?_
    refine zy2 ?_
    refine zQ 90 ?_
    refine Wi rfl ?_ ?_<;>intro hi5
    ·have h2:(ez.getD k []=[40,99,97,117,103,104,116,41])=True:=eq_true (oT hi5)
     refine zp4 ?_
     refine Wa 94 rfl (sa _) ?_
     refine zP ?_ (q:=(by omega))
     refine Wd rfl rfl (bP (lO tG rfl) rfl rfl rfl rfl rfl rfl (by rw[Nat.ble_eq,fQ];simp only[List.length_set,hB];(try dsimp only);simp;omega)) ?_
     refine eR 2 rfl (congrArg (fun z=>Ob.cells z 5) (dO rfl (by simp only[List.length_set];omega))) rfl ?_
     refine Wn<|aI rfl ?_
     refine zy4 ?_
     refine Wa 99 rfl (sN _ (by omega)) ?_
     refine zP ?_ (q:=(by omega))
     refine Wd rfl rfl (bP (lO tG rfl) rfl rfl rfl rfl rfl rfl (by rw[Nat.ble_eq,fQ];simp only[List.length_set,hB];(try dsimp only);simp;omega)) ?_
     refine eR 2 rfl (congrArg (fun z=>Ob.cells z 5) (dO rfl (by simp only[List.length_set];omega))) rfl ?_
     refine Wn<|aI rfl ?_
     refine z1 ?_
     refine eR 2 rfl (congrArg (fun z=>Ob.cells (List.flatMap aH z) 5) (show _=pR M (k+1) from(mJ hn h1 h2).symm)) rfl ?_
     refine zd ?_
     exact⟨k+1,[6],(by omega),(by omega),(dK (sub:=by repeat (first|exact gc|refine eU (by first|exact cP rfl|exact cP (IE k)|exact cP (congrArg i64 (by(rw[bU];unfold wrap64;omega)))) ?_)))⟩
    have h2:(ez.getD k []=[40,99,97,117,103,104,116,41])=False:=eq_false (oF hi5)
    refine Wj<|aI rfl ?_
    refine z1 ?_
    refine eR 2 rfl (congrArg (fun z=>Ob.cells (List.flatMap aH z) 5) (show _=pR M (k+1) from(mJ hn h1 h2).symm)) rfl ?_
    refine zd ?_
    exact⟨k+1,[6],(by omega),(by omega),(dK (sub:=by repeat (first|exact gc|refine eU (by first|exact cP rfl|exact cP (IE k)|exact cP (congrArg i64 (by(rw[bU];unfold wrap64;omega)))) ?_)))⟩
   have h1:(ez.getD k []=[40,104,97,108,116,41])=False:=eq_false (oF hi4)
   refine zd ?_
   refine Wv tG rfl rfl rfl (by omega) (iN gj 1 (fun _=>rfl) [] (by omega)) ?_
   refine zy2 ?_
   refine zQ 90 ?_
   refine Wi rfl ?_ ?_<;>intro hi5
   ·have h2:(ez.getD k []=[40,99,97,117,103,104,116,41])=True:=eq_true (oT hi5)
    refine zp4 ?_
    refine Wa 94 rfl (sa _) ?_
    refine zP ?_ (q:=(by omega))
    refine Wd rfl rfl (bP (lO tG rfl) rfl rfl rfl rfl rfl rfl (by rw[Nat.ble_eq,fQ];simp only[List.length_set,hB];(try dsimp only);simp;omega)) ?_
    refine eR 2 rfl (congrArg (fun z=>Ob.cells z 5) (dO rfl (by simp only[List.length_set];omega))) rfl ?_
    refine Wn<|aI rfl ?_
    refine zy4 ?_
    refine Wa 99 rfl (sN _ (by omega)) ?_
    refine zP ?_ (q:=(by omega))
    refine Wd rfl rfl (bP (lO tG rfl) rfl rfl rfl rfl rfl rfl (by rw[Nat.ble_eq,fQ];simp only[List.length_set,hB];(try dsimp only);simp;omega)) ?_
    refine eR 2 rfl (congrArg (fun z=>Ob.cells z 5) (dO rfl (by simp only[List.length_set];omega))) rfl ?_
    refine Wn<|aI rfl ?_
    refine z1 ?_
    refine eR 2 rfl (congrArg (fun z=>Ob.cells (List.flatMap aH z) 5) (show _=pR M (k+1) from(mJ hn h1 h2).symm)) rfl ?_
    refine zd ?_
    exact⟨k+1,[6],(by omega),(by omega),(dK (sub:=by repeat (first|exact gc|refine eU (by first|exact cP rfl|exact cP (IE k)|exact cP (congrArg i64 (by(rw[bU];unfold wrap64;omega)))) ?_)))⟩
   have h2:(ez.getD k []=[40,99,97,117,103,104,116,41])=False:=eq_false (oF hi5)
   refine Wj<|aI rfl ?_
   refine z1 ?_
   refine eR 2 rfl (congrArg (fun z=>Ob.cells (List.flatMap aH z) 5) (show _=pR M (k+1) from(mJ hn h1 h2).symm)) rfl ?_
   refine zd ?_
   exact⟨k+1,[6],(by omega),(by omega),(dK (sub:=by repeat (first|exact gc|refine eU (by first|exact cP rfl|exact cP (IE k)|exact cP (congrArg i64 (by(rw[bU];unfold wrap64;omega)))) ?_)))⟩
  have hn:gq k=k:=by have:=oF hi3;rw[hN]at this;unfold gq;rw[if_neg (by omega)]
  refine Wj<|zp5 ?_
  refine Wa 47 rfl (sa _) ?_
  refine zP ?_ (q:=(by omega))
  refine Wd rfl rfl (bP (lO tG rfl) rfl rfl rfl rfl rfl rfl (by rw[Nat.ble_eq,fQ,hB];(try dsimp only);simp;omega)) ?_
  refine eR 2 rfl (congrArg (fun z=>Ob.cells z 5) (dO rfl (by omega))) rfl ?_
  refine Wn<|zp3 ?_
  refine Wa 51 rfl (j_ w3) ?_
  refine zy3 ?_
  refine Wa 54 rfl (sN _ (by omega)) ?_
  refine zP ?_ (q:=(by omega))
  refine Wd rfl rfl (bP (lO tG rfl) rfl rfl rfl rfl rfl rfl (by rw[Nat.ble_eq,fQ,List.length_set,hB];(try dsimp only);simp;omega)) ?_
  refine eR 2 rfl (congrArg (fun z=>Ob.cells z 5) (dO rfl (by rw[List.length_set];omega))) rfl ?_
  refine zd ?_
  refine zW [0,0,0,0,0,0,0,0,0,0,0,0,0,0,3,0] [0,1,2,3,4,5,6,7,8,9,10,11,12,13,14,15] ?_
  refine zK gj 1 [] ?_
  refine zK gj 1 [] ?_
  refine Xc rfl rfl rfl rfl (fun _=>dC rfl func49 rfl rfl ((CP _ k) _)) ?_
  iterate 2 refine z3 ?_
  refine Xa 69 rfl ((show PV.seq 1 _ .clip=.seq (List.length [cR k]) (List.flatMap cn [cR k]) .clip from rfl)) ?_
  refine lD rfl rfl rfl rfl (fy (lO tG rfl) rfl (lO tG rfl) (lO tG rfl) rfl rfl rfl rfl (by simp) (by exact⟨_,rfl⟩) (by exact⟨rfl,rfl,an _ 3 (fun _=>rfl) _,bD _ (fun _=>rfl) _⟩) (by(rw[hL];dsimp only;simp;omega)) (by(simp;omega))) ?_
  refine Xa 70 rfl (cw cn) ?_
  refine z3 ?_
  skip
  refine zd ?_
  refine Wv tG rfl rfl rfl (by omega) (iN gj 1 (fun _=>rfl) [] (by omega)) ?_
  refine zy2 ?_
  refine zQ 75 ?_
  refine Wi rfl ?_ ?_<;>intro hi4
  ·have h1:(ez.getD k []=[40,104,97,108,116,41])=True:=eq_true (oT hi4)
   refine zp4 ?_
   refine Wa 79 rfl (sa _) ?_
   refine zP ?_ (q:=(by omega))
   refine Wd rfl rfl (bP (lO tG rfl) rfl rfl rfl rfl rfl rfl (by rw[Nat.ble_eq,fQ];simp only[List.length_set,hB];(try dsimp only);simp;omega)) ?_
   refine eR 2 rfl (congrArg (fun z=>Ob.cells z 5) (dO rfl (by simp only[List.length_set];omega))) rfl ?_
   refine Wn<|aI rfl ?_
   refine zy4 ?_
   refine Wa 84 rfl (sN _ (by omega)) ?_
   refine zP ?_ (q:=(by omega))
   refine Wd rfl rfl (bP (lO tG rfl) rfl rfl rfl rfl rfl rfl (by rw[Nat.ble_eq,fQ];simp only[List.length_set,hB];(try dsimp only);simp;omega)) ?_
   refine eR 2 rfl (congrArg (fun z=>Ob.cells z 5) (dO rfl (by simp only[List.length_set];omega))) rfl ?_
   refine zd ?_
   refine Wv tG rfl rfl rfl (by omega) (iN gj 1 (fun _=>rfl) [] (by omega)) ?_
   refine zy2 ?_
   refine zQ 90 ?_
   refine Wi rfl ?_ ?_<;>intro hi5
   ·have h2:(ez.getD k []=[40,99,97,117,103,104,116,41])=True:=eq_true (oT hi5)
    refine zp4 ?_
    refine Wa 94 rfl (sa _) ?_
    refine zP ?_ (q:=(by omega))
    refine Wd rfl rfl (bP (lO tG rfl) rfl rfl rfl rfl rfl rfl (by rw[Nat.ble_eq,fQ];simp only[List.length_set,hB];(try dsimp only);simp;omega)) ?_
    refine eR 2 rfl (congrArg (fun z=>Ob.cells z 5) (dO rfl (by simp only[List.length_set];omega))) rfl ?_
    refine Wn<|aI rfl ?_
    refine zy4 ?_
    refine Wa 99 rfl (sN _ (by omega)) ?_
    refine zP ?_ (q:=(by omega))
    refine Wd rfl rfl (bP (lO tG rfl) rfl rfl rfl rfl rfl rfl (by rw[Nat.ble_eq,fQ];simp only[List.length_set,hB];(try dsimp only);simp;omega)) ?_
    refine eR 2 rfl (congrArg (fun z=>Ob.cells z 5) (dO rfl (by simp only[List.length_set];omega))) rfl ?_
    refine Wn<|aI rfl ?_
    refine z1 ?_
    refine eR 2 rfl (congrArg (fun z=>Ob.cells (List.flatMap aH z) 5) (show _=pR M (k+1) from(mJ hn h1 h2).symm)) rfl ?_
    refine zd ?_
    exact⟨k+1,[6],(by omega),(by omega),(dK (sub:=by repeat (first|exact gc|refine eU (by first|exact cP rfl|exact cP (IE k)|exact cP (congrArg i64 (by(rw[bU];unfold wrap64;omega)))) ?_)))⟩
   have h2:(ez.getD k []=[40,99,97,117,103,104,116,41])=False:=eq_false (oF hi5)
   refine Wj<|aI rfl ?_
   refine z1 ?_
   refine eR 2 rfl (congrArg (fun z=>Ob.cells (List.flatMap aH z) 5) (show _=pR M (k+1) from(mJ hn h1 h2).symm)) rfl ?_
   refine zd ?_
   exact⟨k+1,[6],(by omega),(by omega),(dK (sub:=by repeat (first|exact gc|refine eU (by first|exact cP rfl|exact cP (IE k)|exact cP (congrArg i64 (by(rw[bU];unfold wrap64;omega)))) ?_)))⟩
  have h1:(ez.getD k []=[40,104,97,108,116,41])=False:=eq_false (oF hi4)
  refine zd ?_
  refine Wv tG rfl rfl rfl (by omega) (iN gj 1 (fun _=>rfl) [] (by omega)) ?_
  refine zy2 ?_
  refine zQ 90 ?_
  refine Wi rfl ?_ ?_<;>intro hi5
  ·have h2:(ez.getD k []=[40,99,97,117,103,104,116,41])=True:=eq_true (oT hi5)
   refine zp4 ?_
   refine Wa 94 rfl (sa _) ?_
   refine zP ?_ (q:=(by omega))
   refine Wd rfl rfl (bP (lO tG rfl) rfl rfl rfl rfl rfl rfl (by rw[Nat.ble_eq,fQ];simp only[List.length_set,hB];(try dsimp only);simp;omega)) ?_
   refine eR 2 rfl (congrArg (fun z=>Ob.cells z 5) (dO rfl (by simp only[List.length_set];omega))) rfl ?_
   refine Wn<|aI rfl ?_
   refine zy4 ?_
   refine Wa 99 rfl (sN _ (by omega)) ?_
   refine zP ?_ (q:=(by omega))
   refine Wd rfl rfl (bP (lO tG rfl) rfl rfl rfl rfl rfl rfl (by rw[Nat.ble_eq,fQ];simp only[List.length_set,hB];(try dsimp only);simp;omega)) ?_
   refine eR 2 rfl (congrArg (fun z=>Ob.cells z 5) (dO rfl (by simp only[List.length_set];omega))) rfl ?_
   refine Wn<|aI rfl ?_
   refine z1 ?_
   refine eR 2 rfl (congrArg (fun z=>Ob.cells (List.flatMap aH z) 5) (show _=pR M (k+1) from(mJ hn h1 h2).symm)) rfl ?_
   refine zd ?_
   exact⟨k+1,[6],(by omega),(by omega),(dK (sub:=by repeat (first|exact gc|refine eU (by first|exact cP rfl|exact cP (IE k)|exact cP (congrArg i64 (by(rw[bU];unfold wrap64;omega)))) ?_)))⟩
  have h2:(ez.getD k []=[40,99,97,117,103,104,116,41])=False:=eq_false (oF hi5)
  refine Wj<|aI rfl ?_
  refine z1 ?_
  refine eR 2 rfl (congrArg (fun z=>Ob.cells (List.flatMap aH z) 5) (show _=pR M (k+1) from(mJ hn h1 h2).symm)) rfl ?_
  refine zd ?_
  exact⟨k+1,[6],(by omega),(by omega),(dK (sub:=by repeat (first|exact gc|refine eU (by first|exact cP rfl|exact cP (IE k)|exact cP (congrArg i64 (by(rw[bU];unfold wrap64;omega)))) ?_)))⟩
 have hge:k=167:=by have:=oF hi2;rw[hA]at this;omega
 have hB:=vA M k
 have eN:tVm (HU c,0)=tVm (aC2 c (pR M k) (dX k),0):=by rw[hge,U0,hMt]
 generalize pR M k=b0 at hB eN ⊢
 generalize dX k=l0 at eN ⊢
 refine aW ?_
 refine zp2 ?_
 refine Wm 102 rfl (pc (Nat.le_refl _)) ?_
 refine p8 102 2 _ M rfl rfl (by rw[fQ,hB];exact Nat.le_refl _) ?_
 refine zA 102 rfl (show _=sq aH b0 from aM2 hB) ?_
 rw[eN];rfl
def xE:Nat->Nat->List Int
 | 0,_=>[]
 | k+1,u=>((u%256:Nat):Int)::xE k (u/256)
def Jd(k:Nat):∀u:Nat,u<256 ^ k->oC (xE k u)=u:=by
 induction k with
 | zero=>intro u h;simp at h;simp[xE,oC,h]
 | succ k ih =>
  intro u h
  rw[Nat.pow_succ]at h
  simp only[xE,oC,ih (u/256) (by omega),Int.toNat_natCast]
  omega
def UO(u:Nat):ku u=xE 8 u:=by
 simp only[ku,xE,Nat.div_div_eq_div_mul]
 rfl
def GX(u:Nat)(h:u<18446744073709551616):oC (ku u)=u:=by
 rw[UO];exact Jd 8 u (by rw[show(256:Nat) ^ 8=18446744073709551616 from by decide];exact h)
def P5{n:Int}(h:ae n):B5 (qW n)=n:=by
 have e:(qW n).map (fun b=>(b.toNat:Int))=ku (U n):=by
  unfold qW
  rw[List.map_map]
  have:∀x∈ku (U n),((fun b:UInt8=>(b.toNat:Int)) ∘ fun x:Int=>UInt8.ofNat x.toNat) x=id x:=by
   intro x hx
   have:=UK (U n) x hx
   simp only[Function.comp,id]
   rw[UInt8.toNat_ofNat']
   omega
  rw[List.map_congr_left this,List.map_id]
 unfold B5
 rw[e,GX _ (B1 n)]
 exact S_U n h
def stM(m:bh)(a n:Int):bh:=⟨jR m.b a.toNat (qW n),m.old++[⟨a,(m.b.drop a.toNat).take 8⟩]⟩
def Hq{m:bh}{a n:Int}(h0:0<=a)(h1:0<n)(h2:a+n<=m.b.length):bq m a n=true:=by
 unfold bq
 rw[decide_eq_true_eq]
 omega
def pd{m:bh}{a:Int}(h0:0<=a)(h1:a%8=0)(h2:a+8<=m.b.length):cS m a=0:=by
 unfold cS
 rw[Hq h0 (by omega) h2,if_pos rfl,if_pos (by rw[Int.tmod_eq_emod_of_nonneg h0];exact h1)]
def IN{m:bh}{a:Int}(n:Int)(h0:0<=a)(h2:a+8<=m.b.length):cg m a (qW n)=(stM m a n,0):=by
 unfold cg
 rw[k9,if_pos (show bq m a ((8:Nat):Int)=true from Hq h0 (by omega) h2),if_neg (by intro h;have:=congrArg List.length h;rw[k9]at this;cases this)]
 rfl
def UD{m:bh}{a:Int}(n:Int)(h0:0<=a)(h1:a%8=0)(h2:a+8<=m.b.length):aJ m a n=(stM m a n,0):=by
 unfold aJ
 rw[if_pos (pd h0 h1 h2),IN n h0 h2]
def zg{m:bh}{a n:Int}(h0:0<=a)(h2:a+8<=m.b.length):(stM m a n).b.length=m.b.length:=by
 unfold stM
 exact DK (by rw[k9];omega)
def Xo{l x:List UInt8}{k:Nat}(h:k+x.length<=l.length):((jR l k x).drop k).take x.length=x:=by
 unfold jR
 rw[List.append_assoc,List.drop_left' (by rw[List.length_take];omega),List.take_left' rfl]
def Lq{l x:List UInt8}{k c n:Nat}(h:c+n<=k)(h2:k<=l.length):((jR l k x).drop c).take n=(l.drop c).take n:=by
 unfold jR
 rw[List.append_assoc,List.drop_append_of_le_length (by rw[List.length_take];omega),List.take_append_of_le_length (by rw[List.length_drop,List.length_take];omega),List.drop_take,List.take_take,Nat.min_eq_left (by omega)]
def JR{m:bh}{a n:Int}(hn:ae n)(h0:0<=a)(h1:a%8=0)(h2:a+8<=m.b.length):am (stM m a n) a=(n,0):=by
 unfold am
 rw[pd h0 h1 (by rw[zg h0 h2];exact h2),if_pos rfl]
 have e:((stM m a n).b.drop a.toNat).take 8=qW n:=Xo (x:=qW n) (by rw[k9];omega)
 rw[e,P5 hn]
def Jf{m:bh}{a b n:Int}(h0:0<=b)(h1:b%8=0)(h3:b+8<=a)(h2:a+8<=m.b.length):am (stM m a n) b=am m b:=by
 unfold am
 rw[pd h0 h1 (by rw[zg (by omega) h2];omega),pd h0 h1 (by omega),if_pos rfl,if_pos rfl]
 have e:((stM m a n).b.drop b.toNat).take 8=(m.b.drop b.toNat).take 8:=Lq (by omega) (by omega)
 rw[e]
end Go.Proofs.YtjcminooghmpeaaGreatDoor
