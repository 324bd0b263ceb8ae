import Derived.Test.YtjcminooghmpeaaGreatDoorPk8
set_option linter.all false
set_option maxRecDepth 100000
set_option maxHeartbeats 40000000
open Go.Proofs.Tryz
namespace Go.Proofs.YtjcminooghmpeaaGreatDoor
open Go.RowKit
structure be (N:Nat) (v:VVm):Prop where
 right:wQ v
 old:v.mem.old.length<=N
 fd:gm v.d
 fr:gm v.r
 ff:∀x∈v.f,ae x.ip
 ints:ae v.arg/\ae v.self/\ae v.now
 la:ae v.last
structure gM (N:Nat) (r:bH):Prop where
 m:be N r.vm
 ip:ae r.ip
 w:ae r.w
def be.v{N:Nat}{v:VVm}(g:be N v):vD N v:=⟨(mf v).2 g.right,g.old,g.fd,g.ints⟩
def be.up{N M:Nat}{v:VVm}(g:be N v)(h:N<=M):be M v:=⟨g.right,by have:=g.old;omega,g.fd,g.fr,g.ff,g.ints,g.la⟩
def gM.up{N M:Nat}{r:bH}(g:gM N r)(h:N<=M):gM M r:=⟨g.m.up h,g.ip,g.w⟩
def be.x{N:Nat}{v:VVm}(g:be N v):VX N v:=by
 have R:=g.right
 have hc:=R.gl
 unfold eG at hc
 have h1:=R.len
 have h2:=R.d
 have h3:=R.r
 have h4:=R.fl
 exact⟨by omega,g.old,by omega,by omega,by omega,g.fd,g.fr,g.ff,by omega,by omega,g.la⟩
section
variable {N : Nat} {v : VVm}
def Uy(g:be N v){d:List Int}(hd:(d.length:Int)<=v.conf.data)(hf:gm d):be N {v with d:=d}:=by
 have R:=g.right
 exact⟨⟨R.gl,R.mem,R.dict,R.pic,R.len,R.jM,R.jP,R.f,R.hand,hd,R.r,R.fl,R.dl,R.out,R.req,R.free0,R.free1,R.next0,R.next1,R.handl⟩,g.old,hf,g.fr,g.ff,g.ints,g.la⟩
def Su(g:be N v){r:List Int}(hd:(r.length:Int)<=v.conf.ret)(hf:gm r):be N {v with r:=r}:=by
 have R:=g.right
 exact⟨⟨R.gl,R.mem,R.dict,R.pic,R.len,R.jM,R.jP,R.f,R.hand,R.d,hd,R.fl,R.dl,R.out,R.req,R.free0,R.free1,R.next0,R.next1,R.handl⟩,g.old,g.fd,hf,g.ff,g.ints,g.la⟩
def SV(g:be N v){f:List ig}(h1:f.all qs=true)(h2:f.length<=64)(h3:∀x∈f,ae x.ip):be N {v with f:=f}:=by
 have R:=g.right
 exact⟨⟨R.gl,R.mem,R.dict,R.pic,R.len,R.jM,R.jP,h1,R.hand,R.d,R.r,h2,R.dl,R.out,R.req,R.free0,R.free1,R.next0,R.next1,R.handl⟩,g.old,g.fd,g.fr,h3,g.ints,g.la⟩
def RN(g:be N v){m:bh}(k:dN v.mem m 1):be (N+1) (aU v m):=by
 have R:=g.right
 refine⟨⟨R.gl,k.right R.mem,R.dict,R.pic,?_,R.jM,R.jP,R.f,R.hand,R.d,R.r,R.fl,R.dl,R.out,R.req,R.free0,R.free1,R.next0,R.next1,R.handl⟩,?_,g.fd,g.fr,g.ff,g.ints,g.la⟩
 ·show(m.b.length:Int)=v.conf.mem;rw[k.len];exact R.len
 show m.old.length<=N+1;have:=k.old;have:=g.old;omega
end
def KG(N:Nat)(k:PW):Prop:=match k.err with
 | .ok=>gM N k.r
 | .bad e=>ae e
 | .halt=>False
def KF2(N:Nat)(k:PW):Prop:=match k.err with
 | .bad e=>ae e
 | _=>gM N k.r
section
variable {N : Nat} {k : PW}
def KG.ok(g:KG N k)(h:k.err=.ok):gM N k.r:=by unfold KG at g;rw[h]at g;exact g
def aa5(h:k.err=.ok)(g:gM N k.r):KG N k:=by unfold KG;rw[h];exact g
def Ea{M:Nat}(g:KG N k)(h:N<=M):KG M k:=by
 unfold KG at g ⊢
 cases q:k.err with
 | ok=>rw[q]at g;exact g.up h
 | bad c=>rw[q]at g;exact g
 | halt=>rw[q]at g;exact g.elim
def ym(g:KG N k){v:VVm}{e:Int}{M:Nat}(hM:N<=M)(he:ae e)(hv:k.err=.ok->e=0->be M v):KG M (pOk k v e):=by
 unfold pOk
 cases q:k.err with
 | ok =>
  dsimp only
  by_cases h:e=0
  ·rw[if_pos h];exact aa5 rfl ⟨hv q h,(g.ok q).ip,(g.ok q).w⟩
  rw[if_neg h];exact he
 | bad c=>exact Ea g hM
 | halt=>exact Ea g hM
def oy(n:Nat)(h:n<=300):ae (-(n:Int)):=by unfold ae;omega
def jD(g:KG N k){n:Int}(hn:k.err=.ok->ae n):KG N (dm k n):=by
 refine ym g (Nat.le_refl _) ?_ (fun q h0=>?_)
 ·unfold dZ fR;split;exact oy 3 (by omega);exact bC
 have m:=(g.ok q).m
 have h:=h0
 unfold dZ fR at h ⊢
 by_cases c:k.r.vm.conf.data<=(k.r.vm.d.length:Int)
 ·rw[if_pos c]at h;cases h
 rw[if_neg c];exact Uy m (by simp only[List.length_append,List.length_singleton];omega) (jr m.fd (db (hn q)))
def p6(g:KG N k){n:Int}(hn:k.err=.ok->ae n):KG N (jn k n):=by
 refine ym g (Nat.le_refl _) ?_ (fun q h0=>?_)
 ·unfold fp;split;exact oy 5 (by omega);exact bC
 have m:=(g.ok q).m
 have h:=h0
 unfold fp at h ⊢
 by_cases c:k.r.vm.conf.ret<=(k.r.vm.r.length:Int)
 ·rw[if_pos c]at h;cases h
 rw[if_neg c];exact Su m (by simp only[List.length_append,List.length_singleton];omega) (jr m.fr (db (hn q)))
def jW(g:KG N k):KG N (ba k).1/\ae (ba k).2:=by
 refine⟨ym g (Nat.le_refl _) ?_ (fun q h0=>?_),?_⟩
 ·unfold dH bg;split;exact oy 4 (by omega);exact bC
 ·have m:=(g.ok q).m
  unfold dH bg
  split
  ·exact m
  exact Uy m (by have:=m.right.d;simp only[List.length_take];omega) (nR _ m.fd)
 unfold ba;dsimp only;split
 ·rename_i q
  exact(FE ((g.ok (ij (ii.1 q)).1).m.x)).2
 exact bC
def jg(g:KG N k):KG N (gp k).1/\ae (gp k).2:=by
 refine⟨ym g (Nat.le_refl _) ?_ (fun q h0=>?_),?_⟩
 ·unfold fw;split;exact oy 6 (by omega);exact bC
 ·have m:=(g.ok q).m
  unfold fw
  split
  ·exact m
  exact Su m (by have:=m.right.r;simp only[List.length_take];omega) (nR _ m.fr)
 unfold gp;dsimp only;split
 ·rename_i q
  exact(EG ((g.ok (ij (ii.1 q)).1).m.x)).2
 exact bC
def uc(m:bh)(a:Int):ae (cS m a):=by
 unfold cS;split
 ·split;exact bC;exact oy 23 (by omega)
 exact oy 9 (by omega)
def iQ(g:KG N k)(a:Int):KG N (bv k a).1/\ae (bv k a).2:=by
 refine⟨ym g (Nat.le_refl _) ?_ (fun q _=>(g.ok q).m),H8 _ _⟩
 unfold am;split;exact bC;exact uc _ _
def IS(g:KG N k)(a n:Int):KG (N+1) (m4 k a n):=by
 refine ym g (by omega) ?_ (fun q _=>RN (g.ok q).m (cN _ _ _))
 unfold aJ cg;split
 ·split
  ·split<;>exact bC
  exact oy 9 (by omega)
 exact uc _ _
def nr(g:KG N k){e:Int}(he:ae e):KG N (pOk k k.r.vm e):=ym g (Nat.le_refl _) he (fun q _=>(g.ok q).m)
def vF(g:KG N k){a:Int}(ha:k.err=.ok->ae a):KG N (wIp k a):=by
 unfold KG at g ⊢
 unfold wIp;dsimp only
 cases q:k.err with
 | ok=>rw[q]at g;exact⟨g.m,ha q,g.w⟩
 | bad c=>rw[q]at g;exact g
 | halt=>rw[q]at g;exact g.elim
def FC(g:KG N k){a:Int}(ha:k.err=.ok->ae a):KG N (vv k a):=by
 unfold KG at g ⊢
 unfold vv;dsimp only
 cases q:k.err with
 | ok=>rw[q]at g;exact⟨g.m,g.ip,ha q⟩
 | bad c=>rw[q]at g;exact g
 | halt=>rw[q]at g;exact g.elim
def EL(g:KG N k)(n:Nat):KG N (cp k n).1/\(k.err=.ok->ae (cp k n).2):=by
 unfold cp;split
 ·exact⟨nr g (oy 6 (by omega)),fun _=>bC⟩
 exact⟨g,fun q=>vk (g.ok q).m.fr _⟩
def HV(g:KG N k):KF2 N k:=by
 unfold KG at g;unfold KF2
 cases q:k.err with
 | ok=>rw[q]at g;exact g
 | bad c=>rw[q]at g;exact g
 | halt=>rw[q]at g;exact g.elim
def sx{c:Prop}[Decidable c]{a b:PW}(h1:KG N a)(h2:KG N b):KG N (if c then a else b):=by split<;>assumption
def dS{c:Prop}[Decidable c]{a b:PW}(h1:KF2 N a)(h2:KF2 N b):KF2 N (if c then a else b):=by split<;>assumption
def y9(g:KG N k)(b:Bool):KG N (lu k b):=by
 unfold lu
 exact sx (vF (iQ g _).1 (fun _=>(iQ g _).2)) (vF g (fun _=>cU _))
def Nv(g:KG N k):KG N (sS k):=vF (jg g).1 (fun _=>(jg g).2)
def ah5(g:KG N k):KG N (PB k):=vF (jD (iQ g _).1 (fun _=>(iQ g _).2)) (fun _=>cU _)
def KM(g:KG N k):KG N (Bk k):=p6 (p6 (jW (jW g).1).1 (fun _=>(jW (jW g).1).2)) (fun _=>(jW g).2)
def Z4(g:KG N k):KG N (sL k):=jD (jD (jg (jg g).1).1 (fun _=>(jg (jg g).1).2)) (fun _=>(jg g).2)
def af3(g:KG N k):KG N (AI k):=by
 have a:=jW g
 have b:=jW a.1
 unfold AI
 exact sx (y9 b.1 _) (KM (vF (jD (jD b.1 (fun _=>b.2)) (fun _=>a.2)) (fun _=>cU _)))
def Mq(g:KG N k)(n:Int):KG N (pv k n):=by
 have a:=EL g 1
 have b:=EL a.1 0
 unfold pv
 exact sx (y9 (sx (jg (jg b.1).1).1 (p6 (jg b.1).1 (fun _=>GM _ _ _))) _) b.1
def W8(g:KG N k):KG (N+2) (sS (mT k)):=by
 unfold mT
 exact Nv (sx (Ea (nr g (oy 31 (by omega))) (by omega)) (IS (IS g _ _) _ _))
def Oe(g:KG N k):KG N (lr k):=by
 unfold lr
 split
 ·exact nr g (oy 6 (by omega))
 rename_i h0
 refine jD ?_ (fun _=>bC)
 unfold KG at g ⊢
 dsimp only
 cases q:k.err with
 | ok =>
  rw[q]at g
  refine⟨SV g.m ?_ (by have:=g.m.right.fl;simp only[List.length_take];omega) (fun x hx=>g.m.ff x (List.mem_of_mem_take hx)),?_,g.w⟩
  ·exact List.all_eq_true.2 fun x hx=>List.all_eq_true.1 g.m.right.f x (List.mem_of_mem_take hx)
  exact g.m.ff _ (by rw[List.getD_eq_getElem?_getD,List.getElem?_eq_getElem (by omega)];exact List.getElem_mem _)
 | bad c=>rw[q]at g;exact g
 | halt=>rw[q]at g;exact g.elim
def aw8{a:Int}(h:ae a):ae (uH [65,76,73,71,78,69,68] a).1:=by
 show ae (if a%8=0 then a else wrap64 (a-a%8+8))
 split
 ·exact h
 exact iB _
def aw7(g:KG N k):KG N (J4 k):=by
 have f:=iQ g k.r.ip
 unfold J4
 refine vF (jD (jD (nr f.1 ?_) (fun _=>cU _)) (fun _=>f.2)) (fun _=>aw8 (cU _))
 unfold dP;split;exact bC;exact oy 9 (by omega)
def Sp(g:KG N k):KG N (oL k):=by
 have a:=jW g
 unfold oL wFr
 refine FC ?_ (fun _=>a.2)
 split
 ·rename_i h0
  have b:=nr a.1 (e:=-5) (oy 5 (by omega))
  have hb:(pOk (ba k).1 (ba k).1.r.vm (-5)).err≠.ok:=fun q=>by have:=(ij q).2;omega
  unfold KG at b ⊢
  dsimp only
  cases q:(pOk (ba k).1 (ba k).1.r.vm (-5)).err with
  | ok=>exact absurd q hb
  | bad c=>rw[q]at b;exact b
  | halt=>rw[q]at b;exact b.elim
 rename_i h0
 have b:=a.1
 unfold KG at b ⊢
 dsimp only
 cases q:(ba k).1.err with
 | ok =>
  rw[q]at b
  have R:=b.m.right
  have hc:=R.gl
  unfold eG at hc
  have h1:=R.d
  have h2:=R.r
  refine⟨SV b.m ?_ (by simp only[List.length_append,List.length_singleton];omega) (fun x hx=>?_),(by unfold ae;dsimp only;omega),b.w⟩
  ·rw[List.all_append,R.f]
   simp only[List.all_cons,List.all_nil,Bool.and_true,Bool.true_and]
   unfold qs
   simp only[decide_eq_true_eq,Bool.and_eq_true]
   omega
  rcases List.mem_append.1 hx with hx|hx
  ·exact b.m.ff x hx
  simp only[List.mem_singleton]at hx;subst hx;exact b.ip
 | bad c=>rw[q]at b;exact b
 | halt=>rw[q]at b;exact b.elim
def JW(g:KG N k)(b:Int):KG N (fH k b):=by
 have x:=iQ g b
 have y:=iQ x.1 (W64 (b+8))
 unfold fH
 dsimp only
 have z:=fun(c:Bool)=>iQ (sx (c:=c=true) (nr y.1 (e:=-24) (oy 24 (by omega))) y.1) (W64 (W64 (b+16)+W64 (8*(bv k b).2)))
 exact sx (z _).1 (FC (z _).1 (fun _=>(z _).2))
def V5(g:KG N k):KG N (pOk (ba k).1 (ba k).1.r.vm (ba k).2):=nr (jW g).1 (jW g).2
def J8(g:KG N k)(h0:k.err=.ok)(name:Str):KF2 (N+2) (mM k name):=by
 have u:=fun {a:PW} (q:KG N a)=>HV (Ea q (by omega:N<=N+2))
 unfold mM Ib
 refine dS (HV (W8 g)) (dS (u (Nv g)) (dS (u (ah5 g)) (dS (u (y9 g _)) (dS (u (y9 (jW g).1 _)) (dS (u (af3 g)) (dS (u (KM g)) (dS (u (Mq g 1)) (dS (u (Mq (jW g).1 _)) (dS ?_ ?_)))))))))
 ·have b:=(g.ok h0).up (by omega:N<=N+2);exact⟨b.m,b.ip,b.w⟩
 refine dS (u (Oe g)) (dS (u (aw7 g)) (dS (u (FC (jW g).1 (fun _=>(jW g).2))) (dS (u (Sp g)) (dS (u (V5 g)) ?_))))
 have d:=fun n=>EL g n
 have dp:=fun n=>u (jD (d n).1 (fun q=>(d n).2 (yR q)))
 exact dS (dp 0) (dS (dp 2) (dS (u (jg (jg (d 1).1).1).1) (dS (u (p6 (jW g).1 (fun _=>(jW g).2))) (dS (u (jD (jg g).1 (fun _=>(jg g).2))) (dS (dp 0) (dS (u (KM g)) (dS (u (Z4 g)) (u g))))))))
end
def PK{v:VVm}{n:Int}{N:Nat}(g:be N v):be (N+2) (doS v n).1:=by
 have q:=Rx (n:=n) g.v
 have s:=Jh (n:=n) g.v
 unfold DN at s
 have e1:(doS v n).1.r=v.r:=by have q:=congrArg VVm.r s;exact q
 have e2:(doS v n).1.f=v.f:=by have q:=congrArg VVm.f s;exact q
 have e3:(doS v n).1.last=v.last:=by have q:=congrArg VVm.last s;exact q
 exact⟨(mf _).1 q.right,q.old,q.d,by rw[e1];exact g.fr,by rw[e2];exact g.ff,q.ints,by rw[e3];exact g.la⟩
def Y3{k:PW}{N:Nat}(g:KG N k)(h0:k.err=.ok){xt:Int}(hx:ae xt):KF2 (N+2) (kD k xt):=by
 have u:=fun {a:PW} (q:KG N a)=>HV (Ea q (by omega:N<=N+2))
 have fk:ae (az k.r.vm xt).2:=by
  unfold az;split
  ·split;exact bC;exact oy 9 (by omega)
  unfold am;split;exact bC;exact uc _ _
 have g1:=nr g fk
 unfold kD
 dsimp only
 by_cases c:iw (pOk k k.r.vm (az k.r.vm xt).2).err=true
 ·rw[if_pos c]
  have o1:=ii.1 c
  have gr:=g1.ok o1
  refine dS (u (nr g1 (oy 14 (by omega)))) (dS (u (vF (p6 g1 (fun q=>gr.ip)) (fun _=>cU _))) (dS (u (jD g1 (fun _=>cU _))) (dS (u (jD (iQ g1 _).1 (fun _=>(iQ g1 _).2))) (dS ?_ (dS (u (JW g1 _)) (dS ?_ (J8 g1 o1 _)))))))
  ·have f:=iQ g1 (W64 (xt+8))
   have p:=jD f.1 (n:=W64 (xt+16)) (fun _=>cU _)
   exact u (vF (p6 p (fun q=>(p.ok q).ip)) (fun _=>f.2))
  exact HV (ym g1 (by omega) (at7 (aC4 _ _)) (fun q _=>PK gr.m))
 rw[if_neg c];exact u g1
def WJ{r:bH}{N:Nat}(g:gM N r):KG N (cb r).1/\ae (cb r).2:=by
 have b:KG N (gu r):=aa5 rfl ⟨g.m,g.ip,bC⟩
 have f:=iQ b r.ip
 unfold cb
 split
 ·exact⟨b,g.w⟩
 exact⟨sx (vF f.1 (fun _=>cU _)) f.1,f.2⟩
def mb(s:List Int)(n:Nat):(lc s n).length=n:=by unfold lc;simp only[List.length_append,List.length_take,List.length_replicate];omega
def DW{s:List Int}(h:gm s)(n:Nat):gm (lc s n):=jr (nR _ h) (fun x hx=>by rw[List.eq_of_mem_replicate hx];exact bC)
def xM{r:bH}{N:Nat}(g:gM N r){e:Int}(he:ae e):gM N (bZ r e).1:=by
 unfold bZ
 split
 ·exact g
 rename_i h0
 dsimp only
 have R:=g.m.right
 have hc:=R.gl
 unfold eG at hc
 have hm:r.vm.f.getD (r.vm.f.length-1) default∈r.vm.f:=by rw[List.getD_eq_getElem?_getD,List.getElem?_eq_getElem (by omega)];exact List.getElem_mem _
 have hf:=List.all_eq_true.1 R.f _ hm
 unfold qs at hf
 simp only[decide_eq_true_eq,Bool.and_eq_true]at hf
 generalize r.vm.f.getD (r.vm.f.length-1) default=F at *
 have a1:=SV g.m (f:=r.vm.f.take (r.vm.f.length-1)) (List.all_eq_true.2 fun x hx=>List.all_eq_true.1 R.f x (List.mem_of_mem_take hx)) (by have:=R.fl;simp only[List.length_take];omega) (fun x hx=>g.m.ff x (List.mem_of_mem_take hx))
 have a2:=Uy a1 (d:=lc r.vm.d (min F.d (r.vm.conf.data-1)).toNat++[e]) (by show _<=r.vm.conf.data;simp only[List.length_append,List.length_singleton,mb];omega) (jr (DW g.m.fd _) (db he))
 have a3:=Su a2 (r:=lc r.vm.r (min F.r r.vm.conf.ret).toNat) (by show _<=r.vm.conf.ret;rw[mb];omega) (DW g.m.fr _)
 exact⟨a3,g.m.ff F hm,g.w⟩
def OR{r:bH}{N:Nat}(g:gM N r):gM (N+2) (sI r).1:=by
 unfold sI
 split
 ·exact g.up (by omega)
 have t:=WJ g
 have tr:=(vE r).2
 have tg:KF2 (N+2) (iG r):=by
  unfold iG
  by_cases c:iw (cb r).1.err=true
  ·rw[if_pos c];exact Y3 t.1 (ii.1 c) t.2
  rw[if_neg c];exact HV (Ea t.1 (by omega))
 have wg:gM N (cb r).1.r:=by
  rw[tr]
  refine⟨g.m,?_,bC⟩
  have e:(yf r).1.ip=(cb r).1.r.ip:=by rw[tr]
  rw[e]
  unfold cb
  split
  ·exact g.ip
  dsimp only
  split
  ·exact cU _
  rw[y7];exact g.ip
 unfold KF2 at tg
 cases q:(iG r).err with
 | ok=>rw[q]at tg;exact tg
 | halt=>rw[q]at tg;exact tg
 | bad c=>rw[q]at tg;exact(xM wg tg).up (by omega)
open Go.RowKit
def KY:yF->Bool
 | .halt=>true
 | _=>false
def JL{c:Cx}{t:TypeId}{x z:Value}{y:PV}{v:Value}(h:Rep c (.ifc t (.agg [.val x,y])) v)(hy:∀u,Rep c y u->u=z):v=.iface t (.agg #[x,z]):=by
 unfold Rep at h
 obtain⟨u,rfl,h⟩:=h
 unfold Rep at h
 obtain⟨vs,rfl,h⟩:=h
 match vs,h with
 | [],h=>have:=au.length h;simp at this
 | [_],h=>have:=au.length h;simp at this
 | [p,q],h =>
  have h1:=(af.1 h).1
  have h2:=hy _ (af.1 (af.1 h).2).1
  unfold Rep at h1
  rw[h1,h2]
 | _::_::_::_,h=>have:=au.length h;simp at this
def yW{c:Cx}{t:TypeId}{x v:Value}(h:Rep c (.ifc t (.agg [.val x])) v):v=.iface t (.agg #[x]):=by
 unfold Rep at h
 obtain⟨u,rfl,h⟩:=h
 unfold Rep at h
 obtain⟨vs,rfl,h⟩:=h
 match vs,h with
 | [],h=>have:=au.length h;simp at this
 | [p],h =>
  have h1:=(af.1 h).1
  unfold Rep at h1
  rw[h1]
 | _::_::_,h=>have:=au.length h;simp at this
def vi{c:Cx}{x y:PV}{vs:List Value}{a b:Value}(h:au c [x,y] vs)(hx:∀u,Rep c x u->u=a)(hy:∀u,Rep c y u->u=b):vs=[a,b]:=by
 match vs,h with
 | [],h=>have:=au.length h;simp at this
 | [_],h=>have:=au.length h;simp at this
 | [p,q],h=>rw[hx _ (af.1 h).1,hy _ (af.1 (af.1 h).2).1]
 | _::_::_::_,h=>have:=au.length h;simp at this
def BQ{c:Cx}{x v:Value}(h:Rep c (.val x) v):v=x:=by unfold Rep at h;exact h
def aS1(a:Addr)(xt:Int)(e:yF)(he:iw e=false):ab prog 118 [.ifc 199 (.agg [i64 xt,Cp a e]),.val (haltV a)] (boo (KY e)):=by
 cases e with
 | ok=>cases he
 | bad k=>exact sk (l:=[atV xt (X9 k),haltV a]) (v:=.bool false) (fun c vs h=>vi h (fun u hu=>JL hu (fun _ hq=>yW hq)) (fun u hu=>BQ hu)) (fun c=>ar _ _) (ai7 a xt k)
 | halt=>exact sk (l:=[atV xt (haltV a),haltV a]) (v:=.bool true) (fun c vs h=>vi h (fun u hu=>JL hu (fun _ hq=>BQ hq)) (fun u hu=>BQ hu)) (fun c=>ar _ _) (av4 a xt)
def aP1(xt k:Int){x0:PV}(H:List Ob)(i j:Nat)(hi:H[i]?=some (.cells [x0] 201))(hj:H[j]?=some (.glob 0 etV)):
  HC prog 83 [.ifc 199 (.agg [i64 xt,.ifc 201 (.agg [i64 k])]),.ifc 203 (.ptr i 0)] H (boo true) (H.set i (.cells [i64 k] 201)):=by
 intro B σ w vs s hv
 obtain⟨b,vs0,fr,hb,hw,hfr,p,q,rfl,hp⟩:=s.holds i _ hi
 simp only[cx]at hb hw
 match p,hp with
 | [],hp=>have:=au.length hp;simp at this
 | _::_::_,hp=>have:=au.length hp;simp at this
 | [old],hp =>
 have hvs:vs=[atV xt (X9 k),.iface 203 (.pointer (some ⟨b,0,none⟩))]:=vi hv (fun u hu=>JL hu (fun _ hq=>yW hq)) (fun u hu=>by
  unfold Rep at hu
  obtain⟨z,rfl,hz⟩:=hu
  unfold Rep at hz
  obtain⟨_,b2,h2,rfl⟩:=hz
  simp only[cx]at h2
  rw[hb]at h2;cases h2;rfl)
 subst hvs
 obtain⟨hg,_⟩:=s.holds j _ hj
 have ht0:w.cell? ⟨b,0,none⟩=some old:=by rw[fa hw];rfl
 have hf0:w.frozen? ⟨b,0,none⟩=false:=by
  rcases hfr with rfl|hz
  ·simp[World.frozen?,hw]
  obtain⟨lo,hi'⟩:=fr
  simp only[World.frozen?,hw,Bool.and_eq_false_iff,decide_eq_false_iff_not]
  simp only[List.length_append,List.length_cons]at hz
  exact .inl (by omega)
 refine Calls.mono (aq3 xt k ⟨b,0,none⟩ old w hg ht0 hf0) ?_
 rintro e w' ⟨rfl,w1,g,rfl⟩
 obtain⟨s1,st1⟩:=gU s g
 have hw1:w1.heap[b]?=some (Obj.cells (old::q).toArray 201 fr):=(g.block b (Array.getElem?_eq_some_iff.1 hw).1).trans hw
 obtain⟨s2,st2⟩:=lV s1 (ys:=[i64 k]) (us:=.int .i64 k::q) hi hb hw1 hfr rfl ⟨[.int .i64 k],q,rfl,af.2 ⟨ar _ _,aG.2 rfl⟩⟩
 have e1:w1.setCell ⟨b,0,none⟩ (.int .i64 k)=w1.setRow b (Value.int .i64 k::q).toArray:=by
  rw[setCell_eq_setRow w1 b 0 _ _ _ _ hw1];simp
 rw[e1]
 exact⟨.bool true,σ,rfl,ar _ _,s2,st1.trans st2⟩
def K8(n:Nat){d:TD}(hz:d.zero=[i64 0]):fP n d=(List.replicate n (0:Int)).flatMap ao:=by
 unfold fP
 rw[hz]
 induction n with
 | zero=>rfl
 | succ n ih=>rw[List.replicate_succ,List.replicate_succ,List.flatten_cons,List.flatMap_cons,ih];rfl
def oO(l:List Int):l.flatMap ao=l.map i64:=by
 induction l with
 | nil=>rfl
 | cons x l ih=>rw[List.flatMap_cons,ih];rfl
def yv(s:List Int)(n:Nat){d:TD}(hs:d.size=1)(hz:d.zero=[i64 0]):cy (fP n d) 0 ((s.flatMap ao).take (min s.length n*d.size))=(lc s n).flatMap ao:=by
 rw[K8 n hz,oO,oO,oO,hs,Nat.mul_one]
 unfold cy lc
 rw[List.take_zero,List.nil_append,Nat.zero_add,<-List.map_take,List.length_map,List.length_take,<-List.map_drop,List.map_append,List.drop_replicate]
 congr 2
 ·rcases Nat.le_total s.length n with h|h
  ·rw[Nat.min_eq_left h,List.take_of_length_le (Nat.le_refl _),List.take_of_length_le h]
  rw[Nat.min_eq_right h]
 congr 1;omega
def NS(s:List Int)(n:Nat):PV.seq n (((lc s n).flatMap ao).take n) .clip=sqc ao (lc s n):=by
 have h:=mb s n
 rw[oO,<-List.map_take,List.take_of_length_le (by omega),<-oO]
 unfold sqc;rw[h]
def r5(s:List Int)(n:Nat)(hs:s.length<=1000000)(hn:n<=1000000):ab prog 169 [sq ao s,i64 (n:Int)] (sqc ao (lc s n)):=by
 refine zH func169 fun B=>?_
 refine zP ?_ (q:=(by(simp_all;omega)))
 refine Wd rfl rfl (nL (lO tG rfl) rfl (lO tG rfl) rfl rfl rfl rfl (an _ 1 (fun _=>rfl) _) (bD _ (fun _=>rfl) _) (by rw[mS _ _ rfl];simp)) ?_
 refine jQ (H':=[.cells ((lc s n).flatMap ao) 3]) (by refine congrArg (fun z=>[Ob.cells z 3]) (yv s n ?_ ?_).symm<;>rfl) ?_
 refine Wn<|zp1 ?_
 refine Bd 11 0 n n rfl rfl (by rw[oO,List.length_map,mb];exact Nat.le_refl _) ?_
 refine Wa 11 rfl (NS s n) ?_
 refine zs1 ?_
 refine Wq ?_
 exact oq rfl rfl
def y2(r:bH)(b:Bool):PV:=iy (xh r) (boo b)
@[simp] theorem WY (r : bH) (b : Bool) : aR (y2 r b) := by simp [y2]
def FS(r:bH)(e:Int)(N:Nat)(g:be N r.vm):ab prog 119 [xh r,i64 e] (y2 (bZ r e).1 (decide (r.vm.f.length≠0))):=by
 have R:=g.right
 have hc:=R.gl
 unfold eG at hc
 have hfl:=R.fl
 have hd:=R.d
 have hr:=R.r
 by_cases h0:r.vm.f.length=0
 ·have e1:(bZ r e).1=r:=by unfold bZ;rw[if_pos h0]
  rw[e1]
  refine zH func119 fun B=>?_
  refine Wt rfl (by(try simp only[dnL]at *);omega) ?_
  refine zd ?_
  exact congrArg (y2 r) (decide_eq_false (fun q=>q h0)).symm
 have hm:r.vm.f.getD (r.vm.f.length-1) default∈r.vm.f:=by rw[List.getD_eq_getElem?_getD,List.getElem?_eq_getElem (by omega)];exact List.getElem_mem _
 have hf:=List.all_eq_true.1 R.f _ hm
 unfold qs at hf
 simp only[decide_eq_true_eq,Bool.and_eq_true]at hf
 have e1:bZ r e=({r with vm:={r.vm with f:=r.vm.f.take (r.vm.f.length-1),d:=lc r.vm.d (min (r.vm.f.getD (r.vm.f.length-1) default).d (r.vm.conf.data-1)).toNat++[e],r:=lc r.vm.r (min (r.vm.f.getD (r.vm.f.length-1) default).r r.vm.conf.ret).toNat},ip:=(r.vm.f.getD (r.vm.f.length-1) default).ip},0):=by
  unfold bZ;rw[if_neg h0]
 rw[e1]
 have w0:IntKind.i64.wrap ((r.vm.f.length:Int)-1)=((r.vm.f.length-1:Nat):Int):=by((rw[bU];unfold wrap64;(try simp only[dnL]at *);omega))
 have w1:IntKind.i64.wrap (r.vm.conf.data-1)=r.vm.conf.data-1:=by((rw[bU];unfold wrap64;(try simp only[dnL]at *);omega))
 have w2:(if r.vm.conf.data-1<(r.vm.f.getD (r.vm.f.length-1) default).d then r.vm.conf.data-1 else(r.vm.f.getD (r.vm.f.length-1) default).d)=((min (r.vm.f.getD (r.vm.f.length-1) default).d (r.vm.conf.data-1)).toNat:Int):=by split<;>omega
 have w3:(if r.vm.conf.ret<(r.vm.f.getD (r.vm.f.length-1) default).r then r.vm.conf.ret else(r.vm.f.getD (r.vm.f.length-1) default).r)=((min (r.vm.f.getD (r.vm.f.length-1) default).r r.vm.conf.ret).toNat:Int):=by split<;>omega
 have hdl:=mb r.vm.d (min (r.vm.f.getD (r.vm.f.length-1) default).d (r.vm.conf.data-1)).toNat
 refine zH func119 fun B=>?_
 refine Wf rfl (by(try simp only[dnL]at *);omega) ?_
 refine Wj<|zp5 ?_
 refine Wa 19 rfl (j_ w0) ?_
 refine Wv tG rfl rfl rfl (by omega) (iN eW 3 (fun _=>rfl) default (by omega)) ?_
 refine zs3 ?_
 refine zp5 ?_
 refine Wa 26 rfl (j_ w0) ?_
 refine z2 ?_ (q:=(by(simp_all;done)))
 refine Wa 27 rfl (cK eW 3 (fun _=>rfl) (by omega)) ?_
 refine zs3 ?_
 refine zp5 ?_
 refine zy5 ?_
 refine Wa 39 rfl (j_ w1) ?_
 refine z1 ?_
 refine Wa 40 rfl (j_ w2) ?_
 refine zc rfl func169 ((r5 r.vm.d (min (r.vm.f.getD (r.vm.f.length-1) default).d (r.vm.conf.data-1)).toNat (by omega) (by omega)) _) ?_
 refine zy2 ?_
 refine Wa 43 rfl (bsL ao [_] rfl rfl) ?_
 refine Wd rfl rfl (cd (lO tG rfl) rfl (lO tG rfl) (lO tG rfl) rfl rfl (by exact⟨_,rfl⟩) (by exact⟨rfl,rfl,an _ 1 (fun _=>rfl) _,bD _ (fun _=>rfl) _⟩) (by exact an _ 1 (fun _=>rfl) _) (by((simp_all;omega))) (by((simp_all;omega)))) ?_
 refine Wa 44 rfl (cw ao) ?_
 refine zs3 ?_
 refine zp5 ?_
 refine zy5 ?_
 refine Wa 56 rfl (j_ w3) ?_
 refine zC rfl func169 ((r5 r.vm.r (min (r.vm.f.getD (r.vm.f.length-1) default).r r.vm.conf.ret).toNat (by omega) (by omega)) _) ?_
 rw[decide_eq_true h0];rfl
def M4(r:bH×Bool×Int):PV:=kr (xh r.1) (boo r.2.1) (i64 r.2.2)
@[simp] theorem an4 (r : bH × Bool × Int) : aR (M4 r) := by simp [M4]
def Uz{r:bH}(h:r.dof=true):cb r=(gu r,r.w):=by unfold cb;rw[if_pos h]
def Zb{r:bH}(h:¬r.dof=true)(k:iw (bv (gu r) r.ip).1.err=true):cb r=(wIp (bv (gu r) r.ip).1 (W64 ((bv (gu r) r.ip).1.r.ip+8)),(bv (gu r) r.ip).2):=by unfold cb;rw[if_neg h,if_pos k]
def XG{r:bH}(h:¬r.dof=true)(k:¬iw (bv (gu r) r.ip).1.err=true):cb r=((bv (gu r) r.ip).1,(bv (gu r) r.ip).2):=by unfold cb;rw[if_neg h,if_neg k]
def Vz{r:bH}(k:iw (cb r).1.err=true):iG r=kD (cb r).1 (cb r).2:=by unfold iG;rw[if_pos k]
def ZI{r:bH}(k:¬iw (cb r).1.err=true):iG r=(cb r).1:=by unfold iG;rw[if_neg k]
def Xl{r:bH}{N:Nat}(g:gM N r):KX N (cb r).1/\ae (cb r).2:=by
 have b:KX N (gu r):=⟨g.m.x,g.ip,bC⟩
 have f:=hJ b r.ip
 unfold cb
 split
 ·exact⟨b,g.w⟩
 refine⟨?_,f.2⟩
 dsimp only
 split
 ·exact ad8 f.1 (cU _)
 exact f.1
def X4{e:yF}(h:KY e=true):e=.halt:=by cases e<;>first|rfl|cases h
def ap2{e:yF}(h:iw e=false)(k:KY e=false):∃c,e=.bad c:=by
 cases e with
 | ok=>cases h
 | bad c=>exact⟨c,rfl⟩
 | halt=>cases k
def UI{r:bH}{c:Int}(h:r.vm.f.length≠0):(bZ r c).2=0:=by unfold bZ;rw[if_neg h]
def Th{r:bH}{c:Int}(h:r.vm.f.length=0):bZ r c=(r,c):=by unfold bZ;rw[if_pos h]
def IU:List PV:=[PV.val (Value.int IntKind.i64 0),PV.val (Value.int IntKind.i64 0),PV.val (Value.int IntKind.i64 0),PV.val (Value.int IntKind.i64 0),PV.val (Value.int IntKind.i64 0),PV.seq 0 [] SK.clip,PV.seq 0 [] SK.clip,PV.val (Value.int IntKind.i64 0),PV.seq 0 [] SK.clip,PV.seq 0 [] SK.clip,PV.seq 0 [] SK.clip,PV.seq 0 [] SK.clip,PV.val (Value.int IntKind.i64 0),PV.seq 0 [] SK.clip,PV.seq 0 [] SK.clip,PV.val (Value.bool false),PV.seq 0 [] SK.clip,PV.val (Value.int IntKind.i64 0),PV.val (Value.int IntKind.i64 0),PV.val (Value.int IntKind.i64 0),PV.val (Value.int IntKind.i64 0),PV.val (Value.int IntKind.i64 0),PV.seq 0 [] SK.clip,PV.val (Value.int IntKind.i64 0),PV.val (Value.int IntKind.i64 0),PV.val (Value.bool false),PV.val (Value.int IntKind.i64 0)]
@[simp] theorem aA0 : aF IU := by simp [IU, aF, aR]
def Kq(a:Addr)(r:bH)(N:Nat)(g:gM N r)(hN:N<=800000)(hfu:ae r.fuel):∀(H:List Ob),(∀o∈gH a,∃k:Nat,H[k]?=some o)->HC prog 87 [xh r] H (M4 (sI r)) H:=by
 have kb:KX N (gu r):=⟨g.m.x,g.ip,bC⟩
 have kt:=Xl g
 have hvt:(cb r).1.r.vm=r.vm:=by rw[(vE r).2]
 have hvo:dA (cb r).1.r.vm:=by rw[hvt];exact XW g.m.v (by omega)
 have gw:be N (cb r).1.r.vm:=by rw[hvt];exact g.m
 refine gD (fF a) tG (rs:=[.cell 2 145,.tmp 3,.tmp 4]) func87 rfl rfl rfl (by simp) (by simp) (fun B=>?_)
 refine zd ?_
 refine Wi rfl ?_ ?_<;>intro hi1
 ·have q1:r.fuel<1:=oT hi1
  refine zu4 ?_
  refine zR ?_
  unfold sI;rw[if_pos q1];rfl
 have q1:¬r.fuel<1:=oF hi1
 refine Wj<|zu4 ?_
 refine zp5 ?_
 refine zs2 ?_
 refine zu3 ?_
 refine zp5 ?_
 refine dt (zs:=cPW a (gu r)) (lO tG rfl) rfl rfl rfl rfl rfl rfl rfl rfl rfl rfl rfl ?_
 refine Wn<|SD [(1,.ptr 2 0),(2,.ptr 3 0),(5,.ptr 4 0),(6,i64 (cb r).2)] [.glob 1 (haltV a),.glob 0 etV,.cells (sW r) 145,.cells IU 145,.cells (cPW a (cb r).1) 197] [] ?_ ?_
 ·refine zd ?_
  refine Wi rfl ?_ ?_<;>intro hi2
  ·have q2:¬r.dof=true:=by simpa using hi2
   refine zd ?_
   refine zC rfl func116 ((kf a (gu r) kb r.ip g.ip) _ _ rfl) ?_
   refine Wd rfl rfl (cq (lO tG rfl) rfl rfl rfl rfl) ?_
   refine Wd rfl rfl (aY rfl (by kernel_rfl) rfl (by exact tl _ _)) ?_
   refine zd ?_
   refine Wi rfl ?_ ?_<;>intro hi3
   ·have q3:iw (bv (gu r) r.ip).1.err=true:=hi3
    have hT:=Zb q2 q3
    refine aI rfl ?_
    refine zy5 ?_
    refine z1 ?_
    refine dt (zs:=cPW a (cb r).1) (lO tG rfl) rfl rfl rfl rfl rfl rfl rfl (by rw[hT];rfl) rfl rfl rfl ?_
    refine zd ?_
    exact⟨[],(dK (sub:=by repeat (first|exact gc|refine eU (by first|exact cP rfl|exact cP (congrArg i64 (by rw[hT]))) ?_)))⟩
   have q3:¬iw (bv (gu r) r.ip).1.err=true:=by simpa using hi3
   have hT:=XG q2 q3
   refine as0 (H':=[.glob 1 (haltV a),.glob 0 etV,.cells (sW r) 145,.cells IU 145,.cells (cPW a (cb r).1) 197]) (by rw[hT];rfl) ?_
   refine zd ?_
   exact⟨[],(dK (sub:=by repeat (first|exact gc|refine eU (by first|exact cP rfl|exact cP (congrArg i64 (by rw[hT]))) ?_)))⟩
  have q2:r.dof=true:=by simpa using hi2
  have hT:=Uz q2
  refine as0 (H':=[.glob 1 (haltV a),.glob 0 etV,.cells (sW r) 145,.cells IU 145,.cells (cPW a (cb r).1) 197]) (by rw[hT];rfl) ?_
  refine zd ?_
  exact⟨[],(dK (sub:=by repeat (first|exact gc|refine eU (by first|exact cP rfl|exact cP (congrArg i64 (by rw[hT]))) ?_)))⟩
 refine zu4 ?_
 refine SD [(1,.ptr 2 0),(2,.ptr 3 0),(5,.ptr 4 0),(6,i64 (cb r).2),(7,.ptr 5 0)] [.glob 1 (haltV a),.glob 0 etV,.cells (sW r) 145,.cells IU 145,.cells (cPW a (iG r)) 197,.cells (sW (cb r).1.r) 145] [] ?_ ?_
 ·refine zd ?_
  refine Wd rfl rfl (cq (lO tG rfl) rfl rfl rfl rfl) ?_
  refine Wd rfl rfl (aY rfl (by kernel_rfl) rfl (by exact tl _ _)) ?_
  refine zd ?_
  refine Wi rfl ?_ ?_<;>intro hi4
  ·have q4:iw (cb r).1.err=true:=hi4
   refine zd ?_
   refine zc rfl func117 (aj5 a (cb r).1 kt.1 (by omega) hvo (cb r).2 kt.2 _ _ rfl (bS 0 1 rfl rfl)) ?_
   refine jQ (H':=[.glob 1 (haltV a),.glob 0 etV,.cells (sW r) 145,.cells IU 145,.cells (cPW a (iG r)) 197,.cells (sW (cb r).1.r) 145]) (by rw[Vz q4];rfl) ?_
   refine zd ?_
   exact⟨[],dK⟩
  have q4:¬iw (cb r).1.err=true:=by simpa using hi4
  refine as0 (H':=[.glob 1 (haltV a),.glob 0 etV,.cells (sW r) 145,.cells IU 145,.cells (cPW a (iG r)) 197,.cells (sW (cb r).1.r) 145]) (by rw[ZI q4];rfl) ?_
  refine zd ?_
  exact⟨[],dK⟩
 refine zd ?_
 refine Wd rfl rfl (cq (lO tG rfl) rfl rfl rfl rfl) ?_
 refine Wd rfl rfl (jp rfl (by kernel_rfl) rfl (by exact tl _ _)) ?_
 refine zd ?_
 refine Wi rfl ?_ ?_<;>intro hi5
 ·have q5:iw (iG r).err=false:=by simpa using hi5
  refine zd ?_
  refine Wd rfl rfl (cq (lO tG rfl) rfl rfl rfl rfl) ?_
  refine Wd rfl rfl (o7 (out:=[i64 (cb r).2,Cp a (iG r).err]) (lO tG rfl) rfl rfl (by clear q5;generalize (iG r).err=e0;cases e0<;>rfl)) ?_
  refine Wd rfl rfl (p5 rfl (by kernel_rfl) rfl) ?_
  refine z1 ?_
  refine dt (zs:=sW (iG r).r++[.ifc 199 (.agg [i64 (cb r).2,Cp a (iG r).err])]) (lO tG rfl) rfl rfl rfl rfl rfl rfl rfl rfl rfl rfl rfl ?_
  refine zd ?_
  refine Wd rfl rfl (aY rfl (by kernel_rfl) rfl (by rfl)) ?_
  refine zd ?_
  refine Wf rfl (by rfl) ?_
  refine zd ?_
  refine Wd rfl rfl (AS (j:=0) (lO tG rfl) rfl rfl rfl) ?_
  refine zC rfl func118 ((aS1 a (cb r).2 (iG r).err q5) _) ?_
  refine Wi rfl ?_ ?_<;>intro hi7
  ·have q7:=X4 hi7
   refine zu5 ?_
   refine zR ?_
   unfold sI;rw[if_neg q1,q7];rfl
  obtain⟨c,hc⟩:=ap2 q5 hi7
  refine zp2 ?_
  refine Wa 76 rfl ((congrArg (fun z=>PV.ifc 199 (.agg [i64 (cb r).2,z])) (show Cp a (iG r).err=.ifc 201 (.agg [i64 c]) by rw[hc];rfl))) ?_
  refine Wd rfl rfl (p5 rfl (by kernel_rfl) rfl) ?_
  refine zC rfl func83 (aP1 (cb r).2 c _ 6 1 rfl rfl) ?_
  refine Wf rfl (by rfl) ?_
  refine zd ?_
  refine zC rfl func119 ((FS (cb r).1.r c N gw) _) ?_
  refine Wi rfl ?_ ?_<;>intro hi9
  ·refine zu4 ?_
   refine zR ?_
   unfold sI;rw[if_neg q1,hc];exact congrArg (fun z=>kr (xh (bZ (cb r).1.r c).1) (boo false) (i64 z)) (UI (oT hi9)).symm
  refine zd ?_
  refine zW [14,0,16,11,0,0] [0,1,2,3,4,5] ?_
  refine zU 5 ?_
  refine z3 ?_
  refine zU 6 ?_
  refine dW 3 tG rfl rfl rfl rfl rfl trivial rfl ?_
  iterate 2 refine z3 ?_
  refine fS ?_
  refine zR ?_
  unfold sI;rw[if_neg q1,hc];dsimp only;rw[Th (Decidable.of_not_not (oF hi9))];rfl
 have q5:iw (iG r).err=true:=by simpa using hi5
 refine zd ?_
 refine Wd rfl rfl (cq (lO tG rfl) rfl rfl rfl rfl) ?_
 refine Wd rfl rfl (aY rfl (by kernel_rfl) rfl (by exact tl _ _)) ?_
 refine zd ?_
 refine Wt rfl (by omega) ?_
 refine zu5 ?_
 refine zR ?_
 unfold sI;rw[if_neg q1,ii.1 q5];rfl
def JY(v:VVm):ab prog 112 [eVm v] (eVm (zV v)):=by
 refine zH func112 fun B=>?_
 rfl
def HK(v:VVm)(xt fuel:Int):ab prog 84 [eVm v,i64 xt,i64 fuel] (xh (g7 v xt fuel)):=by
 refine zH func84 fun B=>?_
 refine zC rfl func112 ((JY v) _) ?_
 rfl
def G8(a:Addr)(r:bH)(N:Nat)(g:gM N r)(hN:N<=800000)(hfu:ae r.fuel):∀(H:List Ob),(∀o∈gH a,∃k:Nat,H[k]?=some o)->HC prog 87 [xh r] H (M4 (bz r)) H:=by
 rw[<-Fp r g.m.right.d]
 exact Kq a r N g hN hfu
def ub{r:bH}{N:Nat}(g:gM N r):gM (N+2) (bz r).1:=by rw[<-Fp r g.m.right.d];exact OR g
def rq(r:bH)(c:Int):(bZ r c).1.fuel=r.fuel:=by unfold bZ;split<;>rfl
def wS{r:bH}(hd:(r.vm.d.length:Int)<=r.vm.conf.data)(h:¬r.fuel<1):(bz r).1.fuel=W64 (r.fuel-1):=by
 rw[<-Fp r hd]
 unfold sI
 rw[if_neg h]
 have e1:(cb r).1.r.fuel=W64 (r.fuel-1):=by rw[(vE r).2]
 have e2:(iG r).r.fuel=W64 (r.fuel-1):=by unfold iG;exact bu (by rw[DO,e1]) e1
 cases (iG r).err with
 | ok=>exact e2
 | halt=>exact e2
 | bad c=>show(bZ _ c).1.fuel=_;rw[rq,e1]
def xy{r:bH}(h:r.fuel<1):bz r=(r,false,-256):=by unfold bz;rw[if_pos h]
def Tj{n:Int}(h1:1<=n)(h2:n<=300000):W64 (n-1)=n-1:=by
 show IntKind.i64.wrap (n-1)=n-1
 rw[bU];unfold wrap64;omega
def QW{n:Nat}{r:bH}(h:(bz r).2.1=true\/(bz r).2.2≠0):yh (n+1) r=(zV (bz r).1.vm,(bz r).1.fuel,(bz r).2.2):=by
 show(if _ then _ else _)=_;rw[if_pos h]
def NN{n:Nat}{r:bH}(h:¬((bz r).2.1=true\/(bz r).2.2≠0)):yh (n+1) r=yh n (bz r).1:=by
 show(if _ then _ else _)=_;rw[if_neg h]
structure Ee (R:VVm×Int×Int) (s:Nat×bH):Prop where
 run:yh s.1 s.2=R
 f0:0<=s.2.fuel
 f1:s.2.fuel<(s.1:Int)
 g:gM (700000-2*s.1) s.2
 n:s.1<=300001
def Ee.fit{R:VVm×Int×Int}{s:Nat×bH}(h:Ee R s):ae s.2.fuel:=by have:=h.f0;have:=h.f1;have:=h.n;unfold ae;omega
def Ee.pos{R:VVm×Int×Int}{s:Nat×bH}(h:Ee R s):∃n,s.1=n+1:=⟨s.1-1,by have:=h.f0;have:=h.f1;omega⟩
def Ee.out{R:VVm×Int×Int}{s:Nat×bH}(h:Ee R s)(k:(bz s.2).2.1=true\/(bz s.2).2.2≠0):(zV (bz s.2).1.vm,(bz s.2).1.fuel,(bz s.2).2.2)=R:=by
 obtain⟨n,hn⟩:=h.pos
 rw[<-h.run,hn,QW k]
def Ee.next{R:VVm×Int×Int}{s:Nat×bH}(h:Ee R s)(k:¬((bz s.2).2.1=true\/(bz s.2).2.2≠0)):Ee R (s.1-1,(bz s.2).1)/\s.1-1<s.1:=by
 obtain⟨n,hn⟩:=h.pos
 have hr:=h.run
 have f0:=h.f0
 have f1:=h.f1
 have hN:=h.n
 have hf:¬s.2.fuel<1:=fun q=>k (by rw[xy q];exact .inr (show(-256:Int)≠0 by decide))
 have hw:=wS h.g.m.right.d hf
 rw[Tj (by omega) (by omega)]at hw
 refine⟨⟨?_,?_,?_,?_,?_⟩,by omega⟩
 ·show yh (s.1-1) _=R
  rw[hn,NN k]at hr
  rw[hn];exact hr
 ·show 0<=(bz s.2).1.fuel;omega
 ·show(bz s.2).1.fuel<((s.1-1:Nat):Int);omega
 ·exact(ub h.g).up (by show _<=700000-2*(s.1-1);omega)
 show s.1-1<=300001;omega
def BD{v:VVm}{N:Nat}(g:be N v){xt fuel:Int}(hx:ae xt):gM N (g7 v xt fuel):=by
 have hc:=g.right.gl
 unfold eG at hc
 have a:=Su g (r:=[]) (by show(0:Int)<=_;omega) bE
 have b:=SV a (f:=[]) rfl (Nat.zero_le _) (fun x hx=>by cases hx)
 exact⟨b,by unfold ae;show -9223372036854775808<=(16:Int)/\(16:Int)<=9223372036854775807;omega,hx⟩
structure ag where
 f:aa
 s:Str
 at_:Int
 fuel:Int
 err:Int
def aC1(e:Int):Value:=if e=0 then .nilIface else .iface 141 (.agg #[.int .i64 e])
def Ce(e:Int):PV:=.val (aC1 e)
def aQ3:Ce 0=.val .nilIface:=rfl
def T7{e:Int}(h:e≠0):Ce e=.val (.iface 141 (.agg #[.int .i64 e])):=by unfold Ce aC1;rw[if_neg h]
@[simp] theorem aA2 (e : Int) : aR (Ce e) := by unfold Ce; simp
def dR(e:Int):wU (Ce e)=some (decide (e=0)):=by
 by_cases h:e=0
 ·rw[h];rfl
 rw[T7 h,decide_eq_false h];rfl
def Yi(e:Int):Imp (.ifc 141 (.agg [i64 e])) (.val (.iface 141 (.agg #[.int .i64 e]))):=fun c v h=>by rw[yW h];exact ar _ _
def aS(l:ag):List PV:=jT l.f++[str l.s,i64 l.at_,i64 l.fuel,Ce l.err]
@[simp] theorem aw9 (l : ag) : aF (aS l) := by simp [aS, jT, cVm, D1]
def Ab(e:Int):ab prog 79 [i64 e] (Ce e):=by
 refine zH func79 fun B=>?_
 refine Wi rfl ?_ ?_<;>intro hi1
 ·have q:e=0:=by simpa using hi1
  refine zd ?_
  (rw[q];rfl)
 have q:¬e=0:=by simpa using hi1
 refine zd ?_
 refine Wd rfl rfl (p5 rfl (by kernel_rfl) rfl) ?_
 refine Wm 7 rfl (Yi e) ?_
 refine zd ?_
 (rw[T7 q];done)
def oOk(l:ag)(e:Int):ag:=if l.err=0 then {l with err:=e} else l
def ok0{l:ag}{e:Int}(h:l.err=0):oOk l e={l with err:=e}:=by unfold oOk;rw[if_pos h]
def ok1{l:ag}{e:Int}(h:¬l.err=0):oOk l e=l:=by unfold oOk;rw[if_neg h]
def o6(l:ag)(e:Int):k_ 41 [i64 e] (aS l) 89 (boo (decide ((oOk l e).err=0))) (aS (oOk l e)):=by
 by_cases he:e=0
 ·have he':=he
  refine zL func41 fun B=>?_
  refine Wd rfl rfl (aY rfl (by kernel_rfl) rfl (by exact dR _)) ?_
  refine zd ?_
  refine Wi rfl ?_ ?_<;>intro hi1
  ·have q:l.err=0:=oT hi1
   refine zd ?_
   refine zc rfl func79 ((Ab e) _) ?_
   refine zA 12 rfl ((show Ce e=PV.val .nilIface from by rw[he];rfl)) ?_
   refine Wd rfl rfl (aY rfl (by kernel_rfl) rfl (by rfl)) ?_
   refine zd ?_
   refine Wq<|aQ rfl rfl ?_ ?_
   ·(rw[ok0 q];exact congrArg boo (decide_eq_true he).symm)
   (rw[ok0 q,he];rfl)
  have q:¬l.err=0:=oF hi1
  refine zd ?_
  refine Wd rfl rfl (aY rfl (by kernel_rfl) rfl (by exact dR _)) ?_
  refine zd ?_
  refine Wq<|aQ rfl rfl ?_ ?_
  ·(rw[ok1 q];rfl)
  (rw[ok1 q];rfl)
 have he':=he
 refine zL func41 fun B=>?_
 refine Wd rfl rfl (aY rfl (by kernel_rfl) rfl (by exact dR _)) ?_
 refine zd ?_
 refine Wi rfl ?_ ?_<;>intro hi1
 ·have q:l.err=0:=oT hi1
  refine zd ?_
  refine zc rfl func79 ((Ab e) _) ?_
  refine zA 12 rfl ((T7 he)) ?_
  refine Wd rfl rfl (aY rfl (by kernel_rfl) rfl (by rfl)) ?_
  refine zd ?_
  refine Wq<|aQ rfl rfl ?_ ?_
  ·(rw[ok0 q];exact congrArg boo (decide_eq_false he).symm)
  (rw[ok0 q];unfold aS;rw[T7 he];rfl)
 have q:¬l.err=0:=oF hi1
 refine zd ?_
 refine Wd rfl rfl (aY rfl (by kernel_rfl) rfl (by exact dR _)) ?_
 refine zd ?_
 refine Wq<|aQ rfl rfl ?_ ?_
 ·(rw[ok1 q];rfl)
 (rw[ok1 q];rfl)
def j8(l:ag)(r:aa×Int):ag:=if (oOk l r.2).err=0 then {oOk l r.2 with f:=r.1} else oOk l r.2
def wq(l:ag)(r:aa×Int):k_ 177 [bG r.1,i64 r.2] (aS l) 89 (.tup []) (aS (j8 l r)):=by
 refine zL func177 fun B=>?_
 refine zC rfl func41 ((o6 l r.2) _ _ rfl) ?_
 refine Wi rfl ?_ ?_<;>intro hi1
 ·have q:(oOk l r.2).err=0:=oT hi1
  refine zd ?_
  refine aV rfl rfl ?_ ?_
  ·rfl
  (rw[j8,if_pos q];rfl)
 have q:¬(oOk l r.2).err=0:=oF hi1
 refine zd ?_
 refine aV rfl rfl ?_ ?_
 ·rfl
 (rw[j8,if_neg q];rfl)
def fT(l:ag)(r:VVm×Int):ag:=if (oOk l r.2).err=0 then {oOk l r.2 with f:={(oOk l r.2).f with vm:=r.1}} else oOk l r.2
def oR(l:ag)(r:VVm×Int):k_ 80 [eVm r.1,i64 r.2] (aS l) 89 (.tup []) (aS (fT l r)):=by
 refine zL func80 fun B=>?_
 refine zC rfl func41 ((o6 l r.2) _ _ rfl) ?_
 refine Wi rfl ?_ ?_<;>intro hi1
 ·have q:(oOk l r.2).err=0:=oT hi1
  refine zd ?_
  refine aV rfl rfl ?_ ?_
  ·rfl
  (rw[fT,if_pos q];rfl)
 have q:¬(oOk l r.2).err=0:=oF hi1
 refine zd ?_
 refine aV rfl rfl ?_ ?_
 ·rfl
 (rw[fT,if_neg q];rfl)
def bW(l:ag):ag×Str:=if (bt l.s l.at_).1=[]then(oOk l (-16),[])else({l with at_:=(bt l.s l.at_).2},(bt l.s l.at_).1)
def s9(l:ag)(hs:l.s.length<=1000000):k_ 194 [] (aS l) 89 (str (bW l).2) (aS (bW l).1):=by
 obtain⟨w,hw⟩:∃w,bt l.s l.at_=w:=⟨_,rfl⟩
 have pW:=H9 l.s l.at_ hs
 rw[hw]at pW
 have e1:w.1=[]->bW l=(oOk l (-16),[]):=fun q=>by unfold bW;rw[hw,if_pos q]
 have e2:¬w.1=[]->bW l=({l with at_:=w.2},w.1):=fun q=>by unfold bW;rw[hw,if_neg q]
 refine zL func194 fun B=>?_
 refine zW [0,0,0,1,0,0,0,1,0,0,0,0,0,0] [0,1,2,3,4,5,6,7,8,9,10,11,12,13] ?_
 refine Xc rfl rfl rfl rfl (fun _=>dC rfl func36 rfl rfl ((pW) _)) ?_
 iterate 5 refine z3 ?_
 refine fS ?_
 refine Ws<|zp2 ?_
 refine zQ 18 ?_
 refine Wi rfl ?_ ?_<;>intro hi1
 ·have q:w.1=[]:=oT hi1
  refine zd ?_
  refine zC rfl func41 ((o6 l (-16)) _ _ rfl) ?_
  refine Wq<|aQ rfl rfl ?_ ?_
  ·(rw[e1 q];rfl)
  (rw[e1 q];rfl)
 have q:¬w.1=[]:=oF hi1
 refine zd ?_
 refine Wq<|aQ rfl rfl ?_ ?_
 ·(rw[e2 q];rfl)
 (rw[e2 q];rfl)
def iO(l:ag)(c:UInt8):ag×Str:=if (lM l.s l.at_ c).2.2=true then({l with at_:=(lM l.s l.at_ c).2.1},(lM l.s l.at_ c).1)else(oOk l (-39),[])
def Ff(l:ag)(c:UInt8)(hs:l.s.length<=1000000):k_ 188 [.val (.int .u8 (c.toNat:Int))] (aS l) 89 (str (iO l c).2) (aS (iO l c).1):=by
 obtain⟨w,hw⟩:∃w,lM l.s l.at_ c=w:=⟨_,rfl⟩
 have pW:=Tb l.s l.at_ c hs
 rw[hw]at pW
 have e1:w.2.2=true->iO l c=({l with at_:=w.2.1},w.1):=fun q=>by unfold iO;rw[hw,if_pos q]
 have e2:w.2.2=false->iO l c=(oOk l (-39),[]):=fun q=>by unfold iO;rw[hw,if_neg (by rw[q];decide)]
 refine zL func188 fun B=>?_
 refine zW [0,0,0,1,0,0,0,1,0,0,0,0,0,0,0,0,0] [0,1,2,3,4,5,6,7,8,9,10,11,12,13,14,15,16] ?_
 refine Xc rfl rfl rfl rfl (fun _=>dC rfl func219 rfl rfl ((pW) _)) ?_
 refine zd ?_
 refine Wi rfl ?_ ?_<;>intro hi1
 ·have q:w.2.2=false:=by simpa using hi1
  refine zd ?_
  refine zC rfl func41 ((o6 l (-39)) _ _ rfl) ?_
  refine Wq<|aQ rfl rfl ?_ ?_
  ·(rw[e2 q];rfl)
  (rw[e2 q];rfl)
 have q:w.2.2=true:=by simpa using hi1
 refine zd ?_
 refine Wq<|aQ rfl rfl ?_ ?_
 ·(rw[e1 q];rfl)
 (rw[e1 q];rfl)
def mZ(l:ag):ag×Int:=(fT l ((dH l.f.vm).2.1,(dH l.f.vm).2.2),(dH l.f.vm).1)
def JU(l:ag)(hd:l.f.vm.d.length<=100000):k_ 176 [] (aS l) 89 (i64 (mZ l).2) (aS (mZ l).1):=by
 refine zL func176 fun B=>?_
 refine zC rfl func211 ((Ta l.f.vm hd) _) ?_
 refine zC rfl func80 ((oR l ((dH l.f.vm).2.1,(dH l.f.vm).2.2)) _ _ rfl) ?_
 refine Wq<|aQ rfl rfl ?_ ?_
 ·rfl
 rfl
def oDo(l:ag)(r:VVm×Int):ag:=if l.err=0 then fT l r else l
def do0{l:ag}{r:VVm×Int}(h:l.err=0):oDo l r=fT l r:=by unfold oDo;rw[if_pos h]
def do1{l:ag}{r:VVm×Int}(h:¬l.err=0):oDo l r=l:=by unfold oDo;rw[if_neg h]
def tV(l:ag)(n:Int):ag:=oDo l (dZ l.f.vm n)
def ER(l:ag)(n:Int)(hd:l.f.vm.d.length<=100000)(hc:ae l.f.vm.conf.data):k_ 43 [i64 n] (aS l) 89 (.tup []) (aS (tV l n)):=by
 refine zL func43 fun B=>?_
 refine Wd rfl rfl (aY rfl (by kernel_rfl) rfl (by exact dR _)) ?_
 refine zd ?_
 refine Wi rfl ?_ ?_<;>intro hi1
 ·have q:l.err=0:=oT hi1
  refine zd ?_
  refine zC rfl func82 ((MU l.f.vm n hd hc) _) ?_
  refine zC rfl func80 ((oR l (dZ l.f.vm n)) _ _ rfl) ?_
  refine aV rfl rfl ?_ ?_
  ·rfl
  unfold tV;((rw[do0 q];rfl))
 have q:¬l.err=0:=oF hi1
 refine zd ?_
 refine aV rfl rfl ?_ ?_
 ·rfl
 unfold tV;((rw[do1 q];rfl))
def rO(l:ag)(n:Int):ag:=oDo l (q9 l.f.vm n)
def sG(l:ag)(n:Int)(hm:cX l.f.vm.mem)(hh:iu l.f.vm.mem l.f.vm.here):k_ 69 [i64 n] (aS l) 89 (.tup []) (aS (rO l n)):=by
 refine zL func69 fun B=>?_
 refine Wd rfl rfl (aY rfl (by kernel_rfl) rfl (by exact dR _)) ?_
 refine zd ?_
 refine Wi rfl ?_ ?_<;>intro hi1
 ·have q:l.err=0:=oT hi1
  refine zd ?_
  refine zC rfl func99 ((wR l.f.vm n hm hh) _) ?_
  refine zC rfl func80 ((oR l (q9 l.f.vm n)) _ _ rfl) ?_
  refine aV rfl rfl ?_ ?_
  ·rfl
  unfold rO;((rw[do0 q];rfl))
 have q:¬l.err=0:=oF hi1
 refine zd ?_
 refine aV rfl rfl ?_ ?_
 ·rfl
 unfold rO;((rw[do1 q];rfl))
def tQ(l:ag)(n:Int):ag:=oDo l (Ik l.f.vm n)
def uF(l:ag)(n:Int)(h:CK 2 (lF l.f.vm)):k_ 42 [i64 n] (aS l) 89 (.tup []) (aS (tQ l n)):=by
 refine zL func42 fun B=>?_
 refine Wd rfl rfl (aY rfl (by kernel_rfl) rfl (by exact dR _)) ?_
 refine zd ?_
 refine Wi rfl ?_ ?_<;>intro hi1
 ·have q:l.err=0:=oT hi1
  refine zd ?_
  refine zC rfl func81 ((Pr l.f.vm n h) _) ?_
  refine zC rfl func80 ((oR l (Ik l.f.vm n)) _ _ rfl) ?_
  refine aV rfl rfl ?_ ?_
  ·rfl
  unfold tQ;((rw[do0 q];rfl))
 have q:¬l.err=0:=oF hi1
 refine zd ?_
 refine aV rfl rfl ?_ ?_
 ·rfl
 unfold tQ;((rw[do1 q];rfl))
def x9(l:ag)(name:Str):ag:=rO l (oP name)
def tK(l:ag)(name:Str)(hm:cX l.f.vm.mem)(hh:iu l.f.vm.mem l.f.vm.here):k_ 187 [str name] (aS l) 89 (.tup []) (aS (x9 l name)):=by
 have hn:=lS
 have hx:=zu aq name aq.length 0 (by rw[hn];omega)
 have w1:IntKind.i64.wrap (32+IntKind.i64.wrap (8*tP aq name aq.length 0))=oP name:=by unfold oP;rw[gS (n:=8*_) (by omega) (by omega),gS (by omega) (by omega)]
 refine zL func187 fun B=>?_
 refine zC rfl func98 ((oh) _) ?_
 refine zc rfl func113 ((tF aq name (by rw[hn];omega)) _) ?_
 refine zy2 ?_
 refine Wa 9 rfl (j_ w1) ?_
 refine zC rfl func69 ((sG l (oP name) hm hh) _ _ rfl) ?_
 refine aV rfl rfl ?_ ?_
 ·rfl
 rfl
def bK(f:aa):Bool:=decide (f.comp.xt≠0/\(am f.vm.mem 8).1≠0)
def kg(f:aa)(hm:f.vm.mem.b.length<=140737488355328):ab prog 23 [bG f] (boo (bK f)):=by
 refine zH func23 fun B=>?_
 refine zc rfl func39 ((gy f.vm.mem 8 hm (by unfold ae;omega)) _) ?_
 refine zs5 ?_
 refine zp5 ?_
 refine Wb 16 rfl ?_ ?_<;>intro hg1
 ·have q1:f.comp.xt≠0:=by simpa using hg1
  refine zs4 ?_
  refine zR ?_
  (refine congrArg boo ?_;unfold bK;simp[q1];rfl)
 have q1:¬f.comp.xt≠0:=by simpa using hg1
 iterate 2 refine z6 ?_
 refine zs2 ?_
 refine zR ?_
 (refine congrArg boo ?_;unfold bK;rw[decide_eq_false (fun z=>q1 z.1)];done)
def DX(l:List aP):Prop:=∀x∈l,ae x.xt
structure LK (k:Nat) (l:ag):Prop where
 f:FK k l.f
 s:l.s.length<=1000000
 d:l.f.vm.d.length<=100000
 data:ae l.f.vm.conf.data
 out0:0<=l.f.vm.conf.out
 out1:l.f.vm.conf.out<=1000000
 out:l.f.vm.out.length<=1000000
 cfl:l.f.comp.cf.length<=32
 cf:∀c∈l.f.comp.cf,xa c
 dict:l.f.comp.xt≠0->0<=l.f.comp.dict/\l.f.comp.dict<l.f.vm.dict.length
 xts:DX l.f.vm.dict
def FK.ck{k:Nat}{f:aa}(h:FK k f):CK k (lF f.vm):=⟨h.b,h.old,h.h0,h.h1,Nat.zero_le _,fun c hc=>by cases hc⟩
def LK.ck{k:Nat}{l:ag}(h:LK k l):CK k ⟨l.f.vm,l.f.comp.cf,0⟩:=⟨h.f.b,h.f.old,h.f.h0,h.f.h1,h.cfl,h.cf⟩
def LK.end_{l:ag}(h:LK 2 l):ac6 l.f:=⟨h.f,fun q=>h.dict (fun z=>by unfold mF at q;rw[if_pos z]at q;cases q)⟩
def LK.down{k j:Nat}{l:ag}(h:LK k l)(hj:j<=k):LK j l:=⟨h.f.down hj,h.s,h.d,h.data,h.out0,h.out1,h.out,h.cfl,h.cf,h.dict,h.xts⟩
def uO(l:ag)(e:Int):(oOk l e).f=l.f/\(oOk l e).s=l.s:=by unfold oOk;split<;>exact⟨rfl,rfl⟩
def KC(l:ag)(r:aa×Int):(j8 l r).f=r.1\/(j8 l r).f=l.f:=by
 unfold j8;split
 ·exact .inl rfl
 exact .inr (uO l _).1
def me(l:ag):(bW l).1.f=l.f/\(bW l).1.s=l.s:=by unfold bW;split;exact uO l _;exact⟨rfl,rfl⟩
def I1(s:Str)(a:Int):(bt s a).1.length<=s.length:=by unfold bt;dsimp only;simp;omega
def wn(l:ag):(bW l).2.length<=l.s.length:=by unfold bW;split;exact Nat.zero_le _;exact I1 _ _
def Kx(l:ag)(c:UInt8):(iO l c).1.f=l.f/\(iO l c).1.s=l.s:=by unfold iO;split;exact⟨rfl,rfl⟩;exact uO l _
def IK(l:ag)(c:UInt8):(iO l c).2.length<=l.s.length:=by
 unfold iO
 split
 ·show(lM l.s l.at_ c).1.length<=_
  unfold lM
  dsimp only
  split<;>simp<;>omega
 exact Nat.zero_le _
def uP(l:ag)(on:Bool)(fuel:Int):ag:=if (bW l).1.err=0 then j8 (bW l).1 (ik (bW l).1.f (bW l).2 on fuel)else(bW l).1
def IA(l:ag)(on:Bool)(fuel:Int)(h:LK 3 l):k_ 175 [boo on,i64 fuel] (aS l) 89 (.tup []) (aS (uP l on fuel)):=by
 have e1:=me l
 have e2:=wn l
 have pN:=s9 l h.s
 unfold uP
 obtain⟨a,ha⟩:∃a,bW l=a:=⟨_,rfl⟩
 rw[ha]at e1 e2 pN ⊢
 have hs:=h.s
 have hF:=h.f
 rw[<-e1.1]at hF
 refine zL func175 fun B=>?_
 refine zC rfl func194 ((pN) _ _ rfl) ?_
 refine Wd rfl rfl (aY rfl (by kernel_rfl) rfl (by exact dR _)) ?_
 refine zd ?_
 refine Wi rfl ?_ ?_<;>intro hi1
 ·have q:a.1.err=0:=oT hi1
  refine zd ?_
  refine zC rfl func210 ((Ki a.1.f a.2 on fuel (by omega) hF) _) ?_
  refine zC rfl func177 ((wq a.1 (ik a.1.f a.2 on fuel)) _ _ rfl) ?_
  refine aV rfl rfl ?_ ?_
  ·rfl
  (rw[if_pos q];rfl)
 have q:¬a.1.err=0:=oF hi1
 refine zd ?_
 refine aV rfl rfl ?_ ?_
 ·rfl
 (rw[if_neg q];rfl)
def Gd(l:ag):ag:=uP l false 0
def UQ(l:ag)(h:LK 3 l):k_ 128 [] (aS l) 89 (.tup []) (aS (Gd l)):=by
 refine zL func128 fun B=>?_
 refine zC rfl func175 ((IA l false 0 h) _ _ rfl) ?_
 refine aV rfl rfl ?_ ?_
 ·rfl
 rfl
def va(l:ag):ag:=j8 l (kZ l.f)
def WN(l:ag)(h:LK 2 l):k_ 130 [] (aS l) 89 (.tup []) (aS (va l)):=by
 refine zL func130 fun B=>?_
 refine zC rfl func178 ((TV l.f h.end_) _) ?_
 refine zC rfl func177 ((wq l (kZ l.f)) _ _ rfl) ?_
 refine aV rfl rfl ?_ ?_
 ·rfl
 rfl
def Nd(l:ag):ag:=x9 l [40,100,111,101,115,41]
def Y5(l:ag)(h:LK 1 l):k_ 144 [] (aS l) 89 (.tup []) (aS (Nd l)):=by
 refine zL func144 fun B=>?_
 refine zC rfl func187 ((tK l [40,100,111,101,115,41] h.f.mem h.f.here) _ _ rfl) ?_
 refine aV rfl rfl ?_ ?_
 ·rfl
 rfl
def Sm(l:ag):ag:=x9 l [40,101,120,105,116,41]
def YX(l:ag)(h:LK 1 l):k_ 143 [] (aS l) 89 (.tup []) (aS (Sm l)):=by
 refine zL func143 fun B=>?_
 refine zC rfl func187 ((tK l [40,101,120,105,116,41] h.f.mem h.f.here) _ _ rfl) ?_
 refine aV rfl rfl ?_ ?_
 ·rfl
 rfl
def aj3(l:ag):ag:=rO l l.f.comp.xt
def KZ(l:ag)(h:LK 1 l):k_ 142 [] (aS l) 89 (.tup []) (aS (aj3 l)):=by
 refine zL func142 fun B=>?_
 refine zC rfl func69 ((sG l l.f.comp.xt h.f.mem h.f.here) _ _ rfl) ?_
 refine aV rfl rfl ?_ ?_
 ·rfl
 rfl
def Iu(l:ag):ag:=(iO l 41).1
def JI(l:ag)(hs:l.s.length<=1000000):k_ 147 [] (aS l) 89 (.tup []) (aS (Iu l)):=by
 refine zL func147 fun B=>?_
 refine zC rfl func188 ((Ff l 41 hs) _ _ rfl) ?_
 refine aV rfl rfl ?_ ?_
 ·rfl
 rfl
def Uc(l:ag):ag:={l with at_:=l.s.length}
def Zp(l:ag):k_ 148 [] (aS l) 89 (.tup []) (aS (Uc l)):=by
 refine zM func148 fun B=>?_
 refine aI rfl ?_
 refine zy5 ?_
 refine z1 ?_
 refine zA 7 rfl (gC _) ?_
 refine aV rfl rfl ?_ ?_
 ·rfl
 rfl
def vQ(l:ag):ag:=oDo (iO l 34).1 (LT (iO l 34).1.f.vm (iO l 34).2)
def Nk(l:ag)(h:LK 4 l):k_ 145 [] (aS l) 89 (.tup []) (aS (vQ l)):=by
 have e1:=Kx l 34
 have e2:=IK l 34
 have pU:=Ff l 34 h.s
 unfold vQ
 obtain⟨a,ha⟩:∃a,iO l 34=a:=⟨_,rfl⟩
 rw[ha]at e1 e2 pU ⊢
 have hs:=h.s
 have hF:=h.f.ck
 rw[<-e1.1]at hF
 refine zL func145 fun B=>?_
 refine zC rfl func188 ((pU) _ _ rfl) ?_
 refine Wd rfl rfl (aY rfl (by kernel_rfl) rfl (by exact dR _)) ?_
 refine zd ?_
 refine Wi rfl ?_ ?_<;>intro hi1
 ·have q:a.1.err=0:=oT hi1
  refine zd ?_
  refine zC rfl func189 ((NV a.1.f.vm a.2 (by omega) hF) _) ?_
  refine zC rfl func80 ((oR a.1 (LT a.1.f.vm a.2)) _ _ rfl) ?_
  refine aV rfl rfl ?_ ?_
  ·rfl
  (rw[do0 q];rfl)
 have q:¬a.1.err=0:=oF hi1
 refine zd ?_
 refine aV rfl rfl ?_ ?_
 ·rfl
 (rw[do1 q];rfl)
def ae0{k:Nat}{f:aa}(h:FK k f){v:VVm}(hb:v.mem.b.length<=1000000)(ho:v.mem.old.length+k<=1000000)(h0:1368<=v.here)(h1:v.here<=v.mem.b.length)(hd:v.dict=f.vm.dict)(hh:v.hand=f.vm.hand):FK k {f with vm:=v} :=
 ⟨hb,ho,h0,h1,by rw[show({f with vm:=v}:aa).vm=v from rfl,hd];exact h.dict,by rw[show({f with vm:=v}:aa).vm=v from rfl,hd];exact h.each,by rw[show({f with vm:=v}:aa).vm=v from rfl,hh];exact h.hand⟩
def ZJ{k:Nat}{l:ag}{r:VVm×Int}(h:FK k l.f)(hr:FK k {l.f with vm:=r.1}):FK k (fT l r).f:=by
 unfold fT
 rw[(uO l r.2).1]
 split
 ·exact hr
 rw[(uO l r.2).1];exact h
def ab6{k:Nat}{l:ag}{r:VVm×Int}(h:FK k l.f)(hr:FK k {l.f with vm:=r.1}):FK k (oDo l r).f:=by
 unfold oDo;split
 ·exact ZJ h hr
 exact h
def ap9{k:Nat}{x:CW}(h:CK (k+2) x)(s:Str):CK k (wz x s):=by
 unfold wz
 split
 ·unfold DV
  have mk:dN x.v.mem (cZ x.v.mem x.v.here s).1 1:=ic _
  have mh:=iM (m:=x.v.mem) s h.h0 h.h1
  obtain⟨r,hr⟩:∃r,cZ x.v.mem x.v.here s=r:=⟨_,rfl⟩
  rw[hr]at mk mh ⊢
  have m2:dN r.1 (aO r.1 r.2.1).1 1:=ic _
  have mh2:1368<=(aO r.1 r.2.1).2.1/\(aO r.1 r.2.1).2.1<=r.1.b.length:=iM _ mh.1 (by rw[mk.len];exact mh.2)
  have l1:=mk.len
  have l2:=mk.old
  have l3:=m2.len
  have l4:=m2.old
  have l5:=h.old
  have l6:=h.b
  split
  ·exact⟨by show(aO r.1 r.2.1).1.b.length<=_;omega,by show(aO r.1 r.2.1).1.old.length+k<=_;omega,mh2.1,by show(aO r.1 r.2.1).2.1<=((aO r.1 r.2.1).1.b.length:Int);omega,h.len,h.cf⟩
  have q:=h.down (j:=k) (by omega);exact⟨q.b,q.old,q.h0,q.h1,q.len,q.cf⟩
 exact h.down (by omega)
def nP(w:CW)(n:Int):(gN w n).v.dict=w.v.dict/\(gN w n).v.hand=w.v.hand:=by unfold gN;split<;>exact⟨rfl,rfl⟩
def RL(x:CW)(s:Str):(wz x s).v.dict=x.v.dict/\(wz x s).v.hand=x.v.hand:=by
 unfold wz DV
 split
 ·split<;>exact⟨rfl,rfl⟩
 exact⟨rfl,rfl⟩
def NM{k:Nat}{f:aa}(h:FK k f){w:CW}(hw:CK k w)(hd:w.v.dict=f.vm.dict)(hh:w.v.hand=f.vm.hand):FK k {f with vm:=(Ag w f.vm).1}:=by
 unfold Ag oH
 split
 ·exact h
 exact ae0 h hw.b hw.old hw.h0 hw.h1 hd hh
def as1{k:Nat}{f:aa}(h:FK (k+4) f)(s:Str):FK k {f with vm:=(LT f.vm s).1}:=by
 have c1:CK (k+2) (O1 f.vm s):=qG (k:=k+2) (jB (k:=k+3) h.ck _) _
 have e1:=RL (O1 f.vm s) s
 have e2:=nP (cv (lF f.vm) [40,115,116,114,41]) s.length
 have e3:=nP (lF f.vm) (oP [40,115,116,114,41])
 exact NM (h.down (by omega)) (ap9 c1 s) (e1.1.trans (e2.1.trans e3.1)) (e1.2.trans (e2.2.trans e3.2))
def Yy{k:Nat}{l:ag}(h:FK (k+4) l.f):FK k (vQ l).f:=by
 unfold vQ
 have e1:=(Kx l 34).1
 exact ab6 (by rw[e1];exact h.down (by omega)) (by rw[e1];exact as1 h _)
def uL(l:ag):ag:=if bK l.f=true then x9 (vQ l) [84,89,80,69]else oDo (iO l 34).1 (gF (iO l 34).1.f.vm (iO l 34).2)
def Sx(l:ag)(h:LK 5 l):k_ 146 [] (aS l) 89 (.tup []) (aS (uL l)):=by
 have kT:FK 1 (vQ l).f:=Yy (k:=1) h.f
 have e1:=Kx l 34
 have e2:=IK l 34
 have pU:=Ff l 34 h.s
 have eP:bK l.f=false->uL l=oDo (iO l 34).1 (gF (iO l 34).1.f.vm (iO l 34).2):=fun q=>by unfold uL;rw[if_neg (by rw[q];decide)]
 have hs:=h.s
 have ho0:=h.out0
 have ho1:=h.out1
 have ho2:=h.out
 rw[<-e1.1]at ho0 ho1 ho2
 obtain⟨a,ha⟩:∃a,iO l 34=a:=⟨_,rfl⟩
 rw[ha]at e1 e2 pU eP ho0 ho1 ho2
 refine zL func146 fun B=>?_
 refine zC rfl func23 ((kg l.f (by have:=h.f.b;omega)) _) ?_
 refine Wi rfl ?_ ?_<;>intro hi1
 ·have q1:bK l.f=true:=hi1
  refine zd ?_
  refine zC rfl func145 ((Nk l (h.down (by decide))) _ _ rfl) ?_
  refine zC rfl func187 ((tK (vQ l) [84,89,80,69] kT.mem kT.here) _ _ rfl) ?_
  refine Wq<|aQ rfl rfl ?_ ?_
  ·rfl
  (rw[uL,if_pos q1];rfl)
 have q1:bK l.f=false:=hi1
 refine zd ?_
 refine zC rfl func188 ((pU) _ _ rfl) ?_
 refine Wd rfl rfl (aY rfl (by kernel_rfl) rfl (by exact dR _)) ?_
 refine zd ?_
 refine Wi rfl ?_ ?_<;>intro hi2
 ·have q:a.1.err=0:=oT hi2
  refine zd ?_
  refine zC rfl func190 ((IP a.1.f.vm a.2 ⟨ho0,ho1⟩ ho2 (by omega)) _) ?_
  refine zC rfl func80 ((oR a.1 (gF a.1.f.vm a.2)) _ _ rfl) ?_
  refine aV rfl rfl ?_ ?_
  ·rfl
  (rw[eP q1,do0 q];rfl)
 have q:¬a.1.err=0:=oF hi2
 refine zd ?_
 refine aV rfl rfl ?_ ?_
 ·rfl
 (rw[eP q1,do1 q];rfl)
def j6(l:ag)(name:Str):ag :=
 if (fT l ((bo l.f.vm l.f.comp.cf name).1,(bo l.f.vm l.f.comp.cf name).2.2)).err=0 then {fT l ((bo l.f.vm l.f.comp.cf name).1,(bo l.f.vm l.f.comp.cf name).2.2)with f:={(fT l ((bo l.f.vm l.f.comp.cf name).1,(bo l.f.vm l.f.comp.cf name).2.2)).f with comp:={(fT l ((bo l.f.vm l.f.comp.cf name).1,(bo l.f.vm l.f.comp.cf name).2.2)).f.comp with cf:=(bo l.f.vm l.f.comp.cf name).2.1}}}
 else fT l ((bo l.f.vm l.f.comp.cf name).1,(bo l.f.vm l.f.comp.cf name).2.2)
def KP(l:ag)(name:Str)(h:LK 40 l):k_ 101 [str name] (aS l) 89 (.tup []) (aS (j6 l name)):=by
 have pB:=Cb l.f.vm l.f.comp.cf name h.ck
 unfold j6
 obtain⟨r,hr⟩:∃r,bo l.f.vm l.f.comp.cf name=r:=⟨_,rfl⟩
 rw[hr]at pB ⊢
 have pM:=oR l (r.1,r.2.2)
 obtain⟨m,hm⟩:∃m,fT l (r.1,r.2.2)=m:=⟨_,rfl⟩
 rw[hm]at pM ⊢
 refine zL func101 fun B=>?_
 refine zW [0,0,0,0,1,0,0,0,0,0,1,0,0,0,0,0,0,2,3,0,0] [0,1,2,3,4,5,6,7,8,9,10,11,12,13,14,15,16,17,18,19,20] ?_
 refine Xc rfl rfl rfl rfl (fun _=>dC rfl func151 rfl rfl ((pB) _)) ?_
 refine zd ?_
 refine lE tG rfl rfl rfl rfl rfl trivial rfl ?_
 refine cr tG rfl rfl rfl rfl rfl trivial ?_
 refine zd ?_
 refine zC rfl func80 ((pM) _ _ rfl) ?_
 refine Wd rfl rfl (aY rfl (by kernel_rfl) rfl (by exact dR _)) ?_
 refine zd ?_
 refine Wi rfl ?_ ?_<;>intro hi1
 ·have q:m.err=0:=oT hi1
  refine zd ?_
  refine aV rfl rfl ?_ ?_
  ·rfl
  (rw[if_pos q];rfl)
 have q:¬m.err=0:=oF hi1
 refine zd ?_
 refine aV rfl rfl ?_ ?_
 ·rfl
 (rw[if_neg q];rfl)
def jU(l:ag)(D:aa->Str->aa×Int):ag:=if (bW l).1.err=0 then j8 (bW l).1 (D (bW l).1.f (bW l).2)else(bW l).1
def eJ(l:ag):ag:=jU l fun f name=>cJ f name true [257,0]
def ZM(F:FuncId)(D:aa->Str->aa×Int)(k:Nat):Prop:=∀f name,name.length<=1000000->FK k f->∀H,oo prog F [bG f,str name] H (i4 (D f name)) H
def zZ{F:FuncId}{D:aa->Str->aa×Int}{k:Nat}(hD:ZM F D k)(l:ag)(hs:l.s.length<=1000000)(hF:FK k l.f):k_ 158 [.fn (.func F) [] []] (aS l) 89 (.tup []) (aS (jU l D)):=by
 have e1:=me l
 have e2:=wn l
 have pN:=s9 l hs
 unfold jU
 obtain⟨a,ha⟩:∃a,bW l=a:=⟨_,rfl⟩
 rw[ha]at e1 e2 pN ⊢
 rw[<-e1.1]at hF
 refine zL func158 fun B=>?_
 refine zC rfl func194 ((pN) _ _ rfl) ?_
 refine Wd rfl rfl (aY rfl (by kernel_rfl) rfl (by exact dR _)) ?_
 refine zd ?_
 refine Wi rfl ?_ ?_<;>intro hi1
 ·have q:a.1.err=0:=oT hi1
  refine zd ?_
  refine Wc rfl rfl (fq rfl rfl (hD a.1.f a.2 (by omega) hF _)) ?_
  refine zd ?_
  refine zC rfl func177 ((wq a.1 (D a.1.f a.2)) _ _ rfl) ?_
  refine aV rfl rfl ?_ ?_
  ·rfl
  (rw[if_pos q];rfl)
 have q:¬a.1.err=0:=oF hi1
 refine zd ?_
 refine aV rfl rfl ?_ ?_
 ·rfl
 (rw[if_neg q];rfl)
def Lx:ZM 159 (fun f name=>cJ f name true [257,0]) 3:=fun f name hn h H=>⟨⟨_,func159,rfl,rfl⟩,Jr f name hn h H⟩
def Dp(l:ag)(hs:l.s.length<=1000000)(hF:FK 3 l.f):k_ 114 [] (aS l) 89 (.tup []) (aS (eJ l)):=by
 refine zL func114 fun B=>?_
 refine zC rfl func158 ((zZ Lx l hs hF) _ _ rfl) ?_
 refine aV rfl rfl ?_ ?_
 ·rfl
 rfl
def fK(F:FuncId):PV:=.fn (.func F) [] []
def SE(F:FuncId)(D:aa->Str->Int->aa×Int)(k:Nat):Prop:=∀f name n,name.length<=1000000->FK k f->∀H,oo prog F [bG f,str name,i64 n] H (i4 (D f name n)) H
section
variable {F : FuncId} {D : aa -> Str -> Int -> aa × Int} {k : Nat}
def Z7(hD:SE F D k)(l:ag)(f:aa)(name:Str)(n:Int)(hn:name.length<=1000000)(hF:FK k f):
  HC prog 216 [bG f,str name,.ptr 1 0,.ptr 2 0] [.cells (aS l) 89,.cells [fK F] 252,.cells [i64 n] 3] (i4 (D f name n))
   [.cells (aS l) 89,.cells [fK F] 252,.cells [i64 n] 3,.cells (jT f) 42,.cells (jT (D f name n).1) 42]:=by
 refine mQ tG (rs:=[.cell 6 42,.tmp 7]) func216 rfl rfl rfl (fun B=>?_)
 refine zd ?_
 refine Wc rfl rfl (fq rfl rfl (hD f name n hn hF _)) ?_
 refine zs4 ?_
 refine Wq<|AV rfl ?_ ?_
 ·rfl
 rfl
def s8(l:ag)(D:aa->Str->Int->aa×Int):ag:=if (mZ l).1.err=0 then jU (mZ l).1 (fun f name=>D f name (mZ l).2)else(mZ l).1
def VD(hD:SE F D k)(l:ag)(n:Int)(h:LK k l)(q:(bW l).1.err=0):
  HC prog 158 [.ptr 0 0,.fn (.func 216) [] [.ptr 1 0,.ptr 2 0]] [.cells (aS l) 89,.cells [fK F] 252,.cells [i64 n] 3] (.tup [])
   [.cells (aS (jU l fun f name=>D f name n)) 89,.cells [fK F] 252,.cells [i64 n] 3,.cells (jT (bW l).1.f) 42,.cells (jT (D (bW l).1.f (bW l).2 n).1) 42]:=by
 have e1:=me l
 have e2:=wn l
 have pN:=s9 l h.s
 unfold jU
 obtain⟨a,ha⟩:∃a,bW l=a:=⟨_,rfl⟩
 rw[ha]at e1 e2 pN q ⊢
 have hs:=h.s
 have hF:=h.f
 rw[<-e1.1]at hF
 rw[if_pos q]
 refine mQ tG (rs:=[]) func158 rfl rfl rfl (fun B=>?_)
 refine zd ?_
 refine zC rfl func194 ((pN) _ _ rfl) ?_
 refine Wd rfl rfl (aY rfl (by kernel_rfl) rfl (by exact dR _)) ?_
 refine zd ?_
 refine Wt rfl (by exact decide_eq_true q) ?_
 refine zd ?_
 refine Wc rfl rfl (ey rfl rfl func216 rfl rfl ((Z7 hD a.1 a.1.f a.2 n (by omega) hF))) ?_
 refine zd ?_
 refine zC rfl func177 ((wq a.1 (D a.1.f a.2 n)) _ _ rfl) ?_
 refine VJ rfl ?_ ?_
 ·rfl
 rfl
def QY(l:ag)(n:Int)(hs:l.s.length<=1000000)(q:¬(bW l).1.err=0):
  HC prog 158 [.ptr 0 0,.fn (.func 216) [] [.ptr 1 0,.ptr 2 0]] [.cells (aS l) 89,.cells [fK F] 252,.cells [i64 n] 3] (.tup [])
   [.cells (aS (jU l fun f name=>D f name n)) 89,.cells [fK F] 252,.cells [i64 n] 3]:=by
 have pN:=s9 l hs
 unfold jU
 obtain⟨a,ha⟩:∃a,bW l=a:=⟨_,rfl⟩
 rw[ha]at pN q ⊢
 rw[if_neg q]
 refine mQ tG (rs:=[]) func158 rfl rfl rfl (fun B=>?_)
 refine zd ?_
 refine zC rfl func194 ((pN) _ _ rfl) ?_
 refine Wd rfl rfl (aY rfl (by kernel_rfl) rfl (by exact dR _)) ?_
 refine zd ?_
 refine Wf rfl (by exact decide_eq_false q) ?_
 refine zd ?_
 refine VJ rfl ?_ ?_
 ·rfl
 rfl
def ak9(l:ag)(r:VVm×Int):(fT l r).s=l.s:=by unfold fT;split;exact(uO l _).2;exact(uO l _).2
def Cz(hD:SE F D k)(l:ag)(h:LK k l)(hP:LK k (mZ l).1):k_ 180 [fK F] (aS l) 89 (.tup []) (aS (s8 l D)):=by
 have pP:=JU l h.d
 have hp:=ak9 l ((dH l.f.vm).2.1,(dH l.f.vm).2.2)
 unfold s8
 change (mZ l).1.s=l.s at hp
 obtain⟨p,hp'⟩:∃p,mZ l=p:=⟨_,rfl⟩
 rw[hp']at pP hp hP ⊢
 have flK:aR (fK F):=by simp[fK,aR,aF]
 by_cases q:(bW p.1).1.err=0
 ·have q':=q
  refine jt tG (rs:=[]) func180 rfl rfl rfl (by(simp[aF,aR,fK];done)) (by(simp;done)) (by(simp;done)) (by(simp;done)) (fun B=>?_)
  refine zd ?_
  refine zC rfl func176 ((pP) _ _ rfl) ?_
  refine Wd rfl rfl (aY rfl (by kernel_rfl) rfl (by exact dR _)) ?_
  refine zd ?_
  refine Wi rfl ?_ ?_<;>intro hi1
  ·have q1:p.1.err=0:=oT hi1
   refine zd ?_
   refine zC rfl func158 (VD hD p.1 p.2 hP q) ?_
   refine aV rfl rfl ?_ ?_
   ·rfl
   (rw[if_pos q1];rfl)
  have q1:¬p.1.err=0:=oF hi1
  refine zd ?_
  refine aV rfl rfl ?_ ?_
  ·rfl
  (rw[if_neg q1];rfl)
 have q':=q
 refine jt tG (rs:=[]) func180 rfl rfl rfl (by(simp[aF,aR,fK];done)) (by(simp;done)) (by(simp;done)) (by(simp;done)) (fun B=>?_)
 refine zd ?_
 refine zC rfl func176 ((pP) _ _ rfl) ?_
 refine Wd rfl rfl (aY rfl (by kernel_rfl) rfl (by exact dR _)) ?_
 refine zd ?_
 refine Wi rfl ?_ ?_<;>intro hi1
 ·have q1:p.1.err=0:=oT hi1
  refine zd ?_
  refine zC rfl func158 (QY (F:=F) (D:=D) p.1 p.2 hP.s q) ?_
  refine aV rfl rfl ?_ ?_
  ·rfl
  (rw[if_pos q1];rfl)
 have q1:¬p.1.err=0:=oF hi1
 refine zd ?_
 refine aV rfl rfl ?_ ?_
 ·rfl
 (rw[if_neg q1];rfl)
end
def Lo(l:ag):ag:=s8 l fun f name n=>cJ f name false [258,0,n]
def FI:SE 181 (fun f name n=>cJ f name false [258,0,n]) 4:=fun f name n hn h H=>⟨⟨_,func181,rfl,rfl⟩,Ca f name n hn h H⟩
def HP(l:ag)(h:LK 4 l)(hP:LK 4 (mZ l).1):k_ 132 [] (aS l) 89 (.tup []) (aS (Lo l)):=by
 refine zL func132 fun B=>?_
 refine zC rfl func180 ((Cz FI l h hP) _ _ rfl) ?_
 refine aV rfl rfl ?_ ?_
 ·rfl
 rfl
open Go.RowKit
def EO(l:ag)(n:Int):ag:=fT l ({l.f.vm with mem:=(aJ l.f.vm.mem 8 n).1},(aJ l.f.vm.mem 8 n).2)
def Jt(l:ag)(n:Int)(h:LK 1 l):k_ 191 [i64 n] (aS l) 89 (.tup []) (aS (EO l n)):=by
 refine zL func191 fun B=>?_
 refine zC rfl func92 ((jE l.f.vm.mem 8 n h.f.mem (by unfold ae;omega)) _) ?_
 refine zC rfl func80 ((oR l ({l.f.vm with mem:=(aJ l.f.vm.mem 8 n).1},(aJ l.f.vm.mem 8 n).2)) _ _ rfl) ?_
 refine aV rfl rfl ?_ ?_
 ·rfl
 rfl
def ac3(l:ag):ag:=EO l 0
def Yp(l:ag)(h:LK 1 l):k_ 149 [] (aS l) 89 (.tup []) (aS (ac3 l)):=by
 refine zL func149 fun B=>?_
 refine zC rfl func191 ((Jt l 0 h) _ _ rfl) ?_
 refine aV rfl rfl ?_ ?_
 ·rfl
 rfl
def AU(l:ag):ag:=if l.f.comp.xt=0 then oOk l (-14)else EO l (-1)
def U8(l:ag)(h:LK 1 l):k_ 150 [] (aS l) 89 (.tup []) (aS (AU l)):=by
 refine zL func150 fun B=>?_
 refine Wi rfl ?_ ?_<;>intro hi1
 ·have q:l.f.comp.xt=0:=by simpa using hi1
  refine zd ?_
  refine zC rfl func41 ((o6 l (-14)) _ _ rfl) ?_
  refine Wq<|aQ rfl rfl ?_ ?_
  ·rfl
  (rw[AU,if_pos q];rfl)
 have q:¬l.f.comp.xt=0:=by simpa using hi1
 refine zd ?_
 refine zC rfl func191 ((Jt l (-1) h) _ _ rfl) ?_
 refine aV rfl rfl ?_ ?_
 ·rfl
 (rw[AU,if_neg q];rfl)
def aD5(l:ag):ag:=j8 l (Ox l.f)
def Ft(l:ag)(h:LK 1 l):k_ 134 [] (aS l) 89 (.tup []) (aS (aD5 l)):=by
 refine zL func134 fun B=>?_
 refine zC rfl func183 ((AD l.f (h.f.down (by decide))) _) ?_
 refine zC rfl func177 ((wq l (Ox l.f)) _ _ rfl) ?_
 refine aV rfl rfl ?_ ?_
 ·rfl
 rfl
def oOn(l:ag):ag:=if (mZ l).1.err=0 then uP (mZ l).1 true (mZ l).2 else(mZ l).1
def aD4(l:ag)(h:LK 4 l)(hP:LK 4 (mZ l).1):k_ 129 [] (aS l) 89 (.tup []) (aS (oOn l)):=by
 have pP:=JU l h.d
 unfold oOn
 obtain⟨p,hp⟩:∃p,mZ l=p:=⟨_,rfl⟩
 rw[hp]at pP hP ⊢
 refine zL func129 fun B=>?_
 refine zC rfl func176 ((pP) _ _ rfl) ?_
 refine Wd rfl rfl (aY rfl (by kernel_rfl) rfl (by exact dR _)) ?_
 refine zd ?_
 refine Wi rfl ?_ ?_<;>intro hi1
 ·have q:p.1.err=0:=oT hi1
  refine zd ?_
  refine zC rfl func175 ((IA p.1 true p.2 (hP.down (by decide))) _ _ rfl) ?_
  refine aV rfl rfl ?_ ?_
  ·rfl
  (rw[if_pos q];rfl)
 have q:¬p.1.err=0:=oF hi1
 refine zd ?_
 refine aV rfl rfl ?_ ?_
 ·rfl
 (rw[if_neg q];rfl)
def fM(l:ag):ag×aP :=
 if (bW l).1.err=0 then(if (bL (bW l).1.f.vm.dict (bW l).2).2.2=false then oOk (bW l).1 (-13)else(bW l).1,(bL (bW l).1.f.vm.dict (bW l).2).1)else((bW l).1,default)
def AZ(l:ag)(h:LK 1 l):k_ 185 [] (aS l) 89 (yq (fM l).2) (aS (fM l).1):=by
 have e1:=me l
 have e2:=wn l
 have pN:=s9 l h.s
 have hs:=h.s
 have hD:=h.f.each
 unfold fM
 obtain⟨a,ha⟩:∃a,bW l=a:=⟨_,rfl⟩
 rw[ha]at e1 e2 pN ⊢
 rw[<-e1.1]at hD
 have pD:=xe a.1.f.vm.dict a.2 hD (by omega)
 obtain⟨d,hd⟩:∃d,bL a.1.f.vm.dict a.2=d:=⟨_,rfl⟩
 rw[hd]at pD ⊢
 refine zL func185 fun B=>?_
 refine zC rfl func194 ((pN) _ _ rfl) ?_
 refine Wd rfl rfl (jp rfl (by kernel_rfl) rfl (by exact dR _)) ?_
 refine zd ?_
 refine Wi rfl ?_ ?_<;>intro hi1
 ·have q:¬a.1.err=0:=by simpa using hi1
  refine zd ?_
  refine Wq<|aQ rfl rfl ?_ ?_
  ·(rw[if_neg q];rfl)
  (rw[if_neg q];rfl)
 have q:a.1.err=0:=by simpa using hi1
 refine zd ?_
 refine zC rfl func37 ((pD) _) ?_
 refine Wi rfl ?_ ?_<;>intro hi2
 ·have q2:d.2.2=false:=by simpa using hi2
  refine zd ?_
  refine zC rfl func41 ((o6 a.1 (-13)) _ _ rfl) ?_
  refine Wq<|aQ rfl rfl ?_ ?_
  ·(rw[if_pos q];rfl)
  (rw[if_pos q,if_pos q2];rfl)
 have q2:¬d.2.2=false:=by simpa using hi2
 refine zd ?_
 refine Wq<|aQ rfl rfl ?_ ?_
 ·(rw[if_pos q];rfl)
 (rw[if_pos q,if_neg q2];rfl)
def DQ{k:Nat}{l l':ag}(h:LK k l)(hf:l'.f=l.f)(hs:l'.s=l.s):LK k l' :=
 ⟨by rw[hf];exact h.f,by rw[hs];exact h.s,by rw[hf];exact h.d,by rw[hf];exact h.data,by rw[hf];exact h.out0,by rw[hf];exact h.out1,by rw[hf];exact h.out,by rw[hf];exact h.cfl,by rw[hf];exact h.cf,by rw[hf];exact h.dict,by rw[hf];exact h.xts⟩
def tE(l:ag):(fM l).1.f=l.f/\(fM l).1.s=l.s:=by
 have e:=me l
 have o:=uO (bW l).1 (-13)
 unfold fM
 split
 ·dsimp only
  split
  ·exact⟨o.1.trans e.1,o.2.trans e.2⟩
  exact e
 exact e
def Uv(l:ag):ag:=tV (fM l).1 (fM l).2.xt
def ZU(l:ag)(h:LK 1 l):k_ 136 [] (aS l) 89 (.tup []) (aS (Uv l)):=by
 have pF:=AZ l h
 have hF:=DQ h (tE l).1 (tE l).2
 unfold Uv
 obtain⟨a,ha⟩:∃a,fM l=a:=⟨_,rfl⟩
 rw[ha]at pF hF ⊢
 refine zL func136 fun B=>?_
 refine zC rfl func185 ((pF) _ _ rfl) ?_
 refine zC rfl func43 ((ER a.1 a.2.xt hF.d hF.data) _ _ rfl) ?_
 refine aV rfl rfl ?_ ?_
 ·rfl
 rfl
def Et(l:ag):ag:=tQ (fM l).1 (fM l).2.xt
def PD(l:ag)(h:LK 2 l):k_ 137 [] (aS l) 89 (.tup []) (aS (Et l)):=by
 have pF:=AZ l (h.down (by decide))
 have hF:=DQ h (tE l).1 (tE l).2
 unfold Et
 obtain⟨a,ha⟩:∃a,fM l=a:=⟨_,rfl⟩
 rw[ha]at pF hF ⊢
 refine zL func137 fun B=>?_
 refine zC rfl func185 ((pF) _ _ rfl) ?_
 refine zC rfl func42 ((uF a.1 a.2.xt hF.f.ck) _ _ rfl) ?_
 refine aV rfl rfl ?_ ?_
 ·rfl
 rfl
def XO(s:Str):Int:=((s.getD 0 0).toNat:Int)
def pG(l:ag):ag×Int:=((bW l).1,if (bW l).2=[]then 0 else XO (bW l).2)
def Na(l:ag)(hs:l.s.length<=1000000):k_ 186 [] (aS l) 89 (i64 (pG l).2) (aS (pG l).1):=by
 have pN:=s9 l hs
 unfold pG
 obtain⟨a,ha⟩:∃a,bW l=a:=⟨_,rfl⟩
 rw[ha]at pN ⊢
 have w0:IntKind.i64.wrap ((a.2.getD 0 0).toNat:Int)=((a.2.getD 0 0).toNat:Int):=by have:=(a.2.getD 0 0).toNat_lt;exact gS (by omega) (by omega)
 refine zL func186 fun B=>?_
 refine zc rfl func194 ((pN) _ _ rfl) ?_
 refine zs1 ?_
 refine zp2 ?_
 refine zA 7 rfl (vZ _ _) ?_
 refine Wi rfl ?_ ?_<;>intro hi1
 ·have q:¬a.2=[]:=by simpa using hi1
  have q0:=List.length_pos_iff.2 q
  refine zd ?_
  refine z2 ?_ (q:=(by simp only[dc];omega))
  refine zA 9 rfl (s4 _ _) ?_
  refine Wq<|aQ rfl rfl ?_ ?_
  ·(show i64 _=i64 (if a.2=[]then 0 else XO a.2);rw[if_neg q,w0];rfl)
  rfl
 have q:a.2=[]:=by simpa using hi1
 refine zd ?_
 refine Wq<|aQ rfl rfl ?_ ?_
 ·(show i64 _=i64 (if a.2=[]then 0 else XO a.2);rw[if_pos q];done)
 rfl
def Ru(l:ag):ag:=tV (pG l).1 (pG l).2
def Z1(l:ag)(h:LK 1 l):k_ 138 [] (aS l) 89 (.tup []) (aS (Ru l)):=by
 have pF:=Na l h.s
 have hF:=DQ (l':=(pG l).1) h (me l).1 (me l).2
 unfold Ru
 obtain⟨a,ha⟩:∃a,pG l=a:=⟨_,rfl⟩
 rw[ha]at pF hF ⊢
 refine zL func138 fun B=>?_
 refine zc rfl func186 ((pF) _ _ rfl) ?_
 refine zC rfl func43 ((ER a.1 a.2 hF.d hF.data) _ _ rfl) ?_
 refine aV rfl rfl ?_ ?_
 ·rfl
 rfl
def ED(l:ag):ag:=tQ (pG l).1 (pG l).2
def Pt(l:ag)(h:LK 2 l):k_ 139 [] (aS l) 89 (.tup []) (aS (ED l)):=by
 have pF:=Na l h.s
 have hF:=DQ (l':=(pG l).1) h (me l).1 (me l).2
 unfold ED
 obtain⟨a,ha⟩:∃a,pG l=a:=⟨_,rfl⟩
 rw[ha]at pF hF ⊢
 refine zL func139 fun B=>?_
 refine zc rfl func186 ((pF) _ _ rfl) ?_
 refine zC rfl func42 ((uF a.1 a.2 hF.f.ck) _ _ rfl) ?_
 refine aV rfl rfl ?_ ?_
 ·rfl
 rfl
def Bv(l:ag):ag:=tQ (mZ l).1 (mZ l).2
def La(l:ag)(h:LK 4 l)(hP:LK 4 (mZ l).1):k_ 140 [] (aS l) 89 (.tup []) (aS (Bv l)):=by
 have pP:=JU l h.d
 unfold Bv
 obtain⟨p,hp⟩:∃p,mZ l=p:=⟨_,rfl⟩
 rw[hp]at pP hP ⊢
 refine zL func140 fun B=>?_
 refine zc rfl func176 ((pP) _ _ rfl) ?_
 refine zC rfl func42 ((uF p.1 p.2 (hP.f.ck.down (by decide))) _ _ rfl) ?_
 refine aV rfl rfl ?_ ?_
 ·rfl
 rfl
def FV:ZM 179 (fun f name=>cJ f name true [257,0,0]) 4:=fun f name hn h H=>⟨⟨_,func179,rfl,rfl⟩,Cf f name hn h H⟩
def LP:ZM 184 Do 0:=fun f name hn h H=>⟨⟨_,func184,rfl,rfl⟩,Ip f name hn h H⟩
def Ha:SE 182 vG 270:=fun f name n hn h H=>⟨⟨_,func182,rfl,rfl⟩,F9 f name n hn h H⟩
def aA7(l:ag):ag:=jU l fun f name=>cJ f name true [257,0,0]
def GO(l:ag)(hs:l.s.length<=1000000)(hF:FK 4 l.f):k_ 131 [] (aS l) 89 (.tup []) (aS (aA7 l)):=by
 refine zL func131 fun B=>?_
 refine zC rfl func158 ((zZ FV l hs hF) _ _ rfl) ?_
 refine aV rfl rfl ?_ ?_
 ·rfl
 rfl
def ad9(l:ag):ag:=jU l Do
def OG(l:ag)(hs:l.s.length<=1000000)(hF:FK 0 l.f):k_ 135 [] (aS l) 89 (.tup []) (aS (ad9 l)):=by
 refine zL func135 fun B=>?_
 refine zC rfl func158 ((zZ LP l hs hF) _ _ rfl) ?_
 refine aV rfl rfl ?_ ?_
 ·rfl
 rfl
def Mh(l:ag):ag:=s8 l vG
def Pm(l:ag)(h:LK 270 l)(hP:LK 270 (mZ l).1):k_ 133 [] (aS l) 89 (.tup []) (aS (Mh l)):=by
 refine zL func133 fun B=>?_
 refine zC rfl func180 ((Cz Ha l h hP) _ _ rfl) ?_
 refine aV rfl rfl ?_ ?_
 ·rfl
 rfl
def Jz(l:List aP)(name:Str):∀k,k<=l.length->(mL l name k).1∈l\/(mL l name k).1=default
 | 0,_=>.inr rfl
 | k+1,hk=>by
  unfold mL
  split
  ·left
   show l.getD k default∈l
   rw[List.getD_eq_getElem?_getD,List.getElem?_eq_getElem (by omega)]
   exact List.getElem_mem _
  exact Jz l name k (by omega)
def Bw{l:List aP}(h:DX l)(name:Str):ae (bL l name).1.xt:=by
 rcases Jz l name l.length (Nat.le_refl _)with q|q
 ·exact h _ q
 show ae (mL l name l.length).1.xt
 rw[q];exact bC
def Dr{l:ag}(h:DX l.f.vm.dict):ae (fM l).2.xt:=by
 unfold fM
 split
 ·rw[(me l).1];exact Bw h _
 exact bC
def Ii{l:ag}(h:kw l.f.vm.dict):0<=(fM l).2.flags/\(fM l).2.flags<=7:=by
 unfold fM
 split
 ·rw[(me l).1]
  exact r4 (fun x hx=>(h.2 x hx).2) _ _ (Nat.le_refl _)
 show 0<=(default:aP).flags/\(default:aP).flags<=7
 exact⟨by decide,by decide⟩
def ax6{f:Int}(h0:0<=f)(h7:f<=7):(IntKind.i64.wrap ↑(BitVec.ofInt IntKind.i64.bits f &&& BitVec.ofInt IntKind.i64.bits 1).toNat != 0)=decide (f%2=1):=by
 rcases qP h0 h7 with rfl|rfl|rfl|rfl|rfl|rfl|rfl|rfl<;>decide
def su(l:ag)(w:aP):Int:=if (az l.f.vm w.xt).2=0/\300<=(az l.f.vm w.xt).1 then -32 else(az l.f.vm w.xt).2
def QQ(l:ag)(w:aP):ag:=if w.flags%2=1 then rO (oOk l (su l w)) w.xt else x9 (tQ (oOk l (su l w)) w.xt) [44]
def Hs(l:ag):ag:=if (fM l).1.err=0 then QQ (fM l).1 (fM l).2 else(fM l).1
def HH(l:ag)(h:LK 5 l):k_ 141 [] (aS l) 89 (.tup []) (aS (Hs l)):=by
 have pF:=AZ l (h.down (by decide))
 have hF:=DQ h (tE l).1 (tE l).2
 have fx:=Dr (l:=l) h.xts
 have fl:=Ii (l:=l) h.f.each
 unfold Hs
 obtain⟨a,ha⟩:∃a,fM l=a:=⟨_,rfl⟩
 rw[ha]at pF hF fx fl ⊢
 have ln:=ax6 fl.1 fl.2
 have hm:a.1.f.vm.mem.b.length<=140737488355328:=by have:=hF.f.b;omega
 have pK:=qK a.1.f.vm a.2.xt hm fx
 have hE:su a.1 a.2=if (az a.1.f.vm a.2.xt).2=0/\300<=(az a.1.f.vm a.2.xt).1 then -32 else(az a.1.f.vm a.2.xt).2:=rfl
 have hK:QQ a.1 a.2=if a.2.flags%2=1 then rO (oOk a.1 (su a.1 a.2)) a.2.xt else x9 (tQ (oOk a.1 (su a.1 a.2)) a.2.xt) [44]:=rfl
 obtain⟨k,hk⟩:∃k,az a.1.f.vm a.2.xt=k:=⟨_,rfl⟩
 rw[hk]at pK hE
 have hO:=uO a.1 (su a.1 a.2)
 have kO:=DQ hF hO.1 hO.2
 have pO:=o6 a.1 (su a.1 a.2)
 obtain⟨b,hb⟩:∃b,oOk a.1 (su a.1 a.2)=b:=⟨_,rfl⟩
 rw[hb]at kO pO hK
 have kL:FK 1 (tQ b a.2.xt).f:=ab6 (kO.f.down (by decide)) (NM (kO.f.down (by decide)) (qG (k:=1) (jB (k:=2) (kO.f.ck.down (by decide)) _) _) ((nP _ _).1.trans (nP _ _).1) ((nP _ _).2.trans (nP _ _).2))
 refine zL func141 fun B=>?_
 refine zC rfl func185 ((pF) _ _ rfl) ?_
 refine Wd rfl rfl (jp rfl (by kernel_rfl) rfl (by exact dR _)) ?_
 refine zd ?_
 refine Wi rfl ?_ ?_<;>intro hi1
 ·have q:¬a.1.err=0:=by simpa using hi1
  refine Wq<|aQ rfl rfl ?_ ?_
  ·rfl
  (rw[if_neg q];rfl)
 have q:a.1.err=0:=by simpa using hi1
 refine zd ?_
 refine zW [0,0,0,0,4,0,6,0,0,0,0,0,0] [0,1,2,3,4,5,6,7,8,9,10,11,12] ?_
 refine zU 0 ?_
 refine z3 ?_
 refine zU 1 ?_
 refine Xc rfl rfl rfl rfl (fun _=>dC rfl func67 rfl rfl ((pK) _)) ?_
 iterate 5 refine z3 ?_
 refine fS ?_
 refine Ws<|zp3 ?_
 refine Wb 25 rfl ?_ ?_<;>intro hg1
 ·have yk:k.2=0:=by simpa using hg1
  refine zd ?_
  refine Wi rfl ?_ ?_<;>intro hi2
  ·have hE2:su a.1 a.2 = -32:=by rw[hE,if_pos ⟨yk,by have:=oT hi2;omega⟩]
   refine aI rfl ?_
   refine zs1 ?_
   refine zp2 ?_
   refine Wa 30 rfl ((congrArg i64 hE2.symm)) ?_
   refine zC rfl func41 ((pO) _ _ rfl) ?_
   refine Wi rfl ?_ ?_<;>intro hi3
   ·have q3:a.2.flags%2=1:=by rw[ln]at hi3;exact oT hi3
    refine zd ?_
    refine zC rfl func69 ((sG b a.2.xt kO.f.mem kO.f.here) _ _ rfl) ?_
    refine Wq<|aQ rfl rfl ?_ ?_
    ·rfl
    (rw[if_pos q,hK,if_pos q3];rfl)
   have q3:¬a.2.flags%2=1:=by rw[ln]at hi3;exact oF hi3
   refine zd ?_
   refine zC rfl func42 ((uF b a.2.xt (kO.f.ck.down (by decide))) _ _ rfl) ?_
   refine zC rfl func187 ((tK (tQ b a.2.xt) [44] kL.mem kL.here) _ _ rfl) ?_
   refine aV rfl rfl ?_ ?_
   ·rfl
   (rw[if_pos q,hK,if_neg q3];rfl)
  have hE2:su a.1 a.2=k.2:=by(rw[hE,if_neg (fun z=>by have:=oF hi2;have:=z.2;omega)])
  refine Wj<|zp2 ?_
  refine Wa 30 rfl ((congrArg i64 hE2.symm)) ?_
  refine zC rfl func41 ((pO) _ _ rfl) ?_
  refine Wi rfl ?_ ?_<;>intro hi3
  ·have q3:a.2.flags%2=1:=by rw[ln]at hi3;exact oT hi3
   refine zd ?_
   refine zC rfl func69 ((sG b a.2.xt kO.f.mem kO.f.here) _ _ rfl) ?_
   refine Wq<|aQ rfl rfl ?_ ?_
   ·rfl
   (rw[if_pos q,hK,if_pos q3];rfl)
  have q3:¬a.2.flags%2=1:=by rw[ln]at hi3;exact oF hi3
  refine zd ?_
  refine zC rfl func42 ((uF b a.2.xt (kO.f.ck.down (by decide))) _ _ rfl) ?_
  refine zC rfl func187 ((tK (tQ b a.2.xt) [44] kL.mem kL.here) _ _ rfl) ?_
  refine aV rfl rfl ?_ ?_
  ·rfl
  (rw[if_pos q,hK,if_neg q3];rfl)
 have yk:¬k.2=0:=by simpa using hg1
 have hE2:su a.1 a.2=k.2:=by rw[hE,if_neg (fun z=>yk z.1)]
 refine zd ?_
 refine Wf rfl rfl ?_
 refine Wj<|zp2 ?_
 refine Wa 30 rfl ((congrArg i64 hE2.symm)) ?_
 refine zC rfl func41 ((pO) _ _ rfl) ?_
 refine Wi rfl ?_ ?_<;>intro hi3
 ·have q3:a.2.flags%2=1:=by rw[ln]at hi3;exact oT hi3
  refine zd ?_
  refine zC rfl func69 ((sG b a.2.xt kO.f.mem kO.f.here) _ _ rfl) ?_
  refine Wq<|aQ rfl rfl ?_ ?_
  ·rfl
  (rw[if_pos q,hK,if_pos q3];rfl)
 have q3:¬a.2.flags%2=1:=by rw[ln]at hi3;exact oF hi3
 refine zd ?_
 refine zC rfl func42 ((uF b a.2.xt (kO.f.ck.down (by decide))) _ _ rfl) ?_
 refine zC rfl func187 ((tK (tQ b a.2.xt) [44] kL.mem kL.here) _ _ rfl) ?_
 refine aV rfl rfl ?_ ?_
 ·rfl
 (rw[if_pos q,hK,if_neg q3];rfl)
def aE0(v:VVm):(dH v).2.1.mem=v.mem/\(dH v).2.1.here=v.here/\(dH v).2.1.dict=v.dict/\(dH v).2.1.hand=v.hand/\(dH v).2.1.conf=v.conf/\(dH v).2.1.out=v.out/\(dH v).2.1.d.length<=v.d.length:=by
 refine⟨rfl,rfl,rfl,rfl,rfl,rfl,?_⟩
 show(bg v.d).2.1.length<=_
 unfold bg
 split<;>simp
def Gh{k:Nat}{l:ag}(h:LK k l):LK k (mZ l).1:=by
 have e:=aE0 l.f.vm
 unfold mZ
 dsimp only
 generalize hr:((dH l.f.vm).2.1,(dH l.f.vm).2.2)=r
 have er:r.1=(dH l.f.vm).2.1:=by rw[<-hr]
 rw[<-er]at e
 have hk:FK k {l.f with vm:=r.1}:=ae0 h.f (by rw[e.1];exact h.f.b) (by rw[e.1];exact h.f.old) (by rw[e.2.1];exact h.f.h0) (by rw[e.2.1,e.1];exact h.f.h1) e.2.2.1 e.2.2.2.1
 have o:=uO l r.2
 unfold fT
 split
 ·refine⟨?_,?_,?_,?_,?_,?_,?_,?_,?_,?_,?_⟩<;>dsimp only<;>try rw[o.1]
  ·exact hk
  ·rw[o.2];exact h.s
  ·have:=e.2.2.2.2.2.2;have:=h.d;omega
  ·rw[e.2.2.2.2.1];exact h.data
  ·rw[e.2.2.2.2.1];exact h.out0
  ·rw[e.2.2.2.2.1];exact h.out1
  ·rw[e.2.2.2.2.2.1];exact h.out
  ·exact h.cfl
  ·exact h.cf
  ·rw[e.2.2.1];exact h.dict
  rw[e.2.2.1];exact h.xts
 exact⟨by rw[o.1];exact h.f,by rw[o.2];exact h.s,by rw[o.1];exact h.d,by rw[o.1];exact h.data,by rw[o.1];exact h.out0,by rw[o.1];exact h.out1,by rw[o.1];exact h.out,by rw[o.1];exact h.cfl,by rw[o.1];exact h.cf,by rw[o.1];exact h.dict,by rw[o.1];exact h.xts⟩
def Qw:List fX:=[.s [58],.s [79,78,58],.s [59],.s [67,82,69,65,84,69],.s [86,65,82,73,65,66,76,69],.s [67,79,78,83,84,65,78,84],.s [77,65,67,72,73,78,69],.s [73,77,77,69,68,73,65,84,69],.s [70,79,82,71,69,84],.s [39],.s [91,39,93],.s [67,72,65,82],.s [91,67,72,65,82,93],.s [76,73,84,69,82,65,76],.s [80,79,83,84,80,79,78,69],.s [82,69,67,85,82,83,69],.s [69,88,73,84],.s [68,79,69,83,62],.s [83,34],.s [46,34],.s [40],.s [92],.s [91],.s [93]]
def S5:List PV:=[.fn (.func 128) [.ptr 0 0] [],.fn (.func 129) [.ptr 0 0] [],.fn (.func 130) [.ptr 0 0] [],.fn (.func 114) [.ptr 0 0] [],.fn (.func 131) [.ptr 0 0] [],.fn (.func 132) [.ptr 0 0] [],.fn (.func 133) [.ptr 0 0] [],.fn (.func 134) [.ptr 0 0] [],.fn (.func 135) [.ptr 0 0] [],.fn (.func 136) [.ptr 0 0] [],.fn (.func 137) [.ptr 0 0] [],.fn (.func 138) [.ptr 0 0] [],.fn (.func 139) [.ptr 0 0] [],.fn (.func 140) [.ptr 0 0] [],.fn (.func 141) [.ptr 0 0] [],.fn (.func 142) [.ptr 0 0] [],.fn (.func 143) [.ptr 0 0] [],.fn (.func 144) [.ptr 0 0] [],.fn (.func 145) [.ptr 0 0] [],.fn (.func 146) [.ptr 0 0] [],.fn (.func 147) [.ptr 0 0] [],.fn (.func 148) [.ptr 0 0] [],.fn (.func 149) [.ptr 0 0] [],.fn (.func 150) [.ptr 0 0] []]
def spF(name:Str):Option (ag->ag) :=
 if name=[58]then some Gd
 else if name=[79,78,58]then some oOn
 else if name=[59]then some va
 else if name=[67,82,69,65,84,69]then some eJ
 else if name=[86,65,82,73,65,66,76,69]then some aA7
 else if name=[67,79,78,83,84,65,78,84]then some Lo
 else if name=[77,65,67,72,73,78,69]then some Mh
 else if name=[73,77,77,69,68,73,65,84,69]then some aD5
 else if name=[70,79,82,71,69,84]then some ad9
 else if name=[39]then some Uv
 else if name=[91,39,93]then some Et
 else if name=[67,72,65,82]then some Ru
 else if name=[91,67,72,65,82,93]then some ED
 else if name=[76,73,84,69,82,65,76]then some Bv
 else if name=[80,79,83,84,80,79,78,69]then some Hs
 else if name=[82,69,67,85,82,83,69]then some aj3
 else if name=[69,88,73,84]then some Sm
 else if name=[68,79,69,83,62]then some Nd
 else if name=[83,34]then some vQ
 else if name=[46,34]then some uL
 else if name=[40]then some Iu
 else if name=[92]then some Uc
 else if name=[91]then some ac3
 else if name=[93]then some AU
 else none
def Rf(l:ag):HC prog 100 [.ptr 0 0] [.cells (aS l) 89] (.smap Qw S5) [.cells (aS l) 89,.dead]:=by
 refine mQ tG (rs:=[.tmp 2]) func100 rfl rfl rfl (fun B=>?_)
 refine zd ?_
 refine zX rfl rfl (dn rfl) ?_
 refine zD 1 (.s [58]) ?_
 refine zd ?_
 refine zD 1 (.s [79,78,58]) ?_
 refine zd ?_
 refine zD 1 (.s [59]) ?_
 refine zd ?_
 refine zD 1 (.s [67,82,69,65,84,69]) ?_
 refine zd ?_
 refine zD 1 (.s [86,65,82,73,65,66,76,69]) ?_
 refine zd ?_
 refine zD 1 (.s [67,79,78,83,84,65,78,84]) ?_
 refine z1 ?_
 refine jQ (H':=[.cells (aS l) 89,.smap [.s [58],.s [79,78,58],.s [59],.s [67,82,69,65,84,69],.s [86,65,82,73,65,66,76,69],.s [67,79,78,83,84,65,78,84]] [.fn (.func 128) [.ptr 0 0] [],.fn (.func 129) [.ptr 0 0] [],.fn (.func 130) [.ptr 0 0] [],.fn (.func 114) [.ptr 0 0] [],.fn (.func 131) [.ptr 0 0] [],.fn (.func 132) [.ptr 0 0] []]]) rfl ?_
 refine z1 ?_
 refine zD 1 (.s [77,65,67,72,73,78,69]) ?_
 refine zd ?_
 refine zD 1 (.s [73,77,77,69,68,73,65,84,69]) ?_
 refine zd ?_
 refine zD 1 (.s [70,79,82,71,69,84]) ?_
 refine zd ?_
 refine zD 1 (.s [39]) ?_
 refine zd ?_
 refine zD 1 (.s [91,39,93]) ?_
 refine zd ?_
 refine zD 1 (.s [67,72,65,82]) ?_
 refine z1 ?_
 refine jQ (H':=[.cells (aS l) 89,.smap [.s [58],.s [79,78,58],.s [59],.s [67,82,69,65,84,69],.s [86,65,82,73,65,66,76,69],.s [67,79,78,83,84,65,78,84],.s [77,65,67,72,73,78,69],.s [73,77,77,69,68,73,65,84,69],.s [70,79,82,71,69,84],.s [39],.s [91,39,93],.s [67,72,65,82]] [.fn (.func 128) [.ptr 0 0] [],.fn (.func 129) [.ptr 0 0] [],.fn (.func 130) [.ptr 0 0] [],.fn (.func 114) [.ptr 0 0] [],.fn (.func 131) [.ptr 0 0] [],.fn (.func 132) [.ptr 0 0] [],.fn (.func 133) [.ptr 0 0] [],.fn (.func 134) [.ptr 0 0] [],.fn (.func 135) [.ptr 0 0] [],.fn (.func 136) [.ptr 0 0] [],.fn (.func 137) [.ptr 0 0] [],.fn (.func 138) [.ptr 0 0] []]]) rfl ?_
 refine z1 ?_
 refine zD 1 (.s [91,67,72,65,82,93]) ?_
 refine zd ?_
 refine zD 1 (.s [76,73,84,69,82,65,76]) ?_
 refine zd ?_
 refine zD 1 (.s [80,79,83,84,80,79,78,69]) ?_
 refine zd ?_
 refine zD 1 (.s [82,69,67,85,82,83,69]) ?_
 refine zd ?_
 refine zD 1 (.s [69,88,73,84]) ?_
 refine zd ?_
 refine zD 1 (.s [68,79,69,83,62]) ?_
 refine z1 ?_
 refine jQ (H':=[.cells (aS l) 89,.smap [.s [58],.s [79,78,58],.s [59],.s [67,82,69,65,84,69],.s [86,65,82,73,65,66,76,69],.s [67,79,78,83,84,65,78,84],.s [77,65,67,72,73,78,69],.s [73,77,77,69,68,73,65,84,69],.s [70,79,82,71,69,84],.s [39],.s [91,39,93],.s [67,72,65,82],.s [91,67,72,65,82,93],.s [76,73,84,69,82,65,76],.s [80,79,83,84,80,79,78,69],.s [82,69,67,85,82,83,69],.s [69,88,73,84],.s [68,79,69,83,62]] [.fn (.func 128) [.ptr 0 0] [],.fn (.func 129) [.ptr 0 0] [],.fn (.func 130) [.ptr 0 0] [],.fn (.func 114) [.ptr 0 0] [],.fn (.func 131) [.ptr 0 0] [],.fn (.func 132) [.ptr 0 0] [],.fn (.func 133) [.ptr 0 0] [],.fn (.func 134) [.ptr 0 0] [],.fn (.func 135) [.ptr 0 0] [],.fn (.func 136) [.ptr 0 0] [],.fn (.func 137) [.ptr 0 0] [],.fn (.func 138) [.ptr 0 0] [],.fn (.func 139) [.ptr 0 0] [],.fn (.func 140) [.ptr 0 0] [],.fn (.func 141) [.ptr 0 0] [],.fn (.func 142) [.ptr 0 0] [],.fn (.func 143) [.ptr 0 0] [],.fn (.func 144) [.ptr 0 0] []]]) rfl ?_
 refine z1 ?_
 refine zD 1 (.s [83,34]) ?_
 refine zd ?_
 refine zD 1 (.s [46,34]) ?_
 refine zd ?_
 refine zD 1 (.s [40]) ?_
 refine zd ?_
 refine zD 1 (.s [92]) ?_
 refine zd ?_
 refine zD 1 (.s [91]) ?_
 refine zd ?_
 refine zD 1 (.s [93]) ?_
 refine z1 ?_
 refine jQ (H':=[.cells (aS l) 89,.smap Qw S5]) rfl ?_
 refine eV 52 1 rfl rfl rfl ?_
 refine zs1 ?_
 refine Wq<|AV rfl ?_ ?_
 ·rfl
 rfl
def aS4(f:FuncId)(g:ag->ag):Prop:=∀l:ag,LK 300 l->∀(H:List Ob) (i:Nat),H[i]?=some (.cells (aS l) 89)->oo prog f [.ptr i 0] H (.tup []) (H.set i (.cells (aS (g l)) 89))
def Sy(name:Str):(∃f g,g9 Qw S5 (.s name) (.val .nilFunc)=(.fn (.func f) [.ptr 0 0] [],true)/\spF name=some g/\aS4 f g)\/(g9 Qw S5 (.s name) (.val .nilFunc)=(.val .nilFunc,false)/\spF name=none):=by
 by_cases c0:name=[58]
 ·subst c0;exact .inl ⟨128,_,rfl,rfl,fun l h H i hi=>⟨⟨_,func128,rfl,rfl⟩,UQ l (h.down (by omega)) H i hi⟩⟩
 by_cases c1:name=[79,78,58]
 ·subst c1;exact .inl ⟨129,_,rfl,rfl,fun l h H i hi=>⟨⟨_,func129,rfl,rfl⟩,aD4 l (h.down (by omega)) (Gh (h.down (by omega))) H i hi⟩⟩
 by_cases c2:name=[59]
 ·subst c2;exact .inl ⟨130,_,rfl,rfl,fun l h H i hi=>⟨⟨_,func130,rfl,rfl⟩,WN l (h.down (by omega)) H i hi⟩⟩
 by_cases c3:name=[67,82,69,65,84,69]
 ·subst c3;exact .inl ⟨114,_,rfl,rfl,fun l h H i hi=>⟨⟨_,func114,rfl,rfl⟩,Dp l h.s (h.f.down (by omega)) H i hi⟩⟩
 by_cases c4:name=[86,65,82,73,65,66,76,69]
 ·subst c4;exact .inl ⟨131,_,rfl,rfl,fun l h H i hi=>⟨⟨_,func131,rfl,rfl⟩,GO l h.s (h.f.down (by omega)) H i hi⟩⟩
 by_cases c5:name=[67,79,78,83,84,65,78,84]
 ·subst c5;exact .inl ⟨132,_,rfl,rfl,fun l h H i hi=>⟨⟨_,func132,rfl,rfl⟩,HP l (h.down (by omega)) (Gh (h.down (by omega))) H i hi⟩⟩
 by_cases c6:name=[77,65,67,72,73,78,69]
 ·subst c6;exact .inl ⟨133,_,rfl,rfl,fun l h H i hi=>⟨⟨_,func133,rfl,rfl⟩,Pm l (h.down (by omega)) (Gh (h.down (by omega))) H i hi⟩⟩
 by_cases c7:name=[73,77,77,69,68,73,65,84,69]
 ·subst c7;exact .inl ⟨134,_,rfl,rfl,fun l h H i hi=>⟨⟨_,func134,rfl,rfl⟩,Ft l (h.down (by omega)) H i hi⟩⟩
 by_cases c8:name=[70,79,82,71,69,84]
 ·subst c8;exact .inl ⟨135,_,rfl,rfl,fun l h H i hi=>⟨⟨_,func135,rfl,rfl⟩,OG l h.s (h.f.down (by omega)) H i hi⟩⟩
 by_cases c9:name=[39]
 ·subst c9;exact .inl ⟨136,_,rfl,rfl,fun l h H i hi=>⟨⟨_,func136,rfl,rfl⟩,ZU l (h.down (by omega)) H i hi⟩⟩
 by_cases c10:name=[91,39,93]
 ·subst c10;exact .inl ⟨137,_,rfl,rfl,fun l h H i hi=>⟨⟨_,func137,rfl,rfl⟩,PD l (h.down (by omega)) H i hi⟩⟩
 by_cases c11:name=[67,72,65,82]
 ·subst c11;exact .inl ⟨138,_,rfl,rfl,fun l h H i hi=>⟨⟨_,func138,rfl,rfl⟩,Z1 l (h.down (by omega)) H i hi⟩⟩
 by_cases c12:name=[91,67,72,65,82,93]
 ·subst c12;exact .inl ⟨139,_,rfl,rfl,fun l h H i hi=>⟨⟨_,func139,rfl,rfl⟩,Pt l (h.down (by omega)) H i hi⟩⟩
 by_cases c13:name=[76,73,84,69,82,65,76]
 ·subst c13;exact .inl ⟨140,_,rfl,rfl,fun l h H i hi=>⟨⟨_,func140,rfl,rfl⟩,La l (h.down (by omega)) (Gh (h.down (by omega))) H i hi⟩⟩
 by_cases c14:name=[80,79,83,84,80,79,78,69]
 ·subst c14;exact .inl ⟨141,_,rfl,rfl,fun l h H i hi=>⟨⟨_,func141,rfl,rfl⟩,HH l (h.down (by omega)) H i hi⟩⟩
 by_cases c15:name=[82,69,67,85,82,83,69]
 ·subst c15;exact .inl ⟨142,_,rfl,rfl,fun l h H i hi=>⟨⟨_,func142,rfl,rfl⟩,KZ l (h.down (by omega)) H i hi⟩⟩
 by_cases c16:name=[69,88,73,84]
 ·subst c16;exact .inl ⟨143,_,rfl,rfl,fun l h H i hi=>⟨⟨_,func143,rfl,rfl⟩,YX l (h.down (by omega)) H i hi⟩⟩
 by_cases c17:name=[68,79,69,83,62]
 ·subst c17;exact .inl ⟨144,_,rfl,rfl,fun l h H i hi=>⟨⟨_,func144,rfl,rfl⟩,Y5 l (h.down (by omega)) H i hi⟩⟩
 by_cases c18:name=[83,34]
 ·subst c18;exact .inl ⟨145,_,rfl,rfl,fun l h H i hi=>⟨⟨_,func145,rfl,rfl⟩,Nk l (h.down (by omega)) H i hi⟩⟩
 by_cases c19:name=[46,34]
 ·subst c19;exact .inl ⟨146,_,rfl,rfl,fun l h H i hi=>⟨⟨_,func146,rfl,rfl⟩,Sx l (h.down (by omega)) H i hi⟩⟩
 by_cases c20:name=[40]
 ·subst c20;exact .inl ⟨147,_,rfl,rfl,fun l h H i hi=>⟨⟨_,func147,rfl,rfl⟩,JI l h.s H i hi⟩⟩
 by_cases c21:name=[92]
 ·subst c21;exact .inl ⟨148,_,rfl,rfl,fun l h H i hi=>⟨⟨_,func148,rfl,rfl⟩,Zp l H i hi⟩⟩
 by_cases c22:name=[91]
 ·subst c22;exact .inl ⟨149,_,rfl,rfl,fun l h H i hi=>⟨⟨_,func149,rfl,rfl⟩,Yp l (h.down (by omega)) H i hi⟩⟩
 by_cases c23:name=[93]
 ·subst c23;exact .inl ⟨150,_,rfl,rfl,fun l h H i hi=>⟨⟨_,func150,rfl,rfl⟩,U8 l (h.down (by omega)) H i hi⟩⟩
 refine .inr ⟨?_,?_⟩
 ·unfold Qw S5
  rw[i5,if_neg c0,i5,if_neg c1,i5,if_neg c2,i5,if_neg c3,i5,if_neg c4,i5,if_neg c5,i5,if_neg c6,i5,if_neg c7,i5,if_neg c8,i5,if_neg c9,i5,if_neg c10,i5,if_neg c11,i5,if_neg c12,i5,if_neg c13,i5,if_neg c14,i5,if_neg c15,i5,if_neg c16,i5,if_neg c17,i5,if_neg c18,i5,if_neg c19,i5,if_neg c20,i5,if_neg c21,i5,if_neg c22,i5,if_neg c23,UR]
 unfold spF
 rw[if_neg c0,if_neg c1,if_neg c2,if_neg c3,if_neg c4,if_neg c5,if_neg c6,if_neg c7,if_neg c8,if_neg c9,if_neg c10,if_neg c11,if_neg c12,if_neg c13,if_neg c14,if_neg c15,if_neg c16,if_neg c17,if_neg c18,if_neg c19,if_neg c20,if_neg c21,if_neg c22,if_neg c23]
def rN(l:ag)(name:Str):ag:=match spF name with
 | none=>j6 l name
 | some g=>g l
def Tl{l:ag}{name:Str}(h:spF name=none):rN l name=j6 l name:=by unfold rN;rw[h]
def uJ{l:ag}{name:Str}{g:ag->ag}(h:spF name=some g):rN l name=g l:=by unfold rN;rw[h]
def l9(l:ag)(name:Str)(h:LK 300 l):k_ 70 [str name] (aS l) 89 (.tup []) (aS (rN l name)):=by
 have hT:=Sy name
 refine zL func70 fun B=>?_
 refine zc rfl func100 (Rf l) ?_
 refine z1 ?_
 rcases hT with ⟨f,g,hlk,hon,hc⟩|⟨hlk,hno⟩
 ·refine Wd rfl rfl (bc (b:=true) (e:=1) (key:=.s name) (by kernel_rfl) (lO tG rfl) (by kernel_rfl) rfl rfl rfl rfl (by kernel_rfl) (hlk)) ?_
  refine zd ?_
  refine Wt rfl (by rfl) ?_
  refine zd ?_
  refine zG rfl rfl (fq rfl rfl (hc l h _ 0 rfl)) ?_
  refine Wq<|aQ rfl rfl ?_ ?_
  ·rfl
  (rw[uJ hon];rfl)
 refine Wd rfl rfl (bc (b:=true) (e:=1) (key:=.s name) (by kernel_rfl) (lO tG rfl) (by kernel_rfl) rfl rfl rfl rfl (by kernel_rfl) (hlk)) ?_
 refine zd ?_
 refine Wf rfl (by rfl) ?_
 refine zd ?_
 refine zC rfl func101 ((KP l name (h.down (by omega))) _ _ rfl) ?_
 refine aV rfl rfl ?_ ?_
 ·rfl
 (rw[Tl hno];rfl)
structure OkF (N:Nat) (f:aa):Prop where
 g:be N f.vm
 cfl:f.comp.cf.length<=32
 cf:∀c∈f.comp.cf,xa c
 dict:f.comp.xt≠0->0<=f.comp.dict/\f.comp.dict<f.vm.dict.length
 here:f.comp.xt≠0->1368<=f.comp.here/\f.comp.here<=f.vm.conf.mem
 la:ae f.comp.last
 fu:f.comp.on=true->0<=f.comp.fuel
 xts:DX f.vm.dict
def OkF.up{N M:Nat}{f:aa}(h:OkF N f)(hM:N<=M):OkF M f:=⟨h.g.up hM,h.cfl,h.cf,h.dict,h.here,h.la,h.fu,h.xts⟩
def tB{l:List aP}(h:iz l=true):kw l:=by
 unfold iz at h
 simp only[Bool.and_eq_true,decide_eq_true_eq]at h
 refine⟨by omega,fun x hx=>?_⟩
 have q:=List.all_eq_true.1 h.1 x hx
 unfold BO at q
 simp only[decide_eq_true_eq]at q
 refine⟨?_,q.2.1,q.2.2⟩
 have q1:=q.1
 unfold eS at q1
 split at q1
 ·cases q1
 split at q1
 ·cases q1
 omega
def OkF.fk{N k:Nat}{f:aa}(h:OkF N f)(hk:N+k<=1000000):FK k f:=by
 have R:=h.g.right
 have hc:=R.gl
 unfold eG at hc
 have h1:=R.len
 have h2:=R.jM
 have h3:=R.jP
 have h4:=h.g.old
 have h5:=R.handl
 have h6:=R.dict
 have h7:f.vm.dict.length<=1024:=by
  unfold iz at h6
  simp only[Bool.and_eq_true,decide_eq_true_eq]at h6
  exact h6.2
 exact⟨by omega,by omega,h2,by omega,by omega,tB h6,by omega⟩
def V1{N j:Nat}{v:VVm}(g:be N v){m:bh}{here:Int}(k:dN v.mem m j)(h0:1368<=here)(h1:here<=m.b.length):be (N+j) {v with mem:=m,here:=here}:=by
 have R:=g.right
 have l:=R.len
 refine⟨⟨R.gl,k.right R.mem,R.dict,R.pic,?_,h0,?_,R.f,R.hand,R.d,R.r,R.fl,R.dl,R.out,R.req,R.free0,R.free1,R.next0,R.next1,R.handl⟩,?_,g.fd,g.fr,g.ff,g.ints,g.la⟩
 ·show(m.b.length:Int)=v.conf.mem;rw[k.len];exact l
 ·show here<=v.conf.mem;have:=k.len;omega
 show m.old.length<=N+j;have:=k.old;have:=g.old;omega
def E7{N:Nat}{v:VVm}(g:be N v){d:List aP}(h:iz d=true)(hl:(d.length:Int)<=v.conf.words):be N {v with dict:=d}:=by
 have R:=g.right
 exact⟨⟨R.gl,R.mem,h,R.pic,R.len,R.jM,R.jP,R.f,R.hand,R.d,R.r,R.fl,hl,R.out,R.req,R.free0,R.free1,R.next0,R.next1,R.handl⟩,g.old,g.fd,g.fr,g.ff,g.ints,g.la⟩
def yM{N:Nat}{v:VVm}(g:be N v){n:Int}(h:ae n):be N {v with last:=n}:=by
 have R:=g.right
 exact⟨⟨R.gl,R.mem,R.dict,R.pic,R.len,R.jM,R.jP,R.f,R.hand,R.d,R.r,R.fl,R.dl,R.out,R.req,R.free0,R.free1,R.next0,R.next1,R.handl⟩,g.old,g.fd,g.fr,g.ff,g.ints,h⟩
def En{N:Nat}{v:VVm}(g:be N v){m:bh}(k:dN v.mem m 1):be (N+1) {v with mem:=m}:=RN g k
def Ny{N:Nat}{v:VVm}(g:be N v):1368<=v.here/\v.here<=v.mem.b.length:=by
 have R:=g.right
 have h1:=R.len
 have h2:=R.jM
 have h3:=R.jP
 omega
def J9{N:Nat}{v:VVm}(g:be N v)(n:Int):be (N+1) (q9 v n).1:=by
 have b:=Ny g
 have q:=sJ v.mem v.here n
 have p:=uv (m:=v.mem) n b.1 b.2
 exact V1 g q p.1 (by rw[q.len];exact p.2)
def Mi{N:Nat}{w:FW}(g:be N w.f.vm)(n:Int):be (N+1) (ce w n).f.vm:=by
 unfold ce;split
 ·exact J9 g n
 exact g.up (by omega)
def Jv:∀(l:List Int) (N:Nat) (w:FW),be N w.f.vm->be (N+l.length) (l.foldl ce w).f.vm
 | [],_,_,h=>h
 | x::l,N,w,h=>by
  have:=Jv l (N+1) _ (Mi h x)
  rw[List.foldl_cons,List.length_cons,show N+(l.length+1)=N+1+l.length by omega];exact this
def m9(w:FW)(e:Int):(okF w e).f=w.f:=by unfold okF;split<;>rfl
def AN{N:Nat}{w:FW}(g:be N w.f.vm)(n:Int):be (N+1) (dT w n).f.vm:=by
 unfold dT;rw[m9]
 exact En g (cN _ _ _)
def N3{l:List aP}(h:iz l=true)(name:Str)(xt:Int){flags limit:Int}(h0:0<=flags)(h7:flags<=7)(hl:(l.length:Int)<=limit):iz (cD l name xt flags limit).1=true/\((cD l name xt flags limit).1.length:Int)<=limit:=by
 unfold cD
 by_cases q1:eS name≠0
 ·rw[if_pos q1];exact⟨h,hl⟩
 rw[if_neg q1]
 by_cases q2:(if 1024<limit then 1024 else limit)<=(l.length:Int)
 ·rw[if_pos q2];exact⟨h,hl⟩
 rw[if_neg q2]
 have hl2:(l.length:Int)<1024/\(l.length:Int)<limit:=by split at q2<;>omega
 unfold iz at h ⊢
 simp only[Bool.and_eq_true,decide_eq_true_eq]at h
 refine⟨?_,by show((l++[_]).length:Int)<=limit;rw[List.length_append,List.length_singleton];omega⟩
 simp only[List.all_append,List.all_cons,List.all_nil,Bool.and_true,Bool.and_eq_true,decide_eq_true_eq,List.length_append,List.length_singleton]
 exact⟨⟨h.1,by unfold BO;simp only[decide_eq_true_eq];exact⟨Decidable.not_not.1 q1,h0,h7⟩⟩,by omega⟩
def Vi{N:Nat}{w:FW}(g:be N w.f.vm)(name:Str){flags:Int}(h0:0<=flags)(h7:flags<=7):be (N+1) (fL w (aO w.f.vm.mem w.f.vm.here) (cD w.f.vm.dict name (aO w.f.vm.mem w.f.vm.here).2.1 flags w.f.vm.conf.words)).f.vm:=by
 have b:=Ny g
 unfold fL
 split
 ·unfold FW.placed
  rw[m9,m9]
  have q:dN w.f.vm.mem (aO w.f.vm.mem w.f.vm.here).1 1:=ic _
  have p:1368<=(aO w.f.vm.mem w.f.vm.here).2.1/\(aO w.f.vm.mem w.f.vm.here).2.1<=w.f.vm.mem.b.length:=iM _ b.1 b.2
  have d:=N3 g.right.dict name (aO w.f.vm.mem w.f.vm.here).2.1 (limit:=w.f.vm.conf.words) h0 h7 g.right.dl
  exact E7 (V1 g q p.1 (by rw[q.len];exact p.2)) d.1 d.2
 rw[m9,m9];exact g.up (by omega)
def Fb{N:Nat}{w:FW}(g:be N w.f.vm)(name:Str){flags:Int}{l:List Int}(h0:0<=flags)(h7:flags<=7):be (N+1+l.length) (eM w name flags l).1.f.vm:=Jv l (N+1) _ (Vi g name h0 h7)
def xr{N:Nat}{v:VVm}(g:be N v):ae (aO v.mem v.here).2.1:=by
 have b:=Ny g
 have p:1368<=(aO v.mem v.here).2.1/\(aO v.mem v.here).2.1<=v.mem.b.length:=iM _ b.1 b.2
 have R:=g.right
 have hc:=R.gl
 unfold eG at hc
 have h1:=R.len
 unfold ae;omega
def PE(w:FW)(name:Str)(flags:Int)(l:List Int):(eM w name flags l).1.f.comp=w.f.comp:=by
 have h:∀(l:List Int) (w:FW),(l.foldl ce w).f.comp=w.f.comp:=by
  intro l
  induction l with
  | nil=>intro w;rfl
  | cons x l ih=>intro w;rw[List.foldl_cons,ih];unfold ce;split<;>rfl
 unfold eM
 rw[h]
 unfold fL
 split
 ·unfold FW.placed;rw[m9,m9]
 rw[m9,m9]
def Li(w:FW)(n:Int):(ce w n).f.vm.conf=w.f.vm.conf/\(ce w n).f.vm.dict=w.f.vm.dict/\(ce w n).f.vm.hand=w.f.vm.hand/\((ce w n).bad=0->w.bad=0):=by
 unfold ce;split
 ·rename_i q;exact⟨rfl,rfl,rfl,fun _=>q⟩
 exact⟨rfl,rfl,rfl,id⟩
def Er:∀(l:List Int) (w:FW),(l.foldl ce w).f.vm.conf=w.f.vm.conf/\(l.foldl ce w).f.vm.dict=w.f.vm.dict/\(l.foldl ce w).f.vm.hand=w.f.vm.hand/\((l.foldl ce w).bad=0->w.bad=0)
 | [],w=>⟨rfl,rfl,rfl,id⟩
 | x::l,w=>by
  have a:=Er l (ce w x)
  have b:=Li w x
  rw[List.foldl_cons]
  exact⟨a.1.trans b.1,a.2.1.trans b.2.1,a.2.2.1.trans b.2.2.1,fun q=>b.2.2.2 (a.2.2.2 q)⟩
def u4{w:FW}{e:Int}(h:(okF w e).bad=0):w.bad=0/\e=0:=by
 unfold okF at h
 split at h
 ·rename_i q;exact⟨q,h⟩
 rename_i q;exact absurd h q
def WW(l:List aP)(name:Str)(xt flags limit:Int):((cD l name xt flags limit).2=0->(cD l name xt flags limit).1.length=l.length+1)/\l.length<=(cD l name xt flags limit).1.length:=by
 unfold cD
 by_cases q1:eS name≠0
 ·rw[if_pos q1];exact⟨fun z=>absurd z q1,Nat.le_refl _⟩
 rw[if_neg q1]
 by_cases q2:(if 1024<limit then 1024 else limit)<=(l.length:Int)
 ·rw[if_pos q2];exact⟨fun z=>absurd z (by show ¬((-8:Int)=0);decide),Nat.le_refl _⟩
 rw[if_neg q2]
 dsimp only
 rw[List.length_append,List.length_singleton]
 exact⟨fun _=>rfl,by omega⟩
def M3(w:FW)(a:bh×Int×Int)(d:List aP×Int):(fL w a d).f.vm.conf=w.f.vm.conf/\(fL w a d).f.vm.hand=w.f.vm.hand/\((fL w a d).bad=0->(fL w a d).f.vm.dict=d.1/\d.2=0)/\((fL w a d).f.vm.dict=d.1\/(fL w a d).f.vm.dict=w.f.vm.dict):=by
 unfold fL
 split
 ·rename_i q
  unfold FW.placed
  rw[m9,m9]
  exact⟨rfl,rfl,fun _=>⟨rfl,(u4 q).2⟩,.inl rfl⟩
 rename_i q
 rw[m9,m9]
 exact⟨rfl,rfl,fun z=>absurd z q,.inr rfl⟩
def Si(w:FW)(name:Str)(flags:Int)(l:List Int):(eM w name flags l).1.f.vm.conf=w.f.vm.conf/\(eM w name flags l).1.f.vm.hand=w.f.vm.hand/\((eM w name flags l).1.bad=0->(eM w name flags l).1.f.vm.dict.length=w.f.vm.dict.length+1)/\w.f.vm.dict.length<=(eM w name flags l).1.f.vm.dict.length:=by
 have a:=Er l (fL w (aO w.f.vm.mem w.f.vm.here) (cD w.f.vm.dict name (aO w.f.vm.mem w.f.vm.here).2.1 flags w.f.vm.conf.words))
 have b:=M3 w (aO w.f.vm.mem w.f.vm.here) (cD w.f.vm.dict name (aO w.f.vm.mem w.f.vm.here).2.1 flags w.f.vm.conf.words)
 have c:=WW w.f.vm.dict name (aO w.f.vm.mem w.f.vm.here).2.1 flags w.f.vm.conf.words
 unfold eM
 refine⟨a.1.trans b.1,a.2.2.1.trans b.2.1,fun q=>?_,?_⟩
 ·have:=b.2.2.1 (a.2.2.2 q)
  dsimp only
  rw[a.2.1,this.1];exact c.1 this.2
 dsimp only
 rw[a.2.1]
 rcases b.2.2.2 with e|e
 ·rw[e];exact c.2
 rw[e];exact Nat.le_refl _
def as2{l:List aP}(h:DX l)(name:Str){xt:Int}(flags limit:Int)(hx:ae xt):DX (cD l name xt flags limit).1:=by
 unfold cD
 by_cases q1:eS name≠0
 ·rw[if_pos q1];exact h
 rw[if_neg q1]
 by_cases q2:(if 1024<limit then 1024 else limit)<=(l.length:Int)
 ·rw[if_pos q2];exact h
 rw[if_neg q2]
 intro x hx'
 rcases List.mem_append.1 hx' with q|q
 ·exact h x q
 rw[List.mem_singleton.1 q];exact hx
def Ez{N:Nat}{w:FW}(g:be N w.f.vm)(h:DX w.f.vm.dict)(name:Str)(flags:Int)(l:List Int):DX (eM w name flags l).1.f.vm.dict:=by
 have a:=Er l (fL w (aO w.f.vm.mem w.f.vm.here) (cD w.f.vm.dict name (aO w.f.vm.mem w.f.vm.here).2.1 flags w.f.vm.conf.words))
 have b:=M3 w (aO w.f.vm.mem w.f.vm.here) (cD w.f.vm.dict name (aO w.f.vm.mem w.f.vm.here).2.1 flags w.f.vm.conf.words)
 unfold eM
 dsimp only
 rw[a.2.1]
 rcases b.2.2.2 with e|e
 ·rw[e];exact as2 h name flags _ (xr g)
 rw[e];exact h
def oX{N:Nat}{f:aa}(h:OkF N f)(name:Str)(last:Bool)(l:List Int):OkF (N+1+l.length) (cJ f name last l).1:=by
 unfold cJ
 split
 ·exact h.up (by omega)
 rename_i q
 unfold gK
 split
 ·exact h.up (by omega)
 have g:=Fb (l:=l) (w:=aN f) h.g name (flags:=0) (by decide) (by decide)
 have c:=PE (aN f) name 0 l
 have hx:f.comp.xt=0:=Decidable.not_not.1 q
 have go:be (N+1+l.length) (jo (eM (aN f) name 0 l) last).f.vm:=by
  unfold jo;split
  ·exact yM g (xr h.g)
  exact g
 have dd:DX (jo (eM (aN f) name 0 l) last).f.vm.dict:=by
  have q:=Ez (w:=aN f) h.g h.xts name 0 l
  unfold jo;split<;>exact q
 have cc:(jo (eM (aN f) name 0 l) last).f.comp=f.comp:=by unfold jo;split<;>exact c
 exact⟨go,by show(jo _ _).f.comp.cf.length<=32;rw[cc];exact h.cfl,by show ∀c∈(jo _ _).f.comp.cf,_;rw[cc];exact h.cf,by show(jo _ _).f.comp.xt≠0->_;rw[cc];exact fun z=>absurd hx z,by show(jo _ _).f.comp.xt≠0->_;rw[cc];exact fun z=>absurd hx z,by show ae (jo _ _).f.comp.last;rw[cc];exact h.la,by show(jo _ _).f.comp.on=true->0<=(jo _ _).f.comp.fuel;rw[cc];exact h.fu,dd⟩
structure KV (v w:VVm):Prop where
 conf:w.conf=v.conf
 dict:w.dict=v.dict
 hand:w.hand=v.hand
def KV.rf(v:VVm):KV v v:=⟨rfl,rfl,rfl⟩
def KV.tr{a b c:VVm}(h:KV a b)(g:KV b c):KV a c:=⟨g.conf.trans h.conf,g.dict.trans h.dict,g.hand.trans h.hand⟩
def gh{c:Prop}[Decidable c]{v:VVm}{a b:VWk}(h1:KV v a.v)(h2:KV v b.v):KV v (if c then a else b).v:=by
 by_cases hc:c
 ·rw[if_pos hc];exact h1
 rw[if_neg hc];exact h2
section
variable (k : VWk)
def mq(e:Int):KV k.v (bV k e).v:=gh (.rf _) (.rf _)
def ll(n:Int):KV k.v (gP k n).v:=⟨rfl,rfl,rfl⟩
def rp:KV k.v (dU k).1.v:=⟨rfl,rfl,rfl⟩
def j9(n:Int):KV k.v (cI k n).v:=by show KV k.v (fp k.v n).1;unfold fp;split<;>exact⟨rfl,rfl,rfl⟩
def nt:KV k.v (gG k).1.v:=by show KV k.v (fw k.v).2.1;unfold fw;split<;>exact⟨rfl,rfl,rfl⟩
def mV(a:Int):KV k.v (bm k a).1.v:=mq _ _
def JB(a n:Int):KV k.v (m5 k a n).v:=⟨rfl,rfl,rfl⟩
def Bj(n:Int):KV k.v (i6 k n).1.v:=by unfold i6;split;exact mq _ _;exact .rf _
def M6:KV k.v (dTo k).v:=mV _ _
def E6:KV k.v (nE k).1.v:=(rp k).tr (rp _)
def Ni(n:Int):KV k.v (vn k n).v:=by
 unfold vn
 dsimp only
 have h1:KV k.v (i6 (i6 k 1).1 0).1.v:=(Bj k 1).tr (Bj _ 0)
 refine gh h1 ?_
 have h2:=h1.tr (nt _)
 exact gh (h2.tr (nt _)) ((h2.tr (j9 _ _)).tr (M6 _))
def P3:KV k.v (vd k).v:=by
 unfold vd
 exact gh (mq _ _) ⟨rfl,rfl,rfl⟩
def XA:KV k.v (DI k).v:=by
 unfold DI
 dsimp only
 exact gh (mq _ _) (((JB _ _ _).tr (JB _ _ _)).tr (nt _))
def ao1:KV k.v (YR k).v:=by
 unfold YR
 dsimp only
 exact((KV.tr (mV k _) (gh (.rf _) (mq _ _))).tr (ll _ _)).tr (ll _ _)
def m6{c:Prop}[Decidable c]{v:VVm}{a b:VWk×Bool}(h1:KV v a.1.v)(h2:KV v b.1.v):KV v (if c then a else b).1.v:=by
 by_cases hc:c
 ·rw[if_pos hc];exact h1
 rw[if_neg hc];exact h2
def Mk(name:Str):KV k.v (sM k name).1.v:=by
 unfold sM
 dsimp only
 refine m6 (nt k) (m6 ((mV k _).tr (ll _ _)) (m6 (M6 k) (m6 ?_ (m6 ?_ (m6 ?_ (m6 (Ni k 1) (m6 ((rp k).tr (Ni _ _)) (m6 (.rf _) (m6 (P3 k) (m6 (XA k) (m6 (ao1 k) (.rf _))))))))))))
 ·exact gh ((rp k).tr (M6 _)) (rp k)
 ·exact((E6 k).tr (j9 _ _)).tr (j9 _ _)
 exact gh ((E6 k).tr (M6 _)) (((E6 k).tr (j9 _ _)).tr (j9 _ _))
def Qr:KV k.v (BW k).v:=by
 unfold BW
 dsimp only
 have h:KV k.v (if 64<=((dU k).1.v.f.length:Int)then bV (dU k).1 (-5)else(dU k).1).v:=(rp k).tr (gh (mq _ _) (.rf _))
 exact h.tr ⟨rfl,rfl,rfl⟩
def WA(name:Str):KV k.v (Ho k name).v:=by
 unfold Ho
 dsimp only
 refine gh (rp k) (gh (Qr k) (gh ((rp k).tr (mq _ _)) (gh ((Bj k 0).tr (ll _ _)) (gh ((Bj k 2).tr (ll _ _)) (gh ?_ (gh ((rp k).tr (j9 _ _)) (gh ((nt k).tr (ll _ _)) (gh ?_ (gh ?_ (.rf _))))))))))
 ·exact((Bj k 1).tr (nt _)).tr (nt _)
 ·exact((E6 k).tr (j9 _ _)).tr (j9 _ _)
 exact(((nt k).tr (nt _)).tr (ll _ _)).tr (ll _ _)
def LO(xt:Int):KV k.v (pI k xt).v:=by
 unfold pI
 dsimp only
 have h:∀c:Prop,[Decidable c]->∀a b:Int,KV k.v (bm (if c then bV (bm (bm k (W64 (xt+16))).1 a).1 (-24)else(bm (bm k (W64 (xt+16))).1 a).1) b).1.v:=fun c _ a b =>
  (((mV k _).tr (mV _ _)).tr (gh (mq _ _) (.rf _))).tr (mV _ _)
 exact gh (h _ _ _) (h _ _ _)
def aO1{v:VVm}{n:Int}{N:Nat}(g:vD N v):KV v (doS v n).1:=by
 have s:=Jh (n:=n) g
 unfold DN at s
 exact⟨by have q:=congrArg VVm.conf s;exact q,by have q:=congrArg VVm.dict s;exact q,by have q:=congrArg VVm.hand s;exact q⟩
def WS(xt:Int){N:Nat}(g:vD N k.v):KV k.v (rL k xt).v:=by
 unfold rL
 dsimp only
 refine gh (mq _ _) (gh (mq _ _) (gh (j9 _ _) (gh (ll _ _) (gh ((mV _ _).tr (ll _ _)) (gh (((mV _ _).tr (ll _ _)).tr (j9 _ _)) (gh (LO k xt) (gh (aO1 g) (gh (Mk _ _) ((Mk _ _).tr (WA _ _))))))))))
end
def Aq(a:bH)(bad:Int):KV a.vm (bZ a bad).1.vm:=by unfold bZ;split<;>exact⟨rfl,rfl,rfl⟩
def W6{r:bH}{N:Nat}(g:gM N r):KV r.vm (bz r).1.vm:=by
 have gv:=g.m.v
 unfold bz
 dsimp only
 by_cases h:r.fuel<1
 ·rw[if_pos h];exact .rf _
 rw[if_neg h]
 have hq:∀q:VWk×Int,q.1.v=r.vm->KV r.vm (if q.1.bad=0 then rL q.1 q.2 else q.1).v:=fun q e=>by
  refine gh ?_ (by rw[e];exact .rf _)
  have:=WS q.1 q.2 (N:=N) (by rw[e];exact gv)
  rw[e]at this;exact this
 have e0:(if r.dof=true then((⟨r.vm,r.ip,0,false,false,0⟩:VWk),r.w)else(if (bm ⟨r.vm,r.ip,0,false,false,0⟩ r.ip).1.bad=0 then gE (bm ⟨r.vm,r.ip,0,false,false,0⟩ r.ip).1 else(bm ⟨r.vm,r.ip,0,false,false,0⟩ r.ip).1,(bm ⟨r.vm,r.ip,0,false,false,0⟩ r.ip).2)).1.v=r.vm:=by
  split
  ·rfl
  dsimp only
  unfold bm bV gE
  dsimp only
  (repeat' split)<;>rfl
 have h1:=hq _ e0
 revert h1
 generalize (if r.dof=true then((⟨r.vm,r.ip,0,false,false,0⟩:VWk),r.w)else(if (bm ⟨r.vm,r.ip,0,false,false,0⟩ r.ip).1.bad=0 then gE (bm ⟨r.vm,r.ip,0,false,false,0⟩ r.ip).1 else(bm ⟨r.vm,r.ip,0,false,false,0⟩ r.ip).1,(bm ⟨r.vm,r.ip,0,false,false,0⟩ r.ip).2))=q at e0 ⊢
 intro h1
 have ca:∀b:Int,KV r.vm (bZ ⟨r.vm,q.1.ip,0,false,W64 (r.fuel-1)⟩ b).1.vm:=fun b=>Aq ⟨r.vm,q.1.ip,0,false,W64 (r.fuel-1)⟩ b
 generalize (if q.1.bad=0 then rL q.1 q.2 else q.1)=k at h1 ⊢
 split
 ·exact h1
 exact ca _
open Go.RowKit
structure CG (N:Nat) (v:VVm) (w:CW):Prop where
 g:be N w.v
 k:KV v w.v
 len:w.l.length<=32
 cf:∀c∈w.l,xa c
section
variable {N : Nat} {v : VVm} {w : CW}
def CG.up(h:CG N v w){M:Nat}(hM:N<=M):CG M v w:=⟨h.g.up hM,h.k,h.len,h.cf⟩
def CG.fit(h:CG N v w):ae w.v.here:=by
 have R:=h.g.right
 have hc:=R.gl
 unfold eG at hc
 have h1:=R.jM
 have h2:=R.jP
 unfold ae;omega
def Gc(h:CG N v w)(e:Int):CG N v (w.fail e):=by
 unfold CW.fail;split
 ·exact⟨h.g,h.k,h.len,h.cf⟩
 exact h
def rj(h:CG N v w)(n:Int):CG (N+1) v (gN w n):=by
 unfold gN;split
 ·exact⟨J9 h.g n,h.k.tr ⟨rfl,rfl,rfl⟩,h.len,h.cf⟩
 exact h.up (by omega)
def je(h:CG N v w)(name:Str):CG (N+1) v (cv w name):=rj h _
def pq(h:CG N v w)(name:Str):CG (N+2) v (fN w name):=rj (je h name) 0
def zf(h:CG N v w)(a:Int):CG (N+1) v (iU w a):=by
 unfold iU;split
 ·exact⟨En h.g (cN _ _ _),h.k.tr ⟨rfl,rfl,rfl⟩,h.len,h.cf⟩
 exact h.up (by omega)
def qQ(h:CG N v w){c:VCf}(hc:xa c):CG N v (jZ w c):=by
 unfold jZ;split
 ·exact Gc h _
 rename_i q
 refine⟨h.g,h.k,by simp only[List.length_append,List.length_singleton];omega,fun x hx=>?_⟩
 rcases List.mem_append.1 hx with hx|hx
 ·exact h.cf x hx
 rw[List.mem_singleton.1 hx];exact hc
def ow(h:CG N v w)(kind:Int):CG N v (bb w kind).1/\xa (bb w kind).2:=by
 unfold bb;split
 ·exact⟨Gc h _,Tc⟩
 rename_i q
 have hl:w.l.length≠0:=fun z=>q (.inl z)
 refine⟨⟨h.g,h.k,by simp only[List.length_take];have:=h.len;omega,fun x hx=>h.cf x (List.mem_of_mem_take hx)⟩,?_⟩
 show xa (w.l.getD (w.l.length-1) zCf)
 rw[List.getD_eq_getElem?_getD,List.getElem?_eq_getElem (by omega)]
 exact h.cf _ (List.getElem_mem _)
def B0(h:CG N v w)(kind:Int):xa ⟨kind,w.v.here,[]⟩:=⟨h.fit,Nat.zero_le _,fun x hx=>by cases hx⟩
def Ns:∀(l:List Int) (N:Nat) (w:CW),CG N v w->CG (N+l.length) v (l.foldl iU w)
 | [],_,_,h=>h
 | x::l,N,w,h=>by
  have:=Ns l (N+1) _ (zf h x)
  rw[List.foldl_cons,List.length_cons,show N+(l.length+1)=N+1+l.length by omega];exact this
def M0(name:Str)(h:CG N v w):CG (N+2) v (vu name w):=rj (je (ow h 2).1 name) _
def QZ(name:Str)(h:CG N v w):CG (N+40) v (yx name w):=by
 have c:=ow h 3
 have q:=Ns (bb w 3).2.leaves _ _ (rj (je c.1 name) (bb w 3).2.at_)
 exact q.up (by have:=c.2.len;omega)
def V8(h:CG N v w):CG (N+40) v (wV w):=by
 unfold wV
 split
 ·exact(Gc h _).up (by omega)
 rename_i q
 have a:=je h [85,78,76,79,79,80]
 have b:=pq a [40,98,114,97,110,99,104,41]
 have rg:=wK w.l w.l.length
 have hn:(lR w.l w.l.length).toNat<w.l.length:=by omega
 have ho:xa (w.l.getD (lR w.l w.l.length).toNat zCf):=by
  rw[List.getD_eq_getElem?_getD,List.getElem?_eq_getElem hn]
  exact h.cf _ (List.getElem_mem _)
 refine⟨b.g.up (by omega),b.k,by show(w.l.set _ _).length<=32;rw[List.length_set];exact h.len,fun x hx=>?_⟩
 rcases List.mem_or_eq_of_mem_set hx with hx|hx
 ·exact h.cf x hx
 subst hx
 refine⟨ho.fit,by simp only[List.length_append,List.length_singleton];omega,fun y hy=>?_⟩
 rcases List.mem_append.1 hy with hy|hy
 ·exact ho.each y hy
 rw[List.mem_singleton.1 hy];exact(je a [40,98,114,97,110,99,104,41]).fit
def aq6(h:CG N v w):CG (N+2) v (LM w):=by
 have b:=pq h [40,63,100,111,41]
 exact qQ b ⟨b.fit,by show(1:Nat)<=32;decide,fun x hx=>by rw[List.mem_singleton.1 hx];exact(je h [40,63,100,111,41]).fit⟩
def aD3{name:Str}{g:CW->CW}(hg:brF name=some g)(h:CG N v w):CG (N+40) v (g w):=by
 unfold brF at hg
 rcases al hg with rfl|hg
 ·exact(qQ (pq h _) (B0 (je h _) 1)).up (by omega)
 rcases al hg with rfl|hg
 ·have c:=ow h 1
  exact(qQ (zf (pq c.1 _) _) (B0 (je c.1 _) 1)).up (by omega)
 rcases al hg with rfl|hg
 ·exact(zf (ow h 1).1 _).up (by omega)
 rcases al hg with rfl|hg
 ·exact(qQ h (B0 h 2)).up (by omega)
 rcases al hg with rfl|hg
 ·have c:=ow h 2
  exact(qQ (qQ (pq c.1 _) (B0 (je c.1 _) 1)) c.2).up (by omega)
 rcases al hg with rfl|hg
 ·have c:=ow h 2
  have o:=ow c.1 1
  exact(zf (rj (je o.1 _) _) _).up (by omega)
 rcases al hg with rfl|hg
 ·exact(M0 _ h).up (by omega)
 rcases al hg with rfl|hg
 ·exact(M0 _ h).up (by omega)
 rcases al hg with rfl|hg
 ·exact(qQ (je h _) (B0 (je h _) 3)).up (by omega)
 rcases al hg with rfl|hg
 ·exact(aq6 h).up (by omega)
 rcases al hg with rfl|hg
 ·exact QZ _ h
 rcases al hg with rfl|hg
 ·exact QZ _ h
 rcases al hg with rfl|hg
 ·exact V8 h
 cases hg
end
def MG{N:Nat}{v:VVm}(g:be N v):CG N v (lF v):=⟨g,.rf _,Nat.zero_le _,(fun c hc=>by cases hc)⟩
def Mv{N M:Nat}{v:VVm}{w:CW}(g:be N v)(h:CG M v w)(hM:N<=M):be M (Ag w v).1/\KV v (Ag w v).1:=by
 unfold Ag oH
 split
 ·exact⟨g.up hM,.rf _⟩
 exact⟨h.g,h.k⟩
def Rq{N:Nat}{v:VVm}(g:be N v)(n:Int):be (N+2) (Ik v n).1/\KV v (Ik v n).1 :=
 Mv g (rj (je (MG g) _) n) (by omega)
def XM{N:Nat}{v:VVm}{x:CW}(h:CG N v x)(s:Str):CG (N+2) v (wz x s):=by
 unfold wz
 split
 ·unfold DV
  have b:=Ny h.g
  have m1:dN x.v.mem (cZ x.v.mem x.v.here s).1 1:=ic _
  have p1:=iM (m:=x.v.mem) s b.1 b.2
  split
  ·have m2:dN (cZ x.v.mem x.v.here s).1 (aO (cZ x.v.mem x.v.here s).1 (cZ x.v.mem x.v.here s).2.1).1 1:=ic _
   have p2:1368<=(aO (cZ x.v.mem x.v.here s).1 (cZ x.v.mem x.v.here s).2.1).2.1/\(aO (cZ x.v.mem x.v.here s).1 (cZ x.v.mem x.v.here s).2.1).2.1<=(cZ x.v.mem x.v.here s).1.b.length:=iM _ p1.1 (by rw[m1.len];exact p1.2)
   have l1:=m1.len
   have l2:=m2.len
   exact⟨V1 h.g (m1.trans m2) p2.1 (by omega),h.k.tr ⟨rfl,rfl,rfl⟩,h.len,h.cf⟩
  exact⟨h.g.up (by omega),h.k,h.len,h.cf⟩
 exact h.up (by omega)
def Sv{N:Nat}{v:VVm}(g:be N v)(s:Str):be (N+4) (LT v s).1/\KV v (LT v s).1 :=
 Mv g (XM (rj (je (MG g) _) _) s) (by omega)
def OkF.vm{N M:Nat}{f:aa}(h:OkF N f){v:VVm}(g:be M v)(hd:f.vm.dict.length<=v.dict.length)(hc:v.conf=f.vm.conf)(hx:DX v.dict):OkF M {f with vm:=v} :=
 ⟨g,h.cfl,h.cf,fun q=>⟨(h.dict q).1,by have:=(h.dict q).2;show f.comp.dict<(v.dict.length:Int);omega⟩,fun q=>by show _/\_<=v.conf.mem;rw[hc];exact h.here q,h.la,h.fu,hx⟩
def OkF.kv{N M:Nat}{f:aa}(h:OkF N f){v:VVm}(g:be M v)(k:KV f.vm v):OkF M {f with vm:=v}:=h.vm g (by rw[k.dict];exact Nat.le_refl _) k.conf (by rw[k.dict];exact h.xts)
def Hu{N:Nat}{f:aa}(h:OkF N f)(name:Str):OkF (N+40) {f with vm:=(bo f.vm f.comp.cf name).1}/\OkF (N+40) {f with vm:=(bo f.vm f.comp.cf name).1,comp:={f.comp with cf:=(bo f.vm f.comp.cf name).2.1}}:=by
 have up:OkF (N+40) f:=h.up (by omega)
 unfold bo
 cases hb:brF name with
 | none=>exact⟨up,up⟩
 | some g =>
  dsimp only
  split
  ·exact⟨up,up⟩
  unfold oH
  split
  ·exact⟨up,up⟩
  have q:=aD3 hb (w:=⟨f.vm,f.comp.cf,0⟩) (v:=f.vm) ⟨h.g,.rf _,h.cfl,h.cf⟩
  have o:=h.kv q.g q.k
  exact⟨o,⟨o.g,q.len,q.cf,o.dict,o.here,o.la,o.fu,o.xts⟩⟩
end Go.Proofs.YtjcminooghmpeaaGreatDoor
