import Derived.Test.YtiibjcnedbncjaaGreatDoorPk9
set_option linter.unusedVariables false
set_option linter.unusedSimpArgs false
set_option maxRecDepth 100000
set_option maxHeartbeats 40000000
namespace Go.Proofs.YtiibjcnedbncjaaGreatDoor
open Go.RowKit
theorem IZ{v:VVm}(R:ru v)(h:v.mem.old.length≤1000000):VSm v:=by
 have hc:=R.fU
 unfold dV at hc
 have a0:=R.d
 have a1:=R.r
 have a2:=R.fl
 have a3:=R.dl
 have a4:=R.req
 have a5:=R.handl
 exact⟨h,by omega,by omega,by omega,by omega,by omega,by omega⟩
theorem Ja{v:VVm}(hv:B3 v)(h:nn v=true):sG 60 v:=by
 unfold nn at h
 rw[Bool.and_eq_true]at h
 refine⟨h.2,?_,hv.o_d.1,hv.o_arg,hv.o_self,hv.o_now⟩
 have h1:=h.1
 unfold kB zY at h1
 simp only[Bool.and_eq_true,decide_eq_true_eq]at h1
 exact h1.1.1.2
structure dJ (N:Nat) (v:VVm):Prop where
 right:ru v
 old:v.mem.old.length≤N
 fd:dU v.d
 fr:dU v.r
 ff:∀x∈v.f,ae x.ip
 ints:ae v.arg∧ae v.self∧ae v.now
 la:ae v.last
structure gq (N:Nat) (r:bx):Prop where
 m:dJ N r.vm
 ip:ae r.ip
 w:ae r.w
theorem dJ.v{N:Nat}{v:VVm}(g:dJ N v):sG N v:=⟨(iJ v).2 g.right,g.old,g.fd,g.ints⟩
theorem dJ.up{N M:Nat}{v:VVm}(g:dJ N v)(h:N≤M):dJ M v:=⟨g.right,by have:=g.old;omega,g.fd,g.fr,g.ff,g.ints,g.la⟩
theorem gq.up{N M:Nat}{r:bx}(g:gq N r)(h:N≤M):gq M r:=⟨g.m.up h,g.ip,g.w⟩
theorem dJ.x{N:Nat}{v:VVm}(g:dJ N v):VX N v:=by
 have R:=g.right
 have hc:=R.fU
 unfold dV at hc
 have h1:=R.len
 have h2:=R.d
 have h3:=R.r
 have h4:=R.fl
 exact⟨by omega,g.old,by omega,by omega,by omega,g.fd,g.fr,g.ff,by omega,by omega,g.la⟩
section
variable {N : Nat} {v : VVm}
theorem PH(g:dJ N v){d:List Int}(hd:(d.length:Int)≤v.conf.data)(hf:dU d):dJ N {v with d:=d}:=by
 have R:=g.right
 exact⟨⟨R.fU,R.mem,R.dict,R.pic,R.len,R.here0,R.here1,R.f,R.hand,hd,R.r,R.fl,R.dl,R.out,R.req,R.free0,R.free1,R.next0,R.next1,R.handl⟩,g.old,hf,g.fr,g.ff,g.ints,g.la⟩
theorem Mt(g:dJ N v){r:List Int}(hd:(r.length:Int)≤v.conf.ret)(hf:dU r):dJ N {v with r:=r}:=by
 have R:=g.right
 exact⟨⟨R.fU,R.mem,R.dict,R.pic,R.len,R.here0,R.here1,R.f,R.hand,R.d,hd,R.fl,R.dl,R.out,R.req,R.free0,R.free1,R.next0,R.next1,R.handl⟩,g.old,g.fd,hf,g.ff,g.ints,g.la⟩
theorem L5(g:dJ N v){f:List dE}(h1:f.all gv=true)(h2:f.length≤64)(h3:∀x∈f,ae x.ip):dJ N {v with f:=f}:=by
 have R:=g.right
 exact⟨⟨R.fU,R.mem,R.dict,R.pic,R.len,R.here0,R.here1,h1,R.hand,R.d,R.r,h2,R.dl,R.out,R.req,R.free0,R.free1,R.next0,R.next1,R.handl⟩,g.old,g.fd,g.fr,h3,g.ints,g.la⟩
theorem PP(g:dJ N v){m:aV}(k:eV v.mem m 1):dJ (N+1) (lf v m):=by
 have R:=g.right
 refine⟨⟨R.fU,k.right R.mem,R.dict,R.pic,?_,R.here0,R.here1,R.f,R.hand,R.d,R.r,R.fl,R.dl,R.out,R.req,R.free0,R.free1,R.next0,R.next1,R.handl⟩,?_,g.fd,g.fr,g.ff,g.ints,g.la⟩
 ·show(m.b.length:Int)=v.conf.mem;rw[k.len];exact R.len
 show m.old.length≤N+1;have:=k.old;have:=g.old;omega
end
def KG(N:Nat)(k:PW):Prop:=match k.err with
 | .ok=>gq N k.r
 | .bad e=>ae e
 | .halt=>False
def KF2(N:Nat)(k:PW):Prop:=match k.err with
 | .bad e=>ae e
 | _=>gq N k.r
section
variable {N : Nat} {k : PW}
theorem KG.ok(g:KG N k)(h:k.err=.ok):gq N k.r:=by unfold KG at g;rw[h]at g;exact g
theorem NO(h:k.err=.ok)(g:gq N k.r):KG N k:=by unfold KG;rw[h];exact g
theorem vY{M:Nat}(g:KG N k)(h:N≤M):KG M k:=by
 unfold KG at g ⊢
 cases q:k.err with
 | ok=>rw[q]at g;exact g.up h
 | bad c=>rw[q]at g;exact g
 | halt=>rw[q]at g;exact g.elim
theorem sK(g:KG N k){v:VVm}{e:Int}{M:Nat}(hM:N≤M)(he:ae e)(hv:k.err=.ok→e=0→dJ M v):KG M (pOk k v e):=by
 unfold pOk
 cases q:k.err with
 | ok =>
  dsimp only
  by_cases h:e=0
  ·rw[if_pos h];exact NO rfl ⟨hv q h,(g.ok q).ip,(g.ok q).w⟩
  rw[if_neg h];exact he
 | bad c=>exact vY g hM
 | halt=>exact vY g hM
theorem kC(n:Nat)(h:n≤300):ae (-(n:Int)):=by unfold ae;omega
theorem gN(g:KG N k){n:Int}(hn:k.err=.ok→ae n):KG N (cA k n):=by
 refine sK g (Nat.le_refl _) ?_ (fun q h0=>?_)
 ·unfold it eQ;split;exact kC 3 (by omega);exact bQ
 have m:=(g.ok q).m
 have h:=h0
 unfold it eQ at h ⊢
 by_cases c:k.r.vm.conf.data≤(k.r.vm.d.length:Int)
 ·rw[if_pos c]at h;cases h
 rw[if_neg c];exact PH m (by simp only[List.length_append,List.length_singleton];omega) (iL m.fd (cH (hn q)))
theorem lN(g:KG N k){n:Int}(hn:k.err=.ok→ae n):KG N (gB k n):=by
 refine sK g (Nat.le_refl _) ?_ (fun q h0=>?_)
 ·unfold gp;split;exact kC 5 (by omega);exact bQ
 have m:=(g.ok q).m
 have h:=h0
 unfold gp at h ⊢
 by_cases c:k.r.vm.conf.ret≤(k.r.vm.r.length:Int)
 ·rw[if_pos c]at h;cases h
 rw[if_neg c];exact Mt m (by simp only[List.length_append,List.length_singleton];omega) (iL m.fr (cH (hn q)))
theorem gZ(g:KG N k):KG N (aS k).1∧ae (aS k).2:=by
 refine⟨sK g (Nat.le_refl _) ?_ (fun q h0=>?_),?_⟩
 ·unfold iQ ba;split;exact kC 4 (by omega);exact bQ
 ·have m:=(g.ok q).m
  unfold iQ ba
  split
  ·exact m
  exact PH m (by have:=m.right.d;simp only[List.length_take];omega) (mm _ m.fd)
 unfold aS;dsimp only;split
 ·rename_i q
  exact(vk ((g.ok (fB (fC.1 q)).1).m.x)).2
 exact bQ
theorem go(g:KG N k):KG N (ew k).1∧ae (ew k).2:=by
 refine⟨sK g (Nat.le_refl _) ?_ (fun q h0=>?_),?_⟩
 ·unfold eW;split;exact kC 6 (by omega);exact bQ
 ·have m:=(g.ok q).m
  unfold eW
  split
  ·exact m
  exact Mt m (by have:=m.right.r;simp only[List.length_take];omega) (mm _ m.fr)
 unfold ew;dsimp only;split
 ·rename_i q
  exact(rb ((g.ok (fB (fC.1 q)).1).m.x)).2
 exact bQ
theorem pP(m:aV)(a:Int):ae (bE m a):=by
 unfold bE;split
 ·split;exact bQ;exact kC 23 (by omega)
 exact kC 9 (by omega)
theorem fY(g:KG N k)(a:Int):KG N (be k a).1∧ae (be k a).2:=by
 refine⟨sK g (Nat.le_refl _) ?_ (fun q _=>(g.ok q).m),u5 _ _⟩
 unfold au;split;exact bQ;exact pP _ _
theorem zy(g:KG N k)(a n:Int):KG (N+1) (jV k a n):=by
 refine sK g (by omega) ?_ (fun q _=>PP (g.ok q).m (cN _ _ _))
 unfold aG bK;split
 ·split
  ·split<;>exact bQ
  exact kC 9 (by omega)
 exact pP _ _
theorem j7(g:KG N k){e:Int}(he:ae e):KG N (pOk k k.r.vm e):=sK g (Nat.le_refl _) he (fun q _=>(g.ok q).m)
theorem qS(g:KG N k){a:Int}(ha:k.err=.ok→ae a):KG N (wIp k a):=by
 unfold KG at g ⊢
 unfold wIp;dsimp only
 cases q:k.err with
 | ok=>rw[q]at g;exact⟨g.m,ha q,g.w⟩
 | bad c=>rw[q]at g;exact g
 | halt=>rw[q]at g;exact g.elim
theorem xu(g:KG N k){a:Int}(ha:k.err=.ok→ae a):KG N (qt k a):=by
 unfold KG at g ⊢
 unfold qt;dsimp only
 cases q:k.err with
 | ok=>rw[q]at g;exact⟨g.m,g.ip,ha q⟩
 | bad c=>rw[q]at g;exact g
 | halt=>rw[q]at g;exact g.elim
theorem yM(g:KG N k)(n:Nat):KG N (bS k n).1∧(k.err=.ok→ae (bS k n).2):=by
 unfold bS;split
 ·exact⟨j7 g (kC 6 (by omega)),fun _=>bQ⟩
 exact⟨g,fun q=>nB (g.ok q).m.fr _⟩
theorem yR(g:KG N k):KF2 N k:=by
 unfold KG at g;unfold KF2
 cases q:k.err with
 | ok=>rw[q]at g;exact g
 | bad c=>rw[q]at g;exact g
 | halt=>rw[q]at g;exact g.elim
theorem nN{c:Prop}[Decidable c]{a b:PW}(h1:KG N a)(h2:KG N b):KG N (if c then a else b):=by split<;>assumption
theorem cY{c:Prop}[Decidable c]{a b:PW}(h1:KF2 N a)(h2:KF2 N b):KF2 N (if c then a else b):=by split<;>assumption
theorem tc(g:KG N k)(b:Bool):KG N (i3 k b):=by
 unfold i3
 exact nN (qS (fY g _).1 (fun _=>(fY g _).2)) (qS g (fun _=>bl _))
theorem Eu(g:KG N k):KG N (nE k):=qS (go g).1 (fun _=>(go g).2)
theorem OB(g:KG N k):KG N (Gr k):=qS (gN (fY g _).1 (fun _=>(fY g _).2)) (fun _=>bl _)
theorem Cv(g:KG N k):KG N (uK k):=lN (lN (gZ (gZ g).1).1 (fun _=>(gZ (gZ g).1).2)) (fun _=>(gZ g).2)
theorem Nk(g:KG N k):KG N (ot k):=gN (gN (go (go g).1).1 (fun _=>(go (go g).1).2)) (fun _=>(go g).2)
theorem OV(g:KG N k):KG N (u9 k):=by
 have a:=gZ g
 have b:=gZ a.1
 unfold u9
 exact nN (tc b.1 _) (Cv (qS (gN (gN b.1 (fun _=>b.2)) (fun _=>a.2)) (fun _=>bl _)))
theorem Dg(g:KG N k)(n:Int):KG N (l7 k n):=by
 have a:=yM g 1
 have b:=yM a.1 0
 unfold l7
 exact nN (tc (nN (go (go b.1).1).1 (lN (go b.1).1 (fun _=>qH _ _ _))) _) b.1
theorem LL(g:KG N k):KG (N+2) (nE (jI k)):=by
 unfold jI
 exact Eu (nN (vY (j7 g (kC 31 (by omega))) (by omega)) (zy (zy g _ _) _ _))
theorem GN(g:KG N k):KG N (iX k):=by
 unfold iX
 split
 ·exact j7 g (kC 6 (by omega))
 rename_i h0
 refine gN ?_ (fun _=>bQ)
 unfold KG at g ⊢
 dsimp only
 cases q:k.err with
 | ok =>
  rw[q]at g
  refine⟨L5 g.m ?_ (by have:=g.m.right.fl;simp only[List.length_take];omega) (fun x hx=>g.m.ff x (List.mem_of_mem_take hx)),?_,g.w⟩
  ·exact List.all_eq_true.2 fun x hx=>List.all_eq_true.1 g.m.right.f x (List.mem_of_mem_take hx)
  exact g.m.ff _ (by rw[List.getD_eq_getElem?_getD,List.getElem?_eq_getElem (by omega)];exact List.getElem_mem _)
 | bad c=>rw[q]at g;exact g
 | halt=>rw[q]at g;exact g.elim
theorem Ot{a:Int}(h:ae a):ae (nD [65,76,73,71,78,69,68] a).1:=by
 show ae (if a%8=0 then a else wrap64 (a-a%8+8))
 split
 ·exact h
 exact gz _
theorem OD(g:KG N k):KG N (BE k):=by
 have f:=fY g k.r.ip
 unfold BE
 refine qS (gN (gN (j7 f.1 ?_) (fun _=>bl _)) (fun _=>f.2)) (fun _=>Ot (bl _))
 unfold bT;split;exact bQ;exact kC 9 (by omega)
theorem KP(g:KG N k):KG N (kJ k):=by
 have a:=gZ g
 unfold kJ wFr
 refine xu ?_ (fun _=>a.2)
 split
 ·rename_i h0
  have b:=j7 a.1 (e:=-5) (kC 5 (by omega))
  have hb:(pOk (aS k).1 (aS k).1.r.vm (-5)).err≠.ok:=fun q=>by have:=(fB q).2;omega
  unfold KG at b ⊢
  dsimp only
  cases q:(pOk (aS k).1 (aS k).1.r.vm (-5)).err with
  | ok=>exact absurd q hb
  | bad c=>rw[q]at b;exact b
  | halt=>rw[q]at b;exact b.elim
 rename_i h0
 have b:=a.1
 unfold KG at b ⊢
 dsimp only
 cases q:(aS k).1.err with
 | ok =>
  rw[q]at b
  have R:=b.m.right
  have hc:=R.fU
  unfold dV at hc
  have h1:=R.d
  have h2:=R.r
  refine⟨L5 b.m ?_ (by simp only[List.length_append,List.length_singleton];omega) (fun x hx=>?_),(by unfold ae;dsimp only;omega),b.w⟩
  ·rw[List.all_append,R.f]
   simp only[List.all_cons,List.all_nil,Bool.and_true,Bool.true_and]
   unfold gv
   simp only[decide_eq_true_eq,Bool.and_eq_true]
   omega
  rcases List.mem_append.1 hx with hx|hx
  ·exact b.m.ff x hx
  simp only[List.mem_singleton]at hx;subst hx;exact b.ip
 | bad c=>rw[q]at b;exact b
 | halt=>rw[q]at b;exact b.elim
theorem Bj(g:KG N k)(b:Int):KG N (dP k b):=by
 have x:=fY g b
 have y:=fY x.1 (W64 (b+8))
 unfold dP
 dsimp only
 have z:=fun(c:Bool)=>fY (nN (c:=c=true) (j7 y.1 (e:=-24) (kC 24 (by omega))) y.1) (W64 (W64 (b+16)+W64 (8*(be k b).2)))
 exact nN (z _).1 (xu (z _).1 (fun _=>(z _).2))
theorem Lj(g:KG N k):KG N (pOk (aS k).1 (aS k).1.r.vm (aS k).2):=j7 (gZ g).1 (gZ g).2
theorem BR(g:KG N k)(h0:k.err=.ok)(name:Str):KF2 (N+2) (jP k name):=by
 have u:=fun {a:PW} (q:KG N a)=>yR (vY q (by omega:N≤N+2))
 unfold jP y9
 refine cY (yR (LL g)) (cY (u (Eu g)) (cY (u (OB g)) (cY (u (tc g _)) (cY (u (tc (gZ g).1 _)) (cY (u (OV g)) (cY (u (Cv g)) (cY (u (Dg g 1)) (cY (u (Dg (gZ g).1 _)) (cY ?_ ?_)))))))))
 ·have b:=(g.ok h0).up (by omega:N≤N+2);exact⟨b.m,b.ip,b.w⟩
 refine cY (u (GN g)) (cY (u (OD g)) (cY (u (xu (gZ g).1 (fun _=>(gZ g).2))) (cY (u (KP g)) (cY (u (Lj g)) ?_))))
 have d:=fun n=>yM g n
 have dp:=fun n=>u (gN (d n).1 (fun q=>(d n).2 (tv q)))
 exact cY (dp 0) (cY (dp 2) (cY (u (go (go (d 1).1).1).1) (cY (u (lN (gZ g).1 (fun _=>(gZ g).2))) (cY (u (gN (go g).1 (fun _=>(go g).2))) (cY (dp 0) (cY (u (Cv g)) (cY (u (Nk g)) (u g))))))))
end
theorem E6{v:VVm}{n:Int}{N:Nat}(g:dJ N v):dJ (N+2) (doS v n).1:=by
 have q:=Ig (n:=n) g.v
 have s:=Kr (n:=n) g.v
 unfold AI at s
 have e1:(doS v n).1.r=v.r:=by have q:=congrArg VVm.r s;exact q
 have e2:(doS v n).1.f=v.f:=by have q:=congrArg VVm.f s;exact q
 have e3:(doS v n).1.last=v.last:=by have q:=congrArg VVm.last s;exact q
 exact⟨(iJ _).1 q.right,q.old,q.d,by rw[e1];exact g.fr,by rw[e2];exact g.ff,q.ints,by rw[e3];exact g.la⟩
theorem LU{k:PW}{N:Nat}(g:KG N k)(h0:k.err=.ok){xt:Int}(hx:ae xt):KF2 (N+2) (iM k xt):=by
 have u:=fun {a:PW} (q:KG N a)=>yR (vY q (by omega:N≤N+2))
 have fk:ae (aq k.r.vm xt).2:=by
  unfold aq;split
  ·split;exact bQ;exact kC 9 (by omega)
  unfold au;split;exact bQ;exact pP _ _
 have g1:=j7 g fk
 unfold iM
 dsimp only
 by_cases c:fI (pOk k k.r.vm (aq k.r.vm xt).2).err=true
 ·rw[if_pos c]
  have o1:=fC.1 c
  have gr:=g1.ok o1
  refine cY (u (j7 g1 (kC 14 (by omega)))) (cY (u (qS (lN g1 (fun q=>gr.ip)) (fun _=>bl _))) (cY (u (gN g1 (fun _=>bl _))) (cY (u (gN (fY g1 _).1 (fun _=>(fY g1 _).2))) (cY ?_ (cY (u (Bj g1 _)) (cY ?_ (BR g1 o1 _)))))))
  ·have f:=fY g1 (W64 (xt+8))
   have p:=gN f.1 (n:=W64 (xt+16)) (fun _=>bl _)
   exact u (qS (lN p (fun q=>(p.ok q).ip)) (fun _=>f.2))
  exact yR (sK g1 (by omega) (P5 (RF _ _)) (fun q _=>E6 gr.m))
 rw[if_neg c];exact u g1
theorem Mv{r:bx}{N:Nat}(g:gq N r):KG N (bP r).1∧ae (bP r).2:=by
 have b:KG N (eD r):=NO rfl ⟨g.m,g.ip,bQ⟩
 have f:=fY b r.ip
 unfold bP
 split
 ·exact⟨b,g.w⟩
 exact⟨nN (qS f.1 (fun _=>bl _)) f.1,f.2⟩
theorem js(s:List Int)(n:Nat):(dw s n).length=n:=by unfold dw;simp only[List.length_append,List.length_take,List.length_replicate];omega
theorem wt{s:List Int}(h:dU s)(n:Nat):dU (dw s n):=iL (mm _ h) (fun x hx=>by rw[List.eq_of_mem_replicate hx];exact bQ)
theorem zJ{r:bx}{N:Nat}(g:gq N r){e:Int}(he:ae e):gq N (cq r e).1:=by
 unfold cq
 split
 ·exact g
 rename_i h0
 dsimp only
 have R:=g.m.right
 have hc:=R.fU
 unfold dV at hc
 have hm:r.vm.f.getD (r.vm.f.length-1) default∈r.vm.f:=by rw[List.getD_eq_getElem?_getD,List.getElem?_eq_getElem (by omega)];exact List.getElem_mem _
 have hf:=List.all_eq_true.1 R.f _ hm
 unfold gv at hf
 simp only[decide_eq_true_eq,Bool.and_eq_true]at hf
 generalize r.vm.f.getD (r.vm.f.length-1) default=F at *
 have a1:=L5 g.m (f:=r.vm.f.take (r.vm.f.length-1)) (List.all_eq_true.2 fun x hx=>List.all_eq_true.1 R.f x (List.mem_of_mem_take hx)) (by have:=R.fl;simp only[List.length_take];omega) (fun x hx=>g.m.ff x (List.mem_of_mem_take hx))
 have a2:=PH a1 (d:=dw r.vm.d (min F.d (r.vm.conf.data-1)).toNat++[e]) (by show _≤r.vm.conf.data;simp only[List.length_append,List.length_singleton,js];omega) (iL (wt g.m.fd _) (cH he))
 have a3:=Mt a2 (r:=dw r.vm.r (min F.r r.vm.conf.ret).toNat) (by show _≤r.vm.conf.ret;rw[js];omega) (wt g.m.fr _)
 exact⟨a3,g.m.ff F hm,g.w⟩
theorem Gy{r:bx}{N:Nat}(g:gq N r):gq (N+2) (nG r).1:=by
 unfold nG
 split
 ·exact g.up (by omega)
 have t:=Mv g
 have tr:=(qX r).2
 have tg:KF2 (N+2) (gd r):=by
  unfold gd
  by_cases c:fI (bP r).1.err=true
  ·rw[if_pos c];exact LU t.1 (fC.1 c) t.2
  rw[if_neg c];exact yR (vY t.1 (by omega))
 have wg:gq N (bP r).1.r:=by
  rw[tr]
  refine⟨g.m,?_,bQ⟩
  have e:(sM r).1.ip=(bP r).1.r.ip:=by rw[tr]
  rw[e]
  unfold bP
  split
  ·exact g.ip
  dsimp only
  split
  ·exact bl _
  rw[tp];exact g.ip
 unfold KF2 at tg
 cases q:(gd r).err with
 | ok=>rw[q]at tg;exact tg
 | halt=>rw[q]at tg;exact tg
 | bad c=>rw[q]at tg;exact(zJ wg tg).up (by omega)
open Go.RowKit
def BH:sT→Bool
 | .halt=>true
 | _=>false
theorem C4{c:Cx}{t:TypeId}{x z:Value}{y:PV}{v:Value}(h:Rep c (.ifc t (.agg [.val x,y])) v)(hy:∀u,Rep c y u→u=z):v=.iface t (.agg #[x,z]):=by
 unfold Rep at h
 obtain⟨u,rfl,h⟩:=h
 unfold Rep at h
 obtain⟨vs,rfl,h⟩:=h
 match vs,h with
 | [],h=>have:=an.length h;simp at this
 | [_],h=>have:=an.length h;simp at this
 | [p,q],h =>
  have h1:=(am.1 h).1
  have h2:=hy _ (am.1 (am.1 h).2).1
  unfold Rep at h1
  rw[h1,h2]
 | _::_::_::_,h=>have:=an.length h;simp at this
theorem Ey{c:Cx}{t:TypeId}{x v:Value}(h:Rep c (.ifc t (.agg [.val x])) v):v=.iface t (.agg #[x]):=by
 unfold Rep at h
 obtain⟨u,rfl,h⟩:=h
 unfold Rep at h
 obtain⟨vs,rfl,h⟩:=h
 match vs,h with
 | [],h=>have:=an.length h;simp at this
 | [p],h =>
  have h1:=(am.1 h).1
  unfold Rep at h1
  rw[h1]
 | _::_::_,h=>have:=an.length h;simp at this
theorem tz{c:Cx}{x y:PV}{vs:List Value}{a b:Value}(h:an c [x,y] vs)(hx:∀u,Rep c x u→u=a)(hy:∀u,Rep c y u→u=b):vs=[a,b]:=by
 match vs,h with
 | [],h=>have:=an.length h;simp at this
 | [_],h=>have:=an.length h;simp at this
 | [p,q],h=>rw[hx _ (am.1 h).1,hy _ (am.1 (am.1 h).2).1]
 | _::_::_::_,h=>have:=an.length h;simp at this
theorem Cn{c:Cx}{x v:Value}(h:Rep c (.val x) v):v=x:=by unfold Rep at h;exact h
theorem Tq(a:Addr)(xt:Int)(e:sT)(he:fI e=false):ab Tryz.prog 26 [.ifc 71 (.agg [i64 xt,vK a e]),.val (haltV a)] (boo (BH e)):=by
 cases e with
 | ok=>cases he
 | bad k=>exact nZ (l:=[atV xt (Mf k),haltV a]) (v:=.bool false) (fun c vs h=>tz h (fun u hu=>C4 hu (fun _ hq=>Ey hq)) (fun u hu=>Cn hu)) (fun c=>aD _ _) (P3 a xt k)
 | halt=>exact nZ (l:=[atV xt (haltV a),haltV a]) (v:=.bool true) (fun c vs h=>tz h (fun u hu=>C4 hu (fun _ hq=>Cn hq)) (fun u hu=>Cn hu)) (fun c=>aD _ _) (Pl a xt)
theorem Tv(xt k:Int){x0:PV}(H:List Ob)(i j:Nat)(hi:H[i]?=some (.cells [x0] 73))(hj:H[j]?=some (.glob 1 etV)):
  HC Tryz.prog 27 [.ifc 71 (.agg [i64 xt,.ifc 73 (.agg [i64 k])]),.ifc 76 (.ptr i 0)] H (boo true) (H.set i (.cells [i64 k] 73)):=by
 intro B σ w vs s hv
 obtain⟨b,vs0,fr,hb,hw,hfr,p,q,rfl,hp⟩:=s.holds i _ hi
 simp only[cx]at hb hw
 match p,hp with
 | [],hp=>have:=an.length hp;simp at this
 | _::_::_,hp=>have:=an.length hp;simp at this
 | [old],hp =>
 have hvs:vs=[atV xt (Mf k),.iface 76 (.pointer (some ⟨b,0,none⟩))]:=tz hv (fun u hu=>C4 hu (fun _ hq=>Ey hq)) (fun u hu=>by
  unfold Rep at hu
  obtain⟨z,rfl,hz⟩:=hu
  unfold Rep at hz
  obtain⟨_,b2,h2,rfl⟩:=hz
  simp only[cx]at h2
  rw[hb]at h2;cases h2;rfl)
 subst hvs
 obtain⟨hg,_⟩:=s.holds j _ hj
 have ht0:w.cell? ⟨b,0,none⟩=some old:=by rw[fL hw];rfl
 have hf0:w.frozen? ⟨b,0,none⟩=false:=by
  rcases hfr with rfl|hz
  ·simp[World.frozen?,hw]
  obtain⟨lo,hi'⟩:=fr
  simp only[World.frozen?,hw,Bool.and_eq_false_iff,decide_eq_false_iff_not]
  simp only[List.length_append,List.length_cons]at hz
  exact .inl (by omega)
 refine Calls.mono (Pf xt k ⟨b,0,none⟩ old w hg ht0 hf0) ?_
 rintro e w' ⟨rfl,w1,g,rfl⟩
 obtain⟨s1,st1⟩:=eM s g
 have hw1:w1.heap[b]?=some (Obj.cells (old::q).toArray 73 fr):=(g.block b (Array.getElem?_eq_some_iff.1 hw).1).trans hw
 obtain⟨s2,st2⟩:=oz s1 (ys:=[i64 k]) (us:=.int .i64 k::q) hi hb hw1 hfr rfl ⟨[.int .i64 k],q,rfl,am.2 ⟨aD _ _,ax.2 rfl⟩⟩
 have e1:w1.setCell ⟨b,0,none⟩ (.int .i64 k)=w1.setRow b (Value.int .i64 k::q).toArray:=by
  rw[setCell_eq_setRow w1 b 0 _ _ _ _ hw1];simp
 rw[e1]
 exact⟨.bool true,σ,rfl,aD _ _,s2,st1.trans st2⟩
theorem CX(n:Nat){d:TD}(hz:d.zero=[i64 0]):dD n d=(List.replicate n (0:Int)).flatMap af:=by
 unfold dD
 rw[hz]
 induction n with
 | zero=>rfl
 | succ n ih=>rw[List.replicate_succ,List.replicate_succ,List.flatten_cons,List.flatMap_cons,ih];rfl
theorem l8(l:List Int):l.flatMap af=l.map i64:=by
 induction l with
 | nil=>rfl
 | cons x l ih=>rw[List.flatMap_cons,ih];rfl
theorem zk(s:List Int)(n:Nat){d:TD}(hs:d.size=1)(hz:d.zero=[i64 0]):cK (dD n d) 0 ((s.flatMap af).take (min s.length n*d.size))=(dw s n).flatMap af:=by
 rw[CX n hz,l8,l8,l8,hs,Nat.mul_one]
 unfold cK dw
 rw[List.take_zero,List.nil_append,Nat.zero_add,←List.map_take,List.length_map,List.length_take,←List.map_drop,List.map_append,List.drop_replicate]
 congr 2
 ·rcases Nat.le_total s.length n with h|h
  ·rw[Nat.min_eq_left h,List.take_of_length_le (Nat.le_refl _),List.take_of_length_le h]
  rw[Nat.min_eq_right h]
 congr 1;omega
theorem Ml(s:List Int)(n:Nat):PV.seq n (((dw s n).flatMap af).take n) .clip=sqc af (dw s n):=by
 have h:=js s n
 rw[l8,←List.map_take,List.take_of_length_le (by omega),←l8]
 unfold sqc;rw[h]
theorem nM(s:List Int)(n:Nat)(hs:s.length≤1000000)(hn:n≤1000000):ab Tryz.prog 61 [sq af s,i64 (n:Int)] (sqc af (dw s n)):=by
 refine pW tG (rs:=[.tmp 4]) Tryz.func61 rfl rfl rfl (by simp) (by simp) (fun B=>?_)
 refine zu1 ?_
 refine zp1 ?_
 refine z2 ?_ (q:=(by(simp_all;omega)))
 refine zs1 ?_
 refine zp2 ?_
 refine Wd rfl rfl (ma (lO tG rfl) rfl (lO tG rfl) rfl rfl rfl rfl (ag _ 1 (fun _=>rfl) _) (aB _ (fun _=>rfl) _) (by rw[kU _ _ rfl];simp)) ?_
 refine lA (H':=[.cells ((dw s n).flatMap af) 3]) (by refine congrArg (fun z=>[Ob.cells z 3]) (zk s n ?_ ?_).symm<;>rfl) ?_
 refine Wn ?_
 refine zp1 ?_
 refine B2 11 0 n n rfl rfl (by rw[l8,List.length_map,js];exact Nat.le_refl _) ?_
 refine Wa 11 rfl (Ml s n) ?_
 refine zs1 ?_
 refine Wq ?_
 exact pv rfl rfl
def tf(r:bx)(b:Bool):PV:=dm (kO r) (boo b)
@[simp] theorem Ns (r : bx) (b : Bool) : aQ (tf r b) := by simp [tf]
theorem xX(r:bx)(e:Int)(N:Nat)(g:dJ N r.vm):ab Tryz.prog 28 [kO r,i64 e] (tf (cq r e).1 (decide (r.vm.f.length≠0))):=by
 have R:=g.right
 have hc:=R.fU
 unfold dV at hc
 have hfl:=R.fl
 have hd:=R.d
 have hr:=R.r
 by_cases h0:r.vm.f.length=0
 ·have e1:(cq r e).1=r:=by unfold cq;rw[if_pos h0]
  rw[e1]
  refine pW tG (rs:=[.cell 4 38,.tmp 5]) Tryz.func28 rfl rfl rfl (by simp) (by simp) (fun B=>?_)
  refine zu3 ?_
  refine zu5 ?_
  refine Ws ?_
  refine zu2 ?_
  refine Wt rfl (by(try simp only[dnL]at *);omega) ?_
  refine zu3 ?_
  refine zR ?_
  exact congrArg (tf r) (decide_eq_false (fun q=>q h0)).symm
 have hm:r.vm.f.getD (r.vm.f.length-1) default∈r.vm.f:=by rw[List.getD_eq_getElem?_getD,List.getElem?_eq_getElem (by omega)];exact List.getElem_mem _
 have hf:=List.all_eq_true.1 R.f _ hm
 unfold gv at hf
 simp only[decide_eq_true_eq,Bool.and_eq_true]at hf
 have e1:cq r e=({r with vm:={r.vm with f:=r.vm.f.take (r.vm.f.length-1),d:=dw r.vm.d (min (r.vm.f.getD (r.vm.f.length-1) default).d (r.vm.conf.data-1)).toNat++[e],r:=dw r.vm.r (min (r.vm.f.getD (r.vm.f.length-1) default).r r.vm.conf.ret).toNat},ip:=(r.vm.f.getD (r.vm.f.length-1) default).ip},0):=by
  unfold cq;rw[if_neg h0]
 rw[e1]
 have w0:IntKind.i64.wrap ((r.vm.f.length:Int)-1)=((r.vm.f.length-1:Nat):Int):=by((rw[aK];unfold wrap64;(try simp only[dnL]at *);omega))
 have w1:IntKind.i64.wrap (r.vm.conf.data-1)=r.vm.conf.data-1:=by((rw[aK];unfold wrap64;(try simp only[dnL]at *);omega))
 have w2:(if r.vm.conf.data-1<(r.vm.f.getD (r.vm.f.length-1) default).d then r.vm.conf.data-1 else(r.vm.f.getD (r.vm.f.length-1) default).d)=((min (r.vm.f.getD (r.vm.f.length-1) default).d (r.vm.conf.data-1)).toNat:Int):=by split<;>omega
 have w3:(if r.vm.conf.ret<(r.vm.f.getD (r.vm.f.length-1) default).r then r.vm.conf.ret else(r.vm.f.getD (r.vm.f.length-1) default).r)=((min (r.vm.f.getD (r.vm.f.length-1) default).r r.vm.conf.ret).toNat:Int):=by split<;>omega
 have hdl:=js r.vm.d (min (r.vm.f.getD (r.vm.f.length-1) default).d (r.vm.conf.data-1)).toNat
 refine pW tG (rs:=[.cell 4 38,.tmp 5]) Tryz.func28 rfl rfl rfl (by simp) (by simp) (fun B=>?_)
 refine zu3 ?_
 refine zu5 ?_
 refine Ws ?_
 refine zu2 ?_
 refine Wf rfl (by(try simp only[dnL]at *);omega) ?_
 refine Wj ?_
 refine zp5 ?_
 refine Wa 19 rfl (congrArg (fun z=>PV.val (Value.int .i64 z)) w0) ?_
 refine Wv tG rfl rfl rfl (by omega) (iN bA 3 (fun _=>rfl) default (by omega)) ?_
 refine zs3 ?_
 refine zp5 ?_
 refine Wa 26 rfl (congrArg (fun z=>PV.val (Value.int .i64 z)) w0) ?_
 refine z2 ?_ (q:=(by(simp_all;done)))
 refine Wa 27 rfl (bM bA 3 (fun _=>rfl) (by omega)) ?_
 refine zs3 ?_
 refine zp5 ?_
 refine zy5 ?_
 refine Wa 39 rfl (congrArg (fun z=>PV.val (Value.int .i64 z)) w1) ?_
 refine z1 ?_
 refine Wa 40 rfl (congrArg (fun z=>PV.val (Value.int .i64 z)) w2) ?_
 refine zc rfl Tryz.func61 ((nM r.vm.d (min (r.vm.f.getD (r.vm.f.length-1) default).d (r.vm.conf.data-1)).toNat (by omega) (by omega)) _) ?_
 refine zy2 ?_
 refine Wa 43 rfl (bsL af [_] rfl rfl) ?_
 refine Wd rfl rfl (aC (lO tG rfl) rfl (lO tG rfl) (lO tG rfl) rfl rfl (by exact⟨_,rfl⟩) (by exact⟨rfl,rfl,ag _ 1 (fun _=>rfl) _,aB _ (fun _=>rfl) _⟩) (by exact ag _ 1 (fun _=>rfl) _) (by((simp_all;omega))) (by((simp_all;omega)))) ?_
 refine Wa 44 rfl (aM af) ?_
 refine zs3 ?_
 refine zp5 ?_
 refine zy5 ?_
 refine Wa 56 rfl (congrArg (fun z=>PV.val (Value.int .i64 z)) w3) ?_
 refine zc rfl Tryz.func61 ((nM r.vm.r (min (r.vm.f.getD (r.vm.f.length-1) default).r r.vm.conf.ret).toNat (by omega) (by omega)) _) ?_
 refine zs3 ?_
 refine zu4 ?_
 refine zu3 ?_
 refine zR ?_
 rw[decide_eq_true h0];rfl
def AW(r:bx×Bool×Int):PV:=da (kO r.1) (boo r.2.1) (i64 r.2.2)
@[simp] theorem QD (r : bx × Bool × Int) : aQ (AW r) := by simp [AW]
theorem K3{r:bx}(h:r.dof=true):bP r=(eD r,r.w):=by unfold bP;rw[if_pos h]
theorem Mu{r:bx}(h:¬r.dof=true)(k:fI (be (eD r) r.ip).1.err=true):bP r=(wIp (be (eD r) r.ip).1 (W64 ((be (eD r) r.ip).1.r.ip+8)),(be (eD r) r.ip).2):=by unfold bP;rw[if_neg h,if_pos k]
theorem Mm{r:bx}(h:¬r.dof=true)(k:¬fI (be (eD r) r.ip).1.err=true):bP r=((be (eD r) r.ip).1,(be (eD r) r.ip).2):=by unfold bP;rw[if_neg h,if_neg k]
theorem IB{r:bx}(k:fI (bP r).1.err=true):gd r=iM (bP r).1 (bP r).2:=by unfold gd;rw[if_pos k]
theorem LY{r:bx}(k:¬fI (bP r).1.err=true):gd r=(bP r).1:=by unfold gd;rw[if_neg k]
theorem Ma{r:bx}{N:Nat}(g:gq N r):KX N (bP r).1∧ae (bP r).2:=by
 have b:KX N (eD r):=⟨g.m.x,g.ip,bQ⟩
 have f:=fh b r.ip
 unfold bP
 split
 ·exact⟨b,g.w⟩
 refine⟨?_,f.2⟩
 dsimp only
 split
 ·exact N7 f.1 (bl _)
 exact f.1
theorem Nx{e:sT}(h:BH e=true):e=.halt:=by cases e<;>first|rfl|cases h
theorem Qo{e:sT}(h:fI e=false)(k:BH e=false):∃c,e=.bad c:=by
 cases e with
 | ok=>cases h
 | bad c=>exact⟨c,rfl⟩
 | halt=>cases k
theorem II{r:bx}{c:Int}(h:r.vm.f.length≠0):(cq r c).2=0:=by unfold cq;rw[if_neg h]
theorem Ix{r:bx}{c:Int}(h:r.vm.f.length=0):cq r c=(r,c):=by unfold cq;rw[if_pos h]
def o0:List PV:=[PV.val (Value.int IntKind.i64 0),PV.val (Value.int IntKind.i64 0),PV.val (Value.int IntKind.i64 0),PV.val (Value.int IntKind.i64 0),PV.val (Value.int IntKind.i64 0),PV.seq 0 [] SK.clip,PV.seq 0 [] SK.clip,PV.val (Value.int IntKind.i64 0),PV.seq 0 [] SK.clip,PV.seq 0 [] SK.clip,PV.seq 0 [] SK.clip,PV.seq 0 [] SK.clip,PV.val (Value.int IntKind.i64 0),PV.seq 0 [] SK.clip,PV.seq 0 [] SK.clip,PV.val (Value.bool false),PV.seq 0 [] SK.clip,PV.val (Value.int IntKind.i64 0),PV.val (Value.int IntKind.i64 0),PV.val (Value.int IntKind.i64 0),PV.val (Value.int IntKind.i64 0),PV.val (Value.int IntKind.i64 0),PV.seq 0 [] SK.clip,PV.val (Value.int IntKind.i64 0),PV.val (Value.int IntKind.i64 0),PV.val (Value.bool false),PV.val (Value.int IntKind.i64 0)]
@[simp] theorem Rg : aL o0 := by simp [o0, aL, aQ]
theorem CE(a:Addr)(r:bx)(N:Nat)(g:gq N r)(hN:N≤800000)(hfu:ae r.fuel):∀(H:List Ob),(∀o∈iC a,∃k:Nat,H[k]?=some o)→HC Tryz.prog 8 [kO r] H (AW (nG r)) H:=by
 have kb:KX N (eD r):=⟨g.m.x,g.ip,bQ⟩
 have kt:=Ma g
 have hvt:(bP r).1.r.vm=r.vm:=by rw[(qX r).2]
 have hvo:bX (bP r).1.r.vm:=by rw[hvt];exact DN g.m.v (by omega)
 have gw:dJ N (bP r).1.r.vm:=by rw[hvt];exact g.m
 refine iO (i9 a) tG (rs:=[.cell 2 38,.tmp 3,.tmp 4]) Tryz.func8 rfl rfl rfl (by simp) (by simp) (fun B=>?_)
 refine zu4 ?_
 refine Ws ?_
 refine zu3 ?_
 refine Wi rfl (fun hi1=>?_) (fun hi1=>?_)
 ·have q1:r.fuel<1:=oT hi1
  refine zu4 ?_
  refine zR ?_
  unfold nG;rw[if_pos q1];rfl
 have q1:¬r.fuel<1:=oF hi1
 refine Wj ?_
 refine zu4 ?_
 refine zp5 ?_
 refine zs2 ?_
 refine zu3 ?_
 refine zp5 ?_
 refine co (zs:=cPW a (eD r)) (lO tG rfl) rfl rfl rfl rfl rfl rfl rfl rfl rfl rfl rfl ?_
 refine Wn ?_
 refine nt [(1,.ptr 2 0),(2,.ptr 3 0),(5,.ptr 4 0),(6,i64 (bP r).2)] [.glob 0 (haltV a),.glob 1 etV,.cells (iz r) 38,.cells o0 38,.cells (cPW a (bP r).1) 67] [] ?_ ?_
 ·refine zu3 ?_
  refine Wi rfl (fun hi2=>?_) (fun hi2=>?_)
  ·have q2:¬r.dof=true:=by simpa using hi2
   refine zp3 ?_
   refine zc rfl Tryz.func24 ((iq a (eD r) kb r.ip g.ip) _ _ rfl) ?_
   refine zs1 ?_
   refine zp1 ?_
   refine Wd rfl rfl (ak (lO tG rfl) rfl rfl rfl rfl) ?_
   refine Wd rfl rfl (ct rfl (by kernel_rfl) rfl (by exact oX _ _)) ?_
   refine Wn ?_
   refine Wi rfl (fun hi3=>?_) (fun hi3=>?_)
   ·have q3:fI (be (eD r) r.ip).1.err=true:=hi3
    have hT:=Mu q2 q3
    refine aa rfl ?_
    refine zy5 ?_
    refine z1 ?_
    refine co (zs:=cPW a (bP r).1) (lO tG rfl) rfl rfl rfl rfl rfl rfl rfl (by rw[hT];rfl) rfl rfl rfl ?_
    refine Wn ?_
    exact⟨[],(bu (sub:=by repeat (first|exact bo|refine aX (by first|exact aH rfl|exact aH (congrArg i64 (by rw[hT]))) ?_)))⟩
   have q3:¬fI (be (eD r) r.ip).1.err=true:=by simpa using hi3
   have hT:=Mm q2 q3
   refine Gm (H':=[.glob 0 (haltV a),.glob 1 etV,.cells (iz r) 38,.cells o0 38,.cells (cPW a (bP r).1) 67]) (by rw[hT];rfl) ?_
   refine Wj ?_
   exact⟨[],(bu (sub:=by repeat (first|exact bo|refine aX (by first|exact aH rfl|exact aH (congrArg i64 (by rw[hT]))) ?_)))⟩
  have q2:r.dof=true:=by simpa using hi2
  have hT:=K3 q2
  refine Gm (H':=[.glob 0 (haltV a),.glob 1 etV,.cells (iz r) 38,.cells o0 38,.cells (cPW a (bP r).1) 67]) (by rw[hT];rfl) ?_
  refine Wj ?_
  exact⟨[],(bu (sub:=by repeat (first|exact bo|refine aX (by first|exact aH rfl|exact aH (congrArg i64 (by rw[hT]))) ?_)))⟩
 refine zu4 ?_
 refine nt [(1,.ptr 2 0),(2,.ptr 3 0),(5,.ptr 4 0),(6,i64 (bP r).2),(7,.ptr 5 0)] [.glob 0 (haltV a),.glob 1 etV,.cells (iz r) 38,.cells o0 38,.cells (cPW a (gd r)) 67,.cells (iz (bP r).1.r) 38] [] ?_ ?_
 ·refine zp1 ?_
  refine Wd rfl rfl (ak (lO tG rfl) rfl rfl rfl rfl) ?_
  refine Wd rfl rfl (ct rfl (by kernel_rfl) rfl (by exact oX _ _)) ?_
  refine Wn ?_
  refine Wi rfl (fun hi4=>?_) (fun hi4=>?_)
  ·have q4:fI (bP r).1.err=true:=hi4
   refine aa rfl ?_
   refine z1 ?_
   refine zc rfl Tryz.func25 (PO a (bP r).1 kt.1 (by omega) hvo (bP r).2 kt.2 _ _ rfl (hO 0 1 rfl rfl)) ?_
   refine lA (H':=[.glob 0 (haltV a),.glob 1 etV,.cells (iz r) 38,.cells o0 38,.cells (cPW a (gd r)) 67,.cells (iz (bP r).1.r) 38]) (by rw[IB q4];rfl) ?_
   refine Wn ?_
   exact⟨[],bu⟩
  have q4:¬fI (bP r).1.err=true:=by simpa using hi4
  refine Gm (H':=[.glob 0 (haltV a),.glob 1 etV,.cells (iz r) 38,.cells o0 38,.cells (cPW a (gd r)) 67,.cells (iz (bP r).1.r) 38]) (by rw[LY q4];rfl) ?_
  refine Wj ?_
  exact⟨[],bu⟩
 refine Ws ?_
 refine zp1 ?_
 refine Wd rfl rfl (ak (lO tG rfl) rfl rfl rfl rfl) ?_
 refine Wd rfl rfl (uH rfl (by kernel_rfl) rfl (by exact oX _ _)) ?_
 refine Wn ?_
 refine Wi rfl (fun hi5=>?_) (fun hi5=>?_)
 ·have q5:fI (gd r).err=false:=by simpa using hi5
  refine aa rfl ?_
  refine zy2 ?_
  refine Wd rfl rfl (ak (lO tG rfl) rfl rfl rfl rfl) ?_
  refine Wd rfl rfl (lb (out:=[i64 (bP r).2,vK a (gd r).err]) (lO tG rfl) rfl rfl (by clear q5;generalize (gd r).err=e0;cases e0<;>rfl)) ?_
  refine Wd rfl rfl (vj rfl (by kernel_rfl) rfl) ?_
  refine z1 ?_
  refine co (zs:=iz (gd r).r++[.ifc 71 (.agg [i64 (bP r).2,vK a (gd r).err])]) (lO tG rfl) rfl rfl rfl rfl rfl rfl rfl rfl rfl rfl rfl ?_
  refine Wn ?_
  refine zu1 ?_
  refine Ws ?_
  refine Wl ?_
  refine zp2 ?_
  refine Wd rfl rfl (ct rfl (by kernel_rfl) rfl (by rfl)) ?_
  refine zs1 ?_
  refine Wf rfl (by rfl) ?_
  refine zp2 ?_
  refine Wd rfl rfl (u4 (j:=0) (lO tG rfl) rfl rfl rfl) ?_
  refine zc rfl Tryz.func26 ((Tq a (bP r).2 (gd r).err q5) _) ?_
  refine zs1 ?_
  refine Wi rfl (fun hi7=>?_) (fun hi7=>?_)
  ·have q7:=Nx hi7
   refine zu5 ?_
   refine zR ?_
   unfold nG;rw[if_neg q1,q7];rfl
  obtain⟨c,hc⟩:=Qo q5 hi7
  refine zp2 ?_
  refine Wa 76 rfl ((congrArg (fun z=>PV.ifc 71 (.agg [i64 (bP r).2,z])) (show vK a (gd r).err=.ifc 73 (.agg [i64 c]) by rw[hc];rfl))) ?_
  refine Wd rfl rfl (vj rfl (by kernel_rfl) rfl) ?_
  refine zc rfl Tryz.func27 (Tv (bP r).2 c _ 6 1 rfl rfl) ?_
  refine zs2 ?_
  refine Wf rfl (by rfl) ?_
  refine Wj ?_
  refine Ws ?_
  refine zp3 ?_
  refine zc rfl Tryz.func28 ((xX (bP r).1.r c N gw) _) ?_
  refine zy5 ?_
  refine zs1 ?_
  refine zu1 ?_
  refine Wi rfl (fun hi9=>?_) (fun hi9=>?_)
  ·refine zu4 ?_
   refine zR ?_
   unfold nG;rw[if_neg q1,hc];exact congrArg (fun z=>da (kO (cq (bP r).1.r c).1) (boo false) (i64 z)) (II (oT hi9)).symm
  refine Wj ?_
  refine Ws ?_
  refine V.ai [14,0,16,11,0,0] [0,1,2,3,4,5] mG rfl (by kernel_rfl) ?_
  refine V.gu 5 rfl rfl rfl rfl rfl (fun H2 h2=>ak (lO tG rfl) rfl rfl h2 rfl) ?_
  refine V.z3 ?_
  refine V.gu 6 rfl rfl rfl rfl rfl (fun H2 h2=>ak (lO tG rfl) rfl rfl h2 rfl) ?_
  refine V.lM 3 tG rfl rfl rfl rfl rfl trivial rfl ?_
  iterate 2 refine V.z3 ?_
  refine V.ah ?_
  refine zR ?_
  unfold nG;rw[if_neg q1,hc];dsimp only;rw[Ix (Decidable.of_not_not (oF hi9))];rfl
 have q5:fI (gd r).err=true:=by simpa using hi5
 refine Wj ?_
 refine zu1 ?_
 refine Ws ?_
 refine Wl ?_
 refine zp1 ?_
 refine Wd rfl rfl (ak (lO tG rfl) rfl rfl rfl rfl) ?_
 refine Wd rfl rfl (ct rfl (by kernel_rfl) rfl (by exact oX _ _)) ?_
 refine zs1 ?_
 refine Wt rfl (by omega) ?_
 refine zu5 ?_
 refine zR ?_
 unfold nG;rw[if_neg q1,fC.1 q5];rfl
theorem pp(v:VVm):ab Tryz.prog 33 [eVm v] (eVm (Fr v)):=by
 refine pW tG (rs:=[.cell 2 36]) Tryz.func33 rfl rfl rfl (by simp) (by simp) (fun B=>?_)
 refine zu2 ?_
 refine zu4 ?_
 refine zu2 ?_
 refine zR ?_
 rfl
theorem nY(v:VVm)(xt fuel:Int):ab Tryz.prog 12 [eVm v,i64 xt,i64 fuel] (kO (eX v xt fuel)):=by
 refine pW tG (rs:=[.cell 6 38]) Tryz.func12 rfl rfl rfl (by simp) (by simp) (fun B=>?_)
 refine zu2 ?_
 refine zp1 ?_
 refine zc rfl Tryz.func33 ((pp v) _) ?_
 refine zs4 ?_
 refine zR ?_
 rfl
theorem oh(a:Addr)(r:bx)(N:Nat)(g:gq N r)(hN:N≤800000)(hfu:ae r.fuel):∀(H:List Ob),(∀o∈iC a,∃k:Nat,H[k]?=some o)→HC Tryz.prog 8 [kO r] H (AW (bV r)) H:=by
 rw[←xq r g.m.right.d]
 exact CE a r N g hN hfu
theorem mn{r:bx}{N:Nat}(g:gq N r):gq (N+2) (bV r).1:=by rw[←xq r g.m.right.d];exact Gy g
theorem xM(r:bx)(c:Int):(cq r c).1.fuel=r.fuel:=by unfold cq;split<;>rfl
theorem GO{r:bx}(hd:(r.vm.d.length:Int)≤r.vm.conf.data)(h:¬r.fuel<1):(bV r).1.fuel=W64 (r.fuel-1):=by
 rw[←xq r hd]
 unfold nG
 rw[if_neg h]
 have e1:(bP r).1.r.fuel=W64 (r.fuel-1):=by rw[(qX r).2]
 have e2:(gd r).r.fuel=W64 (r.fuel-1):=by unfold gd;exact bh (by rw[xa,e1]) e1
 cases (gd r).err with
 | ok=>exact e2
 | halt=>exact e2
 | bad c=>show(cq _ c).1.fuel=_;rw[xM,e1]
theorem wo{r:bx}(h:r.fuel<1):bV r=(r,false,-256):=by unfold bV;rw[if_pos h]
theorem O8{n:Int}(h1:1≤n)(h2:n≤300000):W64 (n-1)=n-1:=by
 show IntKind.i64.wrap (n-1)=n-1
 rw[aK];unfold wrap64;omega
def DK(r:VVm×Int×Int):PV:=da (eVm r.1) (i64 r.2.1) (i64 r.2.2)
@[simp] theorem Qw (r : VVm × Int × Int) : aQ (DK r) := by simp [DK]
theorem I8{n:Nat}{r:bx}(h:(bV r).2.1=true∨(bV r).2.2≠0):qB (n+1) r=(Fr (bV r).1.vm,(bV r).1.fuel,(bV r).2.2):=by
 show(if _ then _ else _)=_;rw[if_pos h]
theorem Ea{n:Nat}{r:bx}(h:¬((bV r).2.1=true∨(bV r).2.2≠0)):qB (n+1) r=qB n (bV r).1:=by
 show(if _ then _ else _)=_;rw[if_neg h]
structure ra (R:VVm×Int×Int) (s:Nat×bx):Prop where
 run:qB s.1 s.2=R
 f0:0≤s.2.fuel
 f1:s.2.fuel<(s.1:Int)
 g:gq (700000-2*s.1) s.2
 n:s.1≤300001
theorem ra.fit{R:VVm×Int×Int}{s:Nat×bx}(h:ra R s):ae s.2.fuel:=by have:=h.f0;have:=h.f1;have:=h.n;unfold ae;omega
theorem ra.pos{R:VVm×Int×Int}{s:Nat×bx}(h:ra R s):∃n,s.1=n+1:=⟨s.1-1,by have:=h.f0;have:=h.f1;omega⟩
theorem ra.out{R:VVm×Int×Int}{s:Nat×bx}(h:ra R s)(k:(bV s.2).2.1=true∨(bV s.2).2.2≠0):(Fr (bV s.2).1.vm,(bV s.2).1.fuel,(bV s.2).2.2)=R:=by
 obtain⟨n,hn⟩:=h.pos
 rw[←h.run,hn,I8 k]
theorem ra.next{R:VVm×Int×Int}{s:Nat×bx}(h:ra R s)(k:¬((bV s.2).2.1=true∨(bV s.2).2.2≠0)):ra R (s.1-1,(bV s.2).1)∧s.1-1<s.1:=by
 obtain⟨n,hn⟩:=h.pos
 have hr:=h.run
 have f0:=h.f0
 have f1:=h.f1
 have hN:=h.n
 have hf:¬s.2.fuel<1:=fun q=>k (by rw[wo q];exact .inr (show(-256:Int)≠0 by decide))
 have hw:=GO h.g.m.right.d hf
 rw[O8 (by omega) (by omega)]at hw
 refine⟨⟨?_,?_,?_,?_,?_⟩,by omega⟩
 ·show qB (s.1-1) _=R
  rw[hn,Ea k]at hr
  rw[hn];exact hr
 ·show 0≤(bV s.2).1.fuel;omega
 ·show(bV s.2).1.fuel<((s.1-1:Nat):Int);omega
 ·exact(mn h.g).up (by show _≤700000-2*(s.1-1);omega)
 show s.1-1≤300001;omega
theorem m4{v:VVm}{N:Nat}(g:dJ N v){xt fuel:Int}(hx:ae xt):gq N (eX v xt fuel):=by
 have hc:=g.right.fU
 unfold dV at hc
 have a:=Mt g (r:=[]) (by show(0:Int)≤_;omega) bz
 have b:=L5 a (f:=[]) rfl (Nat.zero_le _) (fun x hx=>by cases hx)
 exact⟨b,by unfold ae;show -9223372036854775808≤(16:Int)∧(16:Int)≤9223372036854775807;omega,hx⟩
def zVm:List PV:=o0.take 23
@[simp] theorem Rt : aL zVm := by simp [zVm, o0, aL, aQ]
theorem rc(a:Addr)(v:VVm)(xt fuel:Int)(N:Nat)(g:dJ N v)(hx:ae xt)(hf:fuel≤300000)(hN:N≤90000):∀(H:List Ob),(∀o∈iC a,∃k:Nat,H[k]?=some o)→HC Tryz.prog 15 [eVm v,i64 xt,i64 fuel] H (DK (nI v xt fuel)) H:=by
 have wm:(if fuel<0 then 0 else fuel)=max fuel 0:=by split<;>omega
 obtain⟨R,hR⟩:∃R,nI v xt fuel=R:=⟨_,rfl⟩
 have h0:ra R ((max fuel 0).toNat.succ,eX v xt (max fuel 0)) :=
  ⟨hR,by show(0:Int)≤max fuel 0;omega,by show max fuel 0<(((max fuel 0).toNat+1:Nat):Int);omega,(m4 g hx).up (by show N≤700000-2*((max fuel 0).toNat+1);omega),by show(max fuel 0).toNat+1≤300001;omega⟩
 rw[hR]
 clear hR
 refine iO (i9 a) tG (rs:=[.cell 6 36,.tmp 7,.tmp 8]) Tryz.func15 rfl rfl rfl (by simp) (by simp) (fun B=>?_)
 refine zu4 ?_
 refine zp4 ?_
 refine Wa 16 rfl (congrArg (fun z=>PV.val (Value.int .i64 z)) wm) ?_
 refine zc rfl Tryz.func12 ((nY v xt (max fuel 0)) _) ?_
 refine zs2 ?_
 refine Wl ?_
 show W _ _ _ _ _ _ _
 refine bG (fun(s:(Nat×bx))=>[(3,.ptr 2 0),(6,.ptr 3 0),(9,.ptr 4 0)]) (fun(s:(Nat×bx))=>[.glob 0 (haltV a),.glob 1 etV,.cells (cVm v) 36,.cells zVm 36,.cells (iz s.2) 38]) (fun(s:(Nat×bx))=>[]) (fun(s:(Nat×bx))=>ra R s) (fun(s:(Nat×bx))=>s.1) (((max fuel 0).toNat.succ,eX v xt (max fuel 0))) (by exact h0) [] ?_ ?_
 ·exact bu
 intro s hs
 refine Wl ?_
 refine zp1 ?_
 refine zc rfl Tryz.func8 (oh a s.2 (700000-2*s.1) hs.g (by omega) hs.fit _ (hO 0 1 rfl rfl)) ?_
 refine zy5 ?_
 refine zs3 ?_
 refine Ws ?_
 refine zp2 ?_
 refine Wb 25 rfl (fun hg1=>?_) (fun hg1=>?_)
 ·have q1:(bV s.2).2.1=true:=hg1
  iterate 2 refine z6 ?_
  refine zs1 ?_
  refine Wt rfl rfl ?_
  refine Ws ?_
  refine V.ai [0,14,0,0,14,0,11,0,0] [0,1,2,3,4,5,6,7,8] mG rfl (by kernel_rfl) ?_
  refine V.z3 ?_
  refine V.gu 5 rfl rfl rfl rfl rfl (fun H2 h2=>ak (lO tG rfl) rfl rfl h2 rfl) ?_
  refine V.Xc rfl rfl rfl rfl (fun _=>dC rfl Tryz.func33 rfl rfl ((pp _) _)) ?_
  refine V.z3 ?_
  refine V.gu 5 rfl rfl rfl rfl rfl (fun H2 h2=>ak (lO tG rfl) rfl rfl h2 rfl) ?_
  refine V.z3 ?_
  refine V.lM 3 tG rfl rfl rfl rfl rfl trivial rfl ?_
  iterate 2 refine V.z3 ?_
  refine V.ah ?_
  refine zR ?_
  rw[←hs.out (.inl q1)];rfl
 have q1:¬(bV s.2).2.1=true:=by simpa using hg1
 refine zs3 ?_
 refine Wi rfl (fun hi1=>?_) (fun hi1=>?_)
 ·have q2:(bV s.2).2.2≠0:=by simpa using hi1
  refine Ws ?_
  refine V.ai [0,14,0,0,14,0,11,0,0] [0,1,2,3,4,5,6,7,8] mG rfl (by kernel_rfl) ?_
  refine V.z3 ?_
  refine V.gu 5 rfl rfl rfl rfl rfl (fun H2 h2=>ak (lO tG rfl) rfl rfl h2 rfl) ?_
  refine V.Xc rfl rfl rfl rfl (fun _=>dC rfl Tryz.func33 rfl rfl ((pp _) _)) ?_
  refine V.z3 ?_
  refine V.gu 5 rfl rfl rfl rfl rfl (fun H2 h2=>ak (lO tG rfl) rfl rfl h2 rfl) ?_
  refine V.z3 ?_
  refine V.lM 3 tG rfl rfl rfl rfl rfl trivial rfl ?_
  iterate 2 refine V.z3 ?_
  refine V.ah ?_
  refine zR ?_
  rw[←hs.out (.inr q2)];rfl
 have q2:¬((bV s.2).2.1=true∨(bV s.2).2.2≠0):=fun q=>q.elim q1 (by simpa using hi1)
 refine Wj ?_
 refine aa rfl ?_
 refine zs2 ?_
 exact⟨(s.1-1,(bV s.2).1),[],(by exact(hs.next q2).1),(by exact(hs.next q2).2),bu⟩
theorem jQ{b:List UInt8}{k n:Nat}{p q:Prop}[Decidable p][Decidable q](hn:EY k=n)(h1:(ln.getD k []=[40,104,97,108,116,41])=p)(h2:(ln.getD k []=[40,99,97,117,103,104,116,41])=q):
  Az b k=if q then sW (if p then sW (sW b (32+8*k) n) 16 (32+8*k)else sW b (32+8*k) n) 24 (32+8*k)else(if p then sW (sW b (32+8*k) n) 16 (32+8*k)else sW b (32+8*k) n):=by
 subst h1 h2 hn
 unfold Az
 simp only
 split<;>split<;>simp_all
theorem TN{k:Nat}(h:k<167):IntKind.i64.wrap (32+IntKind.i64.wrap (8*(k:Int)))=((32+8*k:Nat):Int):=by simp only[aK];unfold wrap64;omega
theorem Tp{k n:Nat}(h:k<167)(hn:n=130)(h3:130≤k):IntKind.i64.wrap (IntKind.i64.wrap (300+(k:Int))-(n:Int))=((170+k:Nat):Int):=by subst hn;simp only[aK];unfold wrap64;omega
theorem TC{k:Nat}(h:k<167):IntKind.i64.wrap (((32+8*k:Nat):Int)+1)=((32+8*k+1:Nat):Int):=by simp only[aK];unfold wrap64;omega
theorem yV(k:Nat){q:SK}:PV.seq (mZ k++[sd k]).length ((mZ k++[sd k]).flatMap c8) q=.seq (mZ (k+1)).length ((mZ (k+1)).flatMap c8) q:=by rw[Fe]
theorem R6{M:Nat}{b:List UInt8}(h:b.length=M):PV.seq M ((b.flatMap av).take M) .any=sq av b:=by rw[qg,List.take_of_length_le (by omega),←h];rfl
def S0(c:jh)(b:List UInt8)(l:List gX):VVm:={conf:=c,mem:=⟨b,[]⟩,here:=1368,d:=[],r:=[],f:=[],dict:=l,last:=0,out:=[],pic:=⟨[],false⟩,req:=[],free:=0,next:=0,arg:=0,self:=0,now:=0,hand:=[]}
theorem IS(c:jh):DV c=S0 c (mb c.mem.toNat 167) (mZ 167):=rfl
theorem MV(c:jh)(hc:dV c):ab Tryz.prog 41 [Da c] (tVm (DV c,0)):=by
 have hM:2048≤c.mem∧c.mem≤65536:=⟨hc.1,hc.2.1⟩
 obtain⟨M,hMe⟩:∃M:Nat,c.mem=M:=⟨c.mem.toNat,by omega⟩
 have hMt:c.mem.toNat=M:=by omega
 have hN:=jq
 have hS:=i5
 have hA:=I9
 have hD:decide (dV c)=true:=decide_eq_true hc
 refine pW tG (rs:=[.cell 2 36,.tmp 3]) Tryz.func41 rfl rfl rfl (by simp) (by simp) (fun B=>?_)
 refine zu3 ?_
 refine zp1 ?_
 refine zc rfl Tryz.func82 ((zZ c) _) ?_
 refine zs1 ?_
 refine Ws ?_
 refine zu2 ?_
 refine Wf rfl (by rw[hD];rfl) ?_
 refine Wj ?_
 refine zp2 ?_
 refine z2 ?_ (q:=(by(simp_all;omega)))
 refine dv 2 rfl (LV rfl) rfl ?_
 refine Wa 18 rfl (show PV.arr 2 0 c.mem.toNat c.mem.toNat=.arr 2 0 M M by rw[hMt]) ?_
 refine dv 2 rfl (show Ob.cells ((List.replicate c.mem.toNat (0:UInt8)).flatMap av) 5=.cells ((List.replicate M (0:UInt8)).flatMap av) 5 by rw[hMt]) rfl ?_
 refine zs1 ?_
 refine zp1 ?_
 refine z2 ?_ (q:=(by omega))
 refine Wd rfl rfl (bH (lO tG rfl) rfl rfl rfl rfl rfl rfl (by rw[Nat.ble_eq,dk];simp;omega)) ?_
 refine dv 2 rfl (congrArg (fun z=>Ob.cells z 5) (cV (x:=10) (n:=0) rfl (by simp;omega))) rfl ?_
 refine z0 ?_
 refine zc rfl Tryz.func69 ((Cz) _) ?_
 refine zc rfl Tryz.func86 ((ja) _) ?_
 refine Wd rfl rfl (aC (lO tG rfl) rfl (lO tG rfl) (lO tG rfl) rfl rfl (by exact⟨_,rfl⟩) (by exact⟨rfl,rfl,ag _ 1 (fun _=>rfl) _,aB _ (fun _=>rfl) _⟩) (by exact ag _ 1 (fun _=>rfl) _) (by(dsimp only;omega)) (by(rw[hN,hS];decide))) ?_
 refine Wa 23 rfl (aM fP) ?_
 refine Wm 23 rfl (jB _ _ _) ?_
 refine zs1 ?_
 refine zp1 ?_
 refine ns 7 0 3 rfl rfl ?_
 refine Wn ?_
 refine Ws ?_
 refine zu1 ?_
 refine Wl ?_
 show W _ _ _ _ _ _ _
 refine bG (fun(k:Nat)=>[(1,.ptr 0 0),(2,.ptr 1 0),(5,.arr 2 0 M M),(6,sq fP ln),(7,.seq (mZ k).length ((mZ k).flatMap c8) (.own 5 3)),(8,i64 k)]) (fun(k:Nat)=>[.cells (wI c) 23,.cells vmZ 36,.cells ((mb M k).flatMap av) 5,.dead,.dead]) (fun(k:Nat)=>[.free ((mZ k).length*3)]) (fun(k:Nat)=>k≤167) (fun(k:Nat)=>167-k) (0) (by omega) [4] ?_ ?_
 ·exact bu
 intro k hk
 refine Ws ?_
 refine zu4 ?_
 refine Wi rfl (fun hi2=>?_) (fun hi2=>?_)
 ·have hlt:k<167:=by have:=oT hi2;rw[hA]at this;omega
  have hB:=um M k
  have hL:=uB k
  have w1:=TN hlt
  have w3:=TC hlt
  refine Wj ?_
  refine Ws ?_
  refine Wl ?_
  refine zp3 ?_
  refine Wa 32 rfl (congrArg (fun z=>PV.val (Value.int .i64 z)) w1) ?_
  refine zs1 ?_
  refine zu2 ?_
  refine Ws ?_
  refine zp1 ?_
  refine zc rfl Tryz.func69 ((jw) _) ?_
  refine zs2 ?_
  refine Wi rfl (fun hi3=>?_) (fun hi3=>?_)
  ·have hk3:130≤k:=by have:=oT hi3;rw[hN]at this;omega
   have w2:=Tp hlt hN hk3
   have hn:EY k=170+k:=by unfold EY;rw[if_pos hk3]
   refine aa rfl ?_
   refine zy2 ?_
   refine zc rfl Tryz.func69 ((jw) _) ?_
   refine zy2 ?_
   refine Wa 42 rfl (congrArg (fun z=>PV.val (Value.int .i64 z)) w2) ?_
   refine zs1 ?_
   refine zp5 ?_
   refine Wa 47 rfl (og _) ?_
   refine z2 ?_ (q:=(by omega))
   refine Wd rfl rfl (bH (lO tG rfl) rfl rfl rfl rfl rfl rfl (by rw[Nat.ble_eq,dk,hB];(try dsimp only);simp;omega)) ?_
   refine dv 2 rfl (congrArg (fun z=>Ob.cells z 5) (cV rfl (by omega))) rfl ?_
   refine Wn ?_
   refine zp3 ?_
   refine Wa 51 rfl (congrArg (fun z=>PV.val (Value.int .i64 z)) w3) ?_
   refine zy3 ?_
   refine Wa 54 rfl (nq _ (by omega)) ?_
   refine z2 ?_ (q:=(by omega))
   refine Wd rfl rfl (bH (lO tG rfl) rfl rfl rfl rfl rfl rfl (by rw[Nat.ble_eq,dk,List.length_set,hB];(try dsimp only);simp;omega)) ?_
   refine dv 2 rfl (congrArg (fun z=>Ob.cells z 5) (cV rfl (by rw[List.length_set];omega))) rfl ?_
   refine Wn ?_
   refine Ws ?_
   refine ai [0,0,0,0,0,0,0,0,0,0,0,0,0,0,3,0] [0,1,2,3,4,5,6,7,8,9,10,11,12,13,14,15] mG rfl (by kernel_rfl) ?_
   iterate 3 refine z3 ?_
   refine Xi tG rfl rfl rfl rfl (fun _=>rfl) (by omega) (iN fP 1 (fun _=>rfl) [] (by omega)) ?_
   iterate 4 refine z3 ?_
   refine Xi tG rfl rfl rfl rfl (fun _=>rfl) (by omega) (iN fP 1 (fun _=>rfl) [] (by omega)) ?_
   iterate 2 refine z3 ?_
   refine Xc rfl rfl rfl rfl (fun _=>dC rfl Tryz.func87 rfl rfl ((v6 _ k) _)) ?_
   iterate 2 refine z3 ?_
   refine Xa 69 rfl ((show PV.seq 1 _ .clip=.seq (List.length [sd k]) (List.flatMap c8 [sd k]) .clip from rfl)) ?_
   refine ej rfl rfl rfl rfl (aF (lO tG rfl) rfl (lO tG rfl) (lO tG rfl) rfl rfl rfl rfl (by simp) (by exact⟨_,rfl⟩) (by exact⟨rfl,rfl,ag _ 3 (fun _=>rfl) _,aB _ (fun _=>rfl) _⟩) (by(rw[hL];dsimp only;simp;omega)) (by(simp;omega))) ?_
   refine Xa 70 rfl (aM c8) ?_
   refine z3 ?_
   skip
   refine ah ?_
   refine Ws ?_
   refine zp2 ?_
   refine Wv tG rfl rfl rfl (by omega) (iN fP 1 (fun _=>rfl) [] (by omega)) ?_
   refine zy2 ?_
   refine zq 75 ?_
   refine Wn ?_
   refine Wi rfl (fun hi4=>?_) (fun hi4=>?_)
   ·have h1:(ln.getD k []=[40,104,97,108,116,41])=True:=eq_true (oT hi4)
    refine zp4 ?_
    refine Wa 79 rfl (og _) ?_
    refine z2 ?_ (q:=(by omega))
    refine Wd rfl rfl (bH (lO tG rfl) rfl rfl rfl rfl rfl rfl (by rw[Nat.ble_eq,dk];simp only[List.length_set,hB];(try dsimp only);simp;omega)) ?_
    refine dv 2 rfl (congrArg (fun z=>Ob.cells z 5) (cV rfl (by simp only[List.length_set];omega))) rfl ?_
    refine Wn ?_
    refine aa rfl ?_
    refine zy4 ?_
    refine Wa 84 rfl (nq _ (by omega)) ?_
    refine z2 ?_ (q:=(by omega))
    refine Wd rfl rfl (bH (lO tG rfl) rfl rfl rfl rfl rfl rfl (by rw[Nat.ble_eq,dk];simp only[List.length_set,hB];(try dsimp only);simp;omega)) ?_
    refine dv 2 rfl (congrArg (fun z=>Ob.cells z 5) (cV rfl (by simp only[List.length_set];omega))) rfl ?_
    refine Wn ?_
    refine zp2 ?_
    refine Wv tG rfl rfl rfl (by omega) (iN fP 1 (fun _=>rfl) [] (by omega)) ?_
    refine zy2 ?_
    refine zq 90 ?_
    refine Wn ?_
    refine Wi rfl (fun hi5=>?_) (fun hi5=>?_)
    ·have h2:(ln.getD k []=[40,99,97,117,103,104,116,41])=True:=eq_true (oT hi5)
     refine zp4 ?_
     refine Wa 94 rfl (og _) ?_
     refine z2 ?_ (q:=(by omega))
     refine Wd rfl rfl (bH (lO tG rfl) rfl rfl rfl rfl rfl rfl (by rw[Nat.ble_eq,dk];simp only[List.length_set,hB];(try dsimp only);simp;omega)) ?_
     refine dv 2 rfl (congrArg (fun z=>Ob.cells z 5) (cV rfl (by simp only[List.length_set];omega))) rfl ?_
     refine Wn ?_
     refine aa rfl ?_
     refine zy4 ?_
     refine Wa 99 rfl (nq _ (by omega)) ?_
     refine z2 ?_ (q:=(by omega))
     refine Wd rfl rfl (bH (lO tG rfl) rfl rfl rfl rfl rfl rfl (by rw[Nat.ble_eq,dk];simp only[List.length_set,hB];(try dsimp only);simp;omega)) ?_
     refine dv 2 rfl (congrArg (fun z=>Ob.cells z 5) (cV rfl (by simp only[List.length_set];omega))) rfl ?_
     refine Wn ?_
     refine aa rfl ?_
     refine z1 ?_
     refine dv 2 rfl (congrArg (fun z=>Ob.cells (List.flatMap av z) 5) (show _=mb M (k+1) from(jQ hn h1 h2).symm)) rfl ?_
     refine zs2 ?_
     exact⟨k+1,[6],(by omega),(by omega),(bu (sub:=by repeat (first|exact bo|refine aX (by first|exact aH rfl|exact aH (yV k)|exact aH (congrArg i64 (by(rw[aK];unfold wrap64;omega)))) ?_)))⟩
    have h2:(ln.getD k []=[40,99,97,117,103,104,116,41])=False:=eq_false (oF hi5)
    refine Wj ?_
    refine aa rfl ?_
    refine z1 ?_
    refine dv 2 rfl (congrArg (fun z=>Ob.cells (List.flatMap av z) 5) (show _=mb M (k+1) from(jQ hn h1 h2).symm)) rfl ?_
    refine zs2 ?_
    exact⟨k+1,[6],(by omega),(by omega),(bu (sub:=by repeat (first|exact bo|refine aX (by first|exact aH rfl|exact aH (yV k)|exact aH (congrArg i64 (by(rw[aK];unfold wrap64;omega)))) ?_)))⟩
   have h1:(ln.getD k []=[40,104,97,108,116,41])=False:=eq_false (oF hi4)
   refine Wj ?_
   refine zp2 ?_
   refine Wv tG rfl rfl rfl (by omega) (iN fP 1 (fun _=>rfl) [] (by omega)) ?_
   refine zy2 ?_
   refine zq 90 ?_
   refine Wn ?_
   refine Wi rfl (fun hi5=>?_) (fun hi5=>?_)
   ·have h2:(ln.getD k []=[40,99,97,117,103,104,116,41])=True:=eq_true (oT hi5)
    refine zp4 ?_
    refine Wa 94 rfl (og _) ?_
    refine z2 ?_ (q:=(by omega))
    refine Wd rfl rfl (bH (lO tG rfl) rfl rfl rfl rfl rfl rfl (by rw[Nat.ble_eq,dk];simp only[List.length_set,hB];(try dsimp only);simp;omega)) ?_
    refine dv 2 rfl (congrArg (fun z=>Ob.cells z 5) (cV rfl (by simp only[List.length_set];omega))) rfl ?_
    refine Wn ?_
    refine aa rfl ?_
    refine zy4 ?_
    refine Wa 99 rfl (nq _ (by omega)) ?_
    refine z2 ?_ (q:=(by omega))
    refine Wd rfl rfl (bH (lO tG rfl) rfl rfl rfl rfl rfl rfl (by rw[Nat.ble_eq,dk];simp only[List.length_set,hB];(try dsimp only);simp;omega)) ?_
    refine dv 2 rfl (congrArg (fun z=>Ob.cells z 5) (cV rfl (by simp only[List.length_set];omega))) rfl ?_
    refine Wn ?_
    refine aa rfl ?_
    refine z1 ?_
    refine dv 2 rfl (congrArg (fun z=>Ob.cells (List.flatMap av z) 5) (show _=mb M (k+1) from(jQ hn h1 h2).symm)) rfl ?_
    refine zs2 ?_
    exact⟨k+1,[6],(by omega),(by omega),(bu (sub:=by repeat (first|exact bo|refine aX (by first|exact aH rfl|exact aH (yV k)|exact aH (congrArg i64 (by(rw[aK];unfold wrap64;omega)))) ?_)))⟩
   have h2:(ln.getD k []=[40,99,97,117,103,104,116,41])=False:=eq_false (oF hi5)
   refine Wj ?_
   refine aa rfl ?_
   refine z1 ?_
   refine dv 2 rfl (congrArg (fun z=>Ob.cells (List.flatMap av z) 5) (show _=mb M (k+1) from(jQ hn h1 h2).symm)) rfl ?_
   refine zs2 ?_
   exact⟨k+1,[6],(by omega),(by omega),(bu (sub:=by repeat (first|exact bo|refine aX (by first|exact aH rfl|exact aH (yV k)|exact aH (congrArg i64 (by(rw[aK];unfold wrap64;omega)))) ?_)))⟩
  have hn:EY k=k:=by have:=oF hi3;rw[hN]at this;unfold EY;rw[if_neg (by omega)]
  refine Wj ?_
  refine zp5 ?_
  refine Wa 47 rfl (og _) ?_
  refine z2 ?_ (q:=(by omega))
  refine Wd rfl rfl (bH (lO tG rfl) rfl rfl rfl rfl rfl rfl (by rw[Nat.ble_eq,dk,hB];(try dsimp only);simp;omega)) ?_
  refine dv 2 rfl (congrArg (fun z=>Ob.cells z 5) (cV rfl (by omega))) rfl ?_
  refine Wn ?_
  refine zp3 ?_
  refine Wa 51 rfl (congrArg (fun z=>PV.val (Value.int .i64 z)) w3) ?_
  refine zy3 ?_
  refine Wa 54 rfl (nq _ (by omega)) ?_
  refine z2 ?_ (q:=(by omega))
  refine Wd rfl rfl (bH (lO tG rfl) rfl rfl rfl rfl rfl rfl (by rw[Nat.ble_eq,dk,List.length_set,hB];(try dsimp only);simp;omega)) ?_
  refine dv 2 rfl (congrArg (fun z=>Ob.cells z 5) (cV rfl (by rw[List.length_set];omega))) rfl ?_
  refine Wn ?_
  refine Ws ?_
  refine ai [0,0,0,0,0,0,0,0,0,0,0,0,0,0,3,0] [0,1,2,3,4,5,6,7,8,9,10,11,12,13,14,15] mG rfl (by kernel_rfl) ?_
  iterate 3 refine z3 ?_
  refine Xi tG rfl rfl rfl rfl (fun _=>rfl) (by omega) (iN fP 1 (fun _=>rfl) [] (by omega)) ?_
  iterate 4 refine z3 ?_
  refine Xi tG rfl rfl rfl rfl (fun _=>rfl) (by omega) (iN fP 1 (fun _=>rfl) [] (by omega)) ?_
  iterate 2 refine z3 ?_
  refine Xc rfl rfl rfl rfl (fun _=>dC rfl Tryz.func87 rfl rfl ((v6 _ k) _)) ?_
  iterate 2 refine z3 ?_
  refine Xa 69 rfl ((show PV.seq 1 _ .clip=.seq (List.length [sd k]) (List.flatMap c8 [sd k]) .clip from rfl)) ?_
  refine ej rfl rfl rfl rfl (aF (lO tG rfl) rfl (lO tG rfl) (lO tG rfl) rfl rfl rfl rfl (by simp) (by exact⟨_,rfl⟩) (by exact⟨rfl,rfl,ag _ 3 (fun _=>rfl) _,aB _ (fun _=>rfl) _⟩) (by(rw[hL];dsimp only;simp;omega)) (by(simp;omega))) ?_
  refine Xa 70 rfl (aM c8) ?_
  refine z3 ?_
  skip
  refine ah ?_
  refine Ws ?_
  refine zp2 ?_
  refine Wv tG rfl rfl rfl (by omega) (iN fP 1 (fun _=>rfl) [] (by omega)) ?_
  refine zy2 ?_
  refine zq 75 ?_
  refine Wn ?_
  refine Wi rfl (fun hi4=>?_) (fun hi4=>?_)
  ·have h1:(ln.getD k []=[40,104,97,108,116,41])=True:=eq_true (oT hi4)
   refine zp4 ?_
   refine Wa 79 rfl (og _) ?_
   refine z2 ?_ (q:=(by omega))
   refine Wd rfl rfl (bH (lO tG rfl) rfl rfl rfl rfl rfl rfl (by rw[Nat.ble_eq,dk];simp only[List.length_set,hB];(try dsimp only);simp;omega)) ?_
   refine dv 2 rfl (congrArg (fun z=>Ob.cells z 5) (cV rfl (by simp only[List.length_set];omega))) rfl ?_
   refine Wn ?_
   refine aa rfl ?_
   refine zy4 ?_
   refine Wa 84 rfl (nq _ (by omega)) ?_
   refine z2 ?_ (q:=(by omega))
   refine Wd rfl rfl (bH (lO tG rfl) rfl rfl rfl rfl rfl rfl (by rw[Nat.ble_eq,dk];simp only[List.length_set,hB];(try dsimp only);simp;omega)) ?_
   refine dv 2 rfl (congrArg (fun z=>Ob.cells z 5) (cV rfl (by simp only[List.length_set];omega))) rfl ?_
   refine Wn ?_
   refine zp2 ?_
   refine Wv tG rfl rfl rfl (by omega) (iN fP 1 (fun _=>rfl) [] (by omega)) ?_
   refine zy2 ?_
   refine zq 90 ?_
   refine Wn ?_
   refine Wi rfl (fun hi5=>?_) (fun hi5=>?_)
   ·have h2:(ln.getD k []=[40,99,97,117,103,104,116,41])=True:=eq_true (oT hi5)
    refine zp4 ?_
    refine Wa 94 rfl (og _) ?_
    refine z2 ?_ (q:=(by omega))
    refine Wd rfl rfl (bH (lO tG rfl) rfl rfl rfl rfl rfl rfl (by rw[Nat.ble_eq,dk];simp only[List.length_set,hB];(try dsimp only);simp;omega)) ?_
    refine dv 2 rfl (congrArg (fun z=>Ob.cells z 5) (cV rfl (by simp only[List.length_set];omega))) rfl ?_
    refine Wn ?_
    refine aa rfl ?_
    refine zy4 ?_
    refine Wa 99 rfl (nq _ (by omega)) ?_
    refine z2 ?_ (q:=(by omega))
    refine Wd rfl rfl (bH (lO tG rfl) rfl rfl rfl rfl rfl rfl (by rw[Nat.ble_eq,dk];simp only[List.length_set,hB];(try dsimp only);simp;omega)) ?_
    refine dv 2 rfl (congrArg (fun z=>Ob.cells z 5) (cV rfl (by simp only[List.length_set];omega))) rfl ?_
    refine Wn ?_
    refine aa rfl ?_
    refine z1 ?_
    refine dv 2 rfl (congrArg (fun z=>Ob.cells (List.flatMap av z) 5) (show _=mb M (k+1) from(jQ hn h1 h2).symm)) rfl ?_
    refine zs2 ?_
    exact⟨k+1,[6],(by omega),(by omega),(bu (sub:=by repeat (first|exact bo|refine aX (by first|exact aH rfl|exact aH (yV k)|exact aH (congrArg i64 (by(rw[aK];unfold wrap64;omega)))) ?_)))⟩
   have h2:(ln.getD k []=[40,99,97,117,103,104,116,41])=False:=eq_false (oF hi5)
   refine Wj ?_
   refine aa rfl ?_
   refine z1 ?_
   refine dv 2 rfl (congrArg (fun z=>Ob.cells (List.flatMap av z) 5) (show _=mb M (k+1) from(jQ hn h1 h2).symm)) rfl ?_
   refine zs2 ?_
   exact⟨k+1,[6],(by omega),(by omega),(bu (sub:=by repeat (first|exact bo|refine aX (by first|exact aH rfl|exact aH (yV k)|exact aH (congrArg i64 (by(rw[aK];unfold wrap64;omega)))) ?_)))⟩
  have h1:(ln.getD k []=[40,104,97,108,116,41])=False:=eq_false (oF hi4)
  refine Wj ?_
  refine zp2 ?_
  refine Wv tG rfl rfl rfl (by omega) (iN fP 1 (fun _=>rfl) [] (by omega)) ?_
  refine zy2 ?_
  refine zq 90 ?_
  refine Wn ?_
  refine Wi rfl (fun hi5=>?_) (fun hi5=>?_)
  ·have h2:(ln.getD k []=[40,99,97,117,103,104,116,41])=True:=eq_true (oT hi5)
   refine zp4 ?_
   refine Wa 94 rfl (og _) ?_
   refine z2 ?_ (q:=(by omega))
   refine Wd rfl rfl (bH (lO tG rfl) rfl rfl rfl rfl rfl rfl (by rw[Nat.ble_eq,dk];simp only[List.length_set,hB];(try dsimp only);simp;omega)) ?_
   refine dv 2 rfl (congrArg (fun z=>Ob.cells z 5) (cV rfl (by simp only[List.length_set];omega))) rfl ?_
   refine Wn ?_
   refine aa rfl ?_
   refine zy4 ?_
   refine Wa 99 rfl (nq _ (by omega)) ?_
   refine z2 ?_ (q:=(by omega))
   refine Wd rfl rfl (bH (lO tG rfl) rfl rfl rfl rfl rfl rfl (by rw[Nat.ble_eq,dk];simp only[List.length_set,hB];(try dsimp only);simp;omega)) ?_
   refine dv 2 rfl (congrArg (fun z=>Ob.cells z 5) (cV rfl (by simp only[List.length_set];omega))) rfl ?_
   refine Wn ?_
   refine aa rfl ?_
   refine z1 ?_
   refine dv 2 rfl (congrArg (fun z=>Ob.cells (List.flatMap av z) 5) (show _=mb M (k+1) from(jQ hn h1 h2).symm)) rfl ?_
   refine zs2 ?_
   exact⟨k+1,[6],(by omega),(by omega),(bu (sub:=by repeat (first|exact bo|refine aX (by first|exact aH rfl|exact aH (yV k)|exact aH (congrArg i64 (by(rw[aK];unfold wrap64;omega)))) ?_)))⟩
  have h2:(ln.getD k []=[40,99,97,117,103,104,116,41])=False:=eq_false (oF hi5)
  refine Wj ?_
  refine aa rfl ?_
  refine z1 ?_
  refine dv 2 rfl (congrArg (fun z=>Ob.cells (List.flatMap av z) 5) (show _=mb M (k+1) from(jQ hn h1 h2).symm)) rfl ?_
  refine zs2 ?_
  exact⟨k+1,[6],(by omega),(by omega),(bu (sub:=by repeat (first|exact bo|refine aX (by first|exact aH rfl|exact aH (yV k)|exact aH (congrArg i64 (by(rw[aK];unfold wrap64;omega)))) ?_)))⟩
 have hge:k=167:=by have:=oF hi2;rw[hA]at this;omega
 have hB:=um M k
 have eN:tVm (DV c,0)=tVm (S0 c (mb M k) (mZ k),0):=by rw[hge,IS,hMt]
 generalize mb M k=b0 at hB eN ⊢
 generalize mZ k=l0 at eN ⊢
 refine aN ?_
 refine zp2 ?_
 refine Wm 102 rfl (jM (Nat.le_refl _)) ?_
 refine kf 102 2 _ M rfl rfl (by rw[dk,hB];exact Nat.le_refl _) ?_
 refine Wa 102 rfl (show _=sq av b0 from R6 hB) ?_
 refine zs5 ?_
 refine zR ?_
 rw[eN];rfl
theorem Qz(a b:VVm):decide (a=b)=(decide (a.conf=b.conf∧a.mem=b.mem∧a.here=b.here∧a.d=b.d∧a.r=b.r∧a.f=b.f)&&(decide (a.dict=b.dict∧a.last=b.last∧a.out=b.out∧a.pic=b.pic)&&(decide (a.req=b.req∧a.free=b.free∧a.next=b.next)&&decide (a.arg=b.arg∧a.self=b.self∧a.now=b.now∧a.hand=b.hand)))):=by
 rw[Bool.eq_iff_iff]
 simp only[decide_eq_true_eq,Bool.and_eq_true]
 constructor
 ·rintro rfl;simp
 rintro⟨⟨a1,a2,a3,a4,a5,a6⟩,⟨a7,a8,a9,a10⟩,⟨a11,a12,a13⟩,a14,a15,a16,a17⟩
 exact JD a1 a2 a3 a4 a5 a6 a7 a8 a9 a10 a11 a12 a13 a14 a15 a16 a17
theorem LF(a b:VVm)(ha:VSm a)(hb:VSm b):ab Tryz.prog 32 [eVm a,eVm b] (boo (decide (a=b))):=by
 rw[Qz]
 obtain⟨b5,h5⟩:∃q,decide (a.conf=b.conf∧a.mem=b.mem∧a.here=b.here∧a.d=b.d∧a.r=b.r∧a.f=b.f)=q:=⟨_,rfl⟩
 obtain⟨b6,h6⟩:∃q,decide (a.dict=b.dict∧a.last=b.last∧a.out=b.out∧a.pic=b.pic)=q:=⟨_,rfl⟩
 obtain⟨b7,h7⟩:∃q,decide (a.req=b.req∧a.free=b.free∧a.next=b.next)=q:=⟨_,rfl⟩
 obtain⟨b8,h8⟩:∃q,decide (a.arg=b.arg∧a.self=b.self∧a.now=b.now∧a.hand=b.hand)=q:=⟨_,rfl⟩
 rw[h5,h6,h7,h8]
 refine pW tG (rs:=[.tmp 4]) Tryz.func32 rfl rfl rfl (by simp) (by simp) (fun B=>?_)
 refine zu3 ?_
 refine nt [(2,.ptr 0 0),(3,.ptr 1 0),(5,boo b5)] [.cells (cVm a) 36,.cells (cVm b) 36] [] ?_ ?_
 ·refine aa rfl ?_
  refine zy4 ?_
  refine Wd rfl rfl (s4 rfl rfl rfl rfl rfl (by kernel_rfl)) ?_
  refine z1 ?_
  refine Wb 13 rfl (fun hg1=>?_) (fun hg1=>?_)
  ·have q1:a.conf=b.conf:=Dw hg1
   refine zy4 ?_
   refine zc rfl Tryz.func74 ((HK a.mem b.mem ha.old hb.old) _) ?_
   refine zy2 ?_
   refine Wb 20 rfl (fun hg2=>?_) (fun hg2=>?_)
   ·refine zy5 ?_
    refine zy2 ?_
    refine Wb 27 rfl (fun hg3=>?_) (fun hg3=>?_)
    ·refine zy4 ?_
     refine zc rfl Tryz.func75 ((C9 a.d b.d ha.d hb.d) _) ?_
     refine zy2 ?_
     refine Wb 34 rfl (fun hg4=>?_) (fun hg4=>?_)
     ·refine zy4 ?_
      refine zc rfl Tryz.func75 ((C9 a.r b.r ha.r hb.r) _) ?_
      refine zy2 ?_
      refine Wb 41 rfl (fun hg5=>?_) (fun hg5=>?_)
      ·refine zy4 ?_
       refine zc rfl Tryz.func76 ((FM a.f b.f ha.f hb.f) _) ?_
       refine zs2 ?_
       exact⟨[],(bu (sub:=by repeat (first|exact bo|refine aX (by first|exact aH rfl|exact aH (congrArg boo (by rw[←h5];clear h5 h6 h7 h8;simp_all<;>rfl))) ?_)))⟩
      refine z6 ?_
      iterate 4 refine z6 ?_
      refine zs2 ?_
      exact⟨[],(bu (sub:=by repeat (first|exact bo|refine aX (by first|exact aH rfl|exact aH (congrArg boo (by rw[←h5];clear h5 h6 h7 h8;simp_all<;>rfl))) ?_)))⟩
     refine z6 ?_
     iterate 4 refine z6 ?_
     refine zy2 ?_
     iterate 5 refine z6 ?_
     refine zs2 ?_
     exact⟨[],(bu (sub:=by repeat (first|exact bo|refine aX (by first|exact aH rfl|exact aH (congrArg boo (by rw[←h5];clear h5 h6 h7 h8;simp_all<;>rfl))) ?_)))⟩
    refine z6 ?_
    iterate 4 refine z6 ?_
    refine zy2 ?_
    iterate 5 refine z6 ?_
    refine zy2 ?_
    iterate 5 refine z6 ?_
    refine zs2 ?_
    exact⟨[],(bu (sub:=by repeat (first|exact bo|refine aX (by first|exact aH rfl|exact aH (congrArg boo (by rw[←h5];clear h5 h6 h7 h8;simp_all<;>rfl))) ?_)))⟩
   refine z6 ?_
   iterate 4 refine z6 ?_
   refine zy2 ?_
   iterate 5 refine z6 ?_
   refine zy2 ?_
   iterate 5 refine z6 ?_
   refine zy2 ?_
   iterate 5 refine z6 ?_
   refine zs2 ?_
   exact⟨[],(bu (sub:=by repeat (first|exact bo|refine aX (by first|exact aH rfl|exact aH (congrArg boo (by rw[←h5];clear h5 h6 h7 h8;simp_all<;>rfl))) ?_)))⟩
  have q1:¬a.conf=b.conf:=fun h=>by rw[h]at hg1;exact absurd ((xd _).symm.trans hg1) (by simp)
  iterate 5 refine z6 ?_
  refine zy2 ?_
  iterate 5 refine z6 ?_
  refine zy2 ?_
  iterate 5 refine z6 ?_
  refine zy2 ?_
  iterate 5 refine z6 ?_
  refine zy2 ?_
  iterate 5 refine z6 ?_
  refine zs2 ?_
  exact⟨[],(bu (sub:=by repeat (first|exact bo|refine aX (by first|exact aH rfl|exact aH (congrArg boo (by rw[←h5];clear h5 h6 h7 h8;simp_all<;>rfl))) ?_)))⟩
 refine nt [(2,.ptr 0 0),(3,.ptr 1 0),(5,boo b5),(6,boo b6)] [.cells (cVm a) 36,.cells (cVm b) 36] [] ?_ ?_
 ·refine aa rfl ?_
  refine zy4 ?_
  refine zc rfl Tryz.func77 ((Fd a.dict b.dict ha.dict hb.dict) _) ?_
  refine z1 ?_
  refine Wb 53 rfl (fun hg6=>?_) (fun hg6=>?_)
  ·refine zy5 ?_
   refine zy2 ?_
   refine Wb 60 rfl (fun hg7=>?_) (fun hg7=>?_)
   ·refine zy4 ?_
    refine zc rfl Tryz.func78 ((qJ a.out b.out) _) ?_
    refine zy2 ?_
    refine Wb 67 rfl (fun hg8=>?_) (fun hg8=>?_)
    ·refine zy4 ?_
     refine zc rfl Tryz.func79 ((Ll a.pic b.pic) _) ?_
     refine zs2 ?_
     exact⟨[],(bu (sub:=by repeat (first|exact bo|refine aX (by first|exact aH rfl|exact aH (congrArg boo (by rw[←h6];clear h5 h6 h7 h8;simp_all<;>rfl))) ?_)))⟩
    refine z6 ?_
    iterate 4 refine z6 ?_
    refine zs2 ?_
    exact⟨[],(bu (sub:=by repeat (first|exact bo|refine aX (by first|exact aH rfl|exact aH (congrArg boo (by rw[←h6];clear h5 h6 h7 h8;simp_all<;>rfl))) ?_)))⟩
   refine z6 ?_
   iterate 4 refine z6 ?_
   refine zy2 ?_
   iterate 5 refine z6 ?_
   refine zs2 ?_
   exact⟨[],(bu (sub:=by repeat (first|exact bo|refine aX (by first|exact aH rfl|exact aH (congrArg boo (by rw[←h6];clear h5 h6 h7 h8;simp_all<;>rfl))) ?_)))⟩
  refine z6 ?_
  iterate 4 refine z6 ?_
  refine zy2 ?_
  iterate 5 refine z6 ?_
  refine zy2 ?_
  iterate 5 refine z6 ?_
  refine zs2 ?_
  exact⟨[],(bu (sub:=by repeat (first|exact bo|refine aX (by first|exact aH rfl|exact aH (congrArg boo (by rw[←h6];clear h5 h6 h7 h8;simp_all<;>rfl))) ?_)))⟩
 refine nt [(2,.ptr 0 0),(3,.ptr 1 0),(5,boo b5),(6,boo b6),(7,boo b7)] [.cells (cVm a) 36,.cells (cVm b) 36] [] ?_ ?_
 ·refine aa rfl ?_
  refine zy4 ?_
  refine zc rfl Tryz.func80 ((Lr a.req b.req ha.req hb.req) _) ?_
  refine z1 ?_
  refine Wb 79 rfl (fun hg9=>?_) (fun hg9=>?_)
  ·refine zy5 ?_
   refine zy2 ?_
   refine Wb 86 rfl (fun hg10=>?_) (fun hg10=>?_)
   ·refine zy5 ?_
    refine zs2 ?_
    exact⟨[],(bu (sub:=by repeat (first|exact bo|refine aX (by first|exact aH rfl|exact aH (congrArg boo (by rw[←h7];clear h5 h6 h7 h8;simp_all<;>rfl))) ?_)))⟩
   refine z6 ?_
   iterate 4 refine z6 ?_
   refine zs2 ?_
   exact⟨[],(bu (sub:=by repeat (first|exact bo|refine aX (by first|exact aH rfl|exact aH (congrArg boo (by rw[←h7];clear h5 h6 h7 h8;simp_all<;>rfl))) ?_)))⟩
  refine z6 ?_
  iterate 4 refine z6 ?_
  refine zy2 ?_
  iterate 5 refine z6 ?_
  refine zs2 ?_
  exact⟨[],(bu (sub:=by repeat (first|exact bo|refine aX (by first|exact aH rfl|exact aH (congrArg boo (by rw[←h7];clear h5 h6 h7 h8;simp_all<;>rfl))) ?_)))⟩
 refine zp2 ?_
 refine Wb 94 rfl (fun hg11=>?_) (fun hg11=>?_)
 ·refine zy3 ?_
  refine Wb 97 rfl (fun hg12=>?_) (fun hg12=>?_)
  ·refine zy3 ?_
   refine Wb 100 rfl (fun hg13=>?_) (fun hg13=>?_)
   ·refine zy5 ?_
    refine zy2 ?_
    refine Wb 107 rfl (fun hg14=>?_) (fun hg14=>?_)
    ·refine zy5 ?_
     refine zy2 ?_
     refine Wb 114 rfl (fun hg15=>?_) (fun hg15=>?_)
     ·refine zy5 ?_
      refine zy2 ?_
      refine Wb 121 rfl (fun hg16=>?_) (fun hg16=>?_)
      ·refine zy4 ?_
       refine zc rfl Tryz.func81 ((Kk a.hand b.hand ha.hand hb.hand) _) ?_
       refine zs2 ?_
       refine zR ?_
       exact congrArg boo (by rw[←h8];clear h5 h6 h7 h8;simp_all<;>rfl)
      refine z6 ?_
      iterate 4 refine z6 ?_
      refine zs2 ?_
      refine zR ?_
      exact congrArg boo (by rw[←h8];clear h5 h6 h7 h8;simp_all<;>rfl)
     refine z6 ?_
     iterate 4 refine z6 ?_
     refine zy2 ?_
     iterate 5 refine z6 ?_
     refine zs2 ?_
     refine zR ?_
     exact congrArg boo (by rw[←h8];clear h5 h6 h7 h8;simp_all<;>rfl)
    refine z6 ?_
    iterate 4 refine z6 ?_
    refine zy2 ?_
    iterate 5 refine z6 ?_
    refine zy2 ?_
    iterate 5 refine z6 ?_
    refine zs2 ?_
    refine zR ?_
    exact congrArg boo (by rw[←h8];clear h5 h6 h7 h8;simp_all<;>rfl)
   refine z6 ?_
   iterate 4 refine z6 ?_
   refine zy2 ?_
   iterate 5 refine z6 ?_
   refine zy2 ?_
   iterate 5 refine z6 ?_
   refine zy2 ?_
   iterate 5 refine z6 ?_
   refine zs2 ?_
   refine zR ?_
   exact congrArg boo (by rw[←h8];clear h5 h6 h7 h8;simp_all<;>rfl)
  refine z6 ?_
  refine zy2 ?_
  iterate 5 refine z6 ?_
  refine zy2 ?_
  iterate 5 refine z6 ?_
  refine zy2 ?_
  iterate 5 refine z6 ?_
  refine zy2 ?_
  iterate 5 refine z6 ?_
  refine zs2 ?_
  refine zR ?_
  exact congrArg boo (by rw[←h8];clear h5 h6 h7 h8;simp_all<;>rfl)
 refine z6 ?_
 refine zy2 ?_
 refine z6 ?_
 refine zy2 ?_
 iterate 5 refine z6 ?_
 refine zy2 ?_
 iterate 5 refine z6 ?_
 refine zy2 ?_
 iterate 5 refine z6 ?_
 refine zy2 ?_
 iterate 5 refine z6 ?_
 refine zs2 ?_
 refine zR ?_
 exact congrArg boo (by rw[←h8];clear h5 h6 h7 h8;simp_all<;>rfl)
theorem DD(a b:bx):decide (a=b)=(decide (a.vm=b.vm)&&(decide (a.ip=b.ip)&&(decide (a.w=b.w)&&(decide (a.dof=b.dof)&&decide (a.fuel=b.fuel))))):=by
 rw[Bool.eq_iff_iff]
 simp only[decide_eq_true_eq,Bool.and_eq_true]
 constructor
 ·rintro rfl;simp
 rintro⟨a1,a2,a3,a4,a5⟩;cases a;cases b;simp_all
theorem pq(a b:bx)(ha:VSm a.vm)(hb:VSm b.vm):ab Tryz.prog 11 [kO a,kO b] (boo (decide (a=b))):=by
 rw[DD]
 refine pW tG (rs:=[.tmp 4]) Tryz.func11 rfl rfl rfl (by simp) (by simp) (fun B=>?_)
 refine zu3 ?_
 refine zp4 ?_
 refine zc rfl Tryz.func32 ((LF a.vm b.vm ha hb) _) ?_
 refine z1 ?_
 refine Wb 10 rfl (fun hg1=>?_) (fun hg1=>?_)
 ·refine zy5 ?_
  refine zy2 ?_
  refine Wb 17 rfl (fun hg2=>?_) (fun hg2=>?_)
  ·refine zy5 ?_
   refine zy2 ?_
   refine Wb 24 rfl (fun hg3=>?_) (fun hg3=>?_)
   ·refine zy5 ?_
    refine zy2 ?_
    refine Wb 31 rfl (fun hg4=>?_) (fun hg4=>?_)
    ·refine zy5 ?_
     refine zs2 ?_
     refine zR ?_
     exact congrArg boo (by simp_all<;>rfl)
    refine z6 ?_
    iterate 4 refine z6 ?_
    refine zs2 ?_
    refine zR ?_
    exact congrArg boo (by simp_all<;>rfl)
   refine z6 ?_
   iterate 4 refine z6 ?_
   refine zy2 ?_
   iterate 5 refine z6 ?_
   refine zs2 ?_
   refine zR ?_
   exact congrArg boo (by simp_all<;>rfl)
  refine z6 ?_
  iterate 4 refine z6 ?_
  refine zy2 ?_
  iterate 5 refine z6 ?_
  refine zy2 ?_
  iterate 5 refine z6 ?_
  refine zs2 ?_
  refine zR ?_
  exact congrArg boo (by simp_all<;>rfl)
 refine z6 ?_
 iterate 4 refine z6 ?_
 refine zy2 ?_
 iterate 5 refine z6 ?_
 refine zy2 ?_
 iterate 5 refine z6 ?_
 refine zy2 ?_
 iterate 5 refine z6 ?_
 refine zs2 ?_
 refine zR ?_
 exact congrArg boo (by simp_all<;>rfl)
def xtS(name:Str):Int:=W64 (32+W64 (8*oY name))
theorem xx(name:Str):ab Tryz.prog 20 [str name] (i64 (xtS name)):=by
 refine pW tG (rs:=[.tmp 2]) Tryz.func20 rfl rfl rfl (by simp) (by simp) (fun B=>?_)
 refine zu1 ?_
 refine zp1 ?_
 refine zc rfl Tryz.func44 ((Bo name) _) ?_
 refine zs3 ?_
 refine zR ?_
 rfl
theorem Jx(m:aV):ab Tryz.prog 43 [dr m] (dr ⟨m.b,[]⟩):=by
 refine pW tG (rs:=[.cell 2 27]) Tryz.func43 rfl rfl rfl (by simp) (by simp) (fun B=>?_)
 refine zu2 ?_
 refine zu4 ?_
 refine zR ?_
 rfl
def pc(m:aV)(at_:Int)(cells:List Int):Nat→aV
 | 0=>m
 | k+1=>(aG (pc m at_ cells k) (W64 (W64 (at_+8)+W64 (8*(k:Int)))) (cells.getD k 0)).1
def KS(v:VVm)(at_:Int)(cells:List Int):VVm:=lf v ⟨(pc (aG v.mem at_ 256).1 at_ cells cells.length).b,[]⟩
theorem nU(m:aV)(at_:Int)(cells:List Int):∀k,(pc m at_ cells k).b.length=m.b.length∧(pc m at_ cells k).old.length≤m.old.length+k
 | 0=>⟨rfl,Nat.le_refl _⟩
 | k+1=>by
  have ih:=nU m at_ cells k
  have q:=cN (pc m at_ cells k) (W64 (W64 (at_+8)+W64 (8*(k:Int)))) (cells.getD k 0)
  exact⟨by show(aG _ _ _).1.b.length=_;rw[q.len,ih.1],by show(aG _ _ _).1.old.length≤_;have:=q.old;omega⟩
theorem If(v:VVm)(at_:Int)(cells:List Int)(hm:v.mem.b.length≤65536)(ho:v.mem.old.length≤1000)(ha:ae at_)(hc:cells.length≤1000):ab Tryz.prog 19 [eVm v,i64 at_,sq af cells] (eVm (KS v at_ cells)):=by
 have q0:=cN v.mem at_ 256
 have q1:=q0.len
 have q2:=q0.old
 refine pW tG (rs:=[.cell 6 36]) Tryz.func19 rfl rfl rfl (by simp) (by simp) (fun B=>?_)
 refine zu2 ?_
 refine zp3 ?_
 refine zc rfl Tryz.func42 ((fy v.mem at_ 256 ⟨by omega,by omega⟩ ha) _) ?_
 refine zy5 ?_
 refine zs1 ?_
 refine Ws ?_
 refine zu1 ?_
 refine Wl ?_
 show W _ _ _ _ _ _ _
 refine bG (fun(k:Nat)=>[(1,i64 at_),(2,sq af cells),(3,.ptr 0 0),(6,.ptr 1 0),(7,.ptr 2 0),(9,i64 k)]) (fun(k:Nat)=>[.cells (cVm v) 36,.cells zVm 36,.cells (np (pc (aG v.mem at_ 256).1 at_ cells k)) 27]) (fun(k:Nat)=>[]) (fun(k:Nat)=>k≤cells.length) (fun(k:Nat)=>cells.length-k) (0) (by omega) [] ?_ ?_
 ·exact bu
 intro k hk
 refine Ws ?_
 refine zu4 ?_
 refine Wi rfl (fun hi1=>?_) (fun hi1=>?_)
 ·have hlt:k<cells.length:=by have:=oT hi1;omega
  have hk:=nU (aG v.mem at_ 256).1 at_ cells k
  refine Wj ?_
  refine Ws ?_
  refine Wl ?_
  refine Ws ?_
  refine ai [1,0,0,0,0,0,0,0,0,1,0,0,0,0,2,3,0] [0,1,2,3,4,5,6,7,8,9,10,11,12,13,14,15,16] mG rfl (by kernel_rfl) ?_
  refine z5 ?_
  iterate 7 refine z3 ?_
  refine Xi tG rfl rfl rfl rfl (fun _=>rfl) (by omega) (iN af 1 (fun _=>rfl) 0 (by omega)) ?_
  refine z5 ?_
  refine Xc rfl rfl rfl rfl (fun _=>dC rfl Tryz.func42 rfl rfl ((fy _ _ _ ⟨by rw[hk.1,q1];omega,by have:=hk.2;omega⟩ (bl _)) _)) ?_
  iterate 3 refine z3 ?_
  refine kw tG rfl rfl rfl rfl rfl trivial rfl ?_
  refine aZ tG rfl rfl rfl rfl rfl trivial ?_
  refine z3 ?_
  refine ah ?_
  refine aa rfl ?_
  refine zs2 ?_
  refine aa rfl ?_
  refine zs3 ?_
  exact⟨k+1,[],(by omega),(by omega),bu⟩
 have hge:k=cells.length:=by have:=oF hi1;omega
 refine aN ?_
 refine zp1 ?_
 refine zc rfl Tryz.func43 ((Jx _) _) ?_
 refine zs2 ?_
 refine zu2 ?_
 refine zR ?_
 subst hge;rfl
theorem FV:ab Tryz.prog 18 [] (eVm (rm [])):=by
 refine pW tG (rs:=[.cell 0 36]) Tryz.func18 rfl rfl rfl (by simp) (by simp) (fun B=>?_)
 refine zu1 ?_
 refine zp1 ?_
 refine zc rfl Tryz.func41 ((MV sC EA) _) ?_
 refine zy5 ?_
 refine zs1 ?_
 refine zu2 ?_
 refine zR ?_
 rfl
theorem qw:PV.seq 0 ([]:List PV) .clip=.seq (List.length ([]:List Int)) (List.flatMap af ([]:List Int)) .clip:=rfl
theorem w7{s:List Int}{k:Nat}:sq af ((s.take (((k:Nat):Int)).toNat).drop 0)=sq af (s.take k):=by rw[Int.toNat_natCast,List.drop_zero]
theorem Gt(s:List Int)(n limit:Int)(hs:s.length≤100000)(hm:ae limit):ab Tryz.prog 159 [sq af s,i64 n,i64 limit] (DG (eQ s n limit)):=by
 unfold ae at hm
 refine pW tG (rs:=[.tmp 6,.tmp 7]) Tryz.func159 rfl rfl rfl (by simp) (by simp) (fun B=>?_)
 refine zu2 ?_
 refine Ws ?_
 refine zu4 ?_
 refine Wi rfl (fun hi1=>?_) (fun hi1=>?_)
 ·have h0:limit≤(s.length:Int):=by(try simp only[dnL]at *);omega
  refine zu3 ?_
  refine zR ?_
  rw[eQ,if_pos h0];rfl
 have h0:¬limit≤(s.length:Int):=by(try simp only[dnL]at *);omega
 refine Wj ?_
 refine zp1 ?_
 refine Wa 13 rfl (qw) ?_
 refine z1 ?_
 refine Wd rfl rfl (aC (lO tG rfl) rfl (lO tG rfl) (lO tG rfl) rfl rfl (by exact⟨_,rfl⟩) (by exact⟨rfl,rfl,ag _ 1 (fun _=>rfl) _,aB _ (fun _=>rfl) _⟩) (by exact ag _ 1 (fun _=>rfl) _) (by(simp;omega)) (by(simp;omega))) ?_
 refine Wa 15 rfl (aM af) ?_
 refine zy2 ?_
 refine Wa 17 rfl (bsL af [_] rfl rfl) ?_
 refine Wd rfl rfl (aF (lO tG rfl) rfl (lO tG rfl) (lO tG rfl) rfl rfl rfl rfl (by simp) (by exact⟨_,rfl⟩) (by exact⟨rfl,rfl,ag _ 1 (fun _=>rfl) _,aB _ (fun _=>rfl) _⟩) (by(simp;omega)) (by(simp;omega))) ?_
 refine Wa 18 rfl (aM af) ?_
 refine zs2 ?_
 refine zR ?_
 rw[eQ,if_neg h0];rfl
theorem JU(s:List Int)(hs:s.length≤100000):ab Tryz.prog 295 [sq af s] (Lq (ba s)):=by
 refine pW tG (rs:=[.tmp 2,.tmp 3,.tmp 4]) Tryz.func295 rfl rfl rfl (by simp) (by simp) (fun B=>?_)
 refine zu3 ?_
 refine Ws ?_
 refine zu3 ?_
 refine Wi rfl (fun hi1=>?_) (fun hi1=>?_)
 ·have h0:s.length=0:=by(try simp only[dnL]at *);omega
  refine zu4 ?_
  refine zR ?_
  rw[ba,if_pos h0];rfl
 have h0:¬s.length=0:=by(try simp only[dnL]at *);omega
 have w1:IntKind.i64.wrap ((s.length:Int)-1)=((s.length-1:Nat):Int):=by((rw[aK];unfold wrap64;(try simp only[dnL]at *);omega))
 refine Wj ?_
 refine Ws ?_
 refine V.dL [0,0,0,0,0,1,0,0,0,0,0,0,2,0,0,0] [0,1,2,3,4,5,6,7,8,9,10,11,12,13,14,15] mG rfl (by kernel_rfl) ?_
 iterate 4 refine V.z3 ?_
 refine V.Xa 12 rfl (congrArg (fun z=>PV.val (Value.int .i64 z)) w1) ?_
 refine V.Xi tG rfl rfl rfl rfl (fun _=>rfl) (by omega) (iN af 1 (fun _=>rfl) 0 (by omega)) ?_
 refine V.z5 ?_
 refine V.z3 ?_
 refine V.Xa 15 rfl (qw) ?_
 iterate 4 refine V.z3 ?_
 refine V.Xa 19 rfl (congrArg (fun z=>PV.val (Value.int .i64 z)) w1) ?_
 refine V.z4 ?_ (q:=(by(simp_all;done)))
 refine V.Xa 20 rfl (bM af 1 (fun _=>rfl) (by omega)) ?_
 refine V.Xa 20 rfl (w7) ?_
 refine V.je rfl rfl rfl rfl (aC (lO tG rfl) rfl (lO tG rfl) (lO tG rfl) rfl rfl (by exact⟨_,rfl⟩) (by exact⟨rfl,rfl,ag _ 1 (fun _=>rfl) _,aB _ (fun _=>rfl) _⟩) (by exact ag _ 1 (fun _=>rfl) _) (by(simp;omega)) (by(simp;omega))) ?_
 refine V.Xa 21 rfl (aM af) ?_
 iterate 3 refine V.z3 ?_
 refine V.ah ?_
 refine zR ?_
 rw[ba,if_neg h0];rfl
theorem CN(v:VVm)(n:Int)(hs:v.d.length≤100000)(hm:ae v.conf.data):ab Tryz.prog 113 [eVm v,i64 n] (tVm (it v n)):=by
 refine pW tG (rs:=[.cell 4 36,.tmp 5]) Tryz.func113 rfl rfl rfl (by simp) (by simp) (fun B=>?_)
 refine zu3 ?_
 refine zp5 ?_
 refine z1 ?_
 refine zc rfl Tryz.func159 ((Gt v.d n v.conf.data hs hm) _) ?_
 refine zs5 ?_
 refine zu3 ?_
 refine zu4 ?_
 refine zR ?_
 rfl
theorem FY(v:VVm)(hs:v.d.length≤100000):ab Tryz.prog 172 [eVm v] (xh (iQ v)):=by
 refine pW tG (rs:=[.tmp 2,.cell 3 36,.tmp 4]) Tryz.func172 rfl rfl rfl (by simp) (by simp) (fun B=>?_)
 refine zu4 ?_
 refine zp2 ?_
 refine zc rfl Tryz.func295 ((JU v.d hs) _) ?_
 refine zy5 ?_
 refine zs2 ?_
 refine zu3 ?_
 refine Ws ?_
 refine ai [0,1,0,0,3,0] [0,1,2,3,4,5] mG rfl (by kernel_rfl) ?_
 refine z3 ?_
 refine z5 ?_
 iterate 2 refine z3 ?_
 refine aZ tG rfl rfl rfl rfl rfl trivial ?_
 refine z3 ?_
 refine ah ?_
 refine zR ?_
 rfl
theorem As(v:VVm)(n:Int)(hs:v.r.length≤100000):ab Tryz.prog 112 [eVm v,i64 n] (tVm (gp v n)):=by
 refine pW tG (rs:=[.cell 4 36,.tmp 5]) Tryz.func112 rfl rfl rfl (by simp) (by simp) (fun B=>?_)
 refine zu3 ?_
 refine Ws ?_
 refine zp5 ?_
 refine zs2 ?_
 refine Wi rfl (fun hi1=>?_) (fun hi1=>?_)
 ·have h0:v.conf.ret≤(v.r.length:Int):=by(try simp only[dnL]at *);omega
  refine zu3 ?_
  refine zR ?_
  rw[gp,if_pos h0];rfl
 have h0:¬v.conf.ret≤(v.r.length:Int):=by(try simp only[dnL]at *);omega
 refine Wj ?_
 refine zp1 ?_
 refine Wa 14 rfl (qw) ?_
 refine zy2 ?_
 refine Wd rfl rfl (aC (lO tG rfl) rfl (lO tG rfl) (lO tG rfl) rfl rfl (by exact⟨_,rfl⟩) (by exact⟨rfl,rfl,ag _ 1 (fun _=>rfl) _,aB _ (fun _=>rfl) _⟩) (by exact ag _ 1 (fun _=>rfl) _) (by(simp;omega)) (by(simp;omega))) ?_
 refine Wa 17 rfl (aM af) ?_
 refine zy2 ?_
 refine Wa 19 rfl (bsL af [_] rfl rfl) ?_
 refine Wd rfl rfl (aF (lO tG rfl) rfl (lO tG rfl) (lO tG rfl) rfl rfl rfl rfl (by simp) (by exact⟨_,rfl⟩) (by exact⟨rfl,rfl,ag _ 1 (fun _=>rfl) _,aB _ (fun _=>rfl) _⟩) (by(simp;omega)) (by(simp;omega))) ?_
 refine Wa 20 rfl (aM af) ?_
 refine zs2 ?_
 refine zu3 ?_
 refine zR ?_
 rw[gp,if_neg h0];rfl
theorem CK(v:VVm)(hs:v.r.length≤100000):ab Tryz.prog 171 [eVm v] (xh (eW v)):=by
 refine pW tG (rs:=[.tmp 2,.cell 3 36,.tmp 4]) Tryz.func171 rfl rfl rfl (by simp) (by simp) (fun B=>?_)
 refine zu4 ?_
 refine Ws ?_
 refine zu4 ?_
 refine Wi rfl (fun hi1=>?_) (fun hi1=>?_)
 ·have h0:v.r.length=0:=by(try simp only[dnL]at *);omega
  refine Ws ?_
  refine V.dL [1,0,3,0] [0,1,2,3] mG rfl (by kernel_rfl) ?_
  refine V.z5 ?_
  refine V.z3 ?_
  refine V.aZ tG rfl rfl rfl rfl rfl trivial ?_
  refine V.z3 ?_
  refine V.ah ?_
  refine zR ?_
  rw[eW,if_pos h0];rfl
 have h0:¬v.r.length=0:=by(try simp only[dnL]at *);omega
 have w1:IntKind.i64.wrap ((v.r.length:Int)-1)=((v.r.length-1:Nat):Int):=by((rw[aK];unfold wrap64;(try simp only[dnL]at *);omega))
 refine Wj ?_
 refine zp5 ?_
 refine z1 ?_
 refine Wa 16 rfl (congrArg (fun z=>PV.val (Value.int .i64 z)) w1) ?_
 refine Wv tG rfl rfl rfl (by omega) (iN af 1 (fun _=>rfl) 0 (by omega)) ?_
 refine zs2 ?_
 refine zp1 ?_
 refine Wa 19 rfl (qw) ?_
 refine zy5 ?_
 refine z1 ?_
 refine Wa 25 rfl (congrArg (fun z=>PV.val (Value.int .i64 z)) w1) ?_
 refine z2 ?_ (q:=(by(simp_all;done)))
 refine Wa 26 rfl (bM af 1 (fun _=>rfl) (by omega)) ?_
 refine Wa 26 rfl (w7) ?_
 refine Wd rfl rfl (aC (lO tG rfl) rfl (lO tG rfl) (lO tG rfl) rfl rfl (by exact⟨_,rfl⟩) (by exact⟨rfl,rfl,ag _ 1 (fun _=>rfl) _,aB _ (fun _=>rfl) _⟩) (by exact ag _ 1 (fun _=>rfl) _) (by(simp;omega)) (by(simp;omega))) ?_
 refine Wa 27 rfl (aM af) ?_
 refine zs2 ?_
 refine Ws ?_
 refine V.dL [0,1,0,3,0] [0,1,2,3,4] mG rfl (by kernel_rfl) ?_
 refine V.z3 ?_
 refine V.z5 ?_
 refine V.z3 ?_
 refine V.aZ tG rfl rfl rfl rfl rfl trivial ?_
 refine V.z3 ?_
 refine V.ah ?_
 refine zR ?_
 rw[eW,if_neg h0];rfl
structure KD (M:Nat) (k:VWk):Prop where
 v:VX M k.v
 ip:ae k.ip
 w:ae k.w
section
variable {M : Nat} {k : VWk}
theorem dT(h:KD M k)(e:Int):KD M (bL k e):=by
 unfold bL;split
 ·exact⟨h.v,h.ip,h.w⟩
 exact h
theorem jA(h:KD M k){n:Int}(hn:ae n):KD M (eZ k n):=⟨DL h.v hn,(dT h _).ip,(dT h _).w⟩
theorem iU(h:KD M k){n:Int}(hn:ae n):KD M (cC k n):=⟨zS h.v hn,(dT h _).ip,(dT h _).w⟩
theorem rR(h:KD M k):KD M (bt k).1∧ae (bt k).2:=⟨⟨(vk h.v).1,(dT h _).ip,(dT h _).w⟩,(vk h.v).2⟩
theorem lj(h:KD M k):KD M (eg k).1∧ae (eg k).2:=⟨⟨(rb h.v).1,(dT h _).ip,(dT h _).w⟩,(rb h.v).2⟩
theorem ic(h:KD M k)(a:Int):KD M (az k a).1∧ae (az k a).2:=⟨dT h _,u5 _ _⟩
theorem KD.up{N:Nat}(h:KD M k)(hM:M≤N):KD N k:=⟨h.v.up hM,h.ip,h.w⟩
theorem jH(h:KD M k)(a n:Int):KD (M+1) (fD k a n):=⟨zl h.v a n,(dT h _).ip,(dT h _).w⟩
theorem pu(h:KD M k)(n:Int):KD M (cS k n).1∧ae (cS k n).2:=by
 unfold cS;split
 ·exact⟨dT h _,bQ⟩
 exact⟨h,nB h.v.fr _⟩
theorem Dc(h:KD M k):KD M (dTo k):=⟨(ic h _).1.v,(ic h _).2,(ic h _).1.w⟩
theorem qr(h:KD M k):KD M (fW k):=⟨h.v,bl _,h.w⟩
theorem D5(h:KD M k){a:Int}(ha:ae a):KD M {k with ip:=a}:=⟨h.v,ha,h.w⟩
end
theorem yH(k:VWk)(e:Int):(bL k e).v=k.v:=by unfold bL;split<;>rfl
theorem fM(k:VWk)(e:Int):∀(H:List Ob) (i:Nat),H[i]?=some (.cells (cWk k) 80)→HC Tryz.prog 63 (.ptr i 0::[i64 e]) H (.tup []) (H.set i (.cells (cWk (bL k e)) 80)):=by
 refine aO tG (rs:=[]) Tryz.func63 rfl rfl rfl (by simp) (by simp) (by simp) (by simp) (fun B=>?_)
 refine zu5 ?_
 refine Wi rfl (fun hi1=>?_) (fun hi1=>?_)
 ·have h0:k.bad=0:=by(try simp only[dnL]at *);exact hi1
  refine aa rfl ?_
  refine zs5 ?_
  refine cd rfl rfl ?_ ?_
  ·rfl
  (rw[bL,if_pos h0];rfl)
 have h0:¬k.bad=0:=by(try simp only[dnL]at *);exact hi1
 refine Wj ?_
 refine cd rfl rfl ?_ ?_
 ·rfl
 (rw[bL,if_neg h0];rfl)
section
variable (k : VWk) {M : Nat} (h : KD M k)
include h
theorem iv(n:Int):∀(H:List Ob) (i:Nat),H[i]?=some (.cells (cWk k) 80)→HC Tryz.prog 66 (.ptr i 0::[i64 n]) H (.tup []) (H.set i (.cells (cWk (eZ k n)) 80)):=by
 refine aO tG (rs:=[]) Tryz.func66 rfl rfl rfl (by simp) (by simp) (by simp) (by simp) (fun B=>?_)
 refine zp5 ?_
 refine zc rfl Tryz.func113 ((CN k.v n (by have:=h.v.d;omega) (ui h.v).1) _) ?_
 refine zy5 ?_
 refine zs1 ?_
 refine zp2 ?_
 refine zc rfl Tryz.func63 ((fM k _) _ _ rfl) ?_
 refine Wn ?_
 refine aa rfl ?_
 refine zs5 ?_
 refine cd rfl rfl ?_ ?_
 ·rfl
 rfl
theorem jF(n:Int):∀(H:List Ob) (i:Nat),H[i]?=some (.cells (cWk k) 80)→HC Tryz.prog 65 (.ptr i 0::[i64 n]) H (.tup []) (H.set i (.cells (cWk (cC k n)) 80)):=by
 refine aO tG (rs:=[]) Tryz.func65 rfl rfl rfl (by simp) (by simp) (by simp) (by simp) (fun B=>?_)
 refine zp5 ?_
 refine zc rfl Tryz.func112 ((As k.v n (by have:=h.v.r;omega)) _) ?_
 refine zy5 ?_
 refine zs1 ?_
 refine zp2 ?_
 refine zc rfl Tryz.func63 ((fM k _) _ _ rfl) ?_
 refine Wn ?_
 refine aa rfl ?_
 refine zs5 ?_
 refine cd rfl rfl ?_ ?_
 ·rfl
 rfl
theorem no:∀(H:List Ob) (i:Nat),H[i]?=some (.cells (cWk k) 80)→HC Tryz.prog 121 (.ptr i 0::[]) H (i64 (bt k).2) (H.set i (.cells (cWk (bt k).1) 80)):=by
 refine aO tG (rs:=[.tmp 2]) Tryz.func121 rfl rfl rfl (by simp) (by simp) (by simp) (by simp) (fun B=>?_)
 refine zu1 ?_
 refine zp4 ?_
 refine zc rfl Tryz.func172 ((FY k.v (by have:=h.v.d;omega)) _) ?_
 refine zy5 ?_
 refine zs3 ?_
 refine zp2 ?_
 refine zc rfl Tryz.func63 ((fM k _) _ _ rfl) ?_
 refine Wn ?_
 refine zu5 ?_
 refine zu2 ?_
 refine Wq ?_
 refine bj rfl rfl ?_ ?_
 ·rfl
 rfl
theorem lx:∀(H:List Ob) (i:Nat),H[i]?=some (.cells (cWk k) 80)→HC Tryz.prog 119 (.ptr i 0::[]) H (i64 (eg k).2) (H.set i (.cells (cWk (eg k).1) 80)):=by
 refine aO tG (rs:=[.tmp 2]) Tryz.func119 rfl rfl rfl (by simp) (by simp) (by simp) (by simp) (fun B=>?_)
 refine zu1 ?_
 refine zp4 ?_
 refine zc rfl Tryz.func171 ((CK k.v (by have:=h.v.r;omega)) _) ?_
 refine zy5 ?_
 refine zs3 ?_
 refine zp2 ?_
 refine zc rfl Tryz.func63 ((fM k _) _ _ rfl) ?_
 refine Wn ?_
 refine zu5 ?_
 refine zu2 ?_
 refine Wq ?_
 refine bj rfl rfl ?_ ?_
 ·rfl
 rfl
theorem iW(at_:Int)(ha:ae at_):∀(H:List Ob) (i:Nat),H[i]?=some (.cells (cWk k) 80)→HC Tryz.prog 29 (.ptr i 0::[i64 at_]) H (i64 (az k at_).2) (H.set i (.cells (cWk (az k at_).1) 80)):=by
 refine aO tG (rs:=[.tmp 4]) Tryz.func29 rfl rfl rfl (by simp) (by simp) (by simp) (by simp) (fun B=>?_)
 refine zu1 ?_
 refine zp5 ?_
 refine z1 ?_
 refine zc rfl Tryz.func62 ((gg k.v.mem at_ (by have:=h.v.b;omega) ha) _) ?_
 refine zs5 ?_
 refine zp2 ?_
 refine zc rfl Tryz.func63 ((fM k _) _ _ rfl) ?_
 refine Wn ?_
 refine zu2 ?_
 refine Wq ?_
 refine bj rfl rfl ?_ ?_
 ·rfl
 rfl
theorem th(at_ n:Int)(ha:ae at_)(hM2:M≤990000):∀(H:List Ob) (i:Nat),H[i]?=some (.cells (cWk k) 80)→HC Tryz.prog 123 (.ptr i 0::[i64 at_,i64 n]) H (.tup []) (H.set i (.cells (cWk (fD k at_ n)) 80)):=by
 refine aO tG (rs:=[]) Tryz.func123 rfl rfl rfl (by simp) (by simp) (by simp) (by simp) (fun B=>?_)
 refine zp5 ?_
 refine zy2 ?_
 refine zc rfl Tryz.func42 ((fy k.v.mem at_ n (h.v.mem (by omega)) ha) _) ?_
 refine zy5 ?_
 refine zs1 ?_
 refine zp2 ?_
 refine zc rfl Tryz.func63 ((fM k _) _ _ rfl) ?_
 refine Wn ?_
 refine aa rfl ?_
 refine zy5 ?_
 refine zs1 ?_
 refine cd rfl rfl ?_ ?_
 ·rfl
 exact congrArg cWk (show({bL k (aG k.v.mem at_ n).2 with v:=lf (bL k (aG k.v.mem at_ n).2).v (aG k.v.mem at_ n).1}:VWk)=fD k at_ n by rw[yH];rfl)
theorem yS(n:Nat)(hn:n≤2):∀(H:List Ob) (i:Nat),H[i]?=some (.cells (cWk k) 80)→HC Tryz.prog 126 (.ptr i 0::[i64 n]) H (i64 (cS k n).2) (H.set i (.cells (cWk (cS k n).1) 80)):=by
 have hr:=h.v.r
 refine aO tG (rs:=[.tmp 4]) Tryz.func126 rfl rfl rfl (by simp) (by simp) (by simp) (by simp) (fun B=>?_)
 refine zu1 ?_
 refine Ws ?_
 refine zp5 ?_
 refine zs3 ?_
 refine Wi rfl (fun hi1=>?_) (fun hi1=>?_)
 ·have h0:(k.v.r.length:Int)≤(n:Int):=by(try simp only[dnL]at *);exact hi1
  refine zp1 ?_
  refine zc rfl Tryz.func63 ((fM k _) _ _ rfl) ?_
  refine Wn ?_
  refine zu1 ?_
  refine Wq ?_
  refine bj rfl rfl ?_ ?_
  ·exact congrArg i64 (by rw[cS,if_pos h0])
  (rw[cS,if_pos h0];rfl)
 have h0:¬(k.v.r.length:Int)≤(n:Int):=by(try simp only[dnL]at *);exact hi1
 have w1:IntKind.i64.wrap ((k.v.r.length:Int)-1)=((k.v.r.length-1:Nat):Int):=by((rw[aK];unfold wrap64;(try simp only[dnL]at *);omega))
 have w2:IntKind.i64.wrap (((k.v.r.length-1:Nat):Int)-(n:Int))=((k.v.r.length-1-n:Nat):Int):=by((rw[aK];unfold wrap64;(try simp only[dnL]at *);omega))
 refine Wj ?_
 refine Ws ?_
 refine ai [0,0,0,0,1,0,0,0,0,1,0,0,0,0,0,1,0] [0,1,2,3,4,5,6,7,8,9,10,11,12,13,14,15,16] mG rfl (by kernel_rfl) ?_
 iterate 4 refine z3 ?_
 refine z5 ?_
 iterate 4 refine z3 ?_
 refine z5 ?_
 iterate 2 refine z3 ?_
 refine Xa 26 rfl (congrArg (fun z=>PV.val (Value.int .i64 z)) w1) ?_
 iterate 2 refine z3 ?_
 refine Xa 28 rfl (congrArg (fun z=>PV.val (Value.int .i64 z)) w2) ?_
 refine Xi tG rfl rfl rfl rfl (fun _=>rfl) (by omega) (iN af 1 (fun _=>rfl) 0 (by omega)) ?_
 refine z5 ?_
 refine z3 ?_
 refine ah ?_
 refine Wq ?_
 refine bj rfl rfl ?_ ?_
 ·exact congrArg i64 (by rw[cS,if_neg h0];rfl)
 (rw[cS,if_neg h0];rfl)
theorem LI:∀(H:List Ob) (i:Nat),H[i]?=some (.cells (cWk k) 80)→HC Tryz.prog 120 (.ptr i 0::[]) H (.tup []) (H.set i (.cells (cWk (dTo k)) 80)):=by
 refine aO tG (rs:=[]) Tryz.func120 rfl rfl rfl (by simp) (by simp) (by simp) (by simp) (fun B=>?_)
 refine aa rfl ?_
 refine zy5 ?_
 refine z1 ?_
 refine zc rfl Tryz.func29 ((iW k h k.ip h.ip) _ _ rfl) ?_
 refine zs3 ?_
 refine cd rfl rfl ?_ ?_
 ·rfl
 rfl
omit h in
theorem rH(xt:Int):∀(H:List Ob) (i:Nat),H[i]?=some (.cells (cWk k) 80)→HC Tryz.prog 114 (.ptr i 0::[i64 xt]) H (.tup []) (H.set i (.cells (cWk (sL k xt)) 80)):=by
 refine aO tG (rs:=[]) Tryz.func114 rfl rfl rfl (by simp) (by simp) (by simp) (by simp) (fun B=>?_)
 refine zu5 ?_
 refine aa rfl ?_
 refine zs4 ?_
 refine cd rfl rfl ?_ ?_
 ·rfl
 rfl
end
open Go.RowKit
theorem EJ(i l n:Int):ab Tryz.prog 173 [i64 i,i64 l,i64 n] (dH (dQ i l n)):=by
 refine pW tG (rs:=[.tmp 6,.tmp 7]) Tryz.func173 rfl rfl rfl (by simp) (by simp) (fun B=>?_)
 refine zu2 ?_
 refine zu4 ?_
 refine zu1 ?_
 refine Ws ?_
 refine zp3 ?_
 refine Wb 15 rfl (fun hg1=>?_) (fun hg1=>?_)
 ·have q0:0≤n:=by(try simp only[dnL]at *);omega
  refine zs3 ?_
  refine Wi rfl (fun hi1=>?_) (fun hi1=>?_)
  ·have q1:W64 (i-l)<0:=oT hi1
   refine aa rfl ?_
   refine zs5 ?_
   refine Ws ?_
   refine zp3 ?_
   refine Wb 25 rfl (fun hg2=>?_) (fun hg2=>?_)
   ·have q2:n<0:=oT hg2
    refine zs3 ?_
    refine Wi rfl (fun hi2=>?_) (fun hi2=>?_)
    ·have q3:0≤W64 (i-l):=oT hi2
     refine aa rfl ?_
     refine zs5 ?_
     refine zp5 ?_
     refine zs1 ?_
     refine zR ?_
     exact congrArg (fun b=>dm (i64 (W64 (i+n))) (boo b)) (by unfold dQ;dsimp only;((exfalso;omega)))
    have q3:¬0≤W64 (i-l):=oF hi2
    refine Wj ?_
    refine zp5 ?_
    refine zs1 ?_
    refine zR ?_
    exact congrArg (fun b=>dm (i64 (W64 (i+n))) (boo b)) (by unfold dQ;dsimp only;((exfalso;omega)))
   have q2:¬n<0:=oF hg2
   iterate 2 refine z6 ?_
   refine zs1 ?_
   refine Wf rfl rfl ?_
   refine Wj ?_
   refine zp5 ?_
   refine zs1 ?_
   refine zR ?_
   exact congrArg (fun b=>dm (i64 (W64 (i+n))) (boo b)) (by unfold dQ;dsimp only;((rw[if_pos q0,decide_eq_true q1];rfl)))
  have q1:¬W64 (i-l)<0:=oF hi1
  refine Wj ?_
  refine Ws ?_
  refine zp3 ?_
  refine Wb 25 rfl (fun hg2=>?_) (fun hg2=>?_)
  ·have q2:n<0:=oT hg2
   refine zs3 ?_
   refine Wi rfl (fun hi2=>?_) (fun hi2=>?_)
   ·have q3:0≤W64 (i-l):=oT hi2
    refine aa rfl ?_
    refine zs5 ?_
    refine zp5 ?_
    refine zs1 ?_
    refine zR ?_
    exact congrArg (fun b=>dm (i64 (W64 (i+n))) (boo b)) (by unfold dQ;dsimp only;((exfalso;omega)))
   have q3:¬0≤W64 (i-l):=oF hi2
   refine Wj ?_
   refine zp5 ?_
   refine zs1 ?_
   refine zR ?_
   exact congrArg (fun b=>dm (i64 (W64 (i+n))) (boo b)) (by unfold dQ;dsimp only;((exfalso;omega)))
  have q2:¬n<0:=oF hg2
  iterate 2 refine z6 ?_
  refine zs1 ?_
  refine Wf rfl rfl ?_
  refine Wj ?_
  refine zp5 ?_
  refine zs1 ?_
  refine zR ?_
  exact congrArg (fun b=>dm (i64 (W64 (i+n))) (boo b)) (by unfold dQ;dsimp only;((rw[if_pos q0,decide_eq_false q1];rfl)))
 have q0:¬0≤n:=by(try simp only[dnL]at *);omega
 iterate 2 refine z6 ?_
 refine zs1 ?_
 refine Wf rfl rfl ?_
 refine Wj ?_
 refine Ws ?_
 refine zp3 ?_
 refine Wb 25 rfl (fun hg2=>?_) (fun hg2=>?_)
 ·have q2:n<0:=oT hg2
  refine zs3 ?_
  refine Wi rfl (fun hi2=>?_) (fun hi2=>?_)
  ·have q3:0≤W64 (i-l):=oT hi2
   refine aa rfl ?_
   refine zs5 ?_
   refine zp5 ?_
   refine zs1 ?_
   refine zR ?_
   exact congrArg (fun b=>dm (i64 (W64 (i+n))) (boo b)) (by unfold dQ;dsimp only;((rw[if_neg q0,decide_eq_true q3];rfl)))
  have q3:¬0≤W64 (i-l):=oF hi2
  refine Wj ?_
  refine zp5 ?_
  refine zs1 ?_
  refine zR ?_
  exact congrArg (fun b=>dm (i64 (W64 (i+n))) (boo b)) (by unfold dQ;dsimp only;((rw[if_neg q0,decide_eq_false q3];rfl)))
 have q2:¬n<0:=oF hg2
 iterate 2 refine z6 ?_
 refine zs1 ?_
 refine Wf rfl rfl ?_
 refine Wj ?_
 refine zp5 ?_
 refine zs1 ?_
 refine zR ?_
 exact congrArg (fun b=>dm (i64 (W64 (i+n))) (boo b)) (by unfold dQ;dsimp only;((exfalso;omega)))
section
variable (k : VWk) {M : Nat} (h : KD M k)
def lpA(k:VWk):VWk:=(cS (cS k 1).1 0).1
def lpI(k:VWk):Int:=(cS (cS k 1).1 0).2
theorem Iu{n:Int}(q:(lpA k).bad≠0):lF k n=lpA k:=by unfold lF;dsimp only;rw[if_pos (show(cS (cS k 1).1 0).1.bad≠0 from q)];rfl
theorem Dp{n:Int}(q:¬(lpA k).bad≠0)(q2:(dQ (lpI k) (cS k 1).2 n).2=true):lF k n=fW (eg (eg (lpA k)).1).1:=by
 unfold lF;dsimp only;rw[if_neg (show ¬(cS (cS k 1).1 0).1.bad≠0 from q),if_pos (show(dQ (cS (cS k 1).1 0).2 (cS k 1).2 n).2=true from q2)];rfl
theorem NJ{n:Int}(q:¬(lpA k).bad≠0)(q2:¬(dQ (lpI k) (cS k 1).2 n).2=true):lF k n=dTo (cC (eg (lpA k)).1 (dQ (lpI k) (cS k 1).2 n).1):=by
 unfold lF;dsimp only;rw[if_neg (show ¬(cS (cS k 1).1 0).1.bad≠0 from q),if_neg (show ¬(dQ (cS (cS k 1).1 0).2 (cS k 1).2 n).2=true from q2)];rfl
include h
theorem IK(n:Int):∀(H:List Ob) (i:Nat),H[i]?=some (.cells (cWk k) 80)→HC Tryz.prog 122 (.ptr i 0::[i64 n]) H (.tup []) (H.set i (.cells (cWk (lF k n)) 80)):=by
 have h1:=pu h 1
 have h2:KD M (lpA k):=(pu h1.1 0).1
 have h3:=lj h2
 have t1:=yS k h 1 (by decide)
 have t2:=yS (cS k 1).1 h1.1 0 (by decide)
 refine aO tG (rs:=[]) Tryz.func122 rfl rfl rfl (by simp) (by simp) (by simp) (by simp) (fun B=>?_)
 refine zp1 ?_
 refine zc rfl Tryz.func126 ((t1) _ _ rfl) ?_
 refine zs1 ?_
 refine zp1 ?_
 refine zc rfl Tryz.func126 ((t2) _ _ rfl) ?_
 refine zs1 ?_
 refine Ws ?_
 refine zu5 ?_
 refine Wi rfl (fun hi1=>?_) (fun hi1=>?_)
 ·have q1:(lpA k).bad≠0:=(show(cS (cS k 1).1 0).1.bad≠0 by simpa using hi1)
  refine Wq ?_
  refine bj rfl rfl ?_ ?_
  ·rfl
  (rw[Iu k q1];rfl)
 have q1:¬(lpA k).bad≠0:=(show ¬(cS (cS k 1).1 0).1.bad≠0 by simpa using hi1)
 refine Wj ?_
 refine zp3 ?_
 refine zc rfl Tryz.func173 ((EJ (lpI k) (cS k 1).2 n) _) ?_
 refine zs5 ?_
 refine zp1 ?_
 refine zc rfl Tryz.func119 ((lx (lpA k) h2) _ _ rfl) ?_
 refine Wn ?_
 refine Ws ?_
 refine zu1 ?_
 refine Wi rfl (fun hi2=>?_) (fun hi2=>?_)
 ·have q2:(dQ (lpI k) (cS k 1).2 n).2=true:=hi2
  refine zp1 ?_
  refine zc rfl Tryz.func119 ((lx _ h3.1) _ _ rfl) ?_
  refine Wn ?_
  refine zp5 ?_
  refine zs4 ?_
  refine Wq ?_
  refine bj rfl rfl ?_ ?_
  ·rfl
  (rw[Dp k q1 q2];rfl)
 have q2:¬(dQ (lpI k) (cS k 1).2 n).2=true:=by simpa using hi2
 refine Wj ?_
 refine zp2 ?_
 refine zc rfl Tryz.func65 ((jF _ h3.1 _) _ _ rfl) ?_
 refine Wn ?_
 refine aa rfl ?_
 refine z1 ?_
 refine zc rfl Tryz.func120 ((LI _ (iU h3.1 (qH _ _ _))) _ _ rfl) ?_
 refine Wn ?_
 refine cd rfl rfl ?_ ?_
 ·rfl
 (rw[NJ k q1 q2];rfl)
end
open Go.RowKit
theorem my:PV.seq 0 ([]:List PV) .clip=.seq (List.length ([]:List dE)) (List.flatMap bA ([]:List dE)) .clip:=rfl
theorem su{s:List dE}{k:Nat}:sq bA ((s.take (((k:Nat):Int)).toNat).drop 0)=sq bA (s.take k):=by rw[Int.toNat_natCast,List.drop_zero]
theorem rV{k:VWk}{name:Str}(h1:¬name=[40,101,120,105,116,41])(h2:¬name=[40,108,105,116,41])(h3:¬name=[40,98,114,97,110,99,104,41])(h4:¬name=[40,48,98,114,97,110,99,104,41])(h5:¬name=[40,100,111,41])(h6:¬name=[40,63,100,111,41])(h7:¬name=[40,108,111,111,112,41])(h8:¬name=[40,43,108,111,111,112,41])(h9:¬name=[40,104,97,108,116,41])(h10:¬name=[40,99,97,117,103,104,116,41])(h11:¬name=[40,100,111,101,115,41])(h12:¬name=[40,115,116,114,41]):fF k name=(k,false):=by
 unfold fF
 rw[if_neg h1,if_neg h2,if_neg h3,if_neg h4,if_neg h5,if_neg h6,if_neg h7,if_neg h8,if_neg h9,if_neg h10,if_neg h11,if_neg h12]
section
variable (k : VWk) {M : Nat} (h : KD M k) (hM : M ≤ 900000)
theorem Kw(a:Int):(az k a).1.ip=k.ip:=by show(bL k _).ip=_;unfold bL;split<;>rfl
theorem Dn(q:(bt k).2=0):fF k [40,48,98,114,97,110,99,104,41]=(dTo (bt k).1,true):=by
 show((if (bt k).2=0 then dTo (bt k).1 else fW (bt k).1),true)=_;rw[if_pos q]
theorem DF(q:¬(bt k).2=0):fF k [40,48,98,114,97,110,99,104,41]=(fW (bt k).1,true):=by
 show((if (bt k).2=0 then dTo (bt k).1 else fW (bt k).1),true)=_;rw[if_neg q]
theorem DQ(q:(bt k).2=(bt (bt k).1).2):fF k [40,63,100,111,41]=(dTo (bt (bt k).1).1,true):=by
 show((if (bt k).2=(bt (bt k).1).2 then dTo (bt (bt k).1).1 else fW (cC (cC (bt (bt k).1).1 (bt (bt k).1).2) (bt k).2)),true)=_;rw[if_pos q]
theorem C7(q:¬(bt k).2=(bt (bt k).1).2):fF k [40,63,100,111,41]=(fW (cC (cC (bt (bt k).1).1 (bt (bt k).1).2) (bt k).2),true):=by
 show((if (bt k).2=(bt (bt k).1).2 then dTo (bt (bt k).1).1 else fW (cC (cC (bt (bt k).1).1 (bt (bt k).1).2) (bt k).2)),true)=_;rw[if_neg q]
theorem Dj(q:k.v.f.length=0):fF k [40,99,97,117,103,104,116,41]=(bL k (-6),true):=by show(nc k,true)=_;unfold nc;rw[if_pos q]
theorem DJ(q:¬k.v.f.length=0):fF k [40,99,97,117,103,104,116,41]=(eZ {k with ip:=(k.v.f.getD (k.v.f.length-1) default).ip,v:={k.v with f:=k.v.f.take (k.v.f.length-1)}} 0,true):=by show(nc k,true)=_;unfold nc;rw[if_neg q]
theorem tb(q:k.v.last=0∨(aq k.v k.v.last).2≠0∨((aq k.v k.v.last).1≠257∧(aq k.v k.v.last).1≠259)):fF k [40,100,111,101,115,41]=(bL k (-31),true):=by show(si k,true)=_;unfold si;rw[if_pos q]
theorem xL(q:¬(k.v.last=0∨(aq k.v k.v.last).2≠0∨((aq k.v k.v.last).1≠257∧(aq k.v k.v.last).1≠259))):fF k [40,100,111,101,115,41]=(let b:=fD (fD k k.v.last 259) (W64 ((fD k k.v.last 259).v.last+8)) (fD k k.v.last 259).ip;({(eg b).1 with ip:=(eg b).2},true)):=by show(si k,true)=_;unfold si;rw[if_neg q]
theorem D7(q:ay (az k k.ip).1.v.mem (W64 (k.ip+8)) (az k k.ip).2=true):fF k [40,115,116,114,41]=({eZ (eZ (az k k.ip).1 (W64 (k.ip+8))) (az k k.ip).2 with ip:=(nD [65,76,73,71,78,69,68] (W64 (W64 (k.ip+8)+(az k k.ip).2))).1},true):=by
 show(Gj k,true)=_;unfold Gj;dsimp only;rw[if_pos q]
theorem Do(q:¬ay (az k k.ip).1.v.mem (W64 (k.ip+8)) (az k k.ip).2=true):fF k [40,115,116,114,41]=({eZ (eZ (bL (az k k.ip).1 (-9)) (W64 (k.ip+8))) (az k k.ip).2 with ip:=(nD [65,76,73,71,78,69,68] (W64 (W64 (k.ip+8)+(az k k.ip).2))).1},true):=by
 show(Gj k,true)=_;unfold Gj;dsimp only;rw[if_neg q]
include h
theorem wF(h0:¬k.v.f.length=0):KD M {k with ip:=(k.v.f.getD (k.v.f.length-1) default).ip,v:={k.v with f:=k.v.f.take (k.v.f.length-1)}} :=
 ⟨⟨h.v.b,h.v.old,h.v.d,h.v.r,by have:=h.v.f;simp only[List.length_take];omega,h.v.fd,h.v.fr,fun x hx=>h.v.ff x (List.mem_of_mem_take hx),h.v.data,h.v.ret,h.v.la⟩,
  h.v.ff _ (by rw[List.getD_eq_getElem?_getD,List.getElem?_eq_getElem (by omega)];exact List.getElem_mem _),h.w⟩
include hM
theorem Or(name:Str):∀(H:List Ob) (i:Nat),H[i]?=some (.cells (cWk k) 80)→HC Tryz.prog 70 (.ptr i 0::[str name]) H (boo (fF k name).2) (H.set i (.cells (cWk (fF k name).1) 80)):=by
 have p1:=rR h
 have p2:=rR p1.1
 have f1:=ic h k.ip
 have hf:=h.v.f
 refine aO tG (rs:=[.tmp 4]) Tryz.func70 rfl rfl rfl (by simp) (by simp) (by simp) (by simp) (fun B=>?_)
 refine zu1 ?_
 refine Ws ?_
 refine zu1 ?_
 refine Wl ?_
 refine zp1 ?_
 refine zq 21 ?_
 refine zs1 ?_
 refine Wi rfl (fun hi1=>?_) (fun hi1=>?_)
 ·obtain rfl:=oT hi1
  refine aa rfl ?_
  refine zy2 ?_
  refine zc rfl Tryz.func119 ((lx k h) _ _ rfl) ?_
  refine zs3 ?_
  refine zu1 ?_
  refine Wq ?_
  refine bj rfl rfl ?_ ?_
  ·rfl
  rfl
 refine zp1 ?_
 refine zq 28 ?_
 refine zs1 ?_
 refine Wi rfl (fun hi2=>?_) (fun hi2=>?_)
 ·obtain rfl:=oT hi2
  refine zp5 ?_
  refine zc rfl Tryz.func29 ((iW k h k.ip h.ip) _ _ rfl) ?_
  refine zs1 ?_
  refine zp2 ?_
  refine zc rfl Tryz.func66 ((iv _ f1.1 _) _ _ rfl) ?_
  refine Wn ?_
  refine aa rfl ?_
  refine zy5 ?_
  refine zs4 ?_
  refine zu1 ?_
  refine Wq ?_
  refine bj rfl rfl ?_ ?_
  ·rfl
  rfl
 refine zp1 ?_
 refine zq 47 ?_
 refine zs1 ?_
 refine Wi rfl (fun hi3=>?_) (fun hi3=>?_)
 ·obtain rfl:=oT hi3
  refine aa rfl ?_
  refine z1 ?_
  refine zc rfl Tryz.func120 ((LI k h) _ _ rfl) ?_
  refine Wn ?_
  refine zu1 ?_
  refine Wq ?_
  refine bj rfl rfl ?_ ?_
  ·rfl
  rfl
 refine zp1 ?_
 refine zq 51 ?_
 refine zs1 ?_
 refine Wi rfl (fun hi4=>?_) (fun hi4=>?_)
 ·obtain rfl:=oT hi4
  refine zp1 ?_
  refine zc rfl Tryz.func121 ((no k h) _ _ rfl) ?_
  refine zs1 ?_
  refine zu2 ?_
  refine Wi rfl (fun hi5=>?_) (fun hi5=>?_)
  ·have q5:(bt k).2=0:=by simpa using hi5
   refine aa rfl ?_
   refine z1 ?_
   refine zc rfl Tryz.func120 ((LI _ p1.1) _ _ rfl) ?_
   refine Wn ?_
   refine zu1 ?_
   refine Wq ?_
   refine bj rfl rfl ?_ ?_
   ·rfl
   (rw[Dn k q5];rfl)
  have q5:¬(bt k).2=0:=by simpa using hi5
  refine aa rfl ?_
  refine zy5 ?_
  refine zs4 ?_
  refine zu1 ?_
  refine Wq ?_
  refine bj rfl rfl ?_ ?_
  ·rfl
  (rw[DF k q5];rfl)
 refine zp1 ?_
 refine zq 67 ?_
 refine zs1 ?_
 refine Wi rfl (fun hi6=>?_) (fun hi6=>?_)
 ·obtain rfl:=oT hi6
  refine zp1 ?_
  refine zc rfl Tryz.func121 ((no k h) _ _ rfl) ?_
  refine zs1 ?_
  refine zp1 ?_
  refine zc rfl Tryz.func121 ((no _ p1.1) _ _ rfl) ?_
  refine zs1 ?_
  refine zp2 ?_
  refine zc rfl Tryz.func65 ((jF _ p2.1 _) _ _ rfl) ?_
  refine Wn ?_
  refine aa rfl ?_
  refine zy2 ?_
  refine zc rfl Tryz.func65 ((jF _ (iU p2.1 p2.2) _) _ _ rfl) ?_
  refine Wn ?_
  refine zu1 ?_
  refine Wq ?_
  refine bj rfl rfl ?_ ?_
  ·rfl
  rfl
 refine zp1 ?_
 refine zq 79 ?_
 refine zs1 ?_
 refine Wi rfl (fun hi7=>?_) (fun hi7=>?_)
 ·obtain rfl:=oT hi7
  refine zp1 ?_
  refine zc rfl Tryz.func121 ((no k h) _ _ rfl) ?_
  refine zs1 ?_
  refine zp1 ?_
  refine zc rfl Tryz.func121 ((no _ p1.1) _ _ rfl) ?_
  refine zs1 ?_
  refine zu3 ?_
  refine Wi rfl (fun hi8=>?_) (fun hi8=>?_)
  ·have q8:(bt k).2=(bt (bt k).1).2:=by simpa using hi8
   refine aa rfl ?_
   refine z1 ?_
   refine zc rfl Tryz.func120 ((LI _ p2.1) _ _ rfl) ?_
   refine Wn ?_
   refine zu1 ?_
   refine Wq ?_
   refine bj rfl rfl ?_ ?_
   ·rfl
   (rw[DQ k q8];rfl)
  have q8:¬(bt k).2=(bt (bt k).1).2:=by simpa using hi8
  refine zp2 ?_
  refine zc rfl Tryz.func65 ((jF _ p2.1 _) _ _ rfl) ?_
  refine Wn ?_
  refine zp2 ?_
  refine zc rfl Tryz.func65 ((jF _ (iU p2.1 p2.2) _) _ _ rfl) ?_
  refine Wn ?_
  refine aa rfl ?_
  refine zy5 ?_
  refine zs4 ?_
  refine zu1 ?_
  refine Wq ?_
  refine bj rfl rfl ?_ ?_
  ·rfl
  (rw[C7 k q8];rfl)
 refine zp1 ?_
 refine zq 104 ?_
 refine zs1 ?_
 refine Wi rfl (fun hi9=>?_) (fun hi9=>?_)
 ·obtain rfl:=oT hi9
  refine aa rfl ?_
  refine z1 ?_
  refine zc rfl Tryz.func122 ((IK k h 1) _ _ rfl) ?_
  refine Wn ?_
  refine zu1 ?_
  refine Wq ?_
  refine bj rfl rfl ?_ ?_
  ·rfl
  rfl
 refine zp1 ?_
 refine zq 108 ?_
 refine zs1 ?_
 refine Wi rfl (fun hi10=>?_) (fun hi10=>?_)
 ·obtain rfl:=oT hi10
  refine zp1 ?_
  refine zc rfl Tryz.func121 ((no k h) _ _ rfl) ?_
  refine zs1 ?_
  refine aa rfl ?_
  refine zy2 ?_
  refine zc rfl Tryz.func122 ((IK _ p1.1 _) _ _ rfl) ?_
  refine Wn ?_
  refine zu1 ?_
  refine Wq ?_
  refine bj rfl rfl ?_ ?_
  ·rfl
  rfl
 refine zp1 ?_
 refine zq 115 ?_
 refine zs1 ?_
 refine Wi rfl (fun hi11=>?_) (fun hi11=>?_)
 ·obtain rfl:=oT hi11
  refine aa rfl ?_
  refine zs4 ?_
  refine zu1 ?_
  refine Wq ?_
  refine bj rfl rfl ?_ ?_
  ·rfl
  rfl
 refine zp1 ?_
 refine zq 120 ?_
 refine zs1 ?_
 refine Wi rfl (fun hi12=>?_) (fun hi12=>?_)
 ·obtain rfl:=oT hi12
  refine Ws ?_
  refine zp5 ?_
  refine zs2 ?_
  refine Wi rfl (fun hi13=>?_) (fun hi13=>?_)
  ·have q13:k.v.f.length=0:=by(try simp only[dnL]at *);omega
   refine zp1 ?_
   refine zc rfl Tryz.func63 ((fM k (-6)) _ _ rfl) ?_
   refine Wn ?_
   refine zu1 ?_
   refine Wq ?_
   refine bj rfl rfl ?_ ?_
   ·rfl
   (rw[Dj k q13];rfl)
  have q13:¬k.v.f.length=0:=by(try simp only[dnL]at *);omega
  have w1:IntKind.i64.wrap ((k.v.f.length:Int)-1)=((k.v.f.length-1:Nat):Int):=by((rw[aK];unfold wrap64;(try simp only[dnL]at *);omega))
  refine Wj ?_
  refine Ws ?_
  refine V.dL [0,0,0,0,0,1,0,0,0,0,1,0,0,0,0,1,0,0,3] [0,1,2,3,4,5,6,7,8,9,10,11,12,13,14,15,16,17,18] mG rfl (by kernel_rfl) ?_
  iterate 5 refine V.z3 ?_
  refine V.z5 ?_
  iterate 4 refine V.z3 ?_
  refine V.z5 ?_
  iterate 2 refine V.z3 ?_
  refine V.Xa 142 rfl (congrArg (fun z=>PV.val (Value.int .i64 z)) w1) ?_
  refine V.Xi tG rfl rfl rfl rfl (fun _=>rfl) (by omega) (iN bA 3 (fun _=>rfl) default (by omega)) ?_
  refine V.z3 ?_
  refine V.z5 ?_
  iterate 2 refine V.z3 ?_
  refine V.aZ tG rfl rfl rfl rfl rfl trivial ?_
  refine V.ah ?_
  refine Ws ?_
  refine V.dL [0,0,0,0,0,0,1,0,0,0,0,1,0,0,0,0,0,0,0,3] [0,1,2,3,4,5,6,7,8,9,10,11,12,13,14,15,16,17,18,19] mG rfl (by kernel_rfl) ?_
  iterate 2 refine V.z3 ?_
  refine V.Xa 149 rfl (my) ?_
  iterate 4 refine V.z3 ?_
  refine V.z5 ?_
  iterate 4 refine V.z3 ?_
  refine V.z5 ?_
  iterate 2 refine V.z3 ?_
  refine V.Xa 161 rfl (congrArg (fun z=>PV.val (Value.int .i64 z)) w1) ?_
  refine V.z4 ?_ (q:=(by(simp_all;done)))
  refine V.Xa 162 rfl (bM bA 3 (fun _=>rfl) (by omega)) ?_
  refine V.Xa 162 rfl (su) ?_
  refine V.cI rfl rfl rfl rfl (fun _=>db (lO tG rfl) rfl (lO tG rfl) (lO tG rfl) rfl rfl (by exact⟨_,rfl⟩) (by exact⟨rfl,rfl,ag _ 3 (fun _=>rfl) _,aB _ (fun _=>rfl) _⟩) (by exact ag _ 3 (fun _=>rfl) _) (by((simp_all;omega))) (by((simp_all;omega))) (by exact gV (bW (fun x=>by simp) _) (bW (fun x=>by simp) _))) ?_
  refine V.Xa 163 rfl (aM bA) ?_
  iterate 3 refine V.z3 ?_
  refine V.aZ tG rfl rfl rfl rfl rfl trivial ?_
  refine V.ah ?_
  refine aa rfl ?_
  refine z1 ?_
  refine zc rfl Tryz.func66 ((iv {k with ip:=(k.v.f.getD (k.v.f.length-1) default).ip,v:={k.v with f:=k.v.f.take (k.v.f.length-1)}} (wF k h q13) 0) _ _ rfl) ?_
  refine Wn ?_
  refine zu1 ?_
  refine Wq ?_
  refine bj rfl rfl ?_ ?_
  ·rfl
  (rw[DJ k q13];rfl)
 refine zp1 ?_
 refine zq 170 ?_
 refine zs1 ?_
 refine Wi rfl (fun hi14=>?_) (fun hi14=>?_)
 ·obtain rfl:=oT hi14
  refine Ws ?_
  refine V.dL [0,0,0,1,0,0,0,0,1,0,0,0,0,0,0] [0,1,2,3,4,5,6,7,8,9,10,11,12,13,14] mG rfl (by kernel_rfl) ?_
  iterate 3 refine V.z3 ?_
  refine V.z5 ?_
  iterate 4 refine V.z3 ?_
  refine V.z5 ?_
  refine V.Xc rfl rfl rfl rfl (fun _=>dC rfl Tryz.func64 rfl rfl ((uV k.v k.v.last (by have:=h.v.b;omega) h.v.la) _)) ?_
  iterate 5 refine V.z3 ?_
  refine V.ah ?_
  refine Ws ?_
  refine zp5 ?_
  refine zy2 ?_
  refine Wb 190 rfl (fun hg1=>?_) (fun hg1=>?_)
  ·have qa:k.v.last=0:=by simpa using hg1
   iterate 2 refine z6 ?_
   refine zy2 ?_
   iterate 6 refine z6 ?_
   refine zs1 ?_
   refine Wt rfl rfl ?_
   refine zp1 ?_
   refine zc rfl Tryz.func63 ((fM k (-31)) _ _ rfl) ?_
   refine Wn ?_
   refine zu1 ?_
   refine Wq ?_
   refine bj rfl rfl ?_ ?_
   ·rfl
   (rw[tb k (by exact .inl qa)];rfl)
  have qa:¬k.v.last=0:=by simpa using hg1
  refine zy4 ?_
  refine Wb 194 rfl (fun hg2=>?_) (fun hg2=>?_)
  ·refine z6 ?_
   iterate 5 refine z6 ?_
   refine zs1 ?_
   refine Wt rfl rfl ?_
   refine zp1 ?_
   refine zc rfl Tryz.func63 ((fM k (-31)) _ _ rfl) ?_
   refine Wn ?_
   refine zu1 ?_
   refine Wq ?_
   refine bj rfl rfl ?_ ?_
   ·rfl
   (rw[tb k (by(refine .inr ?_;simp_all;done))];rfl)
  refine zy3 ?_
  refine Wb 197 rfl (fun hg3=>?_) (fun hg3=>?_)
  ·refine zs4 ?_
   refine Wi rfl (fun hi15=>?_) (fun hi15=>?_)
   ·refine zp1 ?_
    refine zc rfl Tryz.func63 ((fM k (-31)) _ _ rfl) ?_
    refine Wn ?_
    refine zu1 ?_
    refine Wq ?_
    refine bj rfl rfl ?_ ?_
    ·rfl
    (rw[tb k (by(refine .inr ?_;simp_all;done))];rfl)
   refine Wj ?_
   refine zp5 ?_
   refine z1 ?_
   refine zc rfl Tryz.func123 ((th k h k.v.last 259 h.v.la (by omega)) _ _ rfl) ?_
   refine Wn ?_
   refine Ws ?_
   refine V.dL [0,0,0,0,0,1,0,0,0,0,1,3] [0,1,2,3,4,5,6,7,8,9,10,11] mG rfl (by kernel_rfl) ?_
   iterate 5 refine V.z3 ?_
   refine V.z5 ?_
   iterate 4 refine V.z3 ?_
   refine V.z5 ?_
   refine V.kK rfl rfl rfl rfl (dC rfl Tryz.func123 rfl rfl ((th _ (jH h _ _) _ _ (bl _) (by omega)) _ _ rfl)) ?_
   refine V.ah ?_
   refine aa rfl ?_
   refine zy2 ?_
   refine zc rfl Tryz.func119 ((lx _ (jH (jH h _ _) _ _)) _ _ rfl) ?_
   refine zs3 ?_
   refine zu1 ?_
   refine Wq ?_
   refine bj rfl rfl ?_ ?_
   ·rfl
   (rw[xL k (by simp_all;try omega)];rfl)
  refine z6 ?_
  refine z6 ?_
  refine zs2 ?_
  refine Wf rfl rfl ?_
  refine Wj ?_
  refine zp5 ?_
  refine z1 ?_
  refine zc rfl Tryz.func123 ((th k h k.v.last 259 h.v.la (by omega)) _ _ rfl) ?_
  refine Wn ?_
  refine Ws ?_
  refine V.dL [0,0,0,0,0,1,0,0,0,0,1,3] [0,1,2,3,4,5,6,7,8,9,10,11] mG rfl (by kernel_rfl) ?_
  iterate 5 refine V.z3 ?_
  refine V.z5 ?_
  iterate 4 refine V.z3 ?_
  refine V.z5 ?_
  refine V.kK rfl rfl rfl rfl (dC rfl Tryz.func123 rfl rfl ((th _ (jH h _ _) _ _ (bl _) (by omega)) _ _ rfl)) ?_
  refine V.ah ?_
  refine aa rfl ?_
  refine zy2 ?_
  refine zc rfl Tryz.func119 ((lx _ (jH (jH h _ _) _ _)) _ _ rfl) ?_
  refine zs3 ?_
  refine zu1 ?_
  refine Wq ?_
  refine bj rfl rfl ?_ ?_
  ·rfl
  (rw[xL k (by simp_all;try omega)];rfl)
 refine zp1 ?_
 refine zq 229 ?_
 refine zs1 ?_
 refine Wi rfl (fun hi16=>?_) (fun hi16=>?_)
 ·obtain rfl:=oT hi16
  refine zp5 ?_
  refine zc rfl Tryz.func29 ((iW k h k.ip h.ip) _ _ rfl) ?_
  refine zs1 ?_
  refine zp5 ?_
  refine Wa 240 rfl ((show PV.val (Value.int .i64 (IntKind.i64.wrap ((az k k.ip).1.ip+8)))=i64 (W64 (k.ip+8)) by rw[Kw];rfl)) ?_
  refine zs1 ?_
  refine zp5 ?_
  refine zy2 ?_
  refine zc rfl Tryz.func124 ((kn _ _ _ (by have:=f1.1.v.b;omega) (bl _) f1.2) _) ?_
  refine zs1 ?_
  refine Ws ?_
  refine zu2 ?_
  refine Wi rfl (fun hi17=>?_) (fun hi17=>?_)
  ·have q17:¬ay (az k k.ip).1.v.mem (W64 (k.ip+8)) (az k k.ip).2=true:=by simpa using hi17
   refine aa rfl ?_
   refine z1 ?_
   refine zc rfl Tryz.func63 ((fM _ (-9)) _ _ rfl) ?_
   refine Wn ?_
   refine zp2 ?_
   refine zc rfl Tryz.func66 ((iv _ (by exact dT f1.1 _) _) _ _ rfl) ?_
   refine Wn ?_
   refine zp2 ?_
   refine zc rfl Tryz.func66 ((iv _ (by exact jA (dT f1.1 _) (bl _)) _) _ _ rfl) ?_
   refine Wn ?_
   refine zp3 ?_
   refine zc rfl Tryz.func125 ((xB [65,76,73,71,78,69,68] _ (bl _)) _) ?_
   refine zs5 ?_
   refine aa rfl ?_
   refine zs5 ?_
   refine zu1 ?_
   refine Wq ?_
   refine bj rfl rfl ?_ ?_
   ·rfl
   (rw[Do k q17];rfl)
  have q17:ay (az k k.ip).1.v.mem (W64 (k.ip+8)) (az k k.ip).2=true:=by simpa using hi17
  refine Wj ?_
  refine zp2 ?_
  refine zc rfl Tryz.func66 ((iv _ (by exact f1.1) _) _ _ rfl) ?_
  refine Wn ?_
  refine zp2 ?_
  refine zc rfl Tryz.func66 ((iv _ (by exact jA f1.1 (bl _)) _) _ _ rfl) ?_
  refine Wn ?_
  refine zp3 ?_
  refine zc rfl Tryz.func125 ((xB [65,76,73,71,78,69,68] _ (bl _)) _) ?_
  refine zs5 ?_
  refine aa rfl ?_
  refine zs5 ?_
  refine zu1 ?_
  refine Wq ?_
  refine bj rfl rfl ?_ ?_
  ·rfl
  (rw[D7 k q17];rfl)
 refine zu1 ?_
 refine Wq ?_
 refine bj rfl rfl ?_ ?_
 ·(rw[rV (oF hi1) (oF hi2) (oF hi3) (oF hi4) (oF hi6) (oF hi7) (oF hi9) (oF hi10) (oF hi11) (oF hi12) (oF hi14) (oF hi16)];rfl)
 (rw[rV (oF hi1) (oF hi2) (oF hi3) (oF hi4) (oF hi6) (oF hi7) (oF hi9) (oF hi10) (oF hi11) (oF hi12) (oF hi14) (oF hi16)];rfl)
end
end Go.Proofs.YtiibjcnedbncjaaGreatDoor
