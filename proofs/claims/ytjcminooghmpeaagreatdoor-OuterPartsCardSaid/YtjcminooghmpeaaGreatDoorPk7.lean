import Derived.Test.YtjcminooghmpeaaGreatDoorPk6
set_option linter.all false
set_option maxRecDepth 100000
set_option maxHeartbeats 40000000
open Go.Proofs.Tryz
namespace Go.Proofs.YtjcminooghmpeaaGreatDoor
open Go.RowKit
def tw(n:Int):ab prog 165 [i64 n] (boo (decide (23<=n/\n<=129))):=by
 refine zY func165 fun B=>?_
 refine zu1 ?_
 refine zp3 ?_
 refine Wb 5 rfl ?_ ?_<;>intro hg1
 ·have h0:23<=n:=oT hg1
  refine zd ?_
  exact congrArg boo (by rw[Bool.eq_iff_iff,decide_eq_true_eq,decide_eq_true_eq];omega)
 have h0:¬23<=n:=oF hg1
 refine zd ?_
 exact congrArg boo (decide_eq_false (by omega)).symm
def aS8(name:Str)(x:List Int)(hx:XOk 2 x):ab prog 241 ([sq ao x]++[.row [str name]]) (tLv ([(lH name (xat x 0) (xat x 1)).1],(lH name (xat x 0) (xat x 1)).2.2)):=by
 have hl:=hx.len
 refine zH func241 fun B=>?_
 refine zW [1,0,0,1,0,0,1,0,0,0,0,0,0,0,0] [0,1,2,3,4,5,6,7,8,9,10,11,12,13,14] ?_
 refine zK ao 1 0 ?_
 refine zK ao 1 0 ?_
 refine Xc rfl rfl rfl rfl (fun _=>dC rfl func242 rfl rfl ((Zm name _ _ (hx.fit 1)) _)) ?_
 iterate 7 refine z3 ?_
 refine fS ?_
 refine zp2 ?_
 refine zA 21 rfl (bsL ao [_] rfl rfl) ?_
 rfl
def aT4(name:Str)(x:List Int)(hx:XOk 1 x):ab prog 243 ([sq ao x]++[.row [str name]]) (tLv ([(uH name (xat x 0)).1],0)):=by
 have hl:=hx.len
 refine zH func243 fun B=>?_
 refine zW [1,0,0,1,0,0,0,0,0,0] [0,1,2,3,4,5,6,7,8,9] ?_
 refine zK ao 1 0 ?_
 refine Xc rfl rfl rfl rfl (fun _=>dC rfl func244 rfl rfl ((Md name _ (hx.fit 0)) _)) ?_
 iterate 5 refine z3 ?_
 refine fS ?_
 refine zp2 ?_
 refine Wa 16 rfl (bsL ao [_] rfl rfl) ?_
 refine zC rfl func245 ((ma _) _) ?_
 rfl
def OU(n:Int)(name:Str)(hn:n<=58):ab prog 200 [i64 n,str name] (bp 2 271 [.row [fnP 241 [.row [str name]]]]):=by
 refine zY func200 fun B=>?_
 refine zp1 ?_
 refine bT 3 _ rfl rfl rfl ?_
 refine zd ?_
 refine Wt rfl (by exact decide_eq_true hn) ?_
 refine zd ?_
 refine zC rfl func240 ((jI 2 241 [.row [str name]] (by simp)) _) ?_
 rfl
def Pc(n:Int)(name:Str)(h0:58<n)(hn:n<=72):ab prog 200 [i64 n,str name] (bp 1 271 [.row [fnP 243 [.row [str name]]]]):=by
 refine zY func200 fun B=>?_
 refine zp1 ?_
 refine bT 3 _ rfl rfl rfl ?_
 refine zd ?_
 refine Wf rfl (by exact decide_eq_false (by omega)) ?_
 refine zd ?_
 refine Wt rfl (by exact decide_eq_true hn) ?_
 refine zd ?_
 refine zC rfl func240 ((jI 1 243 [.row [str name]] (by simp)) _) ?_
 rfl
def doR(v:VVm)(k:Nat)(r:VVm×List Int×Int):VVm×Int :=
 if v.d.length<k then(v,-4)else if r.2.2≠0 then(v,r.2.2)else
 if v.conf.data<((v.d.length-k+r.2.1.length:Nat):Int)then(v,-3)else({r.1 with d:=v.d.take (v.d.length-k)++r.2.1},0)
def at4(v:VVm)(n:Int)(hn:¬(23<=n/\n<=129)):ab prog 166 [eVm v,i64 n] (tVm (v,-24)):=by
 refine zH func166 fun B=>?_
 refine zC rfl func165 ((tw n) _) ?_
 refine Wt rfl (by rw[decide_eq_false hn];rfl) ?_
 refine zd ?_
 rfl
def xw:aq.length=130:=lS
def Lp(v:VVm)(n:Int)(h0:23<=n)(h1:n<=38)(hs:aq.getD n.toNat []∈pz)(hd:v.d.length<=100000)(hm:ae v.conf.data):
  ab prog 166 [eVm v,i64 n] (tVm ({v with d:=(dz (aq.getD n.toNat []) v.d v.conf.data).1},(dz (aq.getD n.toNat []) v.d v.conf.data).2.2)):=by
 have hN:=xw
 refine zH func166 fun B=>?_
 refine zC rfl func165 ((tw n) _) ?_
 refine Wf rfl (by rw[decide_eq_true ⟨h0,by omega⟩];rfl) ?_
 refine zd ?_
 refine zC rfl func98 ((oh) _) ?_
 refine Wv tG rfl rfl rfl (by omega) (iR gj 1 (fun _=>rfl) [] (by omega)) ?_
 refine zd ?_
 refine Wt rfl (by exact decide_eq_true h1) ?_
 refine zd ?_
 refine zC rfl func199 ((GG _ hs _ _ hd hm) _) ?_
 rfl
def aZ(v:VVm)(n:Int)(k:Nat)(f:FuncId)(cap:List PV)(r:VVm×List Int×Int)(h0:39<=n)(h1:n<=129)(hdl:v.d.length<=100000)(hm:ae v.conf.data)(hk:k<=10)(hc:aF cap)
  (hf:ab prog 200 [i64 n,str (aq.getD n.toNat [])] (bp k f cap)) (hr:r.2.1.length<=10)
  (hd:k<=v.d.length->∀(H:List Ob) (i:Nat),H[i]?=some (.cells (cVm v) 37)->oo prog f (.ptr i 0::([sq ao (v.d.drop (v.d.length-k))]++cap)) H (tLv r.2) (H.set i (.cells (cVm r.1) 37))) :
  ab prog 166 [eVm v,i64 n] (tVm (doR v k r)):=by
 have hN:=xw
 have ht:(v.d.take (v.d.length-k)).length=v.d.length-k:=by rw[List.length_take];omega
 refine zH func166 fun B=>?_
 refine zC rfl func165 ((tw n) _) ?_
 refine Wf rfl (by rw[decide_eq_true ⟨by omega,h1⟩];rfl) ?_
 refine zd ?_
 refine zC rfl func98 ((oh) _) ?_
 refine Wv tG rfl rfl rfl (by omega) (iR gj 1 (fun _=>rfl) [] (by omega)) ?_
 refine zd ?_
 refine Wf rfl (by exact decide_eq_false (by omega)) ?_
 refine zd ?_
 refine zC rfl func200 ((hf) _) ?_
 refine Wi rfl ?_ ?_<;>intro hi3
 ·have q0:v.d.length<k:=by(try simp only[dnL]at *);omega
  refine zd ?_
  rw[doR,if_pos q0];rfl
 have q0:¬v.d.length<k:=by(try simp only[dnL]at *);omega
 have w1:IntKind.i64.wrap ((v.d.length:Int)-(k:Int))=((v.d.length-k:Nat):Int):=by((rw[bU];unfold wrap64;(try simp only[dnL]at *);omega))
 have w2:IntKind.i64.wrap (((v.d.length-k:Nat):Int)+(r.2.1.length:Int))=((v.d.length-k+r.2.1.length:Nat):Int):=by((rw[bU];unfold wrap64;(try simp only[dnL]at *);omega))
 refine Wj<|zp5 ?_
 refine z1 ?_
 refine zA 56 rfl (j_ w1) ?_
 refine zW [0,10,0,4,0,0,0,9,0,0,0,0,0] [0,1,2,3,4,5,6,7,8,9,10,11,12] ?_
 refine zU 3 ?_
 refine z3 ?_
 refine zU 0 ?_
 refine z3 ?_
 refine z4 ?_ (q:=(by(simp_all;done)))
 refine Xa 63 rfl (cK ao 1 (fun _=>rfl) (by omega)) ?_
 refine Xa 63 rfl ((show _=sq ao (v.d.drop (v.d.length-k)) by rw[List.take_length,Int.toNat_natCast];rfl)) ?_
 refine Xc rfl rfl rfl rfl (fun _=>dC rfl func201 rfl rfl ((JF _ (by simp;omega)) _)) ?_
 refine ak4 2 rfl rfl rfl rfl (fq rfl rfl (hd (by omega) _ 2 rfl)) rfl ?_
 refine zd ?_
 refine Wi rfl ?_ ?_<;>intro hi4
 ·have q1:r.2.2≠0:=bne_iff_ne.1 hi4
  refine zd ?_
  rw[doR,if_neg q0,if_pos q1];rfl
 have q1:¬r.2.2≠0:=fun h=>h (bne_eq_false_iff_eq.1 hi4)
 refine Wj<|Ws<|zp4 ?_
 refine zA 75 rfl (j_ w2) ?_
 refine Wi rfl ?_ ?_<;>intro hi5
 ·have q2:v.conf.data<((v.d.length-k+r.2.1.length:Nat):Int):=oT hi5
  refine zd ?_
  rw[doR,if_neg q0,if_neg q1,if_pos q2];rfl
 have q2:¬v.conf.data<((v.d.length-k+r.2.1.length:Nat):Int):=oF hi5
 refine zd ?_
 refine z2 ?_ (q:=(by(simp_all;done)))
 refine Wa 84 rfl (cK ao 1 (fun _=>rfl) (by omega)) ?_
 refine Wa 84 rfl ((show _=sq ao (v.d.take (v.d.length-k)) by rw[Int.toNat_natCast,List.drop_zero];rfl)) ?_
 refine zy2 ?_
 refine Wa 86 rfl (bsL Cs [_,_] rfl rfl) ?_
 refine zC rfl func202 ((MW _ _ (by rw[ht];omega) (by omega)) _) ?_
 rw[doR,if_neg q0,if_neg q1,if_neg q2];rfl
structure dA (v:VVm):Prop where
 mem:cX v.mem
 old:v.mem.old.length+1<=1000000
 here:iu v.mem v.here
 out2:0<=v.conf.out/\v.conf.out<=900000
 out:v.out.length<=1000000
 pic:v.pic.b.length<=1000000
 req:v.req.length<=100000
 hand:v.hand.length<=1000000
 d:v.d.length<=50000
 fit:∀a∈v.d,ae a
 data:ae v.conf.data
def dA.out1{v:VVm}(h:dA v):0<=v.conf.out/\v.conf.out<=1000000:=by have:=h.out2;omega
def dA.x{v:VVm}(h:dA v){k:Nat}(hk:k<=v.d.length):XOk k (v.d.drop (v.d.length-k)) :=
 ⟨by rw[List.length_drop];omega,fun a ha=>h.fit a (List.mem_of_mem_drop ha)⟩
def FP(m:bh)(a n:Int):(dP m a n).1.length<=m.b.length:=by
 unfold dP
 split
 ·simp only[List.length_take,List.length_drop];omega
 simp
def OJ(b:Nat):∀k u,(tO b k u).length<=k+1:=by
 intro k
 induction k with
 | zero=>intro u;simp[tO]
 | succ k ih=>intro u;unfold tO;split<;>simp;have:=ih (u/b);omega
def sc(u b:Nat):(ot u b).length<=900:=by
 unfold ot
 have:=OJ b 64 u
 simp only[List.length_reverse,List.length_map]
 omega
def CH(n b:Int):(ir n b).1.length<=1000:=by
 unfold ir
 split
 ·simp only
  split
  ·have:=sc (U n) b.toNat;omega
  have:=sc (U (wrap64 (-n))) b.toNat;simp only[List.length_cons];omega
 simp
def aK{v:VVm}{n:Int}(h0:39<=n)(h1:n<=129):doS v n=doR v (aX n (aq.getD n.toNat [])) (bF v n (aq.getD n.toNat []) (v.d.drop (v.d.length-aX n (aq.getD n.toNat [])))):=by
 unfold doS doR
 rw[if_neg (by omega)]
 simp only
 rw[if_neg (by omega)]
def NU{v:VVm}{k:Nat}{r r':VVm×List Int×Int}(h1:r'.2.2=r.2.2)(h2:r.2.2=0->r'=r):doR v k r'=doR v k r:=by
 by_cases h:r.2.2=0
 ·rw[h2 h]
 unfold doR
 rw[h1]
 simp only[h,ne_eq,not_false_eq_true,if_true]
def Px(v:VVm)(x:List Int):(v,bO v x).2.2=(vI v x).2.2:=by
 unfold bO vI
 split<;>rfl
def Xm(v:VVm)(x:List Int)(h:(vI v x).2.2=0):(v,bO v x)=vI v x:=by
 unfold bO vI at *
 split at h
 ·cases h
 rename_i hc;rw[if_neg hc,if_neg hc]
def By(n b:Int):(gV n b).1.length<=1000:=by
 unfold gV
 split
 ·have:=sc (U n) b.toNat;simp only;omega
 simp
def aw4(v:VVm)(hv:dA v)(n:Int)(h0:39<=n)(h1:n<=58):ab prog 166 [eVm v,i64 n] (tVm (doS v n)):=by
 have hk:aX n (aq.getD n.toNat [])=2:=by unfold aX;rw[if_pos h1]
 rw[aK h0 (by omega),hk]
 have e:∀x,bF v n (aq.getD n.toNat []) x=(v,[(lH (aq.getD n.toNat []) (xat x 0) (xat x 1)).1],(lH (aq.getD n.toNat []) (xat x 0) (xat x 1)).2.2):=fun x=>by unfold bF;rw[if_pos h1]
 rw[e]
 exact aZ v n 2 271 _ _ h0 (by omega) (by have:=hv.d;omega) hv.data (by omega) (by simp) (OU n _ h1) (by simp) (fun hk H i hi=>⟨⟨_,func271,rfl,rfl⟩,lX 241 [.row [str (aq.getD n.toNat [])]] v _ _ (by simp) (fun H=>⟨⟨_,func241,rfl,rfl⟩,aS8 _ _ (hv.x hk) H⟩) H i hi⟩)
def an6(v:VVm)(hv:dA v)(n:Int)(h0:58<n)(h1:n<=72):ab prog 166 [eVm v,i64 n] (tVm (doS v n)):=by
 have hk:aX n (aq.getD n.toNat [])=1:=by unfold aX;rw[if_neg (by omega),if_pos h1]
 rw[aK (by omega) (by omega),hk]
 have e:∀x,bF v n (aq.getD n.toNat []) x=(v,[(uH (aq.getD n.toNat []) (xat x 0)).1],0):=fun x=>by unfold bF;rw[if_neg (by omega),if_pos h1]
 rw[e]
 exact aZ v n 1 271 _ _ (by omega) (by omega) (by have:=hv.d;omega) hv.data (by omega) (by simp) (Pc n _ h0 h1) (by simp) (fun hk H i hi=>⟨⟨_,func271,rfl,rfl⟩,lX 243 [.row [str (aq.getD n.toNat [])]] v _ _ (by simp) (fun H=>⟨⟨_,func243,rfl,rfl⟩,aT4 _ _ (hv.x hk) H⟩) H i hi⟩)
def aI3(v:VVm)(x:List Int):bF v 73 [47,77,79,68] x=(v,bB x):=by kernel_rfl
def aG6(v:VVm)(hv:dA v):ab prog 166 [eVm v,i64 73] (tVm (doS v 73)):=by
 have hk:aX 73 (aq.getD (73:Int).toNat [])=2:=by kernel_rfl
 have hn:aq.getD (73:Int).toNat []=[47,77,79,68]:=by kernel_rfl
 rw[aK (by decide) (by decide),hk,hn,aI3]
 refine aZ v 73 2 271 [.row [fnP 280 pt]] _ (by decide) (by decide) (by have:=hv.d;omega) hv.data (by decide) (by simp) (by rw[hn];exact j0 73 _ _ _ _ (by decide) (by simp)  rfl) (by(show List.length _<=_;simp[b9,bI,du,fc,fZ,gn,ga,b7,bB,bi,dj,pUM,pM,dh,dk,di,pSD,bA,bO])) (fun hk H i hi=>?_)
 have hx:=hv.x hk
 generalize v.d.drop (v.d.length-2)=x at hx ⊢
 exact⟨⟨_,func271,rfl,rfl⟩,lX 280 pt v x (v,bB x).2 (by simp) (fun H=>⟨⟨_,func280,rfl,rfl⟩,aR9 x hx H⟩) H i hi⟩
def aA6(v:VVm)(x:List Int):bF v 75 [42,47,77,79,68] x=(v,bi x):=by kernel_rfl
def aI5(v:VVm)(hv:dA v):ab prog 166 [eVm v,i64 75] (tVm (doS v 75)):=by
 have hk:aX 75 (aq.getD (75:Int).toNat [])=3:=by kernel_rfl
 have hn:aq.getD (75:Int).toNat []=[42,47,77,79,68]:=by kernel_rfl
 rw[aK (by decide) (by decide),hk,hn,aA6]
 refine aZ v 75 3 271 [.row [fnP 281 G5]] _ (by decide) (by decide) (by have:=hv.d;omega) hv.data (by decide) (by simp) (by rw[hn];exact j0 75 _ _ _ _ (by decide) (by simp)  rfl) (by(show List.length _<=_;simp[b9,bI,du,fc,fZ,gn,ga,b7,bB,bi,dj,pUM,pM,dh,dk,di,pSD,bA,bO])) (fun hk H i hi=>?_)
 have hx:=hv.x hk
 generalize v.d.drop (v.d.length-3)=x at hx ⊢
 exact⟨⟨_,func271,rfl,rfl⟩,lX 281 G5 v x (v,bi x).2 (by simp) (fun H=>⟨⟨_,func281,rfl,rfl⟩,aS6 x hx H⟩) H i hi⟩
def aK4(v:VVm)(x:List Int):bF v 74 [42,47] x=(v,dj x):=by kernel_rfl
def aI8(v:VVm)(hv:dA v):ab prog 166 [eVm v,i64 74] (tVm (doS v 74)):=by
 have hk:aX 74 (aq.getD (74:Int).toNat [])=3:=by kernel_rfl
 have hn:aq.getD (74:Int).toNat []=[42,47]:=by kernel_rfl
 rw[aK (by decide) (by decide),hk,hn,aK4]
 refine aZ v 74 3 271 [.row [fnP 282 TK]] _ (by decide) (by decide) (by have:=hv.d;omega) hv.data (by decide) (by simp) (by rw[hn];exact j0 74 _ _ _ _ (by decide) (by simp)  rfl) (by(show List.length _<=_;simp[b9,bI,du,fc,fZ,gn,ga,b7,bB,bi,dj,pUM,pM,dh,dk,di,pSD,bA,bO])) (fun hk H i hi=>?_)
 have hx:=hv.x hk
 generalize v.d.drop (v.d.length-3)=x at hx ⊢
 exact⟨⟨_,func271,rfl,rfl⟩,lX 282 TK v x (v,dj x).2 (by simp) (fun H=>⟨⟨_,func282,rfl,rfl⟩,aR2 x hx H⟩) H i hi⟩
def aG8(v:VVm)(x:List Int):bF v 76 [85,77,42] x=(v,pUM x):=by kernel_rfl
def aN6(v:VVm)(hv:dA v):ab prog 166 [eVm v,i64 76] (tVm (doS v 76)):=by
 have hk:aX 76 (aq.getD (76:Int).toNat [])=2:=by kernel_rfl
 have hn:aq.getD (76:Int).toNat []=[85,77,42]:=by kernel_rfl
 rw[aK (by decide) (by decide),hk,hn,aG8]
 refine aZ v 76 2 271 [.row [fnP 283 []]] _ (by decide) (by decide) (by have:=hv.d;omega) hv.data (by decide) (by simp) (by rw[hn];exact j0 76 _ _ _ _ (by decide) (by simp)  rfl) (by(show List.length _<=_;simp[b9,bI,du,fc,fZ,gn,ga,b7,bB,bi,dj,pUM,pM,dh,dk,di,pSD,bA,bO])) (fun hk H i hi=>?_)
 have hx:=hv.x hk
 generalize v.d.drop (v.d.length-2)=x at hx ⊢
 exact⟨⟨_,func271,rfl,rfl⟩,lX 283 [] v x (v,pUM x).2 (by simp) (fun H=>⟨⟨_,func283,rfl,rfl⟩,aQ1 x hx H⟩) H i hi⟩
def aB2(v:VVm)(x:List Int):bF v 78 [77,42] x=(v,pM x):=by kernel_rfl
def aE3(v:VVm)(hv:dA v):ab prog 166 [eVm v,i64 78] (tVm (doS v 78)):=by
 have hk:aX 78 (aq.getD (78:Int).toNat [])=2:=by kernel_rfl
 have hn:aq.getD (78:Int).toNat []=[77,42]:=by kernel_rfl
 rw[aK (by decide) (by decide),hk,hn,aB2]
 refine aZ v 78 2 271 [.row [fnP 285 []]] _ (by decide) (by decide) (by have:=hv.d;omega) hv.data (by decide) (by simp) (by rw[hn];exact j0 78 _ _ _ _ (by decide) (by simp)  rfl) (by(show List.length _<=_;simp[b9,bI,du,fc,fZ,gn,ga,b7,bB,bi,dj,pUM,pM,dh,dk,di,pSD,bA,bO])) (fun hk H i hi=>?_)
 have hx:=hv.x hk
 generalize v.d.drop (v.d.length-2)=x at hx ⊢
 exact⟨⟨_,func271,rfl,rfl⟩,lX 285 [] v x (v,pM x).2 (by simp) (fun H=>⟨⟨_,func285,rfl,rfl⟩,aQ5 x hx H⟩) H i hi⟩
def aB6(v:VVm)(x:List Int):bF v 77 [85,77,47,77,79,68] x=(v,dh x):=by kernel_rfl
def aK6(v:VVm)(hv:dA v):ab prog 166 [eVm v,i64 77] (tVm (doS v 77)):=by
 have hk:aX 77 (aq.getD (77:Int).toNat [])=3:=by kernel_rfl
 have hn:aq.getD (77:Int).toNat []=[85,77,47,77,79,68]:=by kernel_rfl
 rw[aK (by decide) (by decide),hk,hn,aB6]
 refine aZ v 77 3 271 [.row [fnP 286 pt]] _ (by decide) (by decide) (by have:=hv.d;omega) hv.data (by decide) (by simp) (by rw[hn];exact j0 77 _ _ _ _ (by decide) (by simp)  rfl) (by(show List.length _<=_;simp[b9,bI,du,fc,fZ,gn,ga,b7,bB,bi,dj,pUM,pM,dh,dk,di,pSD,bA,bO])) (fun hk H i hi=>?_)
 have hx:=hv.x hk
 generalize v.d.drop (v.d.length-3)=x at hx ⊢
 exact⟨⟨_,func271,rfl,rfl⟩,lX 286 pt v x (v,dh x).2 (by simp) (fun H=>⟨⟨_,func286,rfl,rfl⟩,aR4 x hx H⟩) H i hi⟩
def aG0(v:VVm)(x:List Int):bF v 79 [83,77,47,82,69,77] x=(v,dk x):=by kernel_rfl
def aI9(v:VVm)(hv:dA v):ab prog 166 [eVm v,i64 79] (tVm (doS v 79)):=by
 have hk:aX 79 (aq.getD (79:Int).toNat [])=3:=by kernel_rfl
 have hn:aq.getD (79:Int).toNat []=[83,77,47,82,69,77]:=by kernel_rfl
 rw[aK (by decide) (by decide),hk,hn,aG0]
 refine aZ v 79 3 271 [.row [fnP 288 pt]] _ (by decide) (by decide) (by have:=hv.d;omega) hv.data (by decide) (by simp) (by rw[hn];exact j0 79 _ _ _ _ (by decide) (by simp)  rfl) (by(show List.length _<=_;simp[b9,bI,du,fc,fZ,gn,ga,b7,bB,bi,dj,pUM,pM,dh,dk,di,pSD,bA,bO])) (fun hk H i hi=>?_)
 have hx:=hv.x hk
 generalize v.d.drop (v.d.length-3)=x at hx ⊢
 exact⟨⟨_,func271,rfl,rfl⟩,lX 288 pt v x (v,dk x).2 (by simp) (fun H=>⟨⟨_,func288,rfl,rfl⟩,aT0 x hx H⟩) H i hi⟩
def aN3(v:VVm)(x:List Int):bF v 80 [70,77,47,77,79,68] x=(v,di x):=by kernel_rfl
def aF9(v:VVm)(hv:dA v):ab prog 166 [eVm v,i64 80] (tVm (doS v 80)):=by
 have hk:aX 80 (aq.getD (80:Int).toNat [])=3:=by kernel_rfl
 have hn:aq.getD (80:Int).toNat []=[70,77,47,77,79,68]:=by kernel_rfl
 rw[aK (by decide) (by decide),hk,hn,aN3]
 refine aZ v 80 3 271 [.row [fnP 290 pt]] _ (by decide) (by decide) (by have:=hv.d;omega) hv.data (by decide) (by simp) (by rw[hn];exact j0 80 _ _ _ _ (by decide) (by simp)  rfl) (by(show List.length _<=_;simp[b9,bI,du,fc,fZ,gn,ga,b7,bB,bi,dj,pUM,pM,dh,dk,di,pSD,bA,bO])) (fun hk H i hi=>?_)
 have hx:=hv.x hk
 generalize v.d.drop (v.d.length-3)=x at hx ⊢
 exact⟨⟨_,func271,rfl,rfl⟩,lX 290 pt v x (v,di x).2 (by simp) (fun H=>⟨⟨_,func290,rfl,rfl⟩,aN8 x hx H⟩) H i hi⟩
def aC9(v:VVm)(x:List Int):bF v 81 [83,62,68] x=(v,pSD x):=by kernel_rfl
def aL6(v:VVm)(hv:dA v):ab prog 166 [eVm v,i64 81] (tVm (doS v 81)):=by
 have hk:aX 81 (aq.getD (81:Int).toNat [])=1:=by kernel_rfl
 have hn:aq.getD (81:Int).toNat []=[83,62,68]:=by kernel_rfl
 rw[aK (by decide) (by decide),hk,hn,aC9]
 refine aZ v 81 1 271 [.row [fnP 291 []]] _ (by decide) (by decide) (by have:=hv.d;omega) hv.data (by decide) (by simp) (by rw[hn];exact j0 81 _ _ _ _ (by decide) (by simp)  rfl) (by(show List.length _<=_;simp[b9,bI,du,fc,fZ,gn,ga,b7,bB,bi,dj,pUM,pM,dh,dk,di,pSD,bA,bO])) (fun hk H i hi=>?_)
 have hx:=hv.x hk
 generalize v.d.drop (v.d.length-1)=x at hx ⊢
 exact⟨⟨_,func271,rfl,rfl⟩,lX 291 [] v x (v,pSD x).2 (by simp) (fun H=>⟨⟨_,func291,rfl,rfl⟩,aO5 x hx H⟩) H i hi⟩
def aH6(v:VVm)(x:List Int):bF v 82 [87,73,84,72,73,78] x=(v,bA x):=by kernel_rfl
def aM9(v:VVm)(hv:dA v):ab prog 166 [eVm v,i64 82] (tVm (doS v 82)):=by
 have hk:aX 82 (aq.getD (82:Int).toNat [])=3:=by kernel_rfl
 have hn:aq.getD (82:Int).toNat []=[87,73,84,72,73,78]:=by kernel_rfl
 rw[aK (by decide) (by decide),hk,hn,aH6]
 refine aZ v 82 3 271 [.row [fnP 293 []]] _ (by decide) (by decide) (by have:=hv.d;omega) hv.data (by decide) (by simp) (by rw[hn];exact j0 82 _ _ _ _ (by decide) (by simp)  rfl) (by(show List.length _<=_;simp[b9,bI,du,fc,fZ,gn,ga,b7,bB,bi,dj,pUM,pM,dh,dk,di,pSD,bA,bO])) (fun hk H i hi=>?_)
 have hx:=hv.x hk
 generalize v.d.drop (v.d.length-3)=x at hx ⊢
 exact⟨⟨_,func271,rfl,rfl⟩,lX 293 [] v x (v,bA x).2 (by simp) (fun H=>⟨⟨_,func293,rfl,rfl⟩,aK2 x hx H⟩) H i hi⟩
def aN7(v:VVm)(x:List Int):bF v 83 [64] x=b9 v x:=by kernel_rfl
def aM8(v:VVm)(hv:dA v):ab prog 166 [eVm v,i64 83] (tVm (doS v 83)):=by
 have hk:aX 83 (aq.getD (83:Int).toNat [])=1:=by kernel_rfl
 have hn:aq.getD (83:Int).toNat []=[64]:=by kernel_rfl
 rw[aK (by decide) (by decide),hk,hn,aN7]
 refine aZ v 83 1 367 [.row [fnP 39 []]] _ (by decide) (by decide) (by have:=hv.d;omega) hv.data (by decide) (by simp) (by rw[hn];exact j7 83 _ _ _ _ (by decide) (by simp) rfl rfl) (by(show List.length _<=_;simp[b9,bI,du,fc,fZ,gn,ga,b7,bB,bi,dj,pUM,pM,dh,dk,di,pSD,bA,bO])) (fun hk H i hi=>?_)
 have hx:=hv.x hk
 generalize v.d.drop (v.d.length-1)=x at hx ⊢
 exact⟨⟨_,func367,rfl,rfl⟩,xb 39 [] v x _ hx.len (by simp) (fun H=>⟨⟨_,func39,rfl,rfl⟩,(gy v.mem _ (gA hv.mem) (hx.fit 0)) H⟩) H i hi⟩
def aL8(v:VVm)(x:List Int):bF v 86 [67,64] x=bI v x:=by kernel_rfl
def aB3(v:VVm)(hv:dA v):ab prog 166 [eVm v,i64 86] (tVm (doS v 86)):=by
 have hk:aX 86 (aq.getD (86:Int).toNat [])=1:=by kernel_rfl
 have hn:aq.getD (86:Int).toNat []=[67,64]:=by kernel_rfl
 rw[aK (by decide) (by decide),hk,hn,aL8]
 refine aZ v 86 1 367 [.row [fnP 296 []]] _ (by decide) (by decide) (by have:=hv.d;omega) hv.data (by decide) (by simp) (by rw[hn];exact j7 86 _ _ _ _ (by decide) (by simp) rfl rfl) (by(show List.length _<=_;simp[b9,bI,du,fc,fZ,gn,ga,b7,bB,bi,dj,pUM,pM,dh,dk,di,pSD,bA,bO])) (fun hk H i hi=>?_)
 have hx:=hv.x hk
 generalize v.d.drop (v.d.length-1)=x at hx ⊢
 exact⟨⟨_,func367,rfl,rfl⟩,xb 296 [] v x _ hx.len (by simp) (fun H=>⟨⟨_,func296,rfl,rfl⟩,(t7 v.mem _ hv.mem (hx.fit 0)) H⟩) H i hi⟩
def aD0(v:VVm)(x:List Int):bF v 84 [33] x=du v (aJ v.mem (xat x 1) (xat x 0)):=by kernel_rfl
def aD1(v:VVm)(hv:dA v):ab prog 166 [eVm v,i64 84] (tVm (doS v 84)):=by
 have hk:aX 84 (aq.getD (84:Int).toNat [])=2:=by kernel_rfl
 have hn:aq.getD (84:Int).toNat []=[33]:=by kernel_rfl
 rw[aK (by decide) (by decide),hk,hn,aD0]
 refine aZ v 84 2 368 [.row [fnP 298 []]] _ (by decide) (by decide) (by have:=hv.d;omega) hv.data (by decide) (by simp) (by rw[hn];exact j7 84 _ _ _ _ (by decide) (by simp) rfl rfl) (by(show List.length _<=_;simp[b9,bI,du,fc,fZ,gn,ga,b7,bB,bi,dj,pUM,pM,dh,dk,di,pSD,bA,bO])) (fun hk H i hi=>?_)
 have hx:=hv.x hk
 generalize v.d.drop (v.d.length-2)=x at hx ⊢
 exact⟨⟨_,func368,rfl,rfl⟩,nV 298 [] v x _ (by simp) (fun H=>⟨⟨_,func298,rfl,rfl⟩,aT6 v x hv.mem hx H⟩) H i hi⟩
def aM7(v:VVm)(x:List Int):bF v 87 [67,33] x=du v (ny v.mem (xat x 1) (xat x 0)):=by kernel_rfl
def aN5(v:VVm)(hv:dA v):ab prog 166 [eVm v,i64 87] (tVm (doS v 87)):=by
 have hk:aX 87 (aq.getD (87:Int).toNat [])=2:=by kernel_rfl
 have hn:aq.getD (87:Int).toNat []=[67,33]:=by kernel_rfl
 rw[aK (by decide) (by decide),hk,hn,aM7]
 refine aZ v 87 2 368 [.row [fnP 299 []]] _ (by decide) (by decide) (by have:=hv.d;omega) hv.data (by decide) (by simp) (by rw[hn];exact j7 87 _ _ _ _ (by decide) (by simp) rfl rfl) (by(show List.length _<=_;simp[b9,bI,du,fc,fZ,gn,ga,b7,bB,bi,dj,pUM,pM,dh,dk,di,pSD,bA,bO])) (fun hk H i hi=>?_)
 have hx:=hv.x hk
 generalize v.d.drop (v.d.length-2)=x at hx ⊢
 exact⟨⟨_,func368,rfl,rfl⟩,nV 299 [] v x _ (by simp) (fun H=>⟨⟨_,func299,rfl,rfl⟩,aU7 v x hv.mem hx H⟩) H i hi⟩
def aD6(v:VVm)(x:List Int):bF v 85 [43,33] x=du v (rZ v x):=by kernel_rfl
def aL0(v:VVm)(hv:dA v):ab prog 166 [eVm v,i64 85] (tVm (doS v 85)):=by
 have hk:aX 85 (aq.getD (85:Int).toNat [])=2:=by kernel_rfl
 have hn:aq.getD (85:Int).toNat []=[43,33]:=by kernel_rfl
 rw[aK (by decide) (by decide),hk,hn,aD6]
 refine aZ v 85 2 368 [.row [fnP 301 []]] _ (by decide) (by decide) (by have:=hv.d;omega) hv.data (by decide) (by simp) (by rw[hn];exact j7 85 _ _ _ _ (by decide) (by simp) rfl rfl) (by(show List.length _<=_;simp[b9,bI,du,fc,fZ,gn,ga,b7,bB,bi,dj,pUM,pM,dh,dk,di,pSD,bA,bO])) (fun hk H i hi=>?_)
 have hx:=hv.x hk
 generalize v.d.drop (v.d.length-2)=x at hx ⊢
 exact⟨⟨_,func368,rfl,rfl⟩,nV 301 [] v x _ (by simp) (fun H=>⟨⟨_,func301,rfl,rfl⟩,aR3 v x hv.mem hx H⟩) H i hi⟩
def aK0(v:VVm)(x:List Int):bF v 88 [50,64] x=lx v x:=by kernel_rfl
def aN1(v:VVm)(hv:dA v):ab prog 166 [eVm v,i64 88] (tVm (doS v 88)):=by
 have hk:aX 88 (aq.getD (88:Int).toNat [])=1:=by kernel_rfl
 have hn:aq.getD (88:Int).toNat []=[50,64]:=by kernel_rfl
 rw[aK (by decide) (by decide),hk,hn,aK0]
 refine aZ v 88 1 302 [] _ (by decide) (by decide) (by have:=hv.d;omega) hv.data (by decide) (by simp) (by rw[hn];exact j7 88 _ _ _ _ (by decide) (by simp) rfl rfl) (by unfold lx;split<;>simp) (fun hk H i hi=>?_)
 have hx:=hv.x hk
 generalize v.d.drop (v.d.length-1)=x at hx ⊢
 exact⟨⟨_,func302,rfl,rfl⟩,aU0 v x hv.mem hx H i hi⟩
def aB8(v:VVm)(x:List Int):bF v 89 [50,33] x=du v (oS v x):=by kernel_rfl
def aN9(v:VVm)(hv:dA v):ab prog 166 [eVm v,i64 89] (tVm (doS v 89)):=by
 have hk:aX 89 (aq.getD (89:Int).toNat [])=3:=by kernel_rfl
 have hn:aq.getD (89:Int).toNat []=[50,33]:=by kernel_rfl
 rw[aK (by decide) (by decide),hk,hn,aB8]
 refine aZ v 89 3 368 [.row [fnP 303 []]] _ (by decide) (by decide) (by have:=hv.d;omega) hv.data (by decide) (by simp) (by rw[hn];exact j7 89 _ _ _ _ (by decide) (by simp) rfl rfl) (by(show List.length _<=_;simp[b9,bI,du,fc,fZ,gn,ga,b7,bB,bi,dj,pUM,pM,dh,dk,di,pSD,bA,bO])) (fun hk H i hi=>?_)
 have hx:=hv.x hk
 generalize v.d.drop (v.d.length-3)=x at hx ⊢
 exact⟨⟨_,func368,rfl,rfl⟩,nV 303 [] v x _ (by simp) (fun H=>⟨⟨_,func303,rfl,rfl⟩,aP4 v x hv.mem hv.old hx H⟩) H i hi⟩
def aE7(v:VVm)(x:List Int):bF v 90 [70,73,76,76] x=du v (nv v.mem (xat x 0) (xat x 1) (xat x 2)):=by kernel_rfl
def aI6(v:VVm)(hv:dA v):ab prog 166 [eVm v,i64 90] (tVm (doS v 90)):=by
 have hk:aX 90 (aq.getD (90:Int).toNat [])=3:=by kernel_rfl
 have hn:aq.getD (90:Int).toNat []=[70,73,76,76]:=by kernel_rfl
 rw[aK (by decide) (by decide),hk,hn,aE7]
 refine aZ v 90 3 368 [.row [fnP 304 []]] _ (by decide) (by decide) (by have:=hv.d;omega) hv.data (by decide) (by simp) (by rw[hn];exact j7 90 _ _ _ _ (by decide) (by simp) rfl rfl) (by(show List.length _<=_;simp[b9,bI,du,fc,fZ,gn,ga,b7,bB,bi,dj,pUM,pM,dh,dk,di,pSD,bA,bO])) (fun hk H i hi=>?_)
 have hx:=hv.x hk
 generalize v.d.drop (v.d.length-3)=x at hx ⊢
 exact⟨⟨_,func368,rfl,rfl⟩,nV 304 [] v x _ (by simp) (fun H=>⟨⟨_,func304,rfl,rfl⟩,aQ0 v x hv.mem hx H⟩) H i hi⟩
def aE6(v:VVm)(x:List Int):bF v 91 [77,79,86,69] x=du v (nu v.mem (xat x 0) (xat x 1) (xat x 2)):=by kernel_rfl
def aB9(v:VVm)(hv:dA v):ab prog 166 [eVm v,i64 91] (tVm (doS v 91)):=by
 have hk:aX 91 (aq.getD (91:Int).toNat [])=3:=by kernel_rfl
 have hn:aq.getD (91:Int).toNat []=[77,79,86,69]:=by kernel_rfl
 rw[aK (by decide) (by decide),hk,hn,aE6]
 refine aZ v 91 3 368 [.row [fnP 306 []]] _ (by decide) (by decide) (by have:=hv.d;omega) hv.data (by decide) (by simp) (by rw[hn];exact j7 91 _ _ _ _ (by decide) (by simp) rfl rfl) (by(show List.length _<=_;simp[b9,bI,du,fc,fZ,gn,ga,b7,bB,bi,dj,pUM,pM,dh,dk,di,pSD,bA,bO])) (fun hk H i hi=>?_)
 have hx:=hv.x hk
 generalize v.d.drop (v.d.length-3)=x at hx ⊢
 exact⟨⟨_,func368,rfl,rfl⟩,nV 306 [] v x _ (by simp) (fun H=>⟨⟨_,func306,rfl,rfl⟩,aP9 v x hv.mem hx H⟩) H i hi⟩
def aA9(v:VVm)(x:List Int):bF v 92 [67,79,85,78,84] x=b7 v x:=by kernel_rfl
def aA4(v:VVm)(hv:dA v):ab prog 166 [eVm v,i64 92] (tVm (doS v 92)):=by
 have hk:aX 92 (aq.getD (92:Int).toNat [])=1:=by kernel_rfl
 have hn:aq.getD (92:Int).toNat []=[67,79,85,78,84]:=by kernel_rfl
 rw[aK (by decide) (by decide),hk,hn,aA9]
 refine aZ v 92 1 308 [] _ (by decide) (by decide) (by have:=hv.d;omega) hv.data (by decide) (by simp) (by rw[hn];exact j7 92 _ _ _ _ (by decide) (by simp) rfl rfl) (by(show List.length _<=_;simp[b9,bI,du,fc,fZ,gn,ga,b7,bB,bi,dj,pUM,pM,dh,dk,di,pSD,bA,bO])) (fun hk H i hi=>?_)
 have hx:=hv.x hk
 generalize v.d.drop (v.d.length-1)=x at hx ⊢
 exact⟨⟨_,func308,rfl,rfl⟩,aR7 v x hv.mem hx H i hi⟩
def aF0(v:VVm)(x:List Int):bF v 93 [72,69,82,69] x=(v,[v.here],0):=by kernel_rfl
def aO3(v:VVm)(hv:dA v):ab prog 166 [eVm v,i64 93] (tVm (doS v 93)):=by
 have hk:aX 93 (aq.getD (93:Int).toNat [])=0:=by kernel_rfl
 have hn:aq.getD (93:Int).toNat []=[72,69,82,69]:=by kernel_rfl
 rw[aK (by decide) (by decide),hk,hn,aF0]
 refine aZ v 93 0 370 [.row [fnP 315 []]] _ (by decide) (by decide) (by have:=hv.d;omega) hv.data (by decide) (by simp) (by rw[hn];exact iK 93 _ _ _ _ (by decide) (by simp) rfl rfl rfl) (by(show List.length _<=_;simp[b9,bI,du,fc,fZ,gn,ga,b7,bB,bi,dj,pUM,pM,dh,dk,di,pSD,bA,bO])) (fun hk H i hi=>?_)
 have hx:=hv.x hk
 generalize v.d.drop (v.d.length-0)=x at hx ⊢
 exact⟨⟨_,func370,rfl,rfl⟩,nI 315 [] v x _ (by simp) (fun H=>⟨⟨_,func315,rfl,rfl⟩,aU6 v H⟩) H i hi⟩
def aI4(v:VVm)(x:List Int):bF v 94 [65,76,76,79,84] x=fc v (uf v x):=by kernel_rfl
def aL5(v:VVm)(hv:dA v):ab prog 166 [eVm v,i64 94] (tVm (doS v 94)):=by
 have hk:aX 94 (aq.getD (94:Int).toNat [])=1:=by kernel_rfl
 have hn:aq.getD (94:Int).toNat []=[65,76,76,79,84]:=by kernel_rfl
 rw[aK (by decide) (by decide),hk,hn,aI4]
 refine aZ v 94 1 371 [.row [fnP 317 []]] _ (by decide) (by decide) (by have:=hv.d;omega) hv.data (by decide) (by simp) (by rw[hn];exact iK 94 _ _ _ _ (by decide) (by simp) rfl rfl rfl) (by(show List.length _<=_;simp[b9,bI,du,fc,fZ,gn,ga,b7,bB,bi,dj,pUM,pM,dh,dk,di,pSD,bA,bO])) (fun hk H i hi=>?_)
 have hx:=hv.x hk
 generalize v.d.drop (v.d.length-1)=x at hx ⊢
 exact⟨⟨_,func371,rfl,rfl⟩,FM 317 [] v x _ (by simp) (fun H=>⟨⟨_,func317,rfl,rfl⟩,aR0 v x hv.mem hv.here hx H⟩) H i hi⟩
def aI2(v:VVm)(x:List Int):bF v 95 [44] x=fc v (ct v.mem v.here (xat x 0)):=by kernel_rfl
def aJ8(v:VVm)(hv:dA v):ab prog 166 [eVm v,i64 95] (tVm (doS v 95)):=by
 have hk:aX 95 (aq.getD (95:Int).toNat [])=1:=by kernel_rfl
 have hn:aq.getD (95:Int).toNat []=[44]:=by kernel_rfl
 rw[aK (by decide) (by decide),hk,hn,aI2]
 refine aZ v 95 1 371 [.row [fnP 319 []]] _ (by decide) (by decide) (by have:=hv.d;omega) hv.data (by decide) (by simp) (by rw[hn];exact iK 95 _ _ _ _ (by decide) (by simp) rfl rfl rfl) (by(show List.length _<=_;simp[b9,bI,du,fc,fZ,gn,ga,b7,bB,bi,dj,pUM,pM,dh,dk,di,pSD,bA,bO])) (fun hk H i hi=>?_)
 have hx:=hv.x hk
 generalize v.d.drop (v.d.length-1)=x at hx ⊢
 exact⟨⟨_,func371,rfl,rfl⟩,FM 319 [] v x _ (by simp) (fun H=>⟨⟨_,func319,rfl,rfl⟩,aS9 v x hv.mem hv.here hx H⟩) H i hi⟩
def aG4(v:VVm)(x:List Int):bF v 96 [67,44] x=fc v (cZ v.mem v.here [loB (xat x 0)]):=by kernel_rfl
def aG7(v:VVm)(hv:dA v):ab prog 166 [eVm v,i64 96] (tVm (doS v 96)):=by
 have hk:aX 96 (aq.getD (96:Int).toNat [])=1:=by kernel_rfl
 have hn:aq.getD (96:Int).toNat []=[67,44]:=by kernel_rfl
 rw[aK (by decide) (by decide),hk,hn,aG4]
 refine aZ v 96 1 371 [.row [fnP 320 []]] _ (by decide) (by decide) (by have:=hv.d;omega) hv.data (by decide) (by simp) (by rw[hn];exact iK 96 _ _ _ _ (by decide) (by simp) rfl rfl rfl) (by(show List.length _<=_;simp[b9,bI,du,fc,fZ,gn,ga,b7,bB,bi,dj,pUM,pM,dh,dk,di,pSD,bA,bO])) (fun hk H i hi=>?_)
 have hx:=hv.x hk
 generalize v.d.drop (v.d.length-1)=x at hx ⊢
 exact⟨⟨_,func371,rfl,rfl⟩,FM 320 [] v x _ (by simp) (fun H=>⟨⟨_,func320,rfl,rfl⟩,aU9 v x hv.mem hv.here hx H⟩) H i hi⟩
def aF6(v:VVm)(x:List Int):bF v 97 [65,76,73,71,78] x=fc v (aO v.mem v.here):=by kernel_rfl
def aL1(v:VVm)(hv:dA v):ab prog 166 [eVm v,i64 97] (tVm (doS v 97)):=by
 have hk:aX 97 (aq.getD (97:Int).toNat [])=0:=by kernel_rfl
 have hn:aq.getD (97:Int).toNat []=[65,76,73,71,78]:=by kernel_rfl
 rw[aK (by decide) (by decide),hk,hn,aF6]
 refine aZ v 97 0 371 [.row [fnP 321 []]] _ (by decide) (by decide) (by have:=hv.d;omega) hv.data (by decide) (by simp) (by rw[hn];exact iK 97 _ _ _ _ (by decide) (by simp) rfl rfl rfl) (by(show List.length _<=_;simp[b9,bI,du,fc,fZ,gn,ga,b7,bB,bi,dj,pUM,pM,dh,dk,di,pSD,bA,bO])) (fun hk H i hi=>?_)
 have hx:=hv.x hk
 generalize v.d.drop (v.d.length-0)=x at hx ⊢
 exact⟨⟨_,func371,rfl,rfl⟩,FM 321 [] v x _ (by simp) (fun H=>⟨⟨_,func321,rfl,rfl⟩,aS2 v x hv.mem hv.here H⟩) H i hi⟩
def aH3(v:VVm)(x:List Int):bF v 98 [66,65,83,69] x=(v,[0],0):=by kernel_rfl
def aJ1(v:VVm)(hv:dA v):ab prog 166 [eVm v,i64 98] (tVm (doS v 98)):=by
 have hk:aX 98 (aq.getD (98:Int).toNat [])=0:=by kernel_rfl
 have hn:aq.getD (98:Int).toNat []=[66,65,83,69]:=by kernel_rfl
 rw[aK (by decide) (by decide),hk,hn,aH3]
 refine aZ v 98 0 370 [.row [fnP 314 [.row [i64 (0)]]]] _ (by decide) (by decide) (by have:=hv.d;omega) hv.data (by decide) (by simp) (by rw[hn];exact iK 98 _ _ _ _ (by decide) (by simp) rfl rfl rfl) (by(show List.length _<=_;simp[b9,bI,du,fc,fZ,gn,ga,b7,bB,bi,dj,pUM,pM,dh,dk,di,pSD,bA,bO])) (fun hk H i hi=>?_)
 have hx:=hv.x hk
 generalize v.d.drop (v.d.length-0)=x at hx ⊢
 exact⟨⟨_,func370,rfl,rfl⟩,nI 314 [.row [i64 (0)]] v x (0) (by simp) (fun H=>⟨⟨_,func314,rfl,rfl⟩,ss v (0) H⟩) H i hi⟩
def aD8(v:VVm)(x:List Int):bF v 99 [83,84,65,84,69] x=(v,[8],0):=by kernel_rfl
def aE8(v:VVm)(hv:dA v):ab prog 166 [eVm v,i64 99] (tVm (doS v 99)):=by
 have hk:aX 99 (aq.getD (99:Int).toNat [])=0:=by kernel_rfl
 have hn:aq.getD (99:Int).toNat []=[83,84,65,84,69]:=by kernel_rfl
 rw[aK (by decide) (by decide),hk,hn,aD8]
 refine aZ v 99 0 370 [.row [fnP 314 [.row [i64 (8)]]]] _ (by decide) (by decide) (by have:=hv.d;omega) hv.data (by decide) (by simp) (by rw[hn];exact iK 99 _ _ _ _ (by decide) (by simp) rfl rfl rfl) (by(show List.length _<=_;simp[b9,bI,du,fc,fZ,gn,ga,b7,bB,bi,dj,pUM,pM,dh,dk,di,pSD,bA,bO])) (fun hk H i hi=>?_)
 have hx:=hv.x hk
 generalize v.d.drop (v.d.length-0)=x at hx ⊢
 exact⟨⟨_,func370,rfl,rfl⟩,nI 314 [.row [i64 (8)]] v x (8) (by simp) (fun H=>⟨⟨_,func314,rfl,rfl⟩,ss v (8) H⟩) H i hi⟩
def ai4(v:VVm)(x:List Int):bF v 100 [84,82,85,69] x=(v,[-1],0):=by kernel_rfl
def ao0(v:VVm)(hv:dA v):ab prog 166 [eVm v,i64 100] (tVm (doS v 100)):=by
 have hk:aX 100 (aq.getD (100:Int).toNat [])=0:=by kernel_rfl
 have hn:aq.getD (100:Int).toNat []=[84,82,85,69]:=by kernel_rfl
 rw[aK (by decide) (by decide),hk,hn,ai4]
 refine aZ v 100 0 370 [.row [fnP 314 [.row [i64 (-1)]]]] _ (by decide) (by decide) (by have:=hv.d;omega) hv.data (by decide) (by simp) (by rw[hn];exact iK 100 _ _ _ _ (by decide) (by simp) rfl rfl rfl) (by(show List.length _<=_;simp[b9,bI,du,fc,fZ,gn,ga,b7,bB,bi,dj,pUM,pM,dh,dk,di,pSD,bA,bO])) (fun hk H i hi=>?_)
 have hx:=hv.x hk
 generalize v.d.drop (v.d.length-0)=x at hx ⊢
 exact⟨⟨_,func370,rfl,rfl⟩,nI 314 [.row [i64 (-1)]] v x (-1) (by simp) (fun H=>⟨⟨_,func314,rfl,rfl⟩,ss v (-1) H⟩) H i hi⟩
def af1(v:VVm)(x:List Int):bF v 101 [70,65,76,83,69] x=(v,[0],0):=by kernel_rfl
def au6(v:VVm)(hv:dA v):ab prog 166 [eVm v,i64 101] (tVm (doS v 101)):=by
 have hk:aX 101 (aq.getD (101:Int).toNat [])=0:=by kernel_rfl
 have hn:aq.getD (101:Int).toNat []=[70,65,76,83,69]:=by kernel_rfl
 rw[aK (by decide) (by decide),hk,hn,af1]
 refine aZ v 101 0 370 [.row [fnP 314 [.row [i64 (0)]]]] _ (by decide) (by decide) (by have:=hv.d;omega) hv.data (by decide) (by simp) (by rw[hn];exact iK 101 _ _ _ _ (by decide) (by simp) rfl rfl rfl) (by(show List.length _<=_;simp[b9,bI,du,fc,fZ,gn,ga,b7,bB,bi,dj,pUM,pM,dh,dk,di,pSD,bA,bO])) (fun hk H i hi=>?_)
 have hx:=hv.x hk
 generalize v.d.drop (v.d.length-0)=x at hx ⊢
 exact⟨⟨_,func370,rfl,rfl⟩,nI 314 [.row [i64 (0)]] v x (0) (by simp) (fun H=>⟨⟨_,func314,rfl,rfl⟩,ss v (0) H⟩) H i hi⟩
def au2(v:VVm)(x:List Int):bF v 102 [66,76] x=(v,[32],0):=by kernel_rfl
def ak5(v:VVm)(hv:dA v):ab prog 166 [eVm v,i64 102] (tVm (doS v 102)):=by
 have hk:aX 102 (aq.getD (102:Int).toNat [])=0:=by kernel_rfl
 have hn:aq.getD (102:Int).toNat []=[66,76]:=by kernel_rfl
 rw[aK (by decide) (by decide),hk,hn,au2]
 refine aZ v 102 0 370 [.row [fnP 314 [.row [i64 (32)]]]] _ (by decide) (by decide) (by have:=hv.d;omega) hv.data (by decide) (by simp) (by rw[hn];exact iK 102 _ _ _ _ (by decide) (by simp) rfl rfl rfl) (by(show List.length _<=_;simp[b9,bI,du,fc,fZ,gn,ga,b7,bB,bi,dj,pUM,pM,dh,dk,di,pSD,bA,bO])) (fun hk H i hi=>?_)
 have hx:=hv.x hk
 generalize v.d.drop (v.d.length-0)=x at hx ⊢
 exact⟨⟨_,func370,rfl,rfl⟩,nI 314 [.row [i64 (32)]] v x (32) (by simp) (fun H=>⟨⟨_,func314,rfl,rfl⟩,ss v (32) H⟩) H i hi⟩
def au0(v:VVm)(x:List Int):bF v 103 [68,69,67,73,77,65,76] x=du v (aJ v.mem 0 10):=by kernel_rfl
def ar2(v:VVm)(hv:dA v):ab prog 166 [eVm v,i64 103] (tVm (doS v 103)):=by
 have hk:aX 103 (aq.getD (103:Int).toNat [])=0:=by kernel_rfl
 have hn:aq.getD (103:Int).toNat []=[68,69,67,73,77,65,76]:=by kernel_rfl
 rw[aK (by decide) (by decide),hk,hn,au0]
 refine aZ v 103 0 310 [.row [i64 10]] _ (by decide) (by decide) (by have:=hv.d;omega) hv.data (by decide) (by simp) (by rw[hn];exact iK 103 _ _ _ _ (by decide) (by simp) rfl rfl rfl) (by(show List.length _<=_;simp[b9,bI,du,fc,fZ,gn,ga,b7,bB,bi,dj,pUM,pM,dh,dk,di,pSD,bA,bO])) (fun hk H i hi=>?_)
 have hx:=hv.x hk
 generalize v.d.drop (v.d.length-0)=x at hx ⊢
 exact⟨⟨_,func310,rfl,rfl⟩,UC v x 10 hv.mem H i hi⟩
def av0(v:VVm)(x:List Int):bF v 104 [72,69,88] x=du v (aJ v.mem 0 16):=by kernel_rfl
def at5(v:VVm)(hv:dA v):ab prog 166 [eVm v,i64 104] (tVm (doS v 104)):=by
 have hk:aX 104 (aq.getD (104:Int).toNat [])=0:=by kernel_rfl
 have hn:aq.getD (104:Int).toNat []=[72,69,88]:=by kernel_rfl
 rw[aK (by decide) (by decide),hk,hn,av0]
 refine aZ v 104 0 310 [.row [i64 16]] _ (by decide) (by decide) (by have:=hv.d;omega) hv.data (by decide) (by simp) (by rw[hn];exact iK 104 _ _ _ _ (by decide) (by simp) rfl rfl rfl) (by(show List.length _<=_;simp[b9,bI,du,fc,fZ,gn,ga,b7,bB,bi,dj,pUM,pM,dh,dk,di,pSD,bA,bO])) (fun hk H i hi=>?_)
 have hx:=hv.x hk
 generalize v.d.drop (v.d.length-0)=x at hx ⊢
 exact⟨⟨_,func310,rfl,rfl⟩,UC v x 16 hv.mem H i hi⟩
def ag8(v:VVm)(x:List Int):bF v 105 [69,77,73,84] x=cG v ([loB (xat x 0)],0):=by kernel_rfl
def an3(v:VVm)(hv:dA v):ab prog 166 [eVm v,i64 105] (tVm (doS v 105)):=by
 have hk:aX 105 (aq.getD (105:Int).toNat [])=1:=by kernel_rfl
 have hn:aq.getD (105:Int).toNat []=[69,77,73,84]:=by kernel_rfl
 rw[aK (by decide) (by decide),hk,hn,ag8]
 refine aZ v 105 1 372 [.row [fnP 328 []]] _ (by decide) (by decide) (by have:=hv.d;omega) hv.data (by decide) (by simp) (by rw[hn];exact nX 105 _ _ _ _ (by decide) (by simp) rfl rfl rfl rfl) (by unfold cG;split<;>simp) (fun hk H i hi=>?_)
 have hx:=hv.x hk
 generalize v.d.drop (v.d.length-1)=x at hx ⊢
 exact⟨⟨_,func372,rfl,rfl⟩,uE 328 [] v x ([loB (xat x 0)],0) hv.out1 hv.out (by simp) (by simp) (fun H=>⟨⟨_,func328,rfl,rfl⟩,aS0 v x hx H⟩) H i hi⟩
def ap7(v:VVm)(x:List Int):bF v 106 [67,82] x=cG v ([10],0):=by kernel_rfl
def af2(v:VVm)(hv:dA v):ab prog 166 [eVm v,i64 106] (tVm (doS v 106)):=by
 have hk:aX 106 (aq.getD (106:Int).toNat [])=0:=by kernel_rfl
 have hn:aq.getD (106:Int).toNat []=[67,82]:=by kernel_rfl
 rw[aK (by decide) (by decide),hk,hn,ap7]
 refine aZ v 106 0 372 [.row [fnP 327 [.row [str [10]]]]] _ (by decide) (by decide) (by have:=hv.d;omega) hv.data (by decide) (by simp) (by rw[hn];exact nX 106 _ _ _ _ (by decide) (by simp) rfl rfl rfl rfl) (by unfold cG;split<;>simp) (fun hk H i hi=>?_)
 have hx:=hv.x hk
 generalize v.d.drop (v.d.length-0)=x at hx ⊢
 exact⟨⟨_,func372,rfl,rfl⟩,uE 327 [.row [str [10]]] v x ([10],0) hv.out1 hv.out (by simp) (by simp) (fun H=>⟨⟨_,func327,rfl,rfl⟩,RB [10] v x H⟩) H i hi⟩
def ao7(v:VVm)(x:List Int):bF v 107 [83,80,65,67,69] x=cG v ([32],0):=by kernel_rfl
def aj1(v:VVm)(hv:dA v):ab prog 166 [eVm v,i64 107] (tVm (doS v 107)):=by
 have hk:aX 107 (aq.getD (107:Int).toNat [])=0:=by kernel_rfl
 have hn:aq.getD (107:Int).toNat []=[83,80,65,67,69]:=by kernel_rfl
 rw[aK (by decide) (by decide),hk,hn,ao7]
 refine aZ v 107 0 372 [.row [fnP 327 [.row [str [32]]]]] _ (by decide) (by decide) (by have:=hv.d;omega) hv.data (by decide) (by simp) (by rw[hn];exact nX 107 _ _ _ _ (by decide) (by simp) rfl rfl rfl rfl) (by unfold cG;split<;>simp) (fun hk H i hi=>?_)
 have hx:=hv.x hk
 generalize v.d.drop (v.d.length-0)=x at hx ⊢
 exact⟨⟨_,func372,rfl,rfl⟩,uE 327 [.row [str [32]]] v x ([32],0) hv.out1 hv.out (by simp) (by simp) (fun H=>⟨⟨_,func327,rfl,rfl⟩,RB [32] v x H⟩) H i hi⟩
def am7(v:VVm)(x:List Int):bF v 108 [83,80,65,67,69,83] x=cG v (vK v x,0):=by kernel_rfl
def ao5(v:VVm)(hv:dA v):ab prog 166 [eVm v,i64 108] (tVm (doS v 108)):=by
 have hk:aX 108 (aq.getD (108:Int).toNat [])=1:=by kernel_rfl
 have hn:aq.getD (108:Int).toNat []=[83,80,65,67,69,83]:=by kernel_rfl
 rw[aK (by decide) (by decide),hk,hn,am7]
 refine aZ v 108 1 372 [.row [fnP 329 []]] _ (by decide) (by decide) (by have:=hv.d;omega) hv.data (by decide) (by simp) (by rw[hn];exact nX 108 _ _ _ _ (by decide) (by simp) rfl rfl rfl rfl) (by unfold cG;split<;>simp) (fun hk H i hi=>?_)
 have hx:=hv.x hk
 generalize v.d.drop (v.d.length-1)=x at hx ⊢
 exact⟨⟨_,func372,rfl,rfl⟩,uE 329 [] v x (vK v x,0) hv.out1 hv.out (by have:=hv.out2;simp only[vK,List.length_replicate];omega) (by simp) (fun H=>⟨⟨_,func329,rfl,rfl⟩,aQ8 v x hv.out2 hx H⟩) H i hi⟩
def aj4(v:VVm)(x:List Int):bF v 109 [84,89,80,69] x=cG v (dP v.mem (xat x 0) (xat x 1)):=by kernel_rfl
def af0(v:VVm)(hv:dA v):ab prog 166 [eVm v,i64 109] (tVm (doS v 109)):=by
 have hk:aX 109 (aq.getD (109:Int).toNat [])=2:=by kernel_rfl
 have hn:aq.getD (109:Int).toNat []=[84,89,80,69]:=by kernel_rfl
 rw[aK (by decide) (by decide),hk,hn,aj4]
 refine aZ v 109 2 372 [.row [fnP 331 []]] _ (by decide) (by decide) (by have:=hv.d;omega) hv.data (by decide) (by simp) (by rw[hn];exact nX 109 _ _ _ _ (by decide) (by simp) rfl rfl rfl rfl) (by unfold cG;split<;>simp) (fun hk H i hi=>?_)
 have hx:=hv.x hk
 generalize v.d.drop (v.d.length-2)=x at hx ⊢
 exact⟨⟨_,func372,rfl,rfl⟩,uE 331 [] v x (dP v.mem (xat x 0) (xat x 1)) hv.out1 hv.out (by have:=FP v.mem (xat x 0) (xat x 1);have:=hv.mem.b;omega) (by simp) (fun H=>⟨⟨_,func331,rfl,rfl⟩,aR6 v x hv.mem hx H⟩) H i hi⟩
def ag5(v:VVm)(x:List Int):bF v 110 [46] x=cG v (pu (ir (xat x 0) (jO v))):=by kernel_rfl
def ax5(v:VVm)(hv:dA v):ab prog 166 [eVm v,i64 110] (tVm (doS v 110)):=by
 have hk:aX 110 (aq.getD (110:Int).toNat [])=1:=by kernel_rfl
 have hn:aq.getD (110:Int).toNat []=[46]:=by kernel_rfl
 rw[aK (by decide) (by decide),hk,hn,ag5]
 refine aZ v 110 1 372 [.row [fnP 324 [.row [fnP 332 []]]]] _ (by decide) (by decide) (by have:=hv.d;omega) hv.data (by decide) (by simp) (by rw[hn];exact nX 110 _ _ _ _ (by decide) (by simp) rfl rfl rfl rfl) (by unfold cG;split<;>simp) (fun hk H i hi=>?_)
 have hx:=hv.x hk
 generalize v.d.drop (v.d.length-1)=x at hx ⊢
 exact⟨⟨_,func372,rfl,rfl⟩,uE 324 [.row [fnP 332 []]] v x (pu (ir (xat x 0) (jO v))) hv.out1 hv.out (by have:=CH (xat x 0) (jO v);simp only[pu,List.length_append,List.length_singleton];omega) (by simp) (fun H=>⟨⟨_,func324,rfl,rfl⟩,GB 332 [] v x (ir (xat x 0) (jO v)) hx.len (gA hv.mem) (by have:=CH (xat x 0) (jO v);omega) (by simp) (fun H=>⟨⟨_,func332,rfl,rfl⟩,ao3 _ _ (hx.fit 0) H⟩) H⟩) H i hi⟩
def ar0(v:VVm)(x:List Int):bF v 111 [85,46] x=cG v (pu (gV (xat x 0) (jO v))):=by kernel_rfl
def aj0(v:VVm)(hv:dA v):ab prog 166 [eVm v,i64 111] (tVm (doS v 111)):=by
 have hk:aX 111 (aq.getD (111:Int).toNat [])=1:=by kernel_rfl
 have hn:aq.getD (111:Int).toNat []=[85,46]:=by kernel_rfl
 rw[aK (by decide) (by decide),hk,hn,ar0]
 refine aZ v 111 1 372 [.row [fnP 324 [.row [fnP 333 []]]]] _ (by decide) (by decide) (by have:=hv.d;omega) hv.data (by decide) (by simp) (by rw[hn];exact nX 111 _ _ _ _ (by decide) (by simp) rfl rfl rfl rfl) (by unfold cG;split<;>simp) (fun hk H i hi=>?_)
 have hx:=hv.x hk
 generalize v.d.drop (v.d.length-1)=x at hx ⊢
 exact⟨⟨_,func372,rfl,rfl⟩,uE 324 [.row [fnP 333 []]] v x (pu (gV (xat x 0) (jO v))) hv.out1 hv.out (by have:=By (xat x 0) (jO v);simp only[pu,List.length_append,List.length_singleton];omega) (by simp) (fun H=>⟨⟨_,func324,rfl,rfl⟩,GB 333 [] v x (gV (xat x 0) (jO v)) hx.len (gA hv.mem) (by have:=By (xat x 0) (jO v);omega) (by simp) (fun H=>⟨⟨_,func333,rfl,rfl⟩,ZG _ _ (hx.fit 0) H⟩) H⟩) H i hi⟩
def aj6(v:VVm)(x:List Int):bF v 112 [60,35] x=(tY v ⟨[],true⟩,[],0):=by kernel_rfl
def ak2(v:VVm)(hv:dA v):ab prog 166 [eVm v,i64 112] (tVm (doS v 112)):=by
 have hk:aX 112 (aq.getD (112:Int).toNat [])=0:=by kernel_rfl
 have hn:aq.getD (112:Int).toNat []=[60,35]:=by kernel_rfl
 rw[aK (by decide) (by decide),hk,hn,aj6]
 refine aZ v 112 0 336 [] _ (by decide) (by decide) (by have:=hv.d;omega) hv.data (by decide) (by simp) (by rw[hn];exact px 112 _ _ _ _ (by decide) (by simp) rfl rfl rfl rfl rfl) (by(show List.length _<=_;simp[b9,bI,du,fc,fZ,gn,ga,b7,bB,bi,dj,pUM,pM,dh,dk,di,pSD,bA,bO])) (fun hk H i hi=>?_)
 have hx:=hv.x hk
 generalize v.d.drop (v.d.length-0)=x at hx ⊢
 exact⟨⟨_,func336,rfl,rfl⟩,aT8 v x H i hi⟩
def ar1(v:VVm)(x:List Int):bF v 113 [35] x=gn v x:=by kernel_rfl
def as7(v:VVm)(hv:dA v):ab prog 166 [eVm v,i64 113] (tVm (doS v 113)):=by
 have hk:aX 113 (aq.getD (113:Int).toNat [])=2:=by kernel_rfl
 have hn:aq.getD (113:Int).toNat []=[35]:=by kernel_rfl
 rw[aK (by decide) (by decide),hk,hn,ar1]
 refine aZ v 113 2 338 [] _ (by decide) (by decide) (by have:=hv.d;omega) hv.data (by decide) (by simp) (by rw[hn];exact px 113 _ _ _ _ (by decide) (by simp) rfl rfl rfl rfl rfl) (by(show List.length _<=_;simp[b9,bI,du,fc,fZ,gn,ga,b7,bB,bi,dj,pUM,pM,dh,dk,di,pSD,bA,bO])) (fun hk H i hi=>?_)
 have hx:=hv.x hk
 generalize v.d.drop (v.d.length-2)=x at hx ⊢
 exact⟨⟨_,func338,rfl,rfl⟩,aQ7 v x hv.pic (gA hv.mem) hx H i hi⟩
def ag1(v:VVm)(x:List Int):bF v 114 [35,83] x=ga v x:=by kernel_rfl
def al0(v:VVm)(hv:dA v):ab prog 166 [eVm v,i64 114] (tVm (doS v 114)):=by
 have hk:aX 114 (aq.getD (114:Int).toNat [])=2:=by kernel_rfl
 have hn:aq.getD (114:Int).toNat []=[35,83]:=by kernel_rfl
 rw[aK (by decide) (by decide),hk,hn,ag1]
 refine aZ v 114 2 340 [] _ (by decide) (by decide) (by have:=hv.d;omega) hv.data (by decide) (by simp) (by rw[hn];exact px 114 _ _ _ _ (by decide) (by simp) rfl rfl rfl rfl rfl) (by(show List.length _<=_;simp[b9,bI,du,fc,fZ,gn,ga,b7,bB,bi,dj,pUM,pM,dh,dk,di,pSD,bA,bO])) (fun hk H i hi=>?_)
 have hx:=hv.x hk
 generalize v.d.drop (v.d.length-2)=x at hx ⊢
 exact⟨⟨_,func340,rfl,rfl⟩,aQ4 v x hv.pic (gA hv.mem) hx H i hi⟩
def ar8(v:VVm)(x:List Int):bF v 115 [72,79,76,68] x=fZ v (gR v.pic (xat x 0)):=by kernel_rfl
def av9(v:VVm)(hv:dA v):ab prog 166 [eVm v,i64 115] (tVm (doS v 115)):=by
 have hk:aX 115 (aq.getD (115:Int).toNat [])=1:=by kernel_rfl
 have hn:aq.getD (115:Int).toNat []=[72,79,76,68]:=by kernel_rfl
 rw[aK (by decide) (by decide),hk,hn,ar8]
 refine aZ v 115 1 335 [.row [fnP 342 []]] _ (by decide) (by decide) (by have:=hv.d;omega) hv.data (by decide) (by simp) (by rw[hn];exact px 115 _ _ _ _ (by decide) (by simp) rfl rfl rfl rfl rfl) (by(show List.length _<=_;simp[b9,bI,du,fc,fZ,gn,ga,b7,bB,bi,dj,pUM,pM,dh,dk,di,pSD,bA,bO])) (fun hk H i hi=>?_)
 have hx:=hv.x hk
 generalize v.d.drop (v.d.length-1)=x at hx ⊢
 exact⟨⟨_,func335,rfl,rfl⟩,ad7 342 [] v x _ hx.len (by simp) (fun H=>⟨⟨_,func342,rfl,rfl⟩,BJ v.pic _ hv.pic H⟩) H i hi⟩
def ai8(v:VVm)(x:List Int):bF v 116 [83,73,71,78] x=fZ v (oZ v.pic (xat x 0)):=by kernel_rfl
def ao8(v:VVm)(hv:dA v):ab prog 166 [eVm v,i64 116] (tVm (doS v 116)):=by
 have hk:aX 116 (aq.getD (116:Int).toNat [])=1:=by kernel_rfl
 have hn:aq.getD (116:Int).toNat []=[83,73,71,78]:=by kernel_rfl
 rw[aK (by decide) (by decide),hk,hn,ai8]
 refine aZ v 116 1 335 [.row [fnP 343 []]] _ (by decide) (by decide) (by have:=hv.d;omega) hv.data (by decide) (by simp) (by rw[hn];exact px 116 _ _ _ _ (by decide) (by simp) rfl rfl rfl rfl rfl) (by(show List.length _<=_;simp[b9,bI,du,fc,fZ,gn,ga,b7,bB,bi,dj,pUM,pM,dh,dk,di,pSD,bA,bO])) (fun hk H i hi=>?_)
 have hx:=hv.x hk
 generalize v.d.drop (v.d.length-1)=x at hx ⊢
 exact⟨⟨_,func335,rfl,rfl⟩,ad7 343 [] v x _ hx.len (by simp) (fun H=>⟨⟨_,func343,rfl,rfl⟩,Uh v.pic _ hv.pic H⟩) H i hi⟩
def ai1(v:VVm)(x:List Int):bF v 117 [35,62] x=xL v:=by kernel_rfl
def aq2(v:VVm)(hv:dA v):ab prog 166 [eVm v,i64 117] (tVm (doS v 117)):=by
 have hk:aX 117 (aq.getD (117:Int).toNat [])=2:=by kernel_rfl
 have hn:aq.getD (117:Int).toNat []=[35,62]:=by kernel_rfl
 rw[aK (by decide) (by decide),hk,hn,ai1]
 refine aZ v 117 2 344 [] _ (by decide) (by decide) (by have:=hv.d;omega) hv.data (by decide) (by simp) (by rw[hn];exact px 117 _ _ _ _ (by decide) (by simp) rfl rfl rfl rfl rfl) (by unfold xL;split<;>simp) (fun hk H i hi=>?_)
 have hx:=hv.x hk
 generalize v.d.drop (v.d.length-2)=x at hx ⊢
 exact⟨⟨_,func344,rfl,rfl⟩,aQ9 v x hv.pic hv.mem H i hi⟩
def aw5(v:VVm)(x:List Int):bF v 118 [62,66,79,68,89] x=vI v x:=by kernel_rfl
def ai2(v:VVm)(hv:dA v):ab prog 166 [eVm v,i64 118] (tVm (doS v 118)):=by
 have hk:aX 118 (aq.getD (118:Int).toNat [])=1:=by kernel_rfl
 have hn:aq.getD (118:Int).toNat []=[62,66,79,68,89]:=by kernel_rfl
 rw[aK (by decide) (by decide),hk,hn,aw5]
 rw[<-NU (r':=(v,bO v (v.d.drop (v.d.length-1)))) (Px v _) (Xm v _)]
 refine aZ v 118 1 346 [] _ (by decide) (by decide) (by have:=hv.d;omega) hv.data (by decide) (by simp) (by rw[hn];exact iW 118 _ _ _ _ (by decide) (by simp) rfl rfl rfl rfl rfl rfl) (by(show List.length _<=_;simp[b9,bI,du,fc,fZ,gn,ga,b7,bB,bi,dj,pUM,pM,dh,dk,di,pSD,bA,bO])) (fun hk H i hi=>?_)
 have hx:=hv.x hk
 generalize v.d.drop (v.d.length-1)=x at hx ⊢
 exact⟨⟨_,func346,rfl,rfl⟩,aU1 v x (gA hv.mem) hx H i hi⟩
def ag4(v:VVm)(x:List Int):bF v 119 [65,66,79,82,84] x=(v,[],-1):=by kernel_rfl
def aw0(v:VVm)(hv:dA v):ab prog 166 [eVm v,i64 119] (tVm (doS v 119)):=by
 have hk:aX 119 (aq.getD (119:Int).toNat [])=0:=by kernel_rfl
 have hn:aq.getD (119:Int).toNat []=[65,66,79,82,84]:=by kernel_rfl
 rw[aK (by decide) (by decide),hk,hn,ag4]
 refine aZ v 119 0 271 [.row [fnP 347 []]] _ (by decide) (by decide) (by have:=hv.d;omega) hv.data (by decide) (by simp) (by rw[hn];exact iW 119 _ _ _ _ (by decide) (by simp) rfl rfl rfl rfl rfl rfl) (by(show List.length _<=_;simp[b9,bI,du,fc,fZ,gn,ga,b7,bB,bi,dj,pUM,pM,dh,dk,di,pSD,bA,bO])) (fun hk H i hi=>?_)
 have hx:=hv.x hk
 generalize v.d.drop (v.d.length-0)=x at hx ⊢
 exact⟨⟨_,func271,rfl,rfl⟩,lX 347 [] v x (v,[],-1).2 (by simp) (fun H=>⟨⟨_,func347,rfl,rfl⟩,aS3 x H⟩) H i hi⟩
def am0(v:VVm)(x:List Int):bF v 120 [80,79,83,84] x=ka v x:=by kernel_rfl
def ax1(v:VVm)(hv:dA v):ab prog 166 [eVm v,i64 120] (tVm (doS v 120)):=by
 have hk:aX 120 (aq.getD (120:Int).toNat [])=3:=by kernel_rfl
 have hn:aq.getD (120:Int).toNat []=[80,79,83,84]:=by kernel_rfl
 rw[aK (by decide) (by decide),hk,hn,am0]
 refine aZ v 120 3 383 [.row [i64 1],.row [i64 3]] _ (by decide) (by decide) (by have:=hv.d;omega) hv.data (by decide) (by simp) (by rw[hn];exact iW 120 _ _ _ _ (by decide) (by simp) rfl rfl rfl rfl rfl rfl) (by unfold ka;split;simp;split<;>simp) (fun hk H i hi=>?_)
 have hx:=hv.x hk
 generalize v.d.drop (v.d.length-3)=x at hx ⊢
 exact⟨⟨_,func383,rfl,rfl⟩,am9 v x hv.req hv.hand hx H i hi⟩
def aw2(v:VVm)(x:List Int):bF v 121 [65,70,84,69,82] x=dy 2 v x:=by kernel_rfl
def al1(v:VVm)(hv:dA v):ab prog 166 [eVm v,i64 121] (tVm (doS v 121)):=by
 have hk:aX 121 (aq.getD (121:Int).toNat [])=4:=by kernel_rfl
 have hn:aq.getD (121:Int).toNat []=[65,70,84,69,82]:=by kernel_rfl
 rw[aK (by decide) (by decide),hk,hn,aw2]
 refine aZ v 121 4 383 [.row [i64 2],.row [i64 4]] _ (by decide) (by decide) (by have:=hv.d;omega) hv.data (by decide) (by simp) (by rw[hn];exact iW 121 _ _ _ _ (by decide) (by simp) rfl rfl rfl rfl rfl rfl) (by unfold dy;split;simp;split;simp;split;simp;split<;>simp) (fun hk H i hi=>?_)
 have hx:=hv.x hk
 generalize v.d.drop (v.d.length-4)=x at hx ⊢
 exact⟨⟨_,func383,rfl,rfl⟩,NB 2 (by decide) v x hv.req hv.hand hx H i hi⟩
def al9(v:VVm)(x:List Int):bF v 122 [69,86,69,82,89] x=dy 3 v x:=by kernel_rfl
def au3(v:VVm)(hv:dA v):ab prog 166 [eVm v,i64 122] (tVm (doS v 122)):=by
 have hk:aX 122 (aq.getD (122:Int).toNat [])=4:=by kernel_rfl
 have hn:aq.getD (122:Int).toNat []=[69,86,69,82,89]:=by kernel_rfl
 rw[aK (by decide) (by decide),hk,hn,al9]
 refine aZ v 122 4 383 [.row [i64 3],.row [i64 4]] _ (by decide) (by decide) (by have:=hv.d;omega) hv.data (by decide) (by simp) (by rw[hn];exact iW 122 _ _ _ _ (by decide) (by simp) rfl rfl rfl rfl rfl rfl) (by unfold dy;split;simp;split;simp;split;simp;split<;>simp) (fun hk H i hi=>?_)
 have hx:=hv.x hk
 generalize v.d.drop (v.d.length-4)=x at hx ⊢
 exact⟨⟨_,func383,rfl,rfl⟩,NB 3 (by decide) v x hv.req hv.hand hx H i hi⟩
def ak3(v:VVm)(x:List Int):bF v 123 [67,65,78,67,69,76] x=jG v x:=by kernel_rfl
def at0(v:VVm)(hv:dA v):ab prog 166 [eVm v,i64 123] (tVm (doS v 123)):=by
 have hk:aX 123 (aq.getD (123:Int).toNat [])=1:=by kernel_rfl
 have hn:aq.getD (123:Int).toNat []=[67,65,78,67,69,76]:=by kernel_rfl
 rw[aK (by decide) (by decide),hk,hn,ak3]
 refine aZ v 123 1 383 [.row [i64 4],.row [i64 1]] _ (by decide) (by decide) (by have:=hv.d;omega) hv.data (by decide) (by simp) (by rw[hn];exact iW 123 _ _ _ _ (by decide) (by simp) rfl rfl rfl rfl rfl rfl) (by unfold jG;split<;>simp) (fun hk H i hi=>?_)
 have hx:=hv.x hk
 generalize v.d.drop (v.d.length-1)=x at hx ⊢
 exact⟨⟨_,func383,rfl,rfl⟩,SM v x hv.req hx H i hi⟩
def aj2(v:VVm)(x:List Int):bF v 124 [65,82,71] x=(v,[v.arg],0):=by kernel_rfl
def as4(v:VVm)(hv:dA v):ab prog 166 [eVm v,i64 124] (tVm (doS v 124)):=by
 have hk:aX 124 (aq.getD (124:Int).toNat [])=0:=by kernel_rfl
 have hn:aq.getD (124:Int).toNat []=[65,82,71]:=by kernel_rfl
 rw[aK (by decide) (by decide),hk,hn,aj2]
 refine aZ v 124 0 370 [.row [fnP 349 []]] _ (by decide) (by decide) (by have:=hv.d;omega) hv.data (by decide) (by simp) (by rw[hn];exact iW 124 _ _ _ _ (by decide) (by simp) rfl rfl rfl rfl rfl rfl) (by(show List.length _<=_;simp[b9,bI,du,fc,fZ,gn,ga,b7,bB,bi,dj,pUM,pM,dh,dk,di,pSD,bA,bO])) (fun hk H i hi=>?_)
 have hx:=hv.x hk
 generalize v.d.drop (v.d.length-0)=x at hx ⊢
 exact⟨⟨_,func370,rfl,rfl⟩,nI 349 [] v x _ (by simp) (fun H=>⟨⟨_,func349,rfl,rfl⟩,aO9 v H⟩) H i hi⟩
def au5(v:VVm)(x:List Int):bF v 125 [83,69,76,70] x=(v,[v.self],0):=by kernel_rfl
def ar9(v:VVm)(hv:dA v):ab prog 166 [eVm v,i64 125] (tVm (doS v 125)):=by
 have hk:aX 125 (aq.getD (125:Int).toNat [])=0:=by kernel_rfl
 have hn:aq.getD (125:Int).toNat []=[83,69,76,70]:=by kernel_rfl
 rw[aK (by decide) (by decide),hk,hn,au5]
 refine aZ v 125 0 370 [.row [fnP 350 []]] _ (by decide) (by decide) (by have:=hv.d;omega) hv.data (by decide) (by simp) (by rw[hn];exact iW 125 _ _ _ _ (by decide) (by simp) rfl rfl rfl rfl rfl rfl) (by(show List.length _<=_;simp[b9,bI,du,fc,fZ,gn,ga,b7,bB,bi,dj,pUM,pM,dh,dk,di,pSD,bA,bO])) (fun hk H i hi=>?_)
 have hx:=hv.x hk
 generalize v.d.drop (v.d.length-0)=x at hx ⊢
 exact⟨⟨_,func370,rfl,rfl⟩,nI 350 [] v x _ (by simp) (fun H=>⟨⟨_,func350,rfl,rfl⟩,aT7 v H⟩) H i hi⟩
def aj8(v:VVm)(x:List Int):bF v 126 [78,79,87] x=(v,[v.now],0):=by kernel_rfl
def av7(v:VVm)(hv:dA v):ab prog 166 [eVm v,i64 126] (tVm (doS v 126)):=by
 have hk:aX 126 (aq.getD (126:Int).toNat [])=0:=by kernel_rfl
 have hn:aq.getD (126:Int).toNat []=[78,79,87]:=by kernel_rfl
 rw[aK (by decide) (by decide),hk,hn,aj8]
 refine aZ v 126 0 370 [.row [fnP 351 []]] _ (by decide) (by decide) (by have:=hv.d;omega) hv.data (by decide) (by simp) (by rw[hn];exact iW 126 _ _ _ _ (by decide) (by simp) rfl rfl rfl rfl rfl rfl) (by(show List.length _<=_;simp[b9,bI,du,fc,fZ,gn,ga,b7,bB,bi,dj,pUM,pM,dh,dk,di,pSD,bA,bO])) (fun hk H i hi=>?_)
 have hx:=hv.x hk
 generalize v.d.drop (v.d.length-0)=x at hx ⊢
 exact⟨⟨_,func370,rfl,rfl⟩,nI 351 [] v x _ (by simp) (fun H=>⟨⟨_,func351,rfl,rfl⟩,aS5 v H⟩) H i hi⟩
def aq7(v:VVm)(x:List Int):bF v 127 [83,69,84,45,83,84,65,84,69] x=gX v x:=by kernel_rfl
def aq9(v:VVm)(hv:dA v):ab prog 166 [eVm v,i64 127] (tVm (doS v 127)):=by
 have hk:aX 127 (aq.getD (127:Int).toNat [])=2:=by kernel_rfl
 have hn:aq.getD (127:Int).toNat []=[83,69,84,45,83,84,65,84,69]:=by kernel_rfl
 rw[aK (by decide) (by decide),hk,hn,aq7]
 refine aZ v 127 2 352 [] _ (by decide) (by decide) (by have:=hv.d;omega) hv.data (by decide) (by simp) (by rw[hn];exact iW 127 _ _ _ _ (by decide) (by simp) rfl rfl rfl rfl rfl rfl) (by unfold gX du;split<;>simp) (fun hk H i hi=>?_)
 have hx:=hv.x hk
 generalize v.d.drop (v.d.length-2)=x at hx ⊢
 exact⟨⟨_,func352,rfl,rfl⟩,aV2 v x hv.mem hx H i hi⟩
def am5(v:VVm)(x:List Int):bF v 128 [65,84,45,83,84,65,84,69] x=jm v x:=by kernel_rfl
def am3(v:VVm)(hv:dA v):ab prog 166 [eVm v,i64 128] (tVm (doS v 128)):=by
 have hk:aX 128 (aq.getD (128:Int).toNat [])=3:=by kernel_rfl
 have hn:aq.getD (128:Int).toNat []=[65,84,45,83,84,65,84,69]:=by kernel_rfl
 rw[aK (by decide) (by decide),hk,hn,am5]
 refine aZ v 128 3 354 [] _ (by decide) (by decide) (by have:=hv.d;omega) hv.data (by decide) (by simp) (by rw[hn];exact iW 128 _ _ _ _ (by decide) (by simp) rfl rfl rfl rfl rfl rfl) (by unfold jm du;split<;>simp) (fun hk H i hi=>?_)
 have hx:=hv.x hk
 generalize v.d.drop (v.d.length-3)=x at hx ⊢
 exact⟨⟨_,func354,rfl,rfl⟩,aT1 v x hv.mem hx H i hi⟩
def al2(v:VVm)(x:List Int):bF v 129 [71,69,84,45,83,84,65,84,69] x=b9 v x:=by kernel_rfl
def ae9(v:VVm)(hv:dA v):ab prog 166 [eVm v,i64 129] (tVm (doS v 129)):=by
 have hk:aX 129 (aq.getD (129:Int).toNat [])=1:=by kernel_rfl
 have hn:aq.getD (129:Int).toNat []=[71,69,84,45,83,84,65,84,69]:=by kernel_rfl
 rw[aK (by decide) (by decide),hk,hn,al2]
 refine aZ v 129 1 367 [.row [fnP 39 []]] _ (by decide) (by decide) (by have:=hv.d;omega) hv.data (by decide) (by simp) (by rw[hn];exact iW 129 _ _ _ _ (by decide) (by simp) rfl rfl rfl rfl rfl rfl) (by(show List.length _<=_;simp[b9,bI,du,fc,fZ,gn,ga,b7,bB,bi,dj,pUM,pM,dh,dk,di,pSD,bA,bO])) (fun hk H i hi=>?_)
 have hx:=hv.x hk
 generalize v.d.drop (v.d.length-1)=x at hx ⊢
 exact⟨⟨_,func367,rfl,rfl⟩,xb 39 [] v x _ hx.len (by simp) (fun H=>⟨⟨_,func39,rfl,rfl⟩,(gy v.mem _ (gA hv.mem) (hx.fit 0)) H⟩) H i hi⟩
def Rg{n:Int}(h0:23<=n)(h1:n<=38):aq.getD n.toNat []∈pz:=by
 have:n=23\/n=24\/n=25\/n=26\/n=27\/n=28\/n=29\/n=30\/n=31\/n=32\/n=33\/n=34\/n=35\/n=36\/n=37\/n=38:=by omega
 rcases this with rfl|rfl|rfl|rfl|rfl|rfl|rfl|rfl|rfl|rfl|rfl|rfl|rfl|rfl|rfl|rfl<;>decide
def Yl(v:VVm)(hv:dA v)(n:Int):ab prog 166 [eVm v,i64 n] (tVm (doS v n)):=by
 by_cases h:23<=n/\n<=129
 ·by_cases h1:n<=38
  ·have hs:aq.getD n.toNat []∈pz:=Rg h.1 h1
   have e:doS v n=({v with d:=(dz (aq.getD n.toNat []) v.d v.conf.data).1},(dz (aq.getD n.toNat []) v.d v.conf.data).2.2):=by
    unfold doS;rw[if_neg (by omega)];simp only;rw[if_pos h1]
   rw[e]
   exact Lp v n h.1 h1 hs (by have:=hv.d;omega) hv.data
  by_cases h2:n<=58
  ·exact aw4 v hv n (by omega) h2
  by_cases h3:n<=72
  ·exact an6 v hv n (by omega) h3
  have:n=73\/n=74\/n=75\/n=76\/n=77\/n=78\/n=79\/n=80\/n=81\/n=82\/n=83\/n=84\/n=85\/n=86\/n=87\/n=88\/n=89\/n=90\/n=91\/n=92\/n=93\/n=94\/n=95\/n=96\/n=97\/n=98\/n=99\/n=100\/n=101\/n=102\/n=103\/n=104\/n=105\/n=106\/n=107\/n=108\/n=109\/n=110\/n=111\/n=112\/n=113\/n=114\/n=115\/n=116\/n=117\/n=118\/n=119\/n=120\/n=121\/n=122\/n=123\/n=124\/n=125\/n=126\/n=127\/n=128\/n=129:=by omega
  rcases this with rfl|rfl|rfl|rfl|rfl|rfl|rfl|rfl|rfl|rfl|rfl|rfl|rfl|rfl|rfl|rfl|rfl|rfl|rfl|rfl|rfl|rfl|rfl|rfl|rfl|rfl|rfl|rfl|rfl|rfl|rfl|rfl|rfl|rfl|rfl|rfl|rfl|rfl|rfl|rfl|rfl|rfl|rfl|rfl|rfl|rfl|rfl|rfl|rfl|rfl|rfl|rfl|rfl|rfl|rfl|rfl|rfl
  ·exact aG6 v hv
  ·exact aI8 v hv
  ·exact aI5 v hv
  ·exact aN6 v hv
  ·exact aK6 v hv
  ·exact aE3 v hv
  ·exact aI9 v hv
  ·exact aF9 v hv
  ·exact aL6 v hv
  ·exact aM9 v hv
  ·exact aM8 v hv
  ·exact aD1 v hv
  ·exact aL0 v hv
  ·exact aB3 v hv
  ·exact aN5 v hv
  ·exact aN1 v hv
  ·exact aN9 v hv
  ·exact aI6 v hv
  ·exact aB9 v hv
  ·exact aA4 v hv
  ·exact aO3 v hv
  ·exact aL5 v hv
  ·exact aJ8 v hv
  ·exact aG7 v hv
  ·exact aL1 v hv
  ·exact aJ1 v hv
  ·exact aE8 v hv
  ·exact ao0 v hv
  ·exact au6 v hv
  ·exact ak5 v hv
  ·exact ar2 v hv
  ·exact at5 v hv
  ·exact an3 v hv
  ·exact af2 v hv
  ·exact aj1 v hv
  ·exact ao5 v hv
  ·exact af0 v hv
  ·exact ax5 v hv
  ·exact aj0 v hv
  ·exact ak2 v hv
  ·exact as7 v hv
  ·exact al0 v hv
  ·exact av9 v hv
  ·exact ao8 v hv
  ·exact aq2 v hv
  ·exact ai2 v hv
  ·exact aw0 v hv
  ·exact ax1 v hv
  ·exact al1 v hv
  ·exact au3 v hv
  ·exact at0 v hv
  ·exact as4 v hv
  ·exact ar9 v hv
  ·exact av7 v hv
  ·exact aq9 v hv
  ·exact am3 v hv
  exact ae9 v hv
 have e:doS v n=(v,-24):=by unfold doS;rw[if_pos (by omega)]
 rw[e];exact at4 v n h
def Vo(v:VVm):Bool:=decide (eG v.conf/\mB v.mem=true/\iz v.dict=true/\eK v.pic/\(v.mem.b.length:Int)=v.conf.mem/\1368<=v.here/\v.here<=v.conf.mem)
def qs(f:ig):Bool:=decide (0<=f.d/\f.d<=256/\0<=f.r/\f.r<=256)
def Gg(h:og):Bool:=decide (0<=h.fuel)
def QF(v:VVm):Bool:=decide ((v.d.length:Int)<=v.conf.data/\(v.r.length:Int)<=v.conf.ret/\v.f.length<=64/\(v.dict.length:Int)<=v.conf.words/\(v.out.length:Int)<=v.conf.out/\v.req.length<=16/\0<=v.free/\v.free<=64/\0<=v.next/\v.next<=4611686018427387904/\v.hand.length<=64)
def Gi(v:VVm):Bool:=Vo v&&(v.f.all qs&&(v.hand.all Gg&&QF v))
def Uo(n:Int):ae (wrap64 n):=iB n
def Ig(n:Nat):ae (S n):=aa0 n
def jS:ae 0:=by unfold ae;omega
def wB(b:Bool):ae (fG b):=by unfold fG ae;split<;>omega
def I7{a b:Int}(hb:ae b)(h0:b≠0):ae (a.fmod b):=by
 unfold ae at hb ⊢
 rw[Int.fmod_eq_emod]
 have h1:=Int.emod_nonneg a h0
 have h2:a%b<b.natAbs:=by
  rcases Int.lt_or_gt_of_ne h0 with h|h
  ·have:=Int.emod_lt_of_pos a (show 0 < -b by omega);rw[Int.emod_neg]at this;omega
  have:=Int.emod_lt_of_pos a h;omega
 split<;>omega
def TQ{a b:Int}(hb:ae b)(h0:b≠0):ae (a.tmod b):=by
 unfold ae at hb ⊢
 have h1:(a.tmod b).natAbs=a.natAbs%b.natAbs:=Int.natAbs_tmod a b
 have h2:a.natAbs%b.natAbs<b.natAbs:=Nat.mod_lt _ (by omega)
 omega
def CA{n:Int}(h:gl n=true):ae n:=by unfold gl at h;unfold ae;simpa using h
def yV{a b:Int}(hb:ae b):ae (nC a b).1/\ae (nC a b).2.1:=by
 unfold nC
 split
 ·exact⟨jS,jS⟩
 rename_i h0;exact⟨Uo _,I7 hb h0⟩
def sb{lo hi d:Int}(hd:ae d):ae (jL lo hi d).1/\ae (jL lo hi d).2.1:=by
 unfold jL
 split
 ·exact⟨jS,jS⟩
 rename_i h0
 split
 ·rename_i h1;exact⟨CA h1,I7 hd h0⟩
 exact⟨jS,jS⟩
def GV{lo hi d:Int}(hd:ae d):ae (lL lo hi d).1/\ae (lL lo hi d).2.1:=by
 unfold lL
 split
 ·exact⟨jS,jS⟩
 rename_i h0
 split
 ·rename_i h1;exact⟨CA h1,TQ hd h0⟩
 exact⟨jS,jS⟩
def vg{lo hi d:Int}:ae (iH lo hi d).1/\ae (iH lo hi d).2.1:=by
 unfold iH
 split
 ·exact⟨jS,jS⟩
 split
 ·exact⟨jS,jS⟩
 exact⟨Ig _,Ig _⟩
def PH(a b:Int)(up:Bool):ae (qu a b up):=by
 unfold qu
 split
 ·exact jS
 split<;>exact Ig _
def Ya(o:Op1){a:Int}(ha:ae a):ae (one o a):=by
 unfold ae at *
 cases o<;>simp only[one]<;>first|exact iB _|exact wB _|(split<;>first|exact iB _|omega)|omega
def Zg(o:Op2){a b:Int}(ha:ae a)(hb:ae b):ae (two o a b).1:=by
 cases o<;>simp only[two]<;>first|exact(yV hb).1|exact(yV hb).2|exact Uo _|exact PH _ _ _|exact wB _|(split<;>assumption)
def QS(name:Str){a:Int}(ha:ae a):ae (uH name a).1:=by
 unfold uH
 split
 ·exact Ya _ ha
 exact jS
def QI(name:Str){a b:Int}(ha:ae a)(hb:ae b):ae (lH name a b).1:=by
 unfold lH
 split
 ·exact Zg _ ha hb
 exact jS
def tt(m:bh)(a:Int):ae (am m a).1:=by
 unfold am B5
 split
 ·exact Uo _
 exact jS
def AR(m:bh)(a:Int):ae (d9 m a).1:=by
 unfold d9
 split
 ·have:=(m.b.getD a.toNat 0).toNat_lt;unfold ae;simp only;omega
 exact jS
structure dN (m m':bh) (k:Nat):Prop where
 right:mB m=true->mB m'=true
 len:m'.b.length=m.b.length
 old:m'.old.length<=m.old.length+k
def dN.refl(m:bh)(k:Nat):dN m m k:=⟨id,rfl,Nat.le_add_right _ _⟩
def dN.trans{a b c:bh}{i j:Nat}(h:dN a b i)(g:dN b c j):dN a c (i+j):=⟨fun q=>g.right (h.right q),g.len.trans h.len,by have:=h.old;have:=g.old;omega⟩
def dN.up{a b:bh}{i j:Nat}(h:dN a b i)(hij:i<=j):dN a b j:=⟨h.right,h.len,by have:=h.old;omega⟩
def C4{m m':bh}(h:m'.b.length=m.b.length)(a n:Int):bq m' a n=bq m a n:=by unfold bq;rw[h]
def kR(m:bh)(a:Int)(b:List UInt8):dN m (cg m a b).1 1:=by
 have hl:=vM m a b
 refine⟨fun h=>?_,hl,wj m a b⟩
 unfold mB at h ⊢
 rw[hl]
 rw[Bool.and_eq_true]at h ⊢
 refine⟨?_,h.2⟩
 have hall:∀p∈m.old,bq (cg m a b).1 p.place p.old.length=true:=fun p hp=>by rw[C4 hl];exact List.all_eq_true.1 h.1 p hp
 rw[List.all_eq_true]
 intro p hp
 unfold cg at hp
 split at hp
 ·rename_i ht
  split at hp
  ·exact hall p hp
  rcases List.mem_append.1 hp with hp|hp
  ·exact hall p hp
  simp only[List.mem_singleton]at hp
  subst hp
  rw[C4 hl]
  simp only[List.length_take,List.length_drop]
  rcases vH ht with h0|⟨h0,h1,h2⟩
  ·unfold bq;exact decide_eq_true (.inl (by omega))
  unfold bq;exact decide_eq_true (.inr ⟨by omega,h1,by omega⟩)
 exact hall p hp
def cN(m:bh)(a n:Int):dN m (aJ m a n).1 1:=by
 unfold aJ;split
 ·exact kR _ _ _
 exact .refl _ _
def JN(m:bh)(a n c:Int):dN m (nv m a n c).1 1:=by
 unfold nv;split
 ·exact kR _ _ _
 exact .refl _ _
def LR(m:bh)(a b n:Int):dN m (nu m a b n).1 1:=by
 unfold nu;split
 ·exact kR _ _ _
 exact .refl _ _
def ic{m:bh}{here:Int}(b:List UInt8):dN m (cZ m here b).1 1:=by
 unfold cZ;split
 ·exact .refl _ _
 exact kR _ _ _
def iM{m:bh}{here:Int}(b:List UInt8)(h0:1368<=here)(h1:here<=m.b.length):1368<=(cZ m here b).2.1/\(cZ m here b).2.1<=m.b.length:=by
 unfold cZ;split
 ·exact⟨h0,h1⟩
 simp only;omega
def ug{p:dV}(c:Int)(h:eK p):eK (gR p c).1:=by
 unfold gR;split
 ·rename_i hc;exact⟨by simp;omega,.inl hc.1⟩
 exact h
def sz{p:dV}(lo hi base:Int)(h:eK p):eK (aL p lo hi base).1:=by
 unfold aL;split
 ·exact h
 split
 ·exact ug _ h
 exact h
def BA(base:Int):∀(n:Nat) {q:dV} (lo hi:Int),eK q->eK (rr n q lo hi base).1
 | 0,q,lo,hi,h=>h
 | n+1,q,lo,hi,h=>by
  unfold rr
  split
  ·exact h
  split
  ·exact sz _ _ _ h
  exact BA base n _ _ (sz _ _ _ h)
def O7{p:dV}(lo hi base:Int)(h:eK p):eK (um p lo hi base).1:=by
 unfold um Qo
 split
 ·exact BA base _ _ _ h
 exact h
def Lc{p:dV}(n:Int)(h:eK p):eK (oZ p n).1:=by
 unfold oZ;split
 ·exact h
 exact ug _ h
def Dj{p:dV}{lo hi base:Int}(hl:ae lo)(hh:ae hi):ae (aL p lo hi base).2.1/\ae (aL p lo hi base).2.2.1:=by
 unfold aL;split
 ·exact⟨hl,hh⟩
 split
 ·exact⟨vg.1,vg.1⟩
 exact⟨hl,hh⟩
structure xa (c:VCf):Prop where
 fit:ae c.at_
 len:c.leaves.length<=32
 each:∀x∈c.leaves,ae x
def Tc:xa zCf:=⟨jS,Nat.zero_le _,fun x hx=>by cases hx⟩
structure CK (k:Nat) (w:CW):Prop where
 b:w.v.mem.b.length<=1000000
 old:w.v.mem.old.length+k<=1000000
 h0:1368<=w.v.here
 h1:w.v.here<=w.v.mem.b.length
 len:w.l.length<=32
 cf:∀c∈w.l,xa c
def CK.mem{k:Nat}{w:CW}(h:CK k w):cX w.v.mem:=⟨h.b,by have:=h.old;omega⟩
def CK.here{k:Nat}{w:CW}(h:CK k w):iu w.v.mem w.v.here:=⟨by have:=h.h0;omega,h.h1⟩
def CK.fit{k:Nat}{w:CW}(h:CK k w):ae w.v.here:=h.here.fit h.mem
def CK.down{k j:Nat}{w:CW}(h:CK k w)(hj:j<=k):CK j w:=⟨h.b,by have:=h.old;omega,h.h0,h.h1,h.len,h.cf⟩
def ML{k:Nat}{w:CW}(h:CK k w)(e:Int):CK k (w.fail e):=by
 unfold CW.fail;split
 ·exact⟨h.b,h.old,h.h0,h.h1,h.len,h.cf⟩
 exact h
def sJ(m:bh)(here n:Int):dN m (ct m here n).1 1:=by
 unfold ct;split
 ·exact ic _
 exact .refl _ _
def uv{m:bh}{here:Int}(n:Int)(h0:1368<=here)(h1:here<=m.b.length):1368<=(ct m here n).2.1/\(ct m here n).2.1<=m.b.length:=by
 unfold ct;split
 ·exact iM _ h0 h1
 exact⟨h0,h1⟩
def qG{k:Nat}{w:CW}(h:CK (k+1) w)(n:Int):CK k (gN w n):=by
 unfold gN;split
 ·have q:=sJ w.v.mem w.v.here n
  have p:=uv n h.h0 h.h1
  exact⟨by show(ct w.v.mem w.v.here n).1.b.length<=_;rw[q.len];exact h.b,by show(ct w.v.mem w.v.here n).1.old.length+k<=_;have:=q.old;have:=h.old;omega,p.1,by show(ct w.v.mem w.v.here n).2.1<=((ct w.v.mem w.v.here n).1.b.length:Int);rw[q.len];exact p.2,h.len,h.cf⟩
 exact h.down (by omega)
def jB{k:Nat}{w:CW}(h:CK (k+1) w)(name:Str):CK k (cv w name):=qG h _
def MA{k:Nat}{w:CW}(h:CK (k+1) w)(a:Int):CK k (iU w a):=by
 unfold iU;split
 ·have q:=cN w.v.mem a w.v.here
  exact⟨by show(aJ w.v.mem a w.v.here).1.b.length<=_;rw[q.len];exact h.b,by show(aJ w.v.mem a w.v.here).1.old.length+k<=_;have:=q.old;have:=h.old;omega,h.h0,by show w.v.here<=((aJ w.v.mem a w.v.here).1.b.length:Int);rw[q.len];exact h.h1,h.len,h.cf⟩
 exact h.down (by omega)
def X1{k:Nat}{w:CW}(h:CK k w){c:VCf}(hc:xa c):CK k (jZ w c):=by
 unfold jZ;split
 ·exact ML h _
 rename_i q
 exact⟨h.b,h.old,h.h0,h.h1,by show(w.l++[c]).length<=32;simp;omega,fun x hx=>by rcases List.mem_append.1 hx with hx|hx;exact h.cf x hx;rw[List.mem_singleton.1 hx];exact hc⟩
def oc{k:Nat}{w:CW}(h:CK k w)(kind:Int):CK k (bb w kind).1/\xa (bb w kind).2:=by
 unfold bb;split
 ·exact⟨ML h _,Tc⟩
 rename_i q
 refine⟨⟨h.b,h.old,h.h0,h.h1,by show(w.l.take (w.l.length-1)).length<=32;have:=h.len;simp;omega,fun x hx=>h.cf x (List.mem_of_mem_take hx)⟩,?_⟩
 have hl:w.l.length-1<w.l.length:=by have:¬w.l.length=0:=fun z=>q (.inl z);omega
 exact h.cf _ (by rw[List.getD_eq_getElem?_getD,List.getElem?_eq_getElem hl];exact List.getElem_mem hl)
def fN(w:CW)(name:Str):CW:=gN (cv w name) 0
def py{k:Nat}{w:CW}(h:CK (k+2) w)(name:Str):CK k (fN w name):=qG (jB h name) 0
def qf(w:CW)(name:Str)(h:CK 2 w):k_ 263 [str name] (cCw w) 175 (i64 (cv w name).v.here) (cCw (fN w name)):=by
 refine zL func263 fun B=>?_
 refine zC rfl func104 ((nz w name h.mem h.here) _ _ rfl) ?_
 refine zC rfl func105 ((rE (cv w name) 0 (jB h name).mem (jB h name).here) _ _ rfl) ?_
 refine Wq<|aQ rfl rfl ?_ ?_
 ·rfl
 rfl
def ifC(w:CW):CW:=jZ (fN w [40,48,98,114,97,110,99,104,41]) ⟨1,(cv w [40,48,98,114,97,110,99,104,41]).v.here,[]⟩
def xS(w:CW):CW:=jZ (iU (fN (bb w 1).1 [40,98,114,97,110,99,104,41]) (bb w 1).2.at_) ⟨1,(cv (bb w 1).1 [40,98,114,97,110,99,104,41]).v.here,[]⟩
def Bu(w:CW):CW:=iU (bb w 1).1 (bb w 1).2.at_
def uK(w:CW):CW:=jZ w ⟨2,w.v.here,[]⟩
def Eg(w:CW):CW:=jZ (jZ (fN (bb w 2).1 [40,48,98,114,97,110,99,104,41]) ⟨1,(cv (bb w 2).1 [40,48,98,114,97,110,99,104,41]).v.here,[]⟩) (bb w 2).2
def yT(w:CW):CW:=iU (gN (cv (bb (bb w 2).1 1).1 [40,98,114,97,110,99,104,41]) (bb w 2).2.at_) (bb (bb w 2).1 1).2.at_
def vu(name:Str)(w:CW):CW:=gN (cv (bb w 2).1 name) (bb w 2).2.at_
def doC(w:CW):CW:=jZ (cv w [40,100,111,41]) ⟨3,(cv w [40,100,111,41]).v.here,[]⟩
def LM(w:CW):CW:=jZ (fN w [40,63,100,111,41]) ⟨3,(fN w [40,63,100,111,41]).v.here,[(cv w [40,63,100,111,41]).v.here]⟩
def yx(name:Str)(w:CW):CW:=(bb w 3).2.leaves.foldl iU (gN (cv (bb w 3).1 name) (bb w 3).2.at_)
def at1{k:Nat}{w:CW}(h:CK k w)(kind:Int):xa ⟨kind,w.v.here,[]⟩:=⟨h.fit,Nat.zero_le _,fun x hx=>by cases hx⟩
def aO0(w:CW)(h:CK 2 w):k_ 222 [] (cCw w) 175 (.tup []) (cCw (ifC w)):=by
 have b:=py h [40,48,98,114,97,110,99,104,41]
 refine zL func222 fun B=>?_
 refine zC rfl func263 ((qf w [40,48,98,114,97,110,99,104,41] h) _ _ rfl) ?_
 refine zC rfl func264 ((qY (fN w [40,48,98,114,97,110,99,104,41]) ⟨1,(cv w [40,48,98,114,97,110,99,104,41]).v.here,[]⟩ (by have:=b.len;omega)) _ _ rfl) ?_
 refine aV rfl rfl ?_ ?_
 ·rfl
 rfl
def YZ(w:CW)(h:CK 3 w):k_ 223 [] (cCw w) 175 (.tup []) (cCw (xS w)):=by
 have c:=oc h 1
 have b:=py c.1 [40,98,114,97,110,99,104,41]
 have d:=MA b (bb w 1).2.at_
 refine zL func223 fun B=>?_
 refine zC rfl func265 ((om w 1 (by have:=h.len;omega)) _ _ rfl) ?_
 refine zC rfl func263 ((qf (bb w 1).1 [40,98,114,97,110,99,104,41] (c.1.down (by omega))) _ _ rfl) ?_
 refine zC rfl func266 ((y5 (fN (bb w 1).1 [40,98,114,97,110,99,104,41]) (bb w 1).2.at_ b.mem c.2.fit) _ _ rfl) ?_
 refine zC rfl func264 ((qY _ ⟨1,(cv (bb w 1).1 [40,98,114,97,110,99,104,41]).v.here,[]⟩ (by have:=d.len;omega)) _ _ rfl) ?_
 refine aV rfl rfl ?_ ?_
 ·rfl
 rfl
def ZZ(w:CW)(h:CK 1 w):k_ 224 [] (cCw w) 175 (.tup []) (cCw (Bu w)):=by
 have c:=oc h 1
 refine zL func224 fun B=>?_
 refine zC rfl func265 ((om w 1 (by have:=h.len;omega)) _ _ rfl) ?_
 refine zC rfl func266 ((y5 (bb w 1).1 (bb w 1).2.at_ c.1.mem c.2.fit) _ _ rfl) ?_
 refine aV rfl rfl ?_ ?_
 ·rfl
 rfl
def Tt(w:CW)(h:CK 0 w):k_ 225 [] (cCw w) 175 (.tup []) (cCw (uK w)):=by
 refine zL func225 fun B=>?_
 refine zC rfl func264 ((qY w ⟨2,w.v.here,[]⟩ (by have:=h.len;omega)) _ _ rfl) ?_
 refine aV rfl rfl ?_ ?_
 ·rfl
 rfl
def TF(w:CW)(h:CK 2 w):k_ 226 [] (cCw w) 175 (.tup []) (cCw (Eg w)):=by
 have c:=oc h 2
 have b:=py c.1 [40,48,98,114,97,110,99,104,41]
 have d:=X1 b (at1 (jB c.1 [40,48,98,114,97,110,99,104,41]) 1)
 refine zL func226 fun B=>?_
 refine zC rfl func265 ((om w 2 (by have:=h.len;omega)) _ _ rfl) ?_
 refine zC rfl func263 ((qf (bb w 2).1 [40,48,98,114,97,110,99,104,41] c.1) _ _ rfl) ?_
 refine zC rfl func264 ((qY _ ⟨1,(cv (bb w 2).1 [40,48,98,114,97,110,99,104,41]).v.here,[]⟩ (by have:=b.len;omega)) _ _ rfl) ?_
 refine zC rfl func264 ((qY _ (bb w 2).2 (by have:=d.len;omega)) _ _ rfl) ?_
 refine aV rfl rfl ?_ ?_
 ·rfl
 rfl
def O9(w:CW)(h:CK 3 w):k_ 227 [] (cCw w) 175 (.tup []) (cCw (yT w)):=by
 have c:=oc h 2
 have o:=oc c.1 1
 have a:=jB o.1 [40,98,114,97,110,99,104,41]
 have b:=qG a (bb w 2).2.at_
 refine zL func227 fun B=>?_
 refine zC rfl func265 ((om w 2 (by have:=h.len;omega)) _ _ rfl) ?_
 refine zC rfl func265 ((om (bb w 2).1 1 (by have:=c.1.len;omega)) _ _ rfl) ?_
 refine zC rfl func104 ((nz _ [40,98,114,97,110,99,104,41] o.1.mem o.1.here) _ _ rfl) ?_
 refine zC rfl func105 ((rE _ (bb w 2).2.at_ a.mem a.here) _ _ rfl) ?_
 refine zC rfl func266 ((y5 _ (bb (bb w 2).1 1).2.at_ b.mem o.2.fit) _ _ rfl) ?_
 refine aV rfl rfl ?_ ?_
 ·rfl
 rfl
def M9(name:Str)(w:CW)(h:CK 2 w):k_ 267 [str name] (cCw w) 175 (.tup []) (cCw (vu name w)):=by
 have c:=oc h 2
 have a:=jB c.1 name
 refine zL func267 fun B=>?_
 refine zC rfl func265 ((om w 2 (by have:=h.len;omega)) _ _ rfl) ?_
 refine zC rfl func104 ((nz _ name c.1.mem c.1.here) _ _ rfl) ?_
 refine zC rfl func105 ((rE _ (bb w 2).2.at_ a.mem a.here) _ _ rfl) ?_
 refine aV rfl rfl ?_ ?_
 ·rfl
 rfl
def Ri(w:CW)(h:CK 2 w):k_ 228 [] (cCw w) 175 (.tup []) (cCw (vu [40,48,98,114,97,110,99,104,41] w)):=by
 refine zL func228 fun B=>?_
 refine zC rfl func267 ((M9 [40,48,98,114,97,110,99,104,41] w h) _ _ rfl) ?_
 refine aV rfl rfl ?_ ?_
 ·rfl
 rfl
def Ry(w:CW)(h:CK 2 w):k_ 229 [] (cCw w) 175 (.tup []) (cCw (vu [40,98,114,97,110,99,104,41] w)):=by
 refine zL func229 fun B=>?_
 refine zC rfl func267 ((M9 [40,98,114,97,110,99,104,41] w h) _ _ rfl) ?_
 refine aV rfl rfl ?_ ?_
 ·rfl
 rfl
def aB1(w:CW)(h:CK 1 w):k_ 230 [] (cCw w) 175 (.tup []) (cCw (doC w)):=by
 have a:=jB h [40,100,111,41]
 refine zL func230 fun B=>?_
 refine zC rfl func104 ((nz w [40,100,111,41] h.mem h.here) _ _ rfl) ?_
 refine zC rfl func264 ((qY _ ⟨3,(cv w [40,100,111,41]).v.here,[]⟩ (by have:=a.len;omega)) _ _ rfl) ?_
 refine aV rfl rfl ?_ ?_
 ·rfl
 rfl
def ai9(w:CW)(h:CK 2 w):k_ 231 [] (cCw w) 175 (.tup []) (cCw (LM w)):=by
 have b:=py h [40,63,100,111,41]
 refine zL func231 fun B=>?_
 refine zc rfl func263 ((qf w [40,63,100,111,41] h) _ _ rfl) ?_
 refine zs1 ?_
 refine aI rfl ?_
 refine zy5 ?_
 refine zy3 ?_
 refine zA 12 rfl ((show _=PV.seq (List.length [(cv w [40,63,100,111,41]).v.here]) (List.flatMap ao [(cv w [40,63,100,111,41]).v.here]) .clip from rfl)) ?_
 refine zC rfl func264 ((qY _ ⟨3,(fN w [40,63,100,111,41]).v.here,[(cv w [40,63,100,111,41]).v.here]⟩ (by have:=b.len;omega)) _ _ rfl) ?_
 refine aV rfl rfl ?_ ?_
 ·rfl
 rfl
def PO{l:List Int}{k:Nat}(hk:k<l.length)(w:CW):(l.take (k+1)).foldl iU w=iU ((l.take k).foldl iU w) (l.getD k 0):=by
 rw[iA l k 0 hk,List.foldl_append];rfl
def M2:∀(l:List Int) (k:Nat) (w:CW),CK (k+l.length) w->CK k (l.foldl iU w)
 | [],_,_,h=>h
 | x::l,k,w,h=>M2 l k _ (MA (by rw[List.length_cons]at h;exact h) x)
def TO(name:Str)(w:CW)(h:CK 40 w):k_ 268 [str name] (cCw w) 175 (.tup []) (cCw (yx name w)):=by
 have c:=oc h 3
 have a:=jB (k:=39) c.1 name
 have b:=qG (k:=38) a (bb w 3).2.at_
 obtain⟨w1,hw1⟩:∃w1,gN (cv (bb w 3).1 name) (bb w 3).2.at_=w1:=⟨_,rfl⟩
 have hl:=c.2.len
 have hE:yx name w=(bb w 3).2.leaves.foldl iU w1:=by unfold yx;rw[hw1]
 rw[hE]
 rw[hw1]at b
 have p3:=rE _ (bb w 3).2.at_ a.mem a.here
 rw[hw1]at p3
 refine zL func268 fun B=>?_
 refine zC rfl func265 ((om w 3 (by have:=h.len;omega)) _ _ rfl) ?_
 refine zC rfl func104 ((nz _ name c.1.mem c.1.here) _ _ rfl) ?_
 refine zc rfl func105 ((p3) _ _ rfl) ?_
 refine Wn<|zu4 ?_
 refine Wl ?_
 show W _ _ _ _ _ _ _
 refine dJ (fun(k:Nat)=>[(0,.ptr 0 0),(17,sq ao (bb w 3).2.leaves),(18,i64 (bb w 3).2.leaves.length),(19,i64 k)]) (fun(k:Nat)=>[.cells (cCw (((bb w 3).2.leaves.take k).foldl iU w1)) 175,.dead]) (fun(k:Nat)=>[]) (fun(k:Nat)=>k<=(bb w 3).2.leaves.length) (fun(k:Nat)=>(bb w 3).2.leaves.length-k) (0) (by exact Nat.zero_le _) [] ?_ ?_
 ·exact dK
 intro k hk
 refine zd ?_
 refine Wi rfl ?_ ?_<;>intro hi1
 ·have hlt:k<(bb w 3).2.leaves.length:=by have:=oT hi1;omega
  have e:=PO hlt w1
  have kk:CK 1 (((bb w 3).2.leaves.take k).foldl iU w1):=M2 _ _ _ (b.down (by simp;omega))
  refine zd ?_
  refine zJ ao 1 0 ?_
  refine zC rfl func266 ((y5 _ ((bb w 3).2.leaves.getD k 0) kk.mem (c.2.each _ (by rw[List.getD_eq_getElem?_getD,List.getElem?_eq_getElem hlt];exact List.getElem_mem hlt))) _ _ rfl) ?_
  rw[<-e]
  exact⟨k+1,[],(by exact hlt),(by omega),dK⟩
 have hge:(bb w 3).2.leaves.length<=k:=by have:=oF hi1;omega
 refine aW ?_
 refine aV rfl rfl ?_ ?_
 ·rfl
 rw[List.take_of_length_le hge];rfl
def WH(w:CW)(h:CK 40 w):k_ 232 [] (cCw w) 175 (.tup []) (cCw (yx [40,108,111,111,112,41] w)):=by
 refine zL func232 fun B=>?_
 refine zC rfl func268 ((TO [40,108,111,111,112,41] w h) _ _ rfl) ?_
 refine aV rfl rfl ?_ ?_
 ·rfl
 rfl
def XH(w:CW)(h:CK 40 w):k_ 233 [] (cCw w) 175 (.tup []) (cCw (yx [40,43,108,111,111,112,41] w)):=by
 refine zL func233 fun B=>?_
 refine zC rfl func268 ((TO [40,43,108,111,111,112,41] w h) _ _ rfl) ?_
 refine aV rfl rfl ?_ ?_
 ·rfl
 rfl
def KW(w:CW)(n:Int):(gN w n).l=w.l:=by unfold gN;split<;>rfl
def Rt(w:CW)(name:Str):(fN w name).l=w.l:=(KW _ _).trans (KW _ _)
def ar6(l:List VCf)(h0:0<l.length)(hl:l.length<=1000000):HC prog 269 [sq cCf l] [] (.arw 0 0 l.length) [.cells (l.flatMap cCf) 115]:=by
 refine mQ tG (rs:=[.tmp 2]) func269 rfl rfl rfl (fun B=>?_)
 refine zu1 ?_
 refine Ws<|zp1 ?_
 refine wE (lO tG rfl) rfl rfl rfl rfl rfl (fun bn1 hn1=>?_)
 refine zd ?_
 refine zI ?_ ?_<;>intro hi1
 ·exact absurd (hn1 hi1).1 (by omega)
 refine Wd rfl rfl (o0 (lO tG rfl) rfl (lO tG rfl) (lO tG rfl) rfl rfl ⟨_,rfl⟩ ⟨rfl,rfl,an _ 3 (fun _=>rfl) _,bD _ (fun _=>rfl) _⟩ rfl (by dsimp only;omega) (by omega) (by omega)) ?_
 refine Wa 7 rfl (show PV.arw 0 0 (0+l.length)=.arw 0 0 l.length by rw[Nat.zero_add]) ?_
 refine zs1 ?_
 refine Wq<|AV rfl ?_ ?_
 ·rfl
 rfl
def Mm(l:List VCf)(h0:0<l.length)(hl:l.length<=1000000):UW prog 269 [sq cCf l] (fun i=>.arw i 0 l.length) (l.flatMap cCf) 115 :=
 Ak (by simp) (bs (fun x=>by simp) _) (.inl ⟨_,fun _=>rfl⟩) (ar6 l h0 hl)
def ud:∀{l:List VCf} {i:Nat},i<l.length->∀n:List Int,cy (l.flatMap cCf) (i*3+2) [sq ao n]=(l.set i {l.getD i zCf with leaves:=n}).flatMap cCf
 | x::l,0,_,n=>by simp[cy,cCf,List.flatMap_cons]
 | x::l,i+1,h,n=>by
  have ih:=ud (l:=l) (i:=i) (by simpa using h) n
  have e:∀r:List PV,cy (cCf x++r) ((i+1)*3+2) [sq ao n]=cCf x++cy r (i*3+2) [sq ao n]:=by
   intro r
   unfold cy
   have h1:(cCf x).length=3:=rfl
   rw[List.take_append,List.drop_append,h1,List.take_of_length_le (by omega),List.drop_of_length_le (by rw[h1];simp),show(i+1)*3+2-3=i*3+2 by omega,show(i+1)*3+2+[sq ao n].length-3=i*3+2+[sq ao n].length by omega]
   simp
  rw[List.flatMap_cons,e,ih]
  rfl
 | [],i,h,n=>by simp at h
def lR(l:List VCf):Nat->Int
 | 0=>-1
 | k+1=>if (l.getD k zCf).kind=3 then(k:Int)else lR l k
def wK(l:List VCf):∀k,-1<=lR l k/\lR l k<k
 | 0=>⟨by rw[lR];omega,by rw[lR];omega⟩
 | k+1=>by
  rw[lR];split
  ·omega
  have:=wK l k;omega
def XK{l:List VCf}{k:Nat}(h:k<l.length):l.drop k=l.getD k zCf::l.drop (k+1):=by
 rw[List.drop_eq_getElem_cons h,List.getD_eq_getElem?_getD,List.getElem?_eq_getElem h];rfl
def CV{l:List VCf}{j:Nat}(hj:j<l.length){d:TD}(hd:d.agg=false):kY d (l.flatMap cCf) (0+(j:Int).toNat*3+2)=some (sq ao (l.getD j zCf).leaves):=by
 unfold kY
 rw[hd]
 show(l.flatMap cCf)[0+(j:Int).toNat*3+2]?=_
 rw[Int.toNat_natCast,Nat.zero_add]
 have e:=iC cCf 3 (fun _=>rfl) j l
 have:(l.flatMap cCf)[j*3+2]?=((l.flatMap cCf).drop (j*3))[2]?:=by rw[List.getElem?_drop]
 rw[this,e,XK hj]
 rfl
def wV(w:CW):CW :=
 if lR w.l w.l.length<0\/32<=(w.l.getD (lR w.l w.l.length).toNat zCf).leaves.length then w.fail (-22)else
  {fN (cv w [85,78,76,79,79,80]) [40,98,114,97,110,99,104,41]with l:=w.l.set (lR w.l w.l.length).toNat {w.l.getD (lR w.l w.l.length).toNat zCf with leaves:=(w.l.getD (lR w.l w.l.length).toNat zCf).leaves++[(cv (cv w [85,78,76,79,79,80]) [40,98,114,97,110,99,104,41]).v.here]}}
def Td(w:CW)(h:CK 3 w):k_ 234 [] (cCw w) 175 (.tup []) (cCw (wV w)):=by
 have hlen:=h.len
 have w0:IntKind.i64.wrap ((w.l.length:Int)-1)=(w.l.length:Int)-1:=gS (by omega) (by omega)
 obtain⟨n,hn⟩:∃n,lR w.l w.l.length=n:=⟨_,rfl⟩
 have hr:=wK w.l w.l.length
 rw[hn]at hr
 have a:=jB h [85,78,76,79,79,80]
 have b:=py a [40,98,114,97,110,99,104,41]
 have bl:(fN (cv w [85,78,76,79,79,80]) [40,98,114,97,110,99,104,41]).l=w.l:=(Rt _ _).trans (KW _ _)
 obtain⟨z,hz⟩:∃z,fN (cv w [85,78,76,79,79,80]) [40,98,114,97,110,99,104,41]=z:=⟨_,rfl⟩
 obtain⟨at_,ha⟩:∃x,(cv (cv w [85,78,76,79,79,80]) [40,98,114,97,110,99,104,41]).v.here=x:=⟨_,rfl⟩
 have p2:=qf (cv w [85,78,76,79,79,80]) [40,98,114,97,110,99,104,41] a
 have hE:wV w=if n<0\/32<=(w.l.getD n.toNat zCf).leaves.length then w.fail (-22)else {z with l:=w.l.set n.toNat {w.l.getD n.toNat zCf with leaves:=(w.l.getD n.toNat zCf).leaves++[at_]}}:=by unfold wV;rw[hn,hz,ha]
 rw[hz]at p2 bl b
 rw[ha]at p2
 rw[hE]
 refine zM func234 fun B=>?_
 refine zp5 ?_
 refine z1 ?_
 refine Wa 9 rfl (j_ w0) ?_
 refine zs1 ?_
 refine Ws<|Wl ?_
 show W _ _ _ _ _ _ _
 refine dJ (fun(k:Nat)=>[(0,.ptr 0 0),(2,i64 ((k:Int)-1))]) (fun(k:Nat)=>[.cells (cCw w) 175]) (fun(k:Nat)=>[]) (fun(k:Nat)=>k<=w.l.length/\lR w.l k=n) (fun(k:Nat)=>k) (w.l.length) (by exact⟨Nat.le_refl _,hn⟩) [] ?_ ?_
 ·exact dK
 intro k hk
 refine Ws<|zp3 ?_
 refine Wb 12 rfl ?_ ?_<;>intro hg1
 ·have h1:1<=k:=by have:=oT hg1;omega
  have e1:((k:Int)-1)=((k-1:Nat):Int):=by omega
  have w1:IntKind.i64.wrap (((k-1:Nat):Int)-1)=((k-1:Nat):Int)-1:=gS (by omega) (by omega)
  have eL:lR w.l k=if (w.l.getD (k-1) zCf).kind=3 then((k-1:Nat):Int)else lR w.l (k-1):=by
   rw[show k=(k-1)+1 by omega,lR];rfl
  refine zA 2 rfl (congrArg i64 e1) ?_
  refine zJ cCf 3 zCf ?_
  refine Wi rfl ?_ ?_<;>intro hi1
  ·have q1:¬(w.l.getD (k-1) zCf).kind=3:=by simpa using hi1
   rw[if_neg q1]at eL
   refine zd ?_
   exact⟨k-1,[],(by exact⟨by omega,eL.symm.trans hk.2⟩),(by omega),dK⟩
  have q1:(w.l.getD (k-1) zCf).kind=3:=by simpa using hi1
  rw[if_pos q1]at eL
  have hN:n=((k-1:Nat):Int):=hk.2.symm.trans eL
  refine aP7 2 rfl (congrArg i64 hN.symm) ?_
  refine aW ?_
  refine Ws<|zp3 ?_
  refine Wb 27 rfl ?_ ?_<;>intro hg2
  ·have q:n<0\/32<=(w.l.getD n.toNat zCf).leaves.length:=.inl (oT hg2)
   refine zd ?_
   refine Wt rfl rfl ?_
   refine zd ?_
   refine zC rfl func153 ((mp w (-22)) _ _ rfl) ?_
   refine Wq<|aQ rfl rfl ?_ ?_
   ·rfl
   rw[if_pos q];rfl
  have hn0:0<=n:=by have:=oF hg2;omega
  obtain⟨j,hj⟩:∃j:Nat,n=(j:Int):=⟨n.toNat,by omega⟩
  subst hj
  have hjl:j<w.l.length:=by omega
  have cj:=h.cf (w.l.getD j zCf) (by rw[List.getD_eq_getElem?_getD,List.getElem?_eq_getElem hjl];exact List.getElem_mem hjl)
  refine zd ?_
  refine zJ cCf 3 zCf ?_
  refine Wi rfl ?_ ?_<;>intro hi2
  ·have q:(j:Int)<0\/32<=(w.l.getD (j:Int).toNat zCf).leaves.length:=.inr (by have:=oT hi2;rw[Int.toNat_natCast];omega)
   refine zd ?_
   refine zC rfl func153 ((mp w (-22)) _ _ rfl) ?_
   refine Wq<|aQ rfl rfl ?_ ?_
   ·rfl
   rw[if_pos q];rfl
  have q:¬((j:Int)<0\/32<=(w.l.getD (j:Int).toNat zCf).leaves.length):=by
   have:=oF hi2
   rintro(h|h)
   ·omega
   rw[Int.toNat_natCast]at h;omega
  have hl32:(w.l.getD j zCf).leaves.length<32:=by have:=oF hi2;omega
  refine zd ?_
  refine zC rfl func104 ((nz w [85,78,76,79,79,80] h.mem h.here) _ _ rfl) ?_
  refine zc rfl func263 ((p2) _ _ rfl) ?_
  refine zs1 ?_
  refine zp5 ?_
  refine Wa 49 rfl (congrArg (sq cCf) bl) ?_
  refine zc rfl func269 (Mm w.l (by omega) (by omega) _) ?_
  refine Wa 50 rfl ((show _=PV.arw 1 0 w.l.length from rfl)) ?_
  refine zs3 ?_
  refine aJ5 ?_
  refine zW [0,0,0,4,0,0,0,0,4,0,0,0,6,0,0,0,0,0,0,3] [0,1,2,3,4,5,6,7,8,9,10,11,12,13,14,15,16,17,18,19] ?_
  refine zU 0 ?_
  refine zd ?_
  refine zU 0 ?_
  refine z3 ?_
  refine z4 ?_ (q:=(by omega))
  refine z3 ?_
  refine RK 1 rfl rfl rfl rfl rfl (fun H2 h2=>cq (lO tG rfl) rfl rfl h2 (CV hjl rfl)) ?_
  refine Xc rfl rfl rfl rfl (fun _=>dC rfl func154 rfl rfl ((w8 (w.l.getD j zCf).leaves (by omega)) _)) ?_
  iterate 2 refine z3 ?_
  refine Xa 68 rfl ((show _=PV.seq (List.length [at_]) (List.flatMap ao [at_]) .clip from rfl)) ?_
  refine ew rfl rfl rfl rfl (fun _=>co (lO tG rfl) rfl (lO tG rfl) (lO tG rfl) rfl rfl (by exact⟨_,rfl⟩) (by exact⟨rfl,rfl,an _ 1 (fun _=>rfl) _,bD _ (fun _=>rfl) _⟩) (by exact an _ 1 (fun _=>rfl) _) (by((simp_all;omega))) (by((simp_all;omega))) (by exact fU (bs (fun x=>by simp) _) (bs (fun x=>by simp) _))) ?_
  refine Xa 69 rfl (cw ao) ?_
  refine z4 ?_ (q:=(by omega))
  refine z3 ?_
  refine lD rfl rfl rfl rfl (bP (lO tG rfl) rfl rfl rfl rfl rfl rfl (by rw[Nat.ble_eq,an cCf 3 (fun _=>rfl)];dsimp only;rw[Int.toNat_natCast];simp;omega)) ?_
  refine NQ (H':=[.cells (cVm z.v++[.arw 1 0 w.l.length,i64 z.bad]) 175,.cells ((w.l.set j {w.l.getD j zCf with leaves:=(w.l.getD j zCf).leaves++[at_]}).flatMap cCf) 115]) (by rw[<-ud hjl];dsimp only;rw[Int.toNat_natCast,Nat.zero_add];rfl) ?_
  refine fS ?_
  have hL:(w.l.set j {w.l.getD j zCf with leaves:=(w.l.getD j zCf).leaves++[at_]}).length=w.l.length:=List.length_set
  refine⟨1,0,23,w.l.length,w.l.length*3,_,_,_,_,by decide,rfl,rfl,rfl,(by rw[an cCf 3 (fun _=>rfl),hL];exact Nat.le_refl _),?_⟩
  refine aV rfl rfl rfl ?_
  rw[if_neg q,List.take_of_length_le (by rw[an cCf 3 (fun _=>rfl),hL];exact Nat.le_refl _),Int.toNat_natCast]
  unfold cCw sq
  dsimp only
  rw[hL];rfl
 have h1:k=0:=by have:=oF hg1;omega
 subst h1
 have hN:n = -1:=hk.2.symm
 refine zA 2 rfl (show i64 (((0:Nat):Int)-1)=i64 n by rw[hN];rfl) ?_
 refine Wf rfl rfl ?_
 refine aW ?_
 refine Ws<|zp3 ?_
 refine Wb 27 rfl ?_ ?_<;>intro hg2
 ·have q:n<0\/32<=(w.l.getD n.toNat zCf).leaves.length:=.inl (oT hg2)
  refine zd ?_
  refine Wt rfl rfl ?_
  refine zd ?_
  refine zC rfl func153 ((mp w (-22)) _ _ rfl) ?_
  refine Wq<|aQ rfl rfl ?_ ?_
  ·rfl
  rw[if_pos q];rfl
 have hn0:0<=n:=by have:=oF hg2;omega
 obtain⟨j,hj⟩:∃j:Nat,n=(j:Int):=⟨n.toNat,by omega⟩
 subst hj
 have hjl:j<w.l.length:=by omega
 have cj:=h.cf (w.l.getD j zCf) (by rw[List.getD_eq_getElem?_getD,List.getElem?_eq_getElem hjl];exact List.getElem_mem hjl)
 refine zd ?_
 refine zJ cCf 3 zCf ?_
 refine Wi rfl ?_ ?_<;>intro hi2
 ·have q:(j:Int)<0\/32<=(w.l.getD (j:Int).toNat zCf).leaves.length:=.inr (by have:=oT hi2;rw[Int.toNat_natCast];omega)
  refine zd ?_
  refine zC rfl func153 ((mp w (-22)) _ _ rfl) ?_
  refine Wq<|aQ rfl rfl ?_ ?_
  ·rfl
  rw[if_pos q];rfl
 have q:¬((j:Int)<0\/32<=(w.l.getD (j:Int).toNat zCf).leaves.length):=by
  have:=oF hi2
  rintro(h|h)
  ·omega
  rw[Int.toNat_natCast]at h;omega
 have hl32:(w.l.getD j zCf).leaves.length<32:=by have:=oF hi2;omega
 refine zd ?_
 refine zC rfl func104 ((nz w [85,78,76,79,79,80] h.mem h.here) _ _ rfl) ?_
 refine zc rfl func263 ((p2) _ _ rfl) ?_
 refine zs1 ?_
 refine zp5 ?_
 refine Wa 49 rfl (congrArg (sq cCf) bl) ?_
 refine zc rfl func269 (Mm w.l (by omega) (by omega) _) ?_
 refine Wa 50 rfl ((show _=PV.arw 1 0 w.l.length from rfl)) ?_
 refine zs3 ?_
 refine aJ5 ?_
 refine zW [0,0,0,4,0,0,0,0,4,0,0,0,6,0,0,0,0,0,0,3] [0,1,2,3,4,5,6,7,8,9,10,11,12,13,14,15,16,17,18,19] ?_
 refine zU 0 ?_
 refine zd ?_
 refine zU 0 ?_
 refine z3 ?_
 refine z4 ?_ (q:=(by omega))
 refine z3 ?_
 refine RK 1 rfl rfl rfl rfl rfl (fun H2 h2=>cq (lO tG rfl) rfl rfl h2 (CV hjl rfl)) ?_
 refine Xc rfl rfl rfl rfl (fun _=>dC rfl func154 rfl rfl ((w8 (w.l.getD j zCf).leaves (by omega)) _)) ?_
 iterate 2 refine z3 ?_
 refine Xa 68 rfl ((show _=PV.seq (List.length [at_]) (List.flatMap ao [at_]) .clip from rfl)) ?_
 refine ew rfl rfl rfl rfl (fun _=>co (lO tG rfl) rfl (lO tG rfl) (lO tG rfl) rfl rfl (by exact⟨_,rfl⟩) (by exact⟨rfl,rfl,an _ 1 (fun _=>rfl) _,bD _ (fun _=>rfl) _⟩) (by exact an _ 1 (fun _=>rfl) _) (by(dsimp only;omega)) (by(omega)) (by exact fU (bs (fun x=>by simp) _) (bs (fun x=>by simp) _))) ?_
 refine Xa 69 rfl (cw ao) ?_
 refine z4 ?_ (q:=(by omega))
 refine z3 ?_
 refine lD rfl rfl rfl rfl (bP (lO tG rfl) rfl rfl rfl rfl rfl rfl (by rw[Nat.ble_eq,an cCf 3 (fun _=>rfl)];dsimp only;rw[Int.toNat_natCast];simp;omega)) ?_
 refine NQ (H':=[.cells (cVm z.v++[.arw 1 0 w.l.length,i64 z.bad]) 175,.cells ((w.l.set j {w.l.getD j zCf with leaves:=(w.l.getD j zCf).leaves++[at_]}).flatMap cCf) 115]) (by rw[<-ud hjl];dsimp only;rw[Int.toNat_natCast,Nat.zero_add];rfl) ?_
 refine fS ?_
 have hL:(w.l.set j {w.l.getD j zCf with leaves:=(w.l.getD j zCf).leaves++[at_]}).length=w.l.length:=List.length_set
 refine⟨1,0,23,w.l.length,w.l.length*3,_,_,_,_,by decide,rfl,rfl,rfl,(by rw[an cCf 3 (fun _=>rfl),hL];exact Nat.le_refl _),?_⟩
 refine aV rfl rfl rfl ?_
 rw[if_neg q,List.take_of_length_le (by rw[an cCf 3 (fun _=>rfl),hL];exact Nat.le_refl _),Int.toNat_natCast]
 unfold cCw sq
 dsimp only
 rw[hL];rfl
def brK:List fX:=[.s [73,70],.s [69,76,83,69],.s [84,72,69,78],.s [66,69,71,73,78],.s [87,72,73,76,69],.s [82,69,80,69,65,84],.s [85,78,84,73,76],.s [65,71,65,73,78],.s [68,79],.s [63,68,79],.s [76,79,79,80],.s [43,76,79,79,80],.s [76,69,65,86,69]]
def brV:List PV:=[.fn (.func 222) [] [],.fn (.func 223) [] [],.fn (.func 224) [] [],.fn (.func 225) [] [],.fn (.func 226) [] [],.fn (.func 227) [] [],.fn (.func 228) [] [],.fn (.func 229) [] [],.fn (.func 230) [] [],.fn (.func 231) [] [],.fn (.func 232) [] [],.fn (.func 233) [] [],.fn (.func 234) [] []]
def Zi:aR (.smap brK brV):=by
 unfold aR brV
 simp[aF,aR]
def SL:ab prog 192 [] (.smap brK brV):=by
 refine bw tG (rs:=[.tmp 0]) func192 rfl rfl rfl (by(simp[aF,aR];done)) (by exact Zi) (fun B=>?_)
 refine zd ?_
 refine Wd rfl rfl (dn rfl) ?_
 refine zD 256 (.s [73,70]) ?_
 refine zD 256 (.s [69,76,83,69]) ?_
 refine zD 256 (.s [84,72,69,78]) ?_
 refine zD 256 (.s [66,69,71,73,78]) ?_
 refine zD 256 (.s [87,72,73,76,69]) ?_
 refine zD 256 (.s [82,69,80,69,65,84]) ?_
 refine zD 256 (.s [85,78,84,73,76]) ?_
 refine zD 256 (.s [65,71,65,73,78]) ?_
 refine zD 256 (.s [68,79]) ?_
 refine zD 256 (.s [63,68,79]) ?_
 refine zD 256 (.s [76,79,79,80]) ?_
 refine zD 256 (.s [43,76,79,79,80]) ?_
 refine zD 256 (.s [76,69,65,86,69]) ?_
 refine z1 ?_
 refine eV 2 _ rfl rfl rfl ?_
 refine zd ?_
 rfl
def ke(l:List VCf)(name:Str):Bool:=if name=[73,70]\/name=[66,69,71,73,78]\/name=[87,72,73,76,69]\/name=[68,79]\/name=[63,68,79]then decide ((l.length:Int)≥32)else false
def Lg(l:List VCf)(name:Str)(hl:l.length<=1000):ab prog 193 [sq cCf l,str name] (boo (ke l name)):=by
 refine zY func193 fun B=>?_
 refine zu1 ?_
 refine Ws<|zu1 ?_
 refine Wl<|Ws<|zp1 ?_
 refine zQ 7 ?_
 refine Wi rfl ?_ ?_<;>intro hi1
 ·have q:name=[73,70]\/name=[66,69,71,73,78]\/name=[87,72,73,76,69]\/name=[68,79]\/name=[63,68,79]:=.inl (oT hi1)
  refine zd ?_
  refine Wt rfl hi1 ?_
  refine zd ?_
  (rw[ke,if_pos q];rfl)
 have n1:=oF hi1
 refine zp1 ?_
 refine zQ 8 ?_
 refine Wi rfl ?_ ?_<;>intro hi2
 ·have q:name=[73,70]\/name=[66,69,71,73,78]\/name=[87,72,73,76,69]\/name=[68,79]\/name=[63,68,79]:=.inr (.inl (oT hi2))
  refine zd ?_
  refine Wt rfl hi2 ?_
  refine zd ?_
  (rw[ke,if_pos q];rfl)
 have n2:=oF hi2
 refine zp1 ?_
 refine zQ 9 ?_
 refine Wi rfl ?_ ?_<;>intro hi3
 ·have q:name=[73,70]\/name=[66,69,71,73,78]\/name=[87,72,73,76,69]\/name=[68,79]\/name=[63,68,79]:=.inr (.inr (.inl (oT hi3)))
  refine zd ?_
  refine Wt rfl hi3 ?_
  refine zd ?_
  (rw[ke,if_pos q];rfl)
 have n3:=oF hi3
 refine zp1 ?_
 refine zQ 10 ?_
 refine Wi rfl ?_ ?_<;>intro hi4
 ·have q:name=[73,70]\/name=[66,69,71,73,78]\/name=[87,72,73,76,69]\/name=[68,79]\/name=[63,68,79]:=.inr (.inr (.inr (.inl (oT hi4))))
  refine zd ?_
  refine Wt rfl hi4 ?_
  refine zd ?_
  (rw[ke,if_pos q];rfl)
 have n4:=oF hi4
 refine aI rfl ?_
 refine z1 ?_
 refine zQ 11 ?_
 refine Wi rfl ?_ ?_<;>intro hi5
 ·have q:name=[73,70]\/name=[66,69,71,73,78]\/name=[87,72,73,76,69]\/name=[68,79]\/name=[63,68,79]:=.inr (.inr (.inr (.inr (oT hi5))))
  refine zd ?_
  (rw[ke,if_pos q];rfl)
 have n5:=oF hi5
 have q:¬(name=[73,70]\/name=[66,69,71,73,78]\/name=[87,72,73,76,69]\/name=[68,79]\/name=[63,68,79]):=by rintro(h|h|h|h|h);exact n1 h;exact n2 h;exact n3 h;exact n4 h;exact n5 h
 refine zd ?_
 (rw[ke,if_neg q];rfl)
def brF(name:Str):Option (CW->CW) :=
 if name=[73,70]then some ifC else if name=[69,76,83,69]then some xS else if name=[84,72,69,78]then some Bu else if name=[66,69,71,73,78]then some uK else if name=[87,72,73,76,69]then some Eg
 else if name=[82,69,80,69,65,84]then some yT else if name=[85,78,84,73,76]then some (vu [40,48,98,114,97,110,99,104,41])else if name=[65,71,65,73,78]then some (vu [40,98,114,97,110,99,104,41])else if name=[68,79]then some doC
 else if name=[63,68,79]then some LM else if name=[76,79,79,80]then some (yx [40,108,111,111,112,41])else if name=[43,76,79,79,80]then some (yx [40,43,108,111,111,112,41])else if name=[76,69,65,86,69]then some wV else none
def aQ2(f:FuncId)(g:CW->CW):Prop:=∀w:CW,CK 40 w->∀(H:List Ob) (i:Nat),H[i]?=some (.cells (cCw w) 175)->oo prog f [.ptr i 0] H (.tup []) (H.set i (.cells (cCw (g w)) 175))
def RX(name:Str):(∃f g,g9 brK brV (.s name) (.val .nilFunc)=(.fn (.func f) [] [],true)/\brF name=some g/\aQ2 f g)\/(g9 brK brV (.s name) (.val .nilFunc)=(.val .nilFunc,false)/\brF name=none):=by
 have no:∀{α:Type} {a b:α},(if False then a else b)=b:=fun {α a b}=>if_neg id
 by_cases c0:name=[73,70]
 ·subst c0;exact .inl ⟨222,_,rfl,rfl,fun w h H i hi=>⟨⟨_,func222,rfl,rfl⟩,aO0 w (h.down (by omega)) H i hi⟩⟩
 by_cases c1:name=[69,76,83,69]
 ·subst c1;exact .inl ⟨223,_,rfl,rfl,fun w h H i hi=>⟨⟨_,func223,rfl,rfl⟩,YZ w (h.down (by omega)) H i hi⟩⟩
 by_cases c2:name=[84,72,69,78]
 ·subst c2;exact .inl ⟨224,_,rfl,rfl,fun w h H i hi=>⟨⟨_,func224,rfl,rfl⟩,ZZ w (h.down (by omega)) H i hi⟩⟩
 by_cases c3:name=[66,69,71,73,78]
 ·subst c3;exact .inl ⟨225,_,rfl,rfl,fun w h H i hi=>⟨⟨_,func225,rfl,rfl⟩,Tt w (h.down (by omega)) H i hi⟩⟩
 by_cases c4:name=[87,72,73,76,69]
 ·subst c4;exact .inl ⟨226,_,rfl,rfl,fun w h H i hi=>⟨⟨_,func226,rfl,rfl⟩,TF w (h.down (by omega)) H i hi⟩⟩
 by_cases c5:name=[82,69,80,69,65,84]
 ·subst c5;exact .inl ⟨227,_,rfl,rfl,fun w h H i hi=>⟨⟨_,func227,rfl,rfl⟩,O9 w (h.down (by omega)) H i hi⟩⟩
 by_cases c6:name=[85,78,84,73,76]
 ·subst c6;exact .inl ⟨228,_,rfl,rfl,fun w h H i hi=>⟨⟨_,func228,rfl,rfl⟩,Ri w (h.down (by omega)) H i hi⟩⟩
 by_cases c7:name=[65,71,65,73,78]
 ·subst c7;exact .inl ⟨229,_,rfl,rfl,fun w h H i hi=>⟨⟨_,func229,rfl,rfl⟩,Ry w (h.down (by omega)) H i hi⟩⟩
 by_cases c8:name=[68,79]
 ·subst c8;exact .inl ⟨230,_,rfl,rfl,fun w h H i hi=>⟨⟨_,func230,rfl,rfl⟩,aB1 w (h.down (by omega)) H i hi⟩⟩
 by_cases c9:name=[63,68,79]
 ·subst c9;exact .inl ⟨231,_,rfl,rfl,fun w h H i hi=>⟨⟨_,func231,rfl,rfl⟩,ai9 w (h.down (by omega)) H i hi⟩⟩
 by_cases c10:name=[76,79,79,80]
 ·subst c10;exact .inl ⟨232,_,rfl,rfl,fun w h H i hi=>⟨⟨_,func232,rfl,rfl⟩,WH w h H i hi⟩⟩
 by_cases c11:name=[43,76,79,79,80]
 ·subst c11;exact .inl ⟨233,_,rfl,rfl,fun w h H i hi=>⟨⟨_,func233,rfl,rfl⟩,XH w h H i hi⟩⟩
 by_cases c12:name=[76,69,65,86,69]
 ·subst c12;exact .inl ⟨234,_,rfl,rfl,fun w h H i hi=>⟨⟨_,func234,rfl,rfl⟩,Td w (h.down (by omega)) H i hi⟩⟩
 refine .inr ⟨?_,?_⟩
 ·unfold brK brV
  rw[i5,if_neg c0,i5,if_neg c1,i5,if_neg c2,i5,if_neg c3,i5,if_neg c4,i5,if_neg c5,i5,if_neg c6,i5,if_neg c7,i5,if_neg c8,i5,if_neg c9,i5,if_neg c10,i5,if_neg c11,i5,if_neg c12,UR]
 unfold brF
 rw[if_neg c0,if_neg c1,if_neg c2,if_neg c3,if_neg c4,if_neg c5,if_neg c6,if_neg c7,if_neg c8,if_neg c9,if_neg c10,if_neg c11,if_neg c12]
def bo(v:VVm)(l:List VCf)(name:Str):VVm×List VCf×Int :=
 match brF name with
 | none=>(v,l,-22)
 | some g=>if ke l name=true then(v,l,-22)else oH (g ⟨v,l,0⟩) v l
def aO2{v:VVm}{l:List VCf}{name:Str}(h:brF name=none):bo v l name=(v,l,-22):=by unfold bo;rw[h]
def NR{v:VVm}{l:List VCf}{name:Str}{g:CW->CW}(h:brF name=some g)(q:ke l name=true):bo v l name=(v,l,-22):=by unfold bo;rw[h];dsimp only;rw[if_pos q]
def oa{v:VVm}{l:List VCf}{name:Str}{g:CW->CW}(h:brF name=some g)(q:¬ke l name=true):bo v l name=oH (g ⟨v,l,0⟩) v l:=by unfold bo;rw[h];dsimp only;rw[if_neg q]
def Cb(v:VVm)(l:List VCf)(name:Str)(h:CK 40 ⟨v,l,0⟩):ab prog 151 [eVm v,sq cCf l,str name] (.tup [eVm (bo v l name).1,sq cCf (bo v l name).2.1,i64 (bo v l name).2.2]):=by
 have hl:l.length<=32:=h.len
 have hT:=RX name
 refine zH func151 fun B=>?_
 refine zc rfl func192 ((SL) _) ?_
 refine z1 ?_
 rcases hT with ⟨f,g,hlk,hon,hc⟩|⟨hlk,hno⟩
 ·refine Wd rfl rfl (bc (b:=true) (e:=256) (key:=.s name) (by kernel_rfl) (lO tG rfl) (by kernel_rfl) rfl rfl rfl rfl (by kernel_rfl) (hlk)) ?_
  refine zs5 ?_
  refine Ws<|zp3 ?_
  refine pJ 20 rfl (by rfl) ?_
  refine zd ?_
  refine zC rfl func193 ((Lg l name (by omega)) _) ?_
  refine Wi rfl ?_ ?_<;>intro hi1
  ·have q:ke l name=true:=by simpa using hi1
   refine zd ?_
   (rw[NR hon q];rfl)
  have q:¬ke l name=true:=by simpa using hi1
  refine zd ?_
  refine zG rfl rfl (fq rfl rfl (hc ⟨v,l,0⟩ h _ 2 rfl)) ?_
  refine zC rfl func106 ((wu (g ⟨v,l,0⟩) v l) _ _ rfl) ?_
  (rw[oa hon q];rfl)
 refine Wd rfl rfl (bc (b:=true) (e:=256) (key:=.s name) (by kernel_rfl) (lO tG rfl) (by kernel_rfl) rfl rfl rfl rfl (by kernel_rfl) (hlk)) ?_
 refine zs5 ?_
 refine Ws<|zp3 ?_
 refine cT 20 rfl (by rfl) ?_
 refine zd ?_
 refine Wt rfl rfl ?_
 refine zd ?_
 (rw[aO2 hno];rfl)
structure xU where
 xt:Int
 cf:List VCf
 here:Int
 dict:Int
 last:Int
 on:Bool
 fuel:Int
def kV:xU:=⟨0,[],0,0,0,false,0⟩
def D1(c:xU):List PV:=[i64 c.xt,sq cCf c.cf,i64 c.here,i64 c.dict,i64 c.last,boo c.on,i64 c.fuel]
@[simp] theorem ar5 (c : xU) : aF (D1 c) := by simp [D1]
structure aa where
 vm:VVm
 comp:xU
def jT(f:aa):List PV:=cVm f.vm++D1 f.comp
@[simp] theorem HO (f : aa) : aF (jT f) := by simp [jT, cVm, D1]
def bG(f:aa):PV:=.agg (jT f)
@[simp] theorem ac2 (f : aa) : aR (bG f) := by unfold bG aR; exact HO f
structure FW where
 f:aa
 bad:Int
def cFw(w:FW):List PV:=jT w.f++[i64 w.bad]
@[simp] theorem aL2 (w : FW) : aF (cFw w) := by simp [cFw, jT, cVm, D1]
def okF(w:FW)(e:Int):FW:=if w.bad=0 then {w with bad:=e} else w
def XN{w:FW}{e:Int}(h:w.bad=0):okF w e={w with bad:=e}:=by unfold okF;rw[if_pos h]
def aM4{w:FW}{e:Int}(h:¬w.bad=0):okF w e=w:=by unfold okF;rw[if_neg h]
def lQ(w:FW)(e:Int):∀(H:List Ob) (i:Nat),H[i]?=some (.cells (cFw w) 106)->HC prog 93 (.ptr i 30::[i64 e]) H (boo (decide ((okF w e).bad=0))) (H.set i (.cells (cFw (okF w e)) 106)):=by
 refine zL func93 fun B=>?_
 refine Wi rfl ?_ ?_<;>intro hi1
 ·have h0:w.bad=0:=by simpa using hi1
  refine zd ?_
  refine Wq<|aQ rfl rfl ?_ ?_
  ·(rw[XN h0];rfl)
  (rw[XN h0];rfl)
 have h0:¬w.bad=0:=by simpa using hi1
 refine zd ?_
 refine Wq<|aQ rfl rfl ?_ ?_
 ·(rw[aM4 h0];rfl)
 (rw[aM4 h0];rfl)
structure FK (k:Nat) (f:aa):Prop where
 b:f.vm.mem.b.length<=1000000
 old:f.vm.mem.old.length+k<=1000000
 h0:1368<=f.vm.here
 h1:f.vm.here<=f.vm.mem.b.length
 dict:f.vm.dict.length<=2000
 each:kw f.vm.dict
 hand:f.vm.hand.length<=1000
def FK.mem{k:Nat}{f:aa}(h:FK k f):cX f.vm.mem:=⟨h.b,by have:=h.old;omega⟩
def FK.here{k:Nat}{f:aa}(h:FK k f):iu f.vm.mem f.vm.here:=⟨by have:=h.h0;omega,h.h1⟩
def FK.down{k j:Nat}{f:aa}(h:FK k f)(hj:j<=k):FK j f:=⟨h.b,by have:=h.old;omega,h.h0,h.h1,h.dict,h.each,h.hand⟩
def FW.lay(w:FW)(n:Int):FW:={f:={w.f with vm:=(q9 w.f.vm n).1},bad:=(q9 w.f.vm n).2}
def ce(w:FW)(n:Int):FW:=if w.bad=0 then w.lay n else w
def V2{w:FW}{n:Int}(h:w.bad=0):ce w n=w.lay n:=by unfold ce;rw[if_pos h]
def aw6{w:FW}{n:Int}(h:¬w.bad=0):ce w n=w:=by unfold ce;rw[if_neg h]
def xY{w:FW}(h:¬w.bad=0):∀l:List Int,l.foldl ce w=w
 | []=>rfl
 | n::l=>by rw[List.foldl_cons,aw6 h];exact xY h l
def as5{k:Nat}{f:aa}(h:FK (k+1) f)(n:Int):FK k {f with vm:=(q9 f.vm n).1}:=by
 have q:=sJ f.vm.mem f.vm.here n
 have p:=uv n h.h0 h.h1
 exact⟨by show(ct f.vm.mem f.vm.here n).1.b.length<=_;rw[q.len];exact h.b,by show(ct f.vm.mem f.vm.here n).1.old.length+k<=_;have:=q.old;have:=h.old;omega,p.1,by show(ct f.vm.mem f.vm.here n).2.1<=((ct f.vm.mem f.vm.here n).1.b.length:Int);rw[q.len];exact p.2,h.dict,h.each,h.hand⟩
def My{k:Nat}{w:FW}(h:FK (k+1) w.f)(n:Int):FK k (ce w n).f:=by
 unfold ce;split
 ·exact as5 h n
 exact h.down (by omega)
def BK:∀(l:List Int) (k:Nat) (w:FW),FK (k+l.length) w.f->FK k (l.foldl ce w).f
 | [],_,_,h=>h
 | x::l,k,w,h=>BK l k _ (My (by rw[List.length_cons]at h;exact h) x)
def JS{l:List Int}{k:Nat}(hk:k<l.length)(w:FW):(l.take (k+1)).foldl ce w=ce ((l.take k).foldl ce w) (l.getD k 0):=by
 rw[iA l k 0 hk,List.foldl_append];rfl
def Ao(w:FW)(l:List Int)(hl:l.length<=1000)(h:FK l.length w.f):k_ 213 [sq ao l] (cFw w) 106 (.tup []) (cFw (l.foldl ce w)):=by
 refine zM func213 fun B=>?_
 refine zu3 ?_
 refine Wl ?_
 show W _ _ _ _ _ _ _
 refine dJ (fun(k:Nat)=>[(0,.ptr 0 0),(8,sq ao l),(9,i64 l.length),(10,i64 k)]) (fun(k:Nat)=>[.cells (cFw ((l.take k).foldl ce w)) 106]) (fun(k:Nat)=>[]) (fun(k:Nat)=>k<=l.length) (fun(k:Nat)=>l.length-k) (0) (by exact Nat.zero_le _) [] ?_ ?_
 ·exact dK
 intro k hk
 refine zd ?_
 refine Wi rfl ?_ ?_<;>intro hi1
 ·have hlt:k<l.length:=by have:=oT hi1;omega
  have e:=JS hlt w
  have kk:FK 1 ((l.take k).foldl ce w).f:=BK _ _ _ (h.down (by simp;omega))
  have eT:l.foldl ce w=(l.drop k).foldl ce ((l.take k).foldl ce w):=by rw[<-List.foldl_append,List.take_append_drop]
  obtain⟨x,hx⟩:∃x,(l.take k).foldl ce w=x:=⟨_,rfl⟩
  rw[hx]at e kk eT ⊢
  refine zd ?_
  refine zJ ao 1 0 ?_
  refine Wi rfl ?_ ?_<;>intro hi2
  ·have q:¬x.bad=0:=by simpa using hi2
   refine Wq<|aQ rfl rfl ?_ ?_
   ·rfl
   (rw[eT,xY q];rfl)
  have q:x.bad=0:=by simpa using hi2
  refine zd ?_
  refine zC rfl func99 ((wR x.f.vm (l.getD k 0) kk.mem kk.here) _) ?_
  refine zc rfl func93 (lQ ⟨{x.f with vm:=(q9 x.f.vm (l.getD k 0)).1},x.bad⟩ (q9 x.f.vm (l.getD k 0)).2 _ 0 rfl) ?_
  refine Wn<|aI rfl ?_
  refine z1 ?_
  refine jQ (H':=[.cells (cFw ((l.take (k+1)).foldl ce w)) 106,.cells (cVm (q9 x.f.vm (l.getD k 0)).1) 37]) (by rw[e,V2 q,XN (by exact q)];rfl) ?_
  refine zd ?_
  exact⟨k+1,[],(by exact hlt),(by omega),dK⟩
 have hge:l.length<=k:=by have:=oF hi1;omega
 refine aW ?_
 refine aV rfl rfl ?_ ?_
 ·rfl
 (rw[List.take_of_length_le hge];rfl)
def dT(w:FW)(n:Int):FW:=okF {w with f:={w.f with vm:={w.f.vm with mem:=(aJ w.f.vm.mem 8 n).1}}} (aJ w.f.vm.mem 8 n).2
def vo(w:FW)(n:Int)(h:FK 0 w.f):k_ 52 [i64 n] (cFw w) 106 (.tup []) (cFw (dT w n)):=by
 refine zL func52 fun B=>?_
 refine zC rfl func92 ((jE w.f.vm.mem 8 n h.mem (by unfold ae;omega)) _) ?_
 refine zC rfl func93 (lQ {w with f:={w.f with vm:={w.f.vm with mem:=(aJ w.f.vm.mem 8 n).1}}} (aJ w.f.vm.mem 8 n).2 _ 0 rfl) ?_
 refine aV rfl rfl ?_ ?_
 ·rfl
 rfl
def L8{k:Nat}{w:FW}(h:FK k w.f)(e:Int):FK k (okF w e).f:=by unfold okF;split<;>exact h
def Ju{k:Nat}{w:FW}(h:FK (k+1) w.f)(n:Int):FK k (dT w n).f:=by
 refine L8 ?_ _
 have q:=cN w.f.vm.mem 8 n
 exact⟨by show(aJ w.f.vm.mem 8 n).1.b.length<=_;rw[q.len];exact h.b,by show(aJ w.f.vm.mem 8 n).1.old.length+k<=_;have:=q.old;have:=h.old;omega,h.h0,by show w.f.vm.here<=((aJ w.f.vm.mem 8 n).1.b.length:Int);rw[q.len];exact h.h1,h.dict,h.each,h.hand⟩
def gK(w:FW)(f:aa):aa×Int:=if w.bad≠0 then(f,w.bad)else(w.f,0)
def i4(r:aa×Int):PV:=iy (bG r.1) (i64 r.2)
def dQ(w:FW)(f:aa):k_ 212 [bG f] (cFw w) 106 (iy (bG (gK w f).1) (i64 (gK w f).2)) (cFw w):=by
 refine zL func212 fun B=>?_
 refine Wi rfl ?_ ?_<;>intro hi1
 ·have q:w.bad≠0:=by simpa using hi1
  refine zd ?_
  refine zW [6,0,0,0,0,4,9,0] [0,1,2,3,4,5,6,7] ?_
  refine zU 1 ?_
  refine zd ?_
  refine zU 0 ?_
  refine dW 2 tG rfl rfl rfl rfl rfl trivial rfl ?_
  refine zd ?_
  refine Wq<|aQ rfl rfl ?_ ?_
  ·(rw[gK,if_pos q];rfl)
  rfl
 have q:¬w.bad≠0:=by simpa using hi1
 refine zd ?_
 refine Wq<|aQ rfl rfl ?_ ?_
 ·(rw[gK,if_neg q];rfl)
 rfl
def kN(f:aa):ab prog 51 [bG f] (boo (!decide (f.comp.xt=0))):=by
 refine zH func51 fun B=>?_
 exact congrArg boo (by simp only[bne];rfl)
def FW.placed(w:FW)(a:bh×Int×Int)(d:List aP):FW:={w with f:={w.f with vm:={w.f.vm with mem:=a.1,here:=a.2.1,dict:=d}}}
def fL(w:FW)(a:bh×Int×Int)(d:List aP×Int):FW:=if (okF (okF w a.2.2) d.2).bad=0 then(okF (okF w a.2.2) d.2).placed a d.1 else okF (okF w a.2.2) d.2
def eM(w:FW)(name:Str)(flags:Int)(l:List Int):FW×Int :=
 (l.foldl ce (fL w (aO w.f.vm.mem w.f.vm.here) (cD w.f.vm.dict name (aO w.f.vm.mem w.f.vm.here).2.1 flags w.f.vm.conf.words)),(aO w.f.vm.mem w.f.vm.here).2.1)
def ae6{l:List aP}{name:Str}{xt flags limit:Int}(h:l.length<=2000)(hd:kw l)(h0:0<=flags)(h7:flags<=7):(cD l name xt flags limit).1.length<=2000/\kw (cD l name xt flags limit).1:=by
 unfold cD
 by_cases q1:eS name≠0
 ·rw[if_pos q1];exact⟨h,hd⟩
 rw[if_neg q1]
 by_cases q2:(if 1024<limit then 1024 else limit)<=(l.length:Int)
 ·rw[if_pos q2];exact⟨h,hd⟩
 rw[if_neg q2]
 have hl:(l.length:Int)<1024:=by split at q2<;>omega
 have hn:name.length<=31:=by
  have:eS name=0:=Decidable.not_not.1 q1
  unfold eS at this
  split at this
  ·cases this
  split at this
  ·cases this
  omega
 refine⟨by show(l++[_]).length<=2000;simp;omega,by show(l++[_]).length<=_;simp;omega,fun x hx=>?_⟩
 rcases List.mem_append.1 hx with hx|hx
 ·exact hd.2 x hx
 rw[List.mem_singleton.1 hx];exact⟨by show name.length<=_;omega,h0,h7⟩
def CZ{k:Nat}{w:FW}(h:FK (k+1) w.f)(name:Str){flags:Int}(h0:0<=flags)(h7:flags<=7):FK k (fL w (aO w.f.vm.mem w.f.vm.here) (cD w.f.vm.dict name (aO w.f.vm.mem w.f.vm.here).2.1 flags w.f.vm.conf.words)).f:=by
 unfold fL
 split
 ·have q:dN w.f.vm.mem (aO w.f.vm.mem w.f.vm.here).1 1:=ic _
  have p:1368<=(aO w.f.vm.mem w.f.vm.here).2.1/\(aO w.f.vm.mem w.f.vm.here).2.1<=w.f.vm.mem.b.length:=iM _ h.h0 h.h1
  have d:=ae6 (name:=name) (xt:=(aO w.f.vm.mem w.f.vm.here).2.1) (limit:=w.f.vm.conf.words) h.dict h.each h0 h7
  have e:(okF (okF w (aO w.f.vm.mem w.f.vm.here).2.2) (cD w.f.vm.dict name (aO w.f.vm.mem w.f.vm.here).2.1 flags w.f.vm.conf.words).2).f=w.f:=by unfold okF;(repeat' split)<;>rfl
  unfold FW.placed
  rw[e]
  exact⟨by show(aO w.f.vm.mem w.f.vm.here).1.b.length<=_;rw[q.len];exact h.b,by show(aO w.f.vm.mem w.f.vm.here).1.old.length+k<=_;have:=q.old;have:=h.old;omega,p.1,by show(aO w.f.vm.mem w.f.vm.here).2.1<=((aO w.f.vm.mem w.f.vm.here).1.b.length:Int);rw[q.len];exact p.2,d.1,d.2,h.hand⟩
 exact L8 (L8 (h.down (by omega)) _) _
def ZP{k:Nat}{w:FW}{name:Str}{flags:Int}{l:List Int}(h:FK (k+l.length+1) w.f)(h0:0<=flags)(h7:flags<=7):FK k (eM w name flags l).1.f:=BK l k _ (CZ h name h0 h7)
def EQ(w:FW)(name:Str)(flags:Int)(l:List Int)(hn:name.length<=1000000)(h0:0<=flags)(h7:flags<=7)(hl:l.length<=1000)(h:FK (l.length+1) w.f):
  k_ 235 [str name,i64 flags,sq ao l] (cFw w) 106 (i64 (eM w name flags l).2) (cFw (eM w name flags l).1):=by
 obtain⟨a,ha⟩:∃a,aO w.f.vm.mem w.f.vm.here=a:=⟨_,rfl⟩
 obtain⟨d,hd⟩:∃d,cD w.f.vm.dict name a.2.1 flags w.f.vm.conf.words=d:=⟨_,rfl⟩
 have p1:=si w.f.vm.mem w.f.vm.here h.mem h.here
 have p2:=QM w.f.vm.dict name a.2.1 flags w.f.vm.conf.words (by have:=h.dict;omega) hn h0 h7
 have kP:=CZ (k:=l.length) h name h0 h7
 have hW:eM w name flags l=(l.foldl ce (fL w a d),a.2.1):=by unfold eM;rw[ha,hd]
 rw[ha]at p1 kP
 rw[hd]at p2 kP
 rw[hW]
 have e1:(okF w a.2.2).f=w.f:=by unfold okF;split<;>rfl
 obtain⟨w1,hw1⟩:∃w1,okF w a.2.2=w1:=⟨_,rfl⟩
 have q1:=lQ w a.2.2
 rw[hw1]at q1 e1
 rw[<-e1]at p2
 have e2:(okF w1 d.2).f=w1.f:=by unfold okF;split<;>rfl
 obtain⟨w2,hw2⟩:∃w2,okF w1 d.2=w2:=⟨_,rfl⟩
 have q2:=lQ w1 d.2
 rw[hw2]at q2 e2
 have eP:fL w a d=if w2.bad=0 then w2.placed a d.1 else w2:=by unfold fL;rw[hw1,hw2]
 refine zL func235 fun B=>?_
 refine zW [0,0,0,0,0,1,0,0,0,0,0,1,0,0,0,0,0,2,3,0,0] [0,1,2,3,4,5,6,7,8,9,10,11,12,13,14,15,16,17,18,19,20] ?_
 refine Xc rfl rfl rfl rfl (fun _=>dC rfl func220 rfl rfl ((p1) _)) ?_
 refine zd ?_
 refine lE tG rfl rfl rfl rfl rfl trivial rfl ?_
 refine cr tG rfl rfl rfl rfl rfl trivial ?_
 refine zd ?_
 refine zC rfl func93 (q1 _ 0 rfl) ?_
 refine zW [0,0,0,0,0,1,0,0,0,0,0,0,0,0,0,1,0,0,0,0,0,0] [0,1,2,3,4,5,6,7,8,9,10,11,12,13,14,15,16,17,18,19,20,21] ?_
 refine Xc rfl rfl rfl rfl (fun _=>dC rfl func270 rfl rfl ((p2) _)) ?_
 refine zd ?_
 refine zC rfl func93 (q2 _ 0 rfl) ?_
 refine Wi rfl ?_ ?_<;>intro hi1
 ·have q:w2.bad=0:=oT hi1
  rw[if_pos q]at eP
  refine aI rfl ?_
  refine zy5 ?_
  refine zy5 ?_
  refine zy5 ?_
  refine zy5 ?_
  refine zs1 ?_
  refine zp1 ?_
  (refine jQ (H':=[.cells (cFw (fL w a d)) 106,.cells (GF a.1) 28]) (by rw[eP];rfl) ?_)
  refine z1 ?_
  refine zC rfl func213 ((Ao (fL w a d) l hl kP) _ _ rfl) ?_
  refine Wq<|aQ rfl rfl ?_ ?_
  ·rfl
  rfl
 have q:¬w2.bad=0:=oF hi1
 rw[if_neg q]at eP
 refine Wj<|zp1 ?_
 (refine jQ (H':=[.cells (cFw (fL w a d)) 106,.cells (GF a.1) 28]) (by rw[eP];rfl) ?_)
 refine z1 ?_
 refine zC rfl func213 ((Ao (fL w a d) l hl kP) _ _ rfl) ?_
 refine Wq<|aQ rfl rfl ?_ ?_
 ·rfl
 rfl
def aN(f:aa):FW:=⟨f,if f.comp.xt=0 then 0 else -29⟩
def Ve(f:aa):HC prog 217 [bG f] [] (.ptr 1 0) [.cells (jT f) 42,.cells (cFw (aN f)) 106]:=by
 refine mQ tG (rs:=[.tmp 2]) func217 rfl rfl rfl (fun B=>?_)
 refine zd ?_
 refine zC rfl func51 ((kN f) _) ?_
 refine Wi rfl ?_ ?_<;>intro hi1
 ·have q:¬f.comp.xt=0:=by simpa using hi1
  refine aI rfl ?_
  refine zs5 ?_
  refine zu2 ?_
  refine Wq<|AV rfl ?_ ?_
  ·rfl
  (unfold aN;rw[if_neg q];rfl)
 have q:f.comp.xt=0:=by simpa using hi1
 refine Wj<|zu2 ?_
 refine Wq<|AV rfl ?_ ?_
 ·rfl
 (unfold aN;rw[if_pos q];rfl)
def nK(f:aa):UW prog 217 [bG f] (fun i=>.ptr i 0) (cFw (aN f)) 106 :=
 yg 1 (by simp) (by simp) (.inr fun _=>rfl) rfl (Ve f)
def fY(f:aa)(on:Bool)(fuel:Int):FW :=
 if on=false then aN f else if fuel<0\/1048576<fuel then okF (aN f) (-24)else if 64<=f.vm.hand.length then okF (aN f) (-8)else aN f
def vj(f:aa)(w:FW)(name:Str)(on:Bool)(fuel:Int):FW :=
 {dT (eM w name 2 [256]).1 (-1)with f:={(dT (eM w name 2 [256]).1 (-1)).f with comp:=⟨(eM w name 2 [256]).2,[],f.vm.here,f.vm.dict.length,f.vm.last,on,fuel⟩}}
def ik(f:aa)(name:Str)(on:Bool)(fuel:Int):aa×Int :=
 if (fY f on fuel).bad≠0 then(f,(fY f on fuel).bad)else gK (vj f (fY f on fuel) name on (if on=true then fuel else 0)) f
@[simp] theorem ad1 (r : aa × Int) : aR (i4 r) := by unfold i4; simp
def zFc:List PV:=[i64 0,i64 0,i64 0,i64 0,i64 0,.seq 0 [] .clip,.seq 0 [] .clip,i64 0,.seq 0 [] .clip,.seq 0 [] .clip,.seq 0 [] .clip,.seq 0 [] .clip,i64 0,.seq 0 [] .clip,.seq 0 [] .clip,boo false,.seq 0 [] .clip,i64 0,i64 0,i64 0,i64 0,i64 0,.seq 0 [] .clip,i64 0,.seq 0 [] .clip,i64 0,i64 0,i64 0,boo false,i64 0]
def zo{f:aa}{on:Bool}{fuel:Int}(h:(fY f on fuel).bad=0):f.comp.xt=0/\fY f on fuel=aN f/\(on=true->¬(fuel<0\/1048576<fuel)/\¬64<=f.vm.hand.length):=by
 unfold fY at h ⊢
 have hx:(aN f).bad=0->f.comp.xt=0:=fun q=>by unfold aN at q;split at q;assumption;cases q
 have hb:∀e:Int,e≠0->(okF (aN f) e).bad≠0:=fun e he q=>by unfold okF at q;split at q;exact he q;rename_i z;exact z q
 by_cases c1:on=false
 ·rw[if_pos c1]at h ⊢;exact⟨hx h,rfl,fun k=>by rw[c1]at k;cases k⟩
 rw[if_neg c1]at h ⊢
 by_cases c2:fuel<0\/1048576<fuel
 ·rw[if_pos c2]at h;exact absurd h (hb _ (by decide))
 rw[if_neg c2]at h ⊢
 by_cases c3:64<=f.vm.hand.length
 ·rw[if_pos c3]at h;exact absurd h (hb _ (by decide))
 rw[if_neg c3]at h ⊢;exact⟨hx h,rfl,fun _=>⟨c2,c3⟩⟩
def So(f:aa)(name:Str)(on:Bool)(fuel:Int)(hB:(fY f on fuel).bad≠0):ab prog 210 [bG f,str name,boo on,i64 fuel] (i4 (f,(fY f on fuel).bad)):=by
 refine zH func210 fun B=>?_
 refine zc rfl func217 (nK f _) ?_
 refine zA 13 rfl ((show _=PV.ptr 2 0 from rfl)) ?_
 refine Wi rfl ?_ ?_<;>intro hi1
 ·have eC:fY f on fuel=aN f:=by unfold fY;rw[if_pos (by simpa using hi1)]
  refine zd ?_
  refine Wt rfl (by rw[eC]at hB;(simpa using hB)) ?_
  refine zd ?_
  refine zC rfl func212 ((dQ _ f) _ _ rfl) ?_
  rw[eC]at hB ⊢;unfold gK;rw[if_pos hB];rfl
 have q1:¬on=false:=by simpa using hi1
 refine zp3 ?_
 refine Wb 20 rfl ?_ ?_<;>intro hg1
 ·have q2:fuel<0\/1048576<fuel:=.inl (oT hg1)
  have eC:fY f on fuel=okF (aN f) (-24):=by unfold fY;rw[if_neg q1,if_pos q2]
  refine zd ?_
  refine Wt rfl rfl ?_
  refine zd ?_
  refine zC rfl func93 (lQ (aN f) (-24) _ 2 rfl) ?_
  refine Wt rfl (by rw[eC]at hB;(simpa using hB)) ?_
  refine zd ?_
  refine zC rfl func212 ((dQ _ f) _ _ rfl) ?_
  rw[eC]at hB ⊢;unfold gK;rw[if_pos hB];rfl
 refine zd ?_
 refine Wi rfl ?_ ?_<;>intro hi3
 ·have q2:fuel<0\/1048576<fuel:=by(try simp only[dnL]at *);omega
  have eC:fY f on fuel=okF (aN f) (-24):=by unfold fY;rw[if_neg q1,if_pos q2]
  refine zd ?_
  refine zC rfl func93 (lQ (aN f) (-24) _ 2 rfl) ?_
  refine Wt rfl (by rw[eC]at hB;(simpa using hB)) ?_
  refine zd ?_
  refine zC rfl func212 ((dQ _ f) _ _ rfl) ?_
  rw[eC]at hB ⊢;unfold gK;rw[if_pos hB];rfl
 have q2:¬(fuel<0\/1048576<fuel):=by(try simp only[dnL]at *);omega
 refine zd ?_
 refine Wi rfl ?_ ?_<;>intro hi4
 ·have q3:64<=f.vm.hand.length:=by have:=oT hi4;omega
  have eC:fY f on fuel=okF (aN f) (-8):=by unfold fY;rw[if_neg q1,if_neg q2,if_pos q3]
  refine zd ?_
  refine zC rfl func93 (lQ (aN f) (-8) _ 2 rfl) ?_
  refine Wt rfl (by rw[eC]at hB;(simpa using hB)) ?_
  refine zd ?_
  refine zC rfl func212 ((dQ _ f) _ _ rfl) ?_
  rw[eC]at hB ⊢;unfold gK;rw[if_pos hB];rfl
 have q3:¬64<=f.vm.hand.length:=by have:=oF hi4;omega
 have eC:fY f on fuel=aN f:=by unfold fY;rw[if_neg q1,if_neg q2,if_neg q3]
 refine zd ?_
 refine Wt rfl (by rw[eC]at hB;(simpa using hB)) ?_
 refine zd ?_
 refine zC rfl func212 ((dQ _ f) _ _ rfl) ?_
 rw[eC]at hB ⊢;unfold gK;rw[if_pos hB];rfl
def OY(f:aa)(name:Str)(on:Bool)(fuel:Int)(hn:name.length<=1000000)(h:FK 3 f)(hB:(fY f on fuel).bad=0):ab prog 210 [bG f,str name,boo on,i64 fuel] (i4 (gK (vj f (aN f) name on (if on=true then fuel else 0)) f)):=by
 obtain⟨hx,hc,ho⟩:=zo hB
 have kW:FK 3 (aN f).f:=h
 have kS:FK 1 (eM (aN f) name 2 [256]).1.f:=ZP (k:=1) kW (by decide) (by decide)
 have hb:(aN f).bad=0:=by unfold aN;rw[if_pos hx]
 refine zH func210 fun B=>?_
 refine zc rfl func217 (nK f _) ?_
 refine zA 13 rfl ((show _=PV.ptr 2 0 from rfl)) ?_
 refine Wi rfl ?_ ?_<;>intro hi1
 ·have q1:on=false:=by simpa using hi1
  have eF:(if on=true then fuel else 0)=0:=by rw[q1];rfl
  refine zd ?_
  refine Wf rfl (by rw[hb];rfl) ?_
  refine Wj<|zp3 ?_
  refine Wa 51 rfl ((show _=PV.seq (List.length [(256:Int)]) (List.flatMap ao [(256:Int)]) .clip from rfl)) ?_
  refine zC rfl func235 ((EQ (aN f) name 2 [256] hn (by decide) (by decide) (by decide) (kW.down (by decide))) _ _ rfl) ?_
  refine zc rfl func52 ((vo _ (-1) (kS.down (by decide))) _ _ rfl) ?_
  refine Wn<|zp5 ?_
  refine zy5 ?_
  refine zy5 ?_
  refine zs4 ?_
  refine zp1 ?_
  refine uW 2 rfl rfl (ys:=cFw (vj f (aN f) name on (if on=true then fuel else 0))) (by unfold vj;rw[eF];rfl) rfl ?_
  refine z1 ?_
  refine zC rfl func212 ((dQ (vj f (aN f) name on (if on=true then fuel else 0)) f) _ _ rfl) ?_
  rfl
 have q1:on=true:=by simpa using hi1
 have eF:(if on=true then fuel else 0)=fuel:=by rw[if_pos q1]
 have ho1:=ho q1
 refine zp3 ?_
 refine pJ 20 rfl (by exact decide_eq_false (fun q=>ho1.1 (.inl q))) ?_
 refine zd ?_
 refine Wf rfl (by exact decide_eq_false (fun q=>ho1.1 (.inr q))) ?_
 refine zd ?_
 refine Wf rfl (by exact decide_eq_false (fun q=>ho1.2 (by omega))) ?_
 refine zd ?_
 refine Wf rfl (by rw[hb];rfl) ?_
 refine Wj<|zp3 ?_
 refine Wa 51 rfl ((show _=PV.seq (List.length [(256:Int)]) (List.flatMap ao [(256:Int)]) .clip from rfl)) ?_
 refine zC rfl func235 ((EQ (aN f) name 2 [256] hn (by decide) (by decide) (by decide) (kW.down (by decide))) _ _ rfl) ?_
 refine zc rfl func52 ((vo _ (-1) (kS.down (by decide))) _ _ rfl) ?_
 refine Wn<|zp5 ?_
 refine zy5 ?_
 refine zy5 ?_
 refine zs4 ?_
 refine zp1 ?_
 refine uW 2 rfl rfl (ys:=cFw (vj f (aN f) name on (if on=true then fuel else 0))) (by unfold vj;rw[eF];rfl) rfl ?_
 refine z1 ?_
 refine zC rfl func212 ((dQ (vj f (aN f) name on (if on=true then fuel else 0)) f) _ _ rfl) ?_
 rfl
def Ki(f:aa)(name:Str)(on:Bool)(fuel:Int)(hn:name.length<=1000000)(h:FK 3 f):ab prog 210 [bG f,str name,boo on,i64 fuel] (i4 (ik f name on fuel)):=by
 by_cases hB:(fY f on fuel).bad=0
 ·have:=OY f name on fuel hn h hB
  unfold ik
  rw[if_neg (fun q=>q hB),(zo hB).2.1];exact this
 have:=So f name on fuel hB
 unfold ik
 rw[if_pos hB];exact this
end Go.Proofs.YtjcminooghmpeaaGreatDoor
