import Derived.Test.YtjcminooghmpeaaGreatDoorPk9
set_option linter.all false
set_option maxRecDepth 100000
set_option maxHeartbeats 40000000
open Go.Proofs.Tryz
namespace Go.Proofs.YtjcminooghmpeaaGreatDoor
open Go.RowKit
structure ai where
 f:af
 s:Str
 at_:Int
 fuel:Int
 err:Int
def al6(e:Int):Value:=if e=0 then .nilIface else .iface 141 (.agg #[.int .i64 e])
def Bp(e:Int):PV:=.val (al6 e)
theorem az2:Bp 0=.val .nilIface:=rfl
theorem RR{e:Int}(h:e≠0):Bp e=.val (.iface 141 (.agg #[.int .i64 e])):=by unfold Bp al6;rw[if_neg h]
@[simp] theorem aj8 (e : Int) : aS (Bp e) := by unfold Bp; simp
theorem dP(e:Int):wL (Bp e)=some (decide (e=0)):=by
 by_cases h:e=0
 ·rw[h];rfl
 rw[RR h,decide_eq_false h];rfl
theorem VB(e:Int):Imp (.ifc 141 (.agg [i64 e])) (.val (.iface 141 (.agg #[.int .i64 e]))):=fun c v h=>by rw[yE h];exact ar _ _
def aQ(l:ai):List PV:=jB l.f++[str l.s,i64 l.at_,i64 l.fuel,Bp l.err]
@[simp] theorem ag5 (l : ai) : ay (aQ l) := by simp [aQ, jB, cVm, C9]
theorem y9(e:Int):ab prog 79 [i64 e] (Bp e):=by
 refine zY func79 fun B=>?_
 refine zu1 ?_
 refine Ws<|zu2 ?_
 refine Wi rfl (fun hi1=>?_) (fun hi1=>?_)
 ·have q:e=0:=by simpa using hi1
  refine zu1 ?_
  refine zR ?_
  (rw[q];rfl)
 have q:¬e=0:=by simpa using hi1
 refine Wj<|zp2 ?_
 refine Wd rfl rfl (pR rfl (by kernel_rfl) rfl) ?_
 refine Wm 7 rfl (VB e) ?_
 refine zs1 ?_
 refine zR ?_
 (rw[RR q];done)
def oOk(l:ai)(e:Int):ai:=if l.err=0 then {l with err:=e} else l
theorem ok0{l:ai}{e:Int}(h:l.err=0):oOk l e={l with err:=e}:=by unfold oOk;rw[if_pos h]
theorem ok1{l:ai}{e:Int}(h:¬l.err=0):oOk l e=l:=by unfold oOk;rw[if_neg h]
theorem oO(l:ai)(e:Int):∀(H:List Ob) (i:Nat),H[i]?=some (.cells (aQ l) 89)->HC prog 41 (.ptr i 0::[i64 e]) H (boo (decide ((oOk l e).err=0))) (H.set i (.cells (aQ (oOk l e)) 89)):=by
 by_cases he:e=0
 ·have he':=he
  refine zM func41 fun B=>?_
  refine zu1 ?_
  refine Ws<|zp4 ?_
  refine Wd rfl rfl (aV rfl (by kernel_rfl) rfl (by exact dP _)) ?_
  refine Wn<|Wi rfl (fun hi1=>?_) (fun hi1=>?_)
  ·have q:l.err=0:=oT hi1
   refine aa rfl ?_
   refine zy2 ?_
   refine zc rfl func79 ((y9 e) _) ?_
   refine Wa 12 rfl ((show Bp e=PV.val .nilIface from by rw[he];rfl)) ?_
   refine zs3 ?_
   refine zp4 ?_
   refine Wd rfl rfl (aV rfl (by kernel_rfl) rfl (by rfl)) ?_
   refine zs1 ?_
   refine Wq<|aN rfl rfl ?_ ?_
   ·(rw[ok0 q];exact congrArg boo (decide_eq_true he).symm)
   (rw[ok0 q,he];rfl)
  have q:¬l.err=0:=oF hi1
  refine Wj<|zp4 ?_
  refine Wd rfl rfl (aV rfl (by kernel_rfl) rfl (by exact dP _)) ?_
  refine zs1 ?_
  refine Wq<|aN rfl rfl ?_ ?_
  ·(rw[ok1 q];rfl)
  (rw[ok1 q];rfl)
 have he':=he
 refine zM func41 fun B=>?_
 refine zu1 ?_
 refine Ws<|zp4 ?_
 refine Wd rfl rfl (aV rfl (by kernel_rfl) rfl (by exact dP _)) ?_
 refine Wn<|Wi rfl (fun hi1=>?_) (fun hi1=>?_)
 ·have q:l.err=0:=oT hi1
  refine aa rfl ?_
  refine zy2 ?_
  refine zc rfl func79 ((y9 e) _) ?_
  refine Wa 12 rfl ((RR he)) ?_
  refine zs3 ?_
  refine zp4 ?_
  refine Wd rfl rfl (aV rfl (by kernel_rfl) rfl (by rfl)) ?_
  refine zs1 ?_
  refine Wq<|aN rfl rfl ?_ ?_
  ·(rw[ok0 q];exact congrArg boo (decide_eq_false he).symm)
  (rw[ok0 q];unfold aQ;rw[RR he];rfl)
 have q:¬l.err=0:=oF hi1
 refine Wj<|zp4 ?_
 refine Wd rfl rfl (aV rfl (by kernel_rfl) rfl (by exact dP _)) ?_
 refine zs1 ?_
 refine Wq<|aN rfl rfl ?_ ?_
 ·(rw[ok1 q];rfl)
 (rw[ok1 q];rfl)
def kQ(l:ai)(r:af×Int):ai:=if (oOk l r.2).err=0 then {oOk l r.2 with f:=r.1} else oOk l r.2
theorem wo(l:ai)(r:af×Int):∀(H:List Ob) (i:Nat),H[i]?=some (.cells (aQ l) 89)->HC prog 177 (.ptr i 0::[bQ r.1,i64 r.2]) H (.tup []) (H.set i (.cells (aQ (kQ l r)) 89)):=by
 refine zM func177 fun B=>?_
 refine zu1 ?_
 refine zp2 ?_
 refine zc rfl func41 ((oO l r.2) _ _ rfl) ?_
 refine Wn<|Wi rfl (fun hi1=>?_) (fun hi1=>?_)
 ·have q:(oOk l r.2).err=0:=oT hi1
  refine aa rfl ?_
  refine zs5 ?_
  refine aU rfl rfl ?_ ?_
  ·rfl
  (rw[kQ,if_pos q];rfl)
 have q:¬(oOk l r.2).err=0:=oF hi1
 refine Wj<|aU rfl rfl ?_ ?_
 ·rfl
 (rw[kQ,if_neg q];rfl)
def ga(l:ai)(r:VVm×Int):ai:=if (oOk l r.2).err=0 then {oOk l r.2 with f:={(oOk l r.2).f with vm:=r.1}} else oOk l r.2
theorem oE(l:ai)(r:VVm×Int):∀(H:List Ob) (i:Nat),H[i]?=some (.cells (aQ l) 89)->HC prog 80 (.ptr i 0::[eVm r.1,i64 r.2]) H (.tup []) (H.set i (.cells (aQ (ga l r)) 89)):=by
 refine zM func80 fun B=>?_
 refine zu1 ?_
 refine zp2 ?_
 refine zc rfl func41 ((oO l r.2) _ _ rfl) ?_
 refine Wn<|Wi rfl (fun hi1=>?_) (fun hi1=>?_)
 ·have q:(oOk l r.2).err=0:=oT hi1
  refine aa rfl ?_
  refine zy5 ?_
  refine zs1 ?_
  refine aU rfl rfl ?_ ?_
  ·rfl
  (rw[ga,if_pos q];rfl)
 have q:¬(oOk l r.2).err=0:=oF hi1
 refine Wj<|aU rfl rfl ?_ ?_
 ·rfl
 (rw[ga,if_neg q];rfl)
def bU(l:ai):ai×Str:=if (bC l.s l.at_).1=[]then(oOk l (-16),[])else({l with at_:=(bC l.s l.at_).2},(bC l.s l.at_).1)
theorem tf(l:ai)(hs:l.s.length<=1000000):∀(H:List Ob) (i:Nat),H[i]?=some (.cells (aQ l) 89)->HC prog 194 (.ptr i 0::[]) H (str (bU l).2) (H.set i (.cells (aQ (bU l).1) 89)):=by
 obtain⟨w,hw⟩:∃w,bC l.s l.at_=w:=⟨_,rfl⟩
 have pW:=Gy l.s l.at_ hs
 rw[hw]at pW
 have e1:w.1=[]->bU l=(oOk l (-16),[]):=fun q=>by unfold bU;rw[hw,if_pos q]
 have e2:¬w.1=[]->bU l=({l with at_:=w.2},w.1):=fun q=>by unfold bU;rw[hw,if_neg q]
 refine zM func194 fun B=>?_
 refine zu1 ?_
 refine Ws<|az [0,0,0,1,0,0,0,1,0,0,0,0,0,0] [0,1,2,3,4,5,6,7,8,9,10,11,12,13] mG rfl (by kernel_rfl) ?_
 iterate 3 refine z3 ?_
 refine z5 ?_
 iterate 3 refine z3 ?_
 refine z5 ?_
 refine Xc rfl rfl rfl rfl (fun _=>dC rfl func36 rfl rfl ((pW) _)) ?_
 iterate 5 refine z3 ?_
 refine aP ?_
 refine Ws<|zp2 ?_
 refine zq 18 ?_
 refine Wn<|Wi rfl (fun hi1=>?_) (fun hi1=>?_)
 ·have q:w.1=[]:=oT hi1
  refine zp1 ?_
  refine zc rfl func41 ((oO l (-16)) _ _ rfl) ?_
  refine Wn<|zu1 ?_
  refine Wq<|aN rfl rfl ?_ ?_
  ·(rw[e1 q];rfl)
  (rw[e1 q];rfl)
 have q:¬w.1=[]:=oF hi1
 refine Wj<|zu5 ?_
 refine zu2 ?_
 refine Wq<|aN rfl rfl ?_ ?_
 ·(rw[e2 q];rfl)
 (rw[e2 q];rfl)
def iv(l:ai)(c:UInt8):ai×Str:=if (ld l.s l.at_ c).2.2=true then({l with at_:=(ld l.s l.at_ c).2.1},(ld l.s l.at_ c).1)else(oOk l (-39),[])
theorem Eb(l:ai)(c:UInt8)(hs:l.s.length<=1000000):∀(H:List Ob) (i:Nat),H[i]?=some (.cells (aQ l) 89)->HC prog 188 (.ptr i 0::[.val (.int .u8 (c.toNat:Int))]) H (str (iv l c).2) (H.set i (.cells (aQ (iv l c).1) 89)):=by
 obtain⟨w,hw⟩:∃w,ld l.s l.at_ c=w:=⟨_,rfl⟩
 have pW:=Q8 l.s l.at_ c hs
 rw[hw]at pW
 have e1:w.2.2=true->iv l c=({l with at_:=w.2.1},w.1):=fun q=>by unfold iv;rw[hw,if_pos q]
 have e2:w.2.2=false->iv l c=(oOk l (-39),[]):=fun q=>by unfold iv;rw[hw,if_neg (by rw[q];decide)]
 refine zM func188 fun B=>?_
 refine zu1 ?_
 refine Ws<|az [0,0,0,1,0,0,0,1,0,0,0,0,0,0,0,0,0] [0,1,2,3,4,5,6,7,8,9,10,11,12,13,14,15,16] mG rfl (by kernel_rfl) ?_
 iterate 3 refine z3 ?_
 refine z5 ?_
 iterate 3 refine z3 ?_
 refine z5 ?_
 refine z3 ?_
 refine Xc rfl rfl rfl rfl (fun _=>dC rfl func219 rfl rfl ((pW) _)) ?_
 iterate 7 refine z3 ?_
 refine aP ?_
 refine Ws<|zu2 ?_
 refine Wi rfl (fun hi1=>?_) (fun hi1=>?_)
 ·have q:w.2.2=false:=by simpa using hi1
  refine zp1 ?_
  refine zc rfl func41 ((oO l (-39)) _ _ rfl) ?_
  refine Wn<|zu1 ?_
  refine Wq<|aN rfl rfl ?_ ?_
  ·(rw[e2 q];rfl)
  (rw[e2 q];rfl)
 have q:w.2.2=true:=by simpa using hi1
 refine Wj<|zu5 ?_
 refine zu2 ?_
 refine Wq<|aN rfl rfl ?_ ?_
 ·(rw[e1 q];rfl)
 (rw[e1 q];rfl)
def mv(l:ai):ai×Int:=(ga l ((dV l.f.vm).2.1,(dV l.f.vm).2.2),(dV l.f.vm).1)
theorem IB(l:ai)(hd:l.f.vm.d.length<=100000):∀(H:List Ob) (i:Nat),H[i]?=some (.cells (aQ l) 89)->HC prog 176 (.ptr i 0::[]) H (i64 (mv l).2) (H.set i (.cells (aQ (mv l).1) 89)):=by
 refine zM func176 fun B=>?_
 refine zu1 ?_
 refine zp5 ?_
 refine zc rfl func211 ((Q6 l.f.vm hd) _) ?_
 refine zy5 ?_
 refine zs3 ?_
 refine zp3 ?_
 refine zc rfl func80 ((oE l ((dV l.f.vm).2.1,(dV l.f.vm).2.2)) _ _ rfl) ?_
 refine Wn<|zu2 ?_
 refine Wq<|aN rfl rfl ?_ ?_
 ·rfl
 rfl
def oDo(l:ai)(r:VVm×Int):ai:=if l.err=0 then ga l r else l
theorem do0{l:ai}{r:VVm×Int}(h:l.err=0):oDo l r=ga l r:=by unfold oDo;rw[if_pos h]
theorem do1{l:ai}{r:VVm×Int}(h:¬l.err=0):oDo l r=l:=by unfold oDo;rw[if_neg h]
def vC(l:ai)(n:Int):ai:=oDo l (gJ l.f.vm n)
theorem DO(l:ai)(n:Int)(hd:l.f.vm.d.length<=100000)(hc:ae l.f.vm.conf.data):∀(H:List Ob) (i:Nat),H[i]?=some (.cells (aQ l) 89)->HC prog 43 (.ptr i 0::[i64 n]) H (.tup []) (H.set i (.cells (aQ (vC l n)) 89)):=by
 refine zM func43 fun B=>?_
 refine zp4 ?_
 refine Wd rfl rfl (aV rfl (by kernel_rfl) rfl (by exact dP _)) ?_
 refine Wn<|Wi rfl (fun hi1=>?_) (fun hi1=>?_)
 ·have q:l.err=0:=oT hi1
  refine aa rfl ?_
  refine zy5 ?_
  refine zy2 ?_
  refine zc rfl func82 ((Lk l.f.vm n hd hc) _) ?_
  refine zy2 ?_
  refine zc rfl func80 ((oE l (gJ l.f.vm n)) _ _ rfl) ?_
  refine Wn<|aU rfl rfl ?_ ?_
  ·rfl
  unfold vC;((rw[do0 q];rfl))
 have q:¬l.err=0:=oF hi1
 refine Wj<|aU rfl rfl ?_ ?_
 ·rfl
 unfold vC;((rw[do1 q];rfl))
def wN(l:ai)(n:Int):ai:=oDo l (qX l.f.vm n)
theorem sF(l:ai)(n:Int)(hm:cZ l.f.vm.mem)(hh:ia l.f.vm.mem l.f.vm.here):∀(H:List Ob) (i:Nat),H[i]?=some (.cells (aQ l) 89)->HC prog 69 (.ptr i 0::[i64 n]) H (.tup []) (H.set i (.cells (aQ (wN l n)) 89)):=by
 refine zM func69 fun B=>?_
 refine zp4 ?_
 refine Wd rfl rfl (aV rfl (by kernel_rfl) rfl (by exact dP _)) ?_
 refine Wn<|Wi rfl (fun hi1=>?_) (fun hi1=>?_)
 ·have q:l.err=0:=oT hi1
  refine aa rfl ?_
  refine zy5 ?_
  refine zy2 ?_
  refine zc rfl func99 ((wI l.f.vm n hm hh) _) ?_
  refine zy2 ?_
  refine zc rfl func80 ((oE l (qX l.f.vm n)) _ _ rfl) ?_
  refine Wn<|aU rfl rfl ?_ ?_
  ·rfl
  unfold wN;((rw[do0 q];rfl))
 have q:¬l.err=0:=oF hi1
 refine Wj<|aU rfl rfl ?_ ?_
 ·rfl
 unfold wN;((rw[do1 q];rfl))
def tQ(l:ai)(n:Int):ai:=oDo l (GK l.f.vm n)
theorem uM(l:ai)(n:Int)(h:CK 2 (kN l.f.vm)):∀(H:List Ob) (i:Nat),H[i]?=some (.cells (aQ l) 89)->HC prog 42 (.ptr i 0::[i64 n]) H (.tup []) (H.set i (.cells (aQ (tQ l n)) 89)):=by
 refine zM func42 fun B=>?_
 refine zp4 ?_
 refine Wd rfl rfl (aV rfl (by kernel_rfl) rfl (by exact dP _)) ?_
 refine Wn<|Wi rfl (fun hi1=>?_) (fun hi1=>?_)
 ·have q:l.err=0:=oT hi1
  refine aa rfl ?_
  refine zy5 ?_
  refine zy2 ?_
  refine zc rfl func81 ((NJ l.f.vm n h) _) ?_
  refine zy2 ?_
  refine zc rfl func80 ((oE l (GK l.f.vm n)) _ _ rfl) ?_
  refine Wn<|aU rfl rfl ?_ ?_
  ·rfl
  unfold tQ;((rw[do0 q];rfl))
 have q:¬l.err=0:=oF hi1
 refine Wj<|aU rfl rfl ?_ ?_
 ·rfl
 unfold tQ;((rw[do1 q];rfl))
def xK(l:ai)(name:Str):ai:=wN l (rC name)
theorem tI(l:ai)(name:Str)(hm:cZ l.f.vm.mem)(hh:ia l.f.vm.mem l.f.vm.here):∀(H:List Ob) (i:Nat),H[i]?=some (.cells (aQ l) 89)->HC prog 187 (.ptr i 0::[str name]) H (.tup []) (H.set i (.cells (aQ (xK l name)) 89)):=by
 have hn:=lm
 have hx:=yW ao name ao.length 0 (by rw[hn];omega)
 have w1:IntKind.i64.wrap (32+IntKind.i64.wrap (8*tO ao name ao.length 0))=rC name:=by unfold rC;rw[gE (n:=8*_) (by omega) (by omega),gE (by omega) (by omega)]
 refine zM func187 fun B=>?_
 refine aa rfl ?_
 refine z1 ?_
 refine zc rfl func98 ((nU) _) ?_
 refine z1 ?_
 refine zc rfl func113 ((tD ao name (by rw[hn];omega)) _) ?_
 refine zy2 ?_
 refine Wa 9 rfl (congrArg (fun z=>PV.val (Value.int .i64 z)) w1) ?_
 refine zc rfl func69 ((sF l (rC name) hm hh) _ _ rfl) ?_
 refine Wn<|aU rfl rfl ?_ ?_
 ·rfl
 rfl
def ct(f:af):Bool:=decide (f.comp.xt≠0/\(am f.vm.mem 8).1≠0)
theorem jR(f:af)(hm:f.vm.mem.b.length<=140737488355328):ab prog 23 [bQ f] (boo (ct f)):=by
 refine zY func23 fun B=>?_
 refine zu2 ?_
 refine zp3 ?_
 refine zc rfl func39 ((gi f.vm.mem 8 hm (by unfold ae;omega)) _) ?_
 refine zs5 ?_
 refine zp5 ?_
 refine Wb 16 rfl (fun hg1=>?_) (fun hg1=>?_)
 ·have q1:f.comp.xt≠0:=by simpa using hg1
  refine zs4 ?_
  refine zR ?_
  (refine congrArg boo ?_;unfold ct;simp[q1];rfl)
 have q1:¬f.comp.xt≠0:=by simpa using hg1
 iterate 2 refine z6 ?_
 refine zs2 ?_
 refine zR ?_
 (refine congrArg boo ?_;unfold ct;rw[decide_eq_false (fun z=>q1 z.1)];done)
def DX(l:List aR):Prop:=∀x∈l,ae x.xt
structure LK (k:Nat) (l:ai):Prop where
 f:FK k l.f
 s:l.s.length<=1000000
 d:l.f.vm.d.length<=100000
 data:ae l.f.vm.conf.data
 out0:0<=l.f.vm.conf.out
 out1:l.f.vm.conf.out<=1000000
 out:l.f.vm.out.length<=1000000
 cfl:l.f.comp.cf.length<=32
 cf:∀c∈l.f.comp.cf,wW c
 dict:l.f.comp.xt≠0->0<=l.f.comp.dict/\l.f.comp.dict<l.f.vm.dict.length
 xts:DX l.f.vm.dict
theorem FK.ck{k:Nat}{f:af}(h:FK k f):CK k (kN f.vm):=⟨h.b,h.old,h.h0,h.h1,Nat.zero_le _,fun c hc=>by cases hc⟩
theorem LK.ck{k:Nat}{l:ai}(h:LK k l):CK k ⟨l.f.vm,l.f.comp.cf,0⟩:=⟨h.f.b,h.f.old,h.f.h0,h.f.h1,h.cfl,h.cf⟩
theorem LK.end_{l:ai}(h:LK 2 l):Yf l.f:=⟨h.f,fun q=>h.dict (fun z=>by unfold mX at q;rw[if_pos z]at q;cases q)⟩
theorem LK.down{k j:Nat}{l:ai}(h:LK k l)(hj:j<=k):LK j l:=⟨h.f.down hj,h.s,h.d,h.data,h.out0,h.out1,h.out,h.cfl,h.cf,h.dict,h.xts⟩
theorem uV(l:ai)(e:Int):(oOk l e).f=l.f/\(oOk l e).s=l.s:=by unfold oOk;split<;>exact⟨rfl,rfl⟩
theorem Jf(l:ai)(r:af×Int):(kQ l r).f=r.1\/(kQ l r).f=l.f:=by
 unfold kQ;split
 ·exact .inl rfl
 exact .inr (uV l _).1
theorem lH(l:ai):(bU l).1.f=l.f/\(bU l).1.s=l.s:=by unfold bU;split;exact uV l _;exact⟨rfl,rfl⟩
theorem Ht(s:Str)(a:Int):(bC s a).1.length<=s.length:=by unfold bC;dsimp only;simp;omega
theorem wj(l:ai):(bU l).2.length<=l.s.length:=by unfold bU;split;exact Nat.zero_le _;exact Ht _ _
theorem Ja(l:ai)(c:UInt8):(iv l c).1.f=l.f/\(iv l c).1.s=l.s:=by unfold iv;split;exact⟨rfl,rfl⟩;exact uV l _
theorem Ha(l:ai)(c:UInt8):(iv l c).2.length<=l.s.length:=by
 unfold iv
 split
 ·show(ld l.s l.at_ c).1.length<=_
  unfold ld
  dsimp only
  split<;>simp<;>omega
 exact Nat.zero_le _
def uW(l:ai)(on:Bool)(fuel:Int):ai:=if (bU l).1.err=0 then kQ (bU l).1 (gY (bU l).1.f (bU l).2 on fuel)else(bU l).1
theorem GZ(l:ai)(on:Bool)(fuel:Int)(h:LK 3 l):∀(H:List Ob) (i:Nat),H[i]?=some (.cells (aQ l) 89)->HC prog 175 (.ptr i 0::[boo on,i64 fuel]) H (.tup []) (H.set i (.cells (aQ (uW l on fuel)) 89)):=by
 have e1:=lH l
 have e2:=wj l
 have pN:=tf l h.s
 unfold uW
 obtain⟨a,ha⟩:∃a,bU l=a:=⟨_,rfl⟩
 rw[ha]at e1 e2 pN ⊢
 have hs:=h.s
 have hF:=h.f
 rw[<-e1.1]at hF
 refine zM func175 fun B=>?_
 refine zp1 ?_
 refine zc rfl func194 ((pN) _ _ rfl) ?_
 refine zs1 ?_
 refine zp4 ?_
 refine Wd rfl rfl (aV rfl (by kernel_rfl) rfl (by exact dP _)) ?_
 refine Wn<|Wi rfl (fun hi1=>?_) (fun hi1=>?_)
 ·have q:a.1.err=0:=oT hi1
  refine aa rfl ?_
  refine zy5 ?_
  refine zy3 ?_
  refine zc rfl func210 ((IX a.1.f a.2 on fuel (by omega) hF) _) ?_
  refine zy2 ?_
  refine zc rfl func177 ((wo a.1 (gY a.1.f a.2 on fuel)) _ _ rfl) ?_
  refine Wn<|aU rfl rfl ?_ ?_
  ·rfl
  (rw[if_pos q];rfl)
 have q:¬a.1.err=0:=oF hi1
 refine Wj<|aU rfl rfl ?_ ?_
 ·rfl
 (rw[if_neg q];rfl)
def E8(l:ai):ai:=uW l false 0
theorem SH(l:ai)(h:LK 3 l):∀(H:List Ob) (i:Nat),H[i]?=some (.cells (aQ l) 89)->HC prog 128 (.ptr i 0::[]) H (.tup []) (H.set i (.cells (aQ (E8 l)) 89)):=by
 refine zM func128 fun B=>?_
 refine aa rfl ?_
 refine z1 ?_
 refine zc rfl func175 ((GZ l false 0 h) _ _ rfl) ?_
 refine Wn<|aU rfl rfl ?_ ?_
 ·rfl
 rfl
def FD(l:ai):ai:=kQ l (mY l.f)
theorem Un(l:ai)(h:LK 2 l):∀(H:List Ob) (i:Nat),H[i]?=some (.cells (aQ l) 89)->HC prog 130 (.ptr i 0::[]) H (.tup []) (H.set i (.cells (aQ (FD l)) 89)):=by
 refine zM func130 fun B=>?_
 refine aa rfl ?_
 refine zy5 ?_
 refine zc rfl func178 ((RM l.f h.end_) _) ?_
 refine zy2 ?_
 refine zc rfl func177 ((wo l (mY l.f)) _ _ rfl) ?_
 refine Wn<|aU rfl rfl ?_ ?_
 ·rfl
 rfl
def LE(l:ai):ai:=xK l [40,100,111,101,115,41]
theorem Wz(l:ai)(h:LK 1 l):∀(H:List Ob) (i:Nat),H[i]?=some (.cells (aQ l) 89)->HC prog 144 (.ptr i 0::[]) H (.tup []) (H.set i (.cells (aQ (LE l)) 89)):=by
 refine zM func144 fun B=>?_
 refine aa rfl ?_
 refine z1 ?_
 refine zc rfl func187 ((tI l [40,100,111,101,115,41] h.f.mem h.f.here) _ _ rfl) ?_
 refine Wn<|aU rfl rfl ?_ ?_
 ·rfl
 rfl
def XZ(l:ai):ai:=xK l [40,101,120,105,116,41]
theorem Wg(l:ai)(h:LK 1 l):∀(H:List Ob) (i:Nat),H[i]?=some (.cells (aQ l) 89)->HC prog 143 (.ptr i 0::[]) H (.tup []) (H.set i (.cells (aQ (XZ l)) 89)):=by
 refine zM func143 fun B=>?_
 refine aa rfl ?_
 refine z1 ?_
 refine zc rfl func187 ((tI l [40,101,120,105,116,41] h.f.mem h.f.here) _ _ rfl) ?_
 refine Wn<|aU rfl rfl ?_ ?_
 ·rfl
 rfl
def an6(l:ai):ai:=wN l l.f.comp.xt
theorem Jv(l:ai)(h:LK 1 l):∀(H:List Ob) (i:Nat),H[i]?=some (.cells (aQ l) 89)->HC prog 142 (.ptr i 0::[]) H (.tup []) (H.set i (.cells (aQ (an6 l)) 89)):=by
 refine zM func142 fun B=>?_
 refine aa rfl ?_
 refine zy5 ?_
 refine zy2 ?_
 refine zc rfl func69 ((sF l l.f.comp.xt h.f.mem h.f.here) _ _ rfl) ?_
 refine Wn<|aU rfl rfl ?_ ?_
 ·rfl
 rfl
def GU(l:ai):ai:=(iv l 41).1
theorem Iq(l:ai)(hs:l.s.length<=1000000):∀(H:List Ob) (i:Nat),H[i]?=some (.cells (aQ l) 89)->HC prog 147 (.ptr i 0::[]) H (.tup []) (H.set i (.cells (aQ (GU l)) 89)):=by
 refine zM func147 fun B=>?_
 refine aa rfl ?_
 refine z1 ?_
 refine zc rfl func188 ((Eb l 41 hs) _ _ rfl) ?_
 refine Wn<|aU rfl rfl ?_ ?_
 ·rfl
 rfl
def RX(l:ai):ai:={l with at_:=l.s.length}
theorem WW(l:ai):∀(H:List Ob) (i:Nat),H[i]?=some (.cells (aQ l) 89)->HC prog 148 (.ptr i 0::[]) H (.tup []) (H.set i (.cells (aQ (RX l)) 89)):=by
 refine zM func148 fun B=>?_
 refine aa rfl ?_
 refine zy5 ?_
 refine z1 ?_
 refine Wa 7 rfl (gl _) ?_
 refine zs3 ?_
 refine aU rfl rfl ?_ ?_
 ·rfl
 rfl
def vR(l:ai):ai:=oDo (iv l 34).1 (Kl (iv l 34).1.f.vm (iv l 34).2)
theorem LM(l:ai)(h:LK 4 l):∀(H:List Ob) (i:Nat),H[i]?=some (.cells (aQ l) 89)->HC prog 145 (.ptr i 0::[]) H (.tup []) (H.set i (.cells (aQ (vR l)) 89)):=by
 have e1:=Ja l 34
 have e2:=Ha l 34
 have pU:=Eb l 34 h.s
 unfold vR
 obtain⟨a,ha⟩:∃a,iv l 34=a:=⟨_,rfl⟩
 rw[ha]at e1 e2 pU ⊢
 have hs:=h.s
 have hF:=h.f.ck
 rw[<-e1.1]at hF
 refine zM func145 fun B=>?_
 refine zp1 ?_
 refine zc rfl func188 ((pU) _ _ rfl) ?_
 refine zs1 ?_
 refine zp4 ?_
 refine Wd rfl rfl (aV rfl (by kernel_rfl) rfl (by exact dP _)) ?_
 refine Wn<|Wi rfl (fun hi1=>?_) (fun hi1=>?_)
 ·have q:a.1.err=0:=oT hi1
  refine aa rfl ?_
  refine zy5 ?_
  refine zy2 ?_
  refine zc rfl func189 ((Mk a.1.f.vm a.2 (by omega) hF) _) ?_
  refine zy2 ?_
  refine zc rfl func80 ((oE a.1 (Kl a.1.f.vm a.2)) _ _ rfl) ?_
  refine Wn<|aU rfl rfl ?_ ?_
  ·rfl
  (rw[do0 q];rfl)
 have q:¬a.1.err=0:=oF hi1
 refine Wj<|aU rfl rfl ?_ ?_
 ·rfl
 (rw[do1 q];rfl)
theorem Yq{k:Nat}{f:af}(h:FK k f){v:VVm}(hb:v.mem.b.length<=1000000)(ho:v.mem.old.length+k<=1000000)(h0:1368<=v.here)(h1:v.here<=v.mem.b.length)(hd:v.dict=f.vm.dict)(hh:v.hand=f.vm.hand):FK k {f with vm:=v} :=
 ⟨hb,ho,h0,h1,by rw[show({f with vm:=v}:af).vm=v from rfl,hd];exact h.dict,by rw[show({f with vm:=v}:af).vm=v from rfl,hd];exact h.each,by rw[show({f with vm:=v}:af).vm=v from rfl,hh];exact h.hand⟩
theorem Xm{k:Nat}{l:ai}{r:VVm×Int}(h:FK k l.f)(hr:FK k {l.f with vm:=r.1}):FK k (ga l r).f:=by
 unfold ga
 rw[(uV l r.2).1]
 split
 ·exact hr
 rw[(uV l r.2).1];exact h
theorem X6{k:Nat}{l:ai}{r:VVm×Int}(h:FK k l.f)(hr:FK k {l.f with vm:=r.1}):FK k (oDo l r).f:=by
 unfold oDo;split
 ·exact Xm h hr
 exact h
theorem aa1{k:Nat}{x:CW}(h:CK (k+2) x)(s:Str):CK k (wu x s):=by
 unfold wu
 split
 ·unfold C5
  have mk:dH x.v.mem (da x.v.mem x.v.here s).1 1:=gS _
  have mh:=iu (m:=x.v.mem) s h.h0 h.h1
  obtain⟨r,hr⟩:∃r,da x.v.mem x.v.here s=r:=⟨_,rfl⟩
  rw[hr]at mk mh ⊢
  have m2:dH r.1 (aM r.1 r.2.1).1 1:=gS _
  have mh2:1368<=(aM r.1 r.2.1).2.1/\(aM r.1 r.2.1).2.1<=r.1.b.length:=iu _ mh.1 (by rw[mk.len];exact mh.2)
  have l1:=mk.len
  have l2:=mk.old
  have l3:=m2.len
  have l4:=m2.old
  have l5:=h.old
  have l6:=h.b
  split
  ·exact⟨by show(aM r.1 r.2.1).1.b.length<=_;omega,by show(aM r.1 r.2.1).1.old.length+k<=_;omega,mh2.1,by show(aM r.1 r.2.1).2.1<=((aM r.1 r.2.1).1.b.length:Int);omega,h.len,h.cf⟩
  have q:=h.down (j:=k) (by omega);exact⟨q.b,q.old,q.h0,q.h1,q.len,q.cf⟩
 exact h.down (by omega)
theorem nC(w:CW)(n:Int):(iq w n).v.dict=w.v.dict/\(iq w n).v.hand=w.v.hand:=by unfold iq;split<;>exact⟨rfl,rfl⟩
theorem PX(x:CW)(s:Str):(wu x s).v.dict=x.v.dict/\(wu x s).v.hand=x.v.hand:=by
 unfold wu C5
 split
 ·split<;>exact⟨rfl,rfl⟩
 exact⟨rfl,rfl⟩
theorem Mc{k:Nat}{f:af}(h:FK k f){w:CW}(hw:CK k w)(hd:w.v.dict=f.vm.dict)(hh:w.v.hand=f.vm.hand):FK k {f with vm:=(zg w f.vm).1}:=by
 unfold zg oR
 split
 ·exact h
 exact Yq h hw.b hw.old hw.h0 hw.h1 hd hh
theorem ac2{k:Nat}{f:af}(h:FK (k+4) f)(s:Str):FK k {f with vm:=(Kl f.vm s).1}:=by
 have c1:CK (k+2) (Nj f.vm s):=qE (k:=k+2) (jn (k:=k+3) h.ck _) _
 have e1:=PX (Nj f.vm s) s
 have e2:=nC (cJ (kN f.vm) [40,115,116,114,41]) s.length
 have e3:=nC (kN f.vm) (rC [40,115,116,114,41])
 exact Mc (h.down (by omega)) (aa1 c1 s) (e1.1.trans (e2.1.trans e3.1)) (e1.2.trans (e2.2.trans e3.2))
theorem VN{k:Nat}{l:ai}(h:FK (k+4) l.f):FK k (vR l).f:=by
 unfold vR
 have e1:=(Ja l 34).1
 exact X6 (by rw[e1];exact h.down (by omega)) (by rw[e1];exact ac2 h _)
def uP(l:ai):ai:=if ct l.f=true then xK (vR l) [84,89,80,69]else oDo (iv l 34).1 (iI (iv l 34).1.f.vm (iv l 34).2)
theorem Qw(l:ai)(h:LK 5 l):∀(H:List Ob) (i:Nat),H[i]?=some (.cells (aQ l) 89)->HC prog 146 (.ptr i 0::[]) H (.tup []) (H.set i (.cells (aQ (uP l)) 89)):=by
 have kT:FK 1 (vR l).f:=VN (k:=1) h.f
 have e1:=Ja l 34
 have e2:=Ha l 34
 have pU:=Eb l 34 h.s
 have eP:ct l.f=false->uP l=oDo (iv l 34).1 (iI (iv l 34).1.f.vm (iv l 34).2):=fun q=>by unfold uP;rw[if_neg (by rw[q];decide)]
 have hs:=h.s
 have ho0:=h.out0
 have ho1:=h.out1
 have ho2:=h.out
 rw[<-e1.1]at ho0 ho1 ho2
 obtain⟨a,ha⟩:∃a,iv l 34=a:=⟨_,rfl⟩
 rw[ha]at e1 e2 pU eP ho0 ho1 ho2
 refine zM func146 fun B=>?_
 refine Ws<|zp4 ?_
 refine zc rfl func23 ((jR l.f (by have:=h.f.b;omega)) _) ?_
 refine Wn<|Wi rfl (fun hi1=>?_) (fun hi1=>?_)
 ·have q1:ct l.f=true:=hi1
  refine zp1 ?_
  refine zc rfl func145 ((LM l (h.down (by decide))) _ _ rfl) ?_
  refine Wn<|zp1 ?_
  refine zc rfl func187 ((tI (vR l) [84,89,80,69] kT.mem kT.here) _ _ rfl) ?_
  refine Wn<|Wq<|aN rfl rfl ?_ ?_
  ·rfl
  (rw[uP,if_pos q1];rfl)
 have q1:ct l.f=false:=hi1
 refine Wj<|zp1 ?_
 refine zc rfl func188 ((pU) _ _ rfl) ?_
 refine zs1 ?_
 refine zp4 ?_
 refine Wd rfl rfl (aV rfl (by kernel_rfl) rfl (by exact dP _)) ?_
 refine Wn<|Wi rfl (fun hi2=>?_) (fun hi2=>?_)
 ·have q:a.1.err=0:=oT hi2
  refine aa rfl ?_
  refine zy5 ?_
  refine zy2 ?_
  refine zc rfl func190 ((Hh a.1.f.vm a.2 ⟨ho0,ho1⟩ ho2 (by omega)) _) ?_
  refine zy2 ?_
  refine zc rfl func80 ((oE a.1 (iI a.1.f.vm a.2)) _ _ rfl) ?_
  refine Wn<|aU rfl rfl ?_ ?_
  ·rfl
  (rw[eP q1,do0 q];rfl)
 have q:¬a.1.err=0:=oF hi2
 refine Wj<|aU rfl rfl ?_ ?_
 ·rfl
 (rw[eP q1,do1 q];rfl)
def ma(l:ai)(name:Str):ai :=
 if (ga l ((bn l.f.vm l.f.comp.cf name).1,(bn l.f.vm l.f.comp.cf name).2.2)).err=0 then {ga l ((bn l.f.vm l.f.comp.cf name).1,(bn l.f.vm l.f.comp.cf name).2.2)with f:={(ga l ((bn l.f.vm l.f.comp.cf name).1,(bn l.f.vm l.f.comp.cf name).2.2)).f with comp:={(ga l ((bn l.f.vm l.f.comp.cf name).1,(bn l.f.vm l.f.comp.cf name).2.2)).f.comp with cf:=(bn l.f.vm l.f.comp.cf name).2.1}}}
 else ga l ((bn l.f.vm l.f.comp.cf name).1,(bn l.f.vm l.f.comp.cf name).2.2)
theorem Jo(l:ai)(name:Str)(h:LK 40 l):∀(H:List Ob) (i:Nat),H[i]?=some (.cells (aQ l) 89)->HC prog 101 (.ptr i 0::[str name]) H (.tup []) (H.set i (.cells (aQ (ma l name)) 89)):=by
 have pB:=Bn l.f.vm l.f.comp.cf name h.ck
 unfold ma
 obtain⟨r,hr⟩:∃r,bn l.f.vm l.f.comp.cf name=r:=⟨_,rfl⟩
 rw[hr]at pB ⊢
 have pM:=oE l (r.1,r.2.2)
 obtain⟨m,hm⟩:∃m,ga l (r.1,r.2.2)=m:=⟨_,rfl⟩
 rw[hm]at pM ⊢
 refine zM func101 fun B=>?_
 refine Ws<|V3.aY [0,0,0,0,1,0,0,0,0,0,1,0,0,0,0,0,0,2,3,0,0] [0,1,2,3,4,5,6,7,8,9,10,11,12,13,14,15,16,17,18,19,20] mG rfl (by kernel_rfl) ?_
 iterate 4 refine V3.aO ?_
 refine V3.iG ?_
 iterate 5 refine V3.aO ?_
 refine V3.iG ?_
 refine V3.aO ?_
 refine V3.cQ rfl rfl rfl rfl (fun _=>dC rfl func151 rfl rfl ((pB) _)) ?_
 iterate 4 refine V3.aO ?_
 refine V3.sw tG rfl rfl rfl rfl rfl trivial rfl ?_
 refine V3.ox tG rfl rfl rfl rfl rfl trivial ?_
 iterate 2 refine V3.aO ?_
 refine V3.bo ?_
 refine zp3 ?_
 refine zc rfl func80 ((pM) _ _ rfl) ?_
 refine Wn<|zp4 ?_
 refine Wd rfl rfl (aV rfl (by kernel_rfl) rfl (by exact dP _)) ?_
 refine Wn<|Wi rfl (fun hi1=>?_) (fun hi1=>?_)
 ·have q:m.err=0:=oT hi1
  refine aa rfl ?_
  refine zy5 ?_
  refine zs2 ?_
  refine aU rfl rfl ?_ ?_
  ·rfl
  (rw[if_pos q];rfl)
 have q:¬m.err=0:=oF hi1
 refine Wj<|aU rfl rfl ?_ ?_
 ·rfl
 (rw[if_neg q];rfl)
def jC(l:ai)(D:af->Str->af×Int):ai:=if (bU l).1.err=0 then kQ (bU l).1 (D (bU l).1.f (bU l).2)else(bU l).1
def d7(l:ai):ai:=jC l fun f name=>cI f name true [257,0]
def Xp(F:FuncId)(D:af->Str->af×Int)(k:Nat):Prop:=∀f name,name.length<=1000000->FK k f->∀H,nX prog F [bQ f,str name] H (iE (D f name)) H
theorem y7{F:FuncId}{D:af->Str->af×Int}{k:Nat}(hD:Xp F D k)(l:ai)(hs:l.s.length<=1000000)(hF:FK k l.f):∀(H:List Ob) (i:Nat),H[i]?=some (.cells (aQ l) 89)->HC prog 158 (.ptr i 0::[.fn (.func F) [] []]) H (.tup []) (H.set i (.cells (aQ (jC l D)) 89)):=by
 have e1:=lH l
 have e2:=wj l
 have pN:=tf l hs
 unfold jC
 obtain⟨a,ha⟩:∃a,bU l=a:=⟨_,rfl⟩
 rw[ha]at e1 e2 pN ⊢
 rw[<-e1.1]at hF
 refine zM func158 fun B=>?_
 refine zp1 ?_
 refine zc rfl func194 ((pN) _ _ rfl) ?_
 refine zs1 ?_
 refine zp4 ?_
 refine Wd rfl rfl (aV rfl (by kernel_rfl) rfl (by exact dP _)) ?_
 refine Wn<|Wi rfl (fun hi1=>?_) (fun hi1=>?_)
 ·have q:a.1.err=0:=oT hi1
  refine aa rfl ?_
  refine zy5 ?_
  refine zy2 ?_
  refine Wc rfl rfl (eO rfl rfl (hD a.1.f a.2 (by omega) hF _)) ?_
  refine zy2 ?_
  refine zc rfl func177 ((wo a.1 (D a.1.f a.2)) _ _ rfl) ?_
  refine Wn<|aU rfl rfl ?_ ?_
  ·rfl
  (rw[if_pos q];rfl)
 have q:¬a.1.err=0:=oF hi1
 refine Wj<|aU rfl rfl ?_ ?_
 ·rfl
 (rw[if_neg q];rfl)
theorem J0:Xp 159 (fun f name=>cI f name true [257,0]) 3:=fun f name hn h H=>⟨⟨_,func159,rfl,rfl⟩,Ia f name hn h H⟩
theorem Cw(l:ai)(hs:l.s.length<=1000000)(hF:FK 3 l.f):∀(H:List Ob) (i:Nat),H[i]?=some (.cells (aQ l) 89)->HC prog 114 (.ptr i 0::[]) H (.tup []) (H.set i (.cells (aQ (d7 l)) 89)):=by
 refine zM func114 fun B=>?_
 refine aa rfl ?_
 refine z1 ?_
 refine zc rfl func158 ((y7 J0 l hs hF) _ _ rfl) ?_
 refine Wn<|aU rfl rfl ?_ ?_
 ·rfl
 rfl
def fK(F:FuncId):PV:=.fn (.func F) [] []
def QD(F:FuncId)(D:af->Str->Int->af×Int)(k:Nat):Prop:=∀f name n,name.length<=1000000->FK k f->∀H,nX prog F [bQ f,str name,i64 n] H (iE (D f name n)) H
section
variable {F : FuncId} {D : af -> Str -> Int -> af × Int} {k : Nat}
theorem XL(hD:QD F D k)(l:ai)(f:af)(name:Str)(n:Int)(hn:name.length<=1000000)(hF:FK k f):
  HC prog 216 [bQ f,str name,.ptr 1 0,.ptr 2 0] [.cells (aQ l) 89,.cells [fK F] 252,.cells [i64 n] 3] (iE (D f name n))
   [.cells (aQ l) 89,.cells [fK F] 252,.cells [i64 n] 3,.cells (jB f) 42,.cells (jB (D f name n).1) 42]:=by
 refine mi tG (rs:=[.cell 6 42,.tmp 7]) func216 rfl rfl rfl (fun B=>?_)
 refine zu3 ?_
 refine zp4 ?_
 refine Wc rfl rfl (eO rfl rfl (hD f name n hn hF _)) ?_
 refine zs4 ?_
 refine Wq<|Af rfl ?_ ?_
 ·rfl
 rfl
def tc(l:ai)(D:af->Str->Int->af×Int):ai:=if (mv l).1.err=0 then jC (mv l).1 (fun f name=>D f name (mv l).2)else(mv l).1
theorem Tv(hD:QD F D k)(l:ai)(n:Int)(h:LK k l)(q:(bU l).1.err=0):
  HC prog 158 [.ptr 0 0,.fn (.func 216) [] [.ptr 1 0,.ptr 2 0]] [.cells (aQ l) 89,.cells [fK F] 252,.cells [i64 n] 3] (.tup [])
   [.cells (aQ (jC l fun f name=>D f name n)) 89,.cells [fK F] 252,.cells [i64 n] 3,.cells (jB (bU l).1.f) 42,.cells (jB (D (bU l).1.f (bU l).2 n).1) 42]:=by
 have e1:=lH l
 have e2:=wj l
 have pN:=tf l h.s
 unfold jC
 obtain⟨a,ha⟩:∃a,bU l=a:=⟨_,rfl⟩
 rw[ha]at e1 e2 pN q ⊢
 have hs:=h.s
 have hF:=h.f
 rw[<-e1.1]at hF
 rw[if_pos q]
 refine mi tG (rs:=[]) func158 rfl rfl rfl (fun B=>?_)
 refine zp1 ?_
 refine zc rfl func194 ((pN) _ _ rfl) ?_
 refine zs1 ?_
 refine zp4 ?_
 refine Wd rfl rfl (aV rfl (by kernel_rfl) rfl (by exact dP _)) ?_
 refine Wn<|Wt rfl (by exact decide_eq_true q) ?_
 refine aa rfl ?_
 refine zy5 ?_
 refine zy2 ?_
 refine Wc rfl rfl (dW rfl rfl func216 rfl rfl ((XL hD a.1 a.1.f a.2 n (by omega) hF))) ?_
 refine zy2 ?_
 refine zc rfl func177 ((wo a.1 (D a.1.f a.2 n)) _ _ rfl) ?_
 refine Wn<|TB rfl ?_ ?_
 ·rfl
 rfl
theorem Pd(l:ai)(n:Int)(hs:l.s.length<=1000000)(q:¬(bU l).1.err=0):
  HC prog 158 [.ptr 0 0,.fn (.func 216) [] [.ptr 1 0,.ptr 2 0]] [.cells (aQ l) 89,.cells [fK F] 252,.cells [i64 n] 3] (.tup [])
   [.cells (aQ (jC l fun f name=>D f name n)) 89,.cells [fK F] 252,.cells [i64 n] 3]:=by
 have pN:=tf l hs
 unfold jC
 obtain⟨a,ha⟩:∃a,bU l=a:=⟨_,rfl⟩
 rw[ha]at pN q ⊢
 rw[if_neg q]
 refine mi tG (rs:=[]) func158 rfl rfl rfl (fun B=>?_)
 refine zp1 ?_
 refine zc rfl func194 ((pN) _ _ rfl) ?_
 refine zs1 ?_
 refine zp4 ?_
 refine Wd rfl rfl (aV rfl (by kernel_rfl) rfl (by exact dP _)) ?_
 refine Wn<|Wf rfl (by exact decide_eq_false q) ?_
 refine Wj<|TB rfl ?_ ?_
 ·rfl
 rfl
theorem Zr(l:ai)(r:VVm×Int):(ga l r).s=l.s:=by unfold ga;split;exact(uV l _).2;exact(uV l _).2
theorem BL(hD:QD F D k)(l:ai)(h:LK k l)(hP:LK k (mv l).1):∀(H:List Ob) (i:Nat),H[i]?=some (.cells (aQ l) 89)->HC prog 180 (.ptr i 0::[fK F]) H (.tup []) (H.set i (.cells (aQ (tc l D)) 89)):=by
 have pP:=IB l h.d
 have hp:=Zr l ((dV l.f.vm).2.1,(dV l.f.vm).2.2)
 unfold tc
 change (mv l).1.s=l.s at hp
 obtain⟨p,hp'⟩:∃p,mv l=p:=⟨_,rfl⟩
 rw[hp']at pP hp hP ⊢
 have flK:aS (fK F):=by simp[fK,aS,ay]
 by_cases q:(bU p.1).1.err=0
 ·have q':=q
  refine jd tG (rs:=[]) func180 rfl rfl rfl (by(simp[ay,aS,fK];done)) (by(simp;done)) (by(simp;done)) (by(simp;done)) (fun B=>?_)
  refine zu1 ?_
  refine zp1 ?_
  refine zc rfl func176 ((pP) _ _ rfl) ?_
  refine zs2 ?_
  refine zp4 ?_
  refine Wd rfl rfl (aV rfl (by kernel_rfl) rfl (by exact dP _)) ?_
  refine Wn<|Wi rfl (fun hi1=>?_) (fun hi1=>?_)
  ·have q1:p.1.err=0:=oT hi1
   refine aa rfl ?_
   refine zy2 ?_
   refine zc rfl func158 (Tv hD p.1 p.2 hP q) ?_
   refine Wn<|aU rfl rfl ?_ ?_
   ·rfl
   (rw[if_pos q1];rfl)
  have q1:¬p.1.err=0:=oF hi1
  refine Wj<|aU rfl rfl ?_ ?_
  ·rfl
  (rw[if_neg q1];rfl)
 have q':=q
 refine jd tG (rs:=[]) func180 rfl rfl rfl (by(simp[ay,aS,fK];done)) (by(simp;done)) (by(simp;done)) (by(simp;done)) (fun B=>?_)
 refine zu1 ?_
 refine zp1 ?_
 refine zc rfl func176 ((pP) _ _ rfl) ?_
 refine zs2 ?_
 refine zp4 ?_
 refine Wd rfl rfl (aV rfl (by kernel_rfl) rfl (by exact dP _)) ?_
 refine Wn<|Wi rfl (fun hi1=>?_) (fun hi1=>?_)
 ·have q1:p.1.err=0:=oT hi1
  refine aa rfl ?_
  refine zy2 ?_
  refine zc rfl func158 (Pd (F:=F) (D:=D) p.1 p.2 hP.s q) ?_
  refine Wn<|aU rfl rfl ?_ ?_
  ·rfl
  (rw[if_pos q1];rfl)
 have q1:¬p.1.err=0:=oF hi1
 refine Wj<|aU rfl rfl ?_ ?_
 ·rfl
 (rw[if_neg q1];rfl)
end
def JR(l:ai):ai:=tc l fun f name n=>cI f name false [258,0,n]
theorem EG:QD 181 (fun f name n=>cI f name false [258,0,n]) 4:=fun f name n hn h H=>⟨⟨_,func181,rfl,rfl⟩,Bm f name n hn h H⟩
theorem Gq(l:ai)(h:LK 4 l)(hP:LK 4 (mv l).1):∀(H:List Ob) (i:Nat),H[i]?=some (.cells (aQ l) 89)->HC prog 132 (.ptr i 0::[]) H (.tup []) (H.set i (.cells (aQ (JR l)) 89)):=by
 refine zM func132 fun B=>?_
 refine aa rfl ?_
 refine z1 ?_
 refine zc rfl func180 ((BL EG l h hP) _ _ rfl) ?_
 refine Wn<|aU rfl rfl ?_ ?_
 ·rfl
 rfl
open Go.RowKit
def DL(l:ai)(n:Int):ai:=ga l ({l.f.vm with mem:=(aF l.f.vm.mem 8 n).1},(aF l.f.vm.mem 8 n).2)
theorem Ic(l:ai)(n:Int)(h:LK 1 l):∀(H:List Ob) (i:Nat),H[i]?=some (.cells (aQ l) 89)->HC prog 191 (.ptr i 0::[i64 n]) H (.tup []) (H.set i (.cells (aQ (DL l n)) 89)):=by
 refine zM func191 fun B=>?_
 refine zp5 ?_
 refine zy2 ?_
 refine zc rfl func92 ((jp l.f.vm.mem 8 n h.f.mem (by unfold ae;omega)) _) ?_
 refine zy5 ?_
 refine zs1 ?_
 refine zp5 ?_
 refine zs2 ?_
 refine zu3 ?_
 refine aa rfl ?_
 refine zy3 ?_
 refine zc rfl func80 ((oE l ({l.f.vm with mem:=(aF l.f.vm.mem 8 n).1},(aF l.f.vm.mem 8 n).2)) _ _ rfl) ?_
 refine Wn<|aU rfl rfl ?_ ?_
 ·rfl
 rfl
def Yc(l:ai):ai:=DL l 0
theorem VH(l:ai)(h:LK 1 l):∀(H:List Ob) (i:Nat),H[i]?=some (.cells (aQ l) 89)->HC prog 149 (.ptr i 0::[]) H (.tup []) (H.set i (.cells (aQ (Yc l)) 89)):=by
 refine zM func149 fun B=>?_
 refine aa rfl ?_
 refine z1 ?_
 refine zc rfl func191 ((Ic l 0 h) _ _ rfl) ?_
 refine Wn<|aU rfl rfl ?_ ?_
 ·rfl
 rfl
def Ae(l:ai):ai:=if l.f.comp.xt=0 then oOk l (-14)else DL l (-1)
theorem S1(l:ai)(h:LK 1 l):∀(H:List Ob) (i:Nat),H[i]?=some (.cells (aQ l) 89)->HC prog 150 (.ptr i 0::[]) H (.tup []) (H.set i (.cells (aQ (Ae l)) 89)):=by
 refine zM func150 fun B=>?_
 refine Ws<|zp5 ?_
 refine zs2 ?_
 refine Wi rfl (fun hi1=>?_) (fun hi1=>?_)
 ·have q:l.f.comp.xt=0:=by simpa using hi1
  refine zp1 ?_
  refine zc rfl func41 ((oO l (-14)) _ _ rfl) ?_
  refine Wn<|Wq<|aN rfl rfl ?_ ?_
  ·rfl
  (rw[Ae,if_pos q];rfl)
 have q:¬l.f.comp.xt=0:=by simpa using hi1
 refine Wj<|aa rfl ?_
 refine z1 ?_
 refine zc rfl func191 ((Ic l (-1) h) _ _ rfl) ?_
 refine Wn<|aU rfl rfl ?_ ?_
 ·rfl
 (rw[Ae,if_neg q];rfl)
def am9(l:ai):ai:=kQ l (MO l.f)
theorem En(l:ai)(h:LK 1 l):∀(H:List Ob) (i:Nat),H[i]?=some (.cells (aQ l) 89)->HC prog 134 (.ptr i 0::[]) H (.tup []) (H.set i (.cells (aQ (am9 l)) 89)):=by
 refine zM func134 fun B=>?_
 refine aa rfl ?_
 refine zy5 ?_
 refine zc rfl func183 ((zI l.f (h.f.down (by decide))) _) ?_
 refine zy2 ?_
 refine zc rfl func177 ((wo l (MO l.f)) _ _ rfl) ?_
 refine Wn<|aU rfl rfl ?_ ?_
 ·rfl
 rfl
def oOn(l:ai):ai:=if (mv l).1.err=0 then uW (mv l).1 true (mv l).2 else(mv l).1
theorem am8(l:ai)(h:LK 4 l)(hP:LK 4 (mv l).1):∀(H:List Ob) (i:Nat),H[i]?=some (.cells (aQ l) 89)->HC prog 129 (.ptr i 0::[]) H (.tup []) (H.set i (.cells (aQ (oOn l)) 89)):=by
 have pP:=IB l h.d
 unfold oOn
 obtain⟨p,hp⟩:∃p,mv l=p:=⟨_,rfl⟩
 rw[hp]at pP hP ⊢
 refine zM func129 fun B=>?_
 refine zp1 ?_
 refine zc rfl func176 ((pP) _ _ rfl) ?_
 refine zs1 ?_
 refine zp4 ?_
 refine Wd rfl rfl (aV rfl (by kernel_rfl) rfl (by exact dP _)) ?_
 refine Wn<|Wi rfl (fun hi1=>?_) (fun hi1=>?_)
 ·have q:p.1.err=0:=oT hi1
  refine aa rfl ?_
  refine zy2 ?_
  refine zc rfl func175 ((GZ p.1 true p.2 (hP.down (by decide))) _ _ rfl) ?_
  refine Wn<|aU rfl rfl ?_ ?_
  ·rfl
  (rw[if_pos q];rfl)
 have q:¬p.1.err=0:=oF hi1
 refine Wj<|aU rfl rfl ?_ ?_
 ·rfl
 (rw[if_neg q];rfl)
def fh(l:ai):ai×aR :=
 if (bU l).1.err=0 then(if (cN (bU l).1.f.vm.dict (bU l).2).2.2=false then oOk (bU l).1 (-13)else(bU l).1,(cN (bU l).1.f.vm.dict (bU l).2).1)else((bU l).1,default)
theorem Ai(l:ai)(h:LK 1 l):∀(H:List Ob) (i:Nat),H[i]?=some (.cells (aQ l) 89)->HC prog 185 (.ptr i 0::[]) H (xZ (fh l).2) (H.set i (.cells (aQ (fh l).1) 89)):=by
 have e1:=lH l
 have e2:=wj l
 have pN:=tf l h.s
 have hs:=h.s
 have hD:=h.f.each
 unfold fh
 obtain⟨a,ha⟩:∃a,bU l=a:=⟨_,rfl⟩
 rw[ha]at e1 e2 pN ⊢
 rw[<-e1.1]at hD
 have pD:=wZ a.1.f.vm.dict a.2 hD (by omega)
 obtain⟨d,hd⟩:∃d,cN a.1.f.vm.dict a.2=d:=⟨_,rfl⟩
 rw[hd]at pD ⊢
 refine zM func185 fun B=>?_
 refine zu1 ?_
 refine zp1 ?_
 refine zc rfl func194 ((pN) _ _ rfl) ?_
 refine zs1 ?_
 refine Ws<|zp4 ?_
 refine Wd rfl rfl (i6 rfl (by kernel_rfl) rfl (by exact dP _)) ?_
 refine Wn<|Wi rfl (fun hi1=>?_) (fun hi1=>?_)
 ·have q:¬a.1.err=0:=by simpa using hi1
  refine zu2 ?_
  refine Wq<|aN rfl rfl ?_ ?_
  ·(rw[if_neg q];rfl)
  (rw[if_neg q];rfl)
 have q:a.1.err=0:=by simpa using hi1
 refine Wj<|zp5 ?_
 refine zy2 ?_
 refine zc rfl func37 ((pD) _) ?_
 refine zy5 ?_
 refine zs3 ?_
 refine Ws<|zu2 ?_
 refine Wi rfl (fun hi2=>?_) (fun hi2=>?_)
 ·have q2:d.2.2=false:=by simpa using hi2
  refine aa rfl ?_
  refine z1 ?_
  refine zc rfl func41 ((oO a.1 (-13)) _ _ rfl) ?_
  refine Wn<|zu2 ?_
  refine Wq<|aN rfl rfl ?_ ?_
  ·(rw[if_pos q];rfl)
  (rw[if_pos q,if_pos q2];rfl)
 have q2:¬d.2.2=false:=by simpa using hi2
 refine Wj<|zu2 ?_
 refine Wq<|aN rfl rfl ?_ ?_
 ·(rw[if_pos q];rfl)
 (rw[if_pos q,if_neg q2];rfl)
theorem CY{k:Nat}{l l':ai}(h:LK k l)(hf:l'.f=l.f)(hs:l'.s=l.s):LK k l' :=
 ⟨by rw[hf];exact h.f,by rw[hs];exact h.s,by rw[hf];exact h.d,by rw[hf];exact h.data,by rw[hf];exact h.out0,by rw[hf];exact h.out1,by rw[hf];exact h.out,by rw[hf];exact h.cfl,by rw[hf];exact h.cf,by rw[hf];exact h.dict,by rw[hf];exact h.xts⟩
theorem tC(l:ai):(fh l).1.f=l.f/\(fh l).1.s=l.s:=by
 have e:=lH l
 have o:=uV (bU l).1 (-13)
 unfold fh
 split
 ·dsimp only
  split
  ·exact⟨o.1.trans e.1,o.2.trans e.2⟩
  exact e
 exact e
def Sj(l:ai):ai:=vC (fh l).1 (fh l).2.xt
theorem Xx(l:ai)(h:LK 1 l):∀(H:List Ob) (i:Nat),H[i]?=some (.cells (aQ l) 89)->HC prog 136 (.ptr i 0::[]) H (.tup []) (H.set i (.cells (aQ (Sj l)) 89)):=by
 have pF:=Ai l h
 have hF:=CY h (tC l).1 (tC l).2
 unfold Sj
 obtain⟨a,ha⟩:∃a,fh l=a:=⟨_,rfl⟩
 rw[ha]at pF hF ⊢
 refine zM func136 fun B=>?_
 refine aa rfl ?_
 refine zy2 ?_
 refine zc rfl func185 ((pF) _ _ rfl) ?_
 refine z1 ?_
 refine zc rfl func43 ((DO a.1 a.2.xt hF.d hF.data) _ _ rfl) ?_
 refine Wn<|aU rfl rfl ?_ ?_
 ·rfl
 rfl
def Dv(l:ai):ai:=tQ (fh l).1 (fh l).2.xt
theorem NU(l:ai)(h:LK 2 l):∀(H:List Ob) (i:Nat),H[i]?=some (.cells (aQ l) 89)->HC prog 137 (.ptr i 0::[]) H (.tup []) (H.set i (.cells (aQ (Dv l)) 89)):=by
 have pF:=Ai l (h.down (by decide))
 have hF:=CY h (tC l).1 (tC l).2
 unfold Dv
 obtain⟨a,ha⟩:∃a,fh l=a:=⟨_,rfl⟩
 rw[ha]at pF hF ⊢
 refine zM func137 fun B=>?_
 refine aa rfl ?_
 refine zy2 ?_
 refine zc rfl func185 ((pF) _ _ rfl) ?_
 refine z1 ?_
 refine zc rfl func42 ((uM a.1 a.2.xt hF.f.ck) _ _ rfl) ?_
 refine Wn<|aU rfl rfl ?_ ?_
 ·rfl
 rfl
def Vc(s:Str):Int:=((s.getD 0 0).toNat:Int)
def pq(l:ai):ai×Int:=((bU l).1,if (bU l).2=[]then 0 else Vc (bU l).2)
theorem Lz(l:ai)(hs:l.s.length<=1000000):∀(H:List Ob) (i:Nat),H[i]?=some (.cells (aQ l) 89)->HC prog 186 (.ptr i 0::[]) H (i64 (pq l).2) (H.set i (.cells (aQ (pq l).1) 89)):=by
 have pN:=tf l hs
 unfold pq
 obtain⟨a,ha⟩:∃a,bU l=a:=⟨_,rfl⟩
 rw[ha]at pN ⊢
 have w0:IntKind.i64.wrap ((a.2.getD 0 0).toNat:Int)=((a.2.getD 0 0).toNat:Int):=by have:=(a.2.getD 0 0).toNat_lt;exact gE (by omega) (by omega)
 refine zM func186 fun B=>?_
 refine zu1 ?_
 refine Ws<|zp1 ?_
 refine zc rfl func194 ((pN) _ _ rfl) ?_
 refine zs1 ?_
 refine zp2 ?_
 refine Wa 7 rfl (V0 _ _) ?_
 refine Wn<|Wi rfl (fun hi1=>?_) (fun hi1=>?_)
 ·have q:¬a.2=[]:=by simpa using hi1
  have q0:=List.length_pos_iff.2 q
  refine zp1 ?_
  refine z2 ?_ (q:=(by simp only[dX];omega))
  refine Wa 9 rfl (s7 _ _) ?_
  refine zs2 ?_
  refine Wq<|aN rfl rfl ?_ ?_
  ·(show i64 _=i64 (if a.2=[]then 0 else Vc a.2);rw[if_neg q,w0];rfl)
  rfl
 have q:a.2=[]:=by simpa using hi1
 refine Wj<|zu1 ?_
 refine Wq<|aN rfl rfl ?_ ?_
 ·(show i64 _=i64 (if a.2=[]then 0 else Vc a.2);rw[if_pos q];done)
 rfl
def PD(l:ai):ai:=vC (pq l).1 (pq l).2
theorem XD(l:ai)(h:LK 1 l):∀(H:List Ob) (i:Nat),H[i]?=some (.cells (aQ l) 89)->HC prog 138 (.ptr i 0::[]) H (.tup []) (H.set i (.cells (aQ (PD l)) 89)):=by
 have pF:=Lz l h.s
 have hF:=CY (l':=(pq l).1) h (lH l).1 (lH l).2
 unfold PD
 obtain⟨a,ha⟩:∃a,pq l=a:=⟨_,rfl⟩
 rw[ha]at pF hF ⊢
 refine zM func138 fun B=>?_
 refine aa rfl ?_
 refine zy2 ?_
 refine zc rfl func186 ((pF) _ _ rfl) ?_
 refine zc rfl func43 ((DO a.1 a.2 hF.d hF.data) _ _ rfl) ?_
 refine Wn<|aU rfl rfl ?_ ?_
 ·rfl
 rfl
def DD(l:ai):ai:=tQ (pq l).1 (pq l).2
theorem NM(l:ai)(h:LK 2 l):∀(H:List Ob) (i:Nat),H[i]?=some (.cells (aQ l) 89)->HC prog 139 (.ptr i 0::[]) H (.tup []) (H.set i (.cells (aQ (DD l)) 89)):=by
 have pF:=Lz l h.s
 have hF:=CY (l':=(pq l).1) h (lH l).1 (lH l).2
 unfold DD
 obtain⟨a,ha⟩:∃a,pq l=a:=⟨_,rfl⟩
 rw[ha]at pF hF ⊢
 refine zM func139 fun B=>?_
 refine aa rfl ?_
 refine zy2 ?_
 refine zc rfl func186 ((pF) _ _ rfl) ?_
 refine zc rfl func42 ((uM a.1 a.2 hF.f.ck) _ _ rfl) ?_
 refine Wn<|aU rfl rfl ?_ ?_
 ·rfl
 rfl
def AF(l:ai):ai:=tQ (mv l).1 (mv l).2
theorem JF(l:ai)(h:LK 4 l)(hP:LK 4 (mv l).1):∀(H:List Ob) (i:Nat),H[i]?=some (.cells (aQ l) 89)->HC prog 140 (.ptr i 0::[]) H (.tup []) (H.set i (.cells (aQ (AF l)) 89)):=by
 have pP:=IB l h.d
 unfold AF
 obtain⟨p,hp⟩:∃p,mv l=p:=⟨_,rfl⟩
 rw[hp]at pP hP ⊢
 refine zM func140 fun B=>?_
 refine aa rfl ?_
 refine zy2 ?_
 refine zc rfl func176 ((pP) _ _ rfl) ?_
 refine zc rfl func42 ((uM p.1 p.2 (hP.f.ck.down (by decide))) _ _ rfl) ?_
 refine Wn<|aU rfl rfl ?_ ?_
 ·rfl
 rfl
theorem ET:Xp 179 (fun f name=>cI f name true [257,0,0]) 4:=fun f name hn h H=>⟨⟨_,func179,rfl,rfl⟩,Bq f name hn h H⟩
theorem Ki:Xp 184 Cv 0:=fun f name hn h H=>⟨⟨_,func184,rfl,rfl⟩,GO f name hn h H⟩
theorem FV:QD 182 vH 270:=fun f name n hn h H=>⟨⟨_,func182,rfl,rfl⟩,E4 f name n hn h H⟩
def ak3(l:ai):ai:=jC l fun f name=>cI f name true [257,0,0]
theorem FC(l:ai)(hs:l.s.length<=1000000)(hF:FK 4 l.f):∀(H:List Ob) (i:Nat),H[i]?=some (.cells (aQ l) 89)->HC prog 131 (.ptr i 0::[]) H (.tup []) (H.set i (.cells (aQ (ak3 l)) 89)):=by
 refine zM func131 fun B=>?_
 refine aa rfl ?_
 refine z1 ?_
 refine zc rfl func158 ((y7 ET l hs hF) _ _ rfl) ?_
 refine Wn<|aU rfl rfl ?_ ?_
 ·rfl
 rfl
def Yp(l:ai):ai:=jC l Cv
theorem MW(l:ai)(hs:l.s.length<=1000000)(hF:FK 0 l.f):∀(H:List Ob) (i:Nat),H[i]?=some (.cells (aQ l) 89)->HC prog 135 (.ptr i 0::[]) H (.tup []) (H.set i (.cells (aQ (Yp l)) 89)):=by
 refine zM func135 fun B=>?_
 refine aa rfl ?_
 refine z1 ?_
 refine zc rfl func158 ((y7 Ki l hs hF) _ _ rfl) ?_
 refine Wn<|aU rfl rfl ?_ ?_
 ·rfl
 rfl
def KI(l:ai):ai:=tc l vH
theorem NF(l:ai)(h:LK 270 l)(hP:LK 270 (mv l).1):∀(H:List Ob) (i:Nat),H[i]?=some (.cells (aQ l) 89)->HC prog 133 (.ptr i 0::[]) H (.tup []) (H.set i (.cells (aQ (KI l)) 89)):=by
 refine zM func133 fun B=>?_
 refine aa rfl ?_
 refine z1 ?_
 refine zc rfl func180 ((BL FV l h hP) _ _ rfl) ?_
 refine Wn<|aU rfl rfl ?_ ?_
 ·rfl
 rfl
theorem Ih(l:List aR)(name:Str):∀k,k<=l.length->(l9 l name k).1∈l\/(l9 l name k).1=default
 | 0,_=>.inr rfl
 | k+1,hk=>by
  unfold l9
  split
  ·left
   show l.getD k default∈l
   rw[List.getD_eq_getElem?_getD,List.getElem?_eq_getElem (by omega)]
   exact List.getElem_mem _
  exact Ih l name k (by omega)
theorem AG{l:List aR}(h:DX l)(name:Str):ae (cN l name).1.xt:=by
 rcases Ih l name l.length (Nat.le_refl _)with q|q
 ·exact h _ q
 show ae (l9 l name l.length).1.xt
 rw[q];exact bG
theorem Cy{l:ai}(h:DX l.f.vm.dict):ae (fh l).2.xt:=by
 unfold fh
 split
 ·rw[(lH l).1];exact AG h _
 exact bG
theorem GI{l:ai}(h:jX l.f.vm.dict):0<=(fh l).2.flags/\(fh l).2.flags<=7:=by
 unfold fh
 split
 ·rw[(lH l).1]
  exact rP (fun x hx=>(h.2 x hx).2) _ _ (Nat.le_refl _)
 show 0<=(default:aR).flags/\(default:aR).flags<=7
 exact⟨by decide,by decide⟩
theorem ah1{f:Int}(h0:0<=f)(h7:f<=7):(IntKind.i64.wrap ↑(BitVec.ofInt IntKind.i64.bits f &&& BitVec.ofInt IntKind.i64.bits 1).toNat != 0)=decide (f%2=1):=by
 rcases qN h0 h7 with rfl|rfl|rfl|rfl|rfl|rfl|rfl|rfl<;>decide
def ss(l:ai)(w:aR):Int:=if (av l.f.vm w.xt).2=0/\300<=(av l.f.vm w.xt).1 then -32 else(av l.f.vm w.xt).2
def O7(l:ai)(w:aR):ai:=if w.flags%2=1 then wN (oOk l (ss l w)) w.xt else xK (tQ (oOk l (ss l w)) w.xt) [44]
def Ge(l:ai):ai:=if (fh l).1.err=0 then O7 (fh l).1 (fh l).2 else(fh l).1
theorem Gk(l:ai)(h:LK 5 l):∀(H:List Ob) (i:Nat),H[i]?=some (.cells (aQ l) 89)->HC prog 141 (.ptr i 0::[]) H (.tup []) (H.set i (.cells (aQ (Ge l)) 89)):=by
 have pF:=Ai l (h.down (by decide))
 have hF:=CY h (tC l).1 (tC l).2
 have fx:=Cy (l:=l) h.xts
 have fl:=GI (l:=l) h.f.each
 unfold Ge
 obtain⟨a,ha⟩:∃a,fh l=a:=⟨_,rfl⟩
 rw[ha]at pF hF fx fl ⊢
 have ln:=ah1 fl.1 fl.2
 have hm:a.1.f.vm.mem.b.length<=140737488355328:=by have:=hF.f.b;omega
 have pK:=qI a.1.f.vm a.2.xt hm fx
 have hE:ss a.1 a.2=if (av a.1.f.vm a.2.xt).2=0/\300<=(av a.1.f.vm a.2.xt).1 then -32 else(av a.1.f.vm a.2.xt).2:=rfl
 have hK:O7 a.1 a.2=if a.2.flags%2=1 then wN (oOk a.1 (ss a.1 a.2)) a.2.xt else xK (tQ (oOk a.1 (ss a.1 a.2)) a.2.xt) [44]:=rfl
 obtain⟨k,hk⟩:∃k,av a.1.f.vm a.2.xt=k:=⟨_,rfl⟩
 rw[hk]at pK hE
 have hO:=uV a.1 (ss a.1 a.2)
 have kO:=CY hF hO.1 hO.2
 have pO:=oO a.1 (ss a.1 a.2)
 obtain⟨b,hb⟩:∃b,oOk a.1 (ss a.1 a.2)=b:=⟨_,rfl⟩
 rw[hb]at kO pO hK
 have kL:FK 1 (tQ b a.2.xt).f:=X6 (kO.f.down (by decide)) (Mc (kO.f.down (by decide)) (qE (k:=1) (jn (k:=2) (kO.f.ck.down (by decide)) _) _) ((nC _ _).1.trans (nC _ _).1) ((nC _ _).2.trans (nC _ _).2))
 refine zM func141 fun B=>?_
 refine zp1 ?_
 refine zc rfl func185 ((pF) _ _ rfl) ?_
 refine zs2 ?_
 refine Ws<|zp4 ?_
 refine Wd rfl rfl (i6 rfl (by kernel_rfl) rfl (by exact dP _)) ?_
 refine Wn<|Wi rfl (fun hi1=>?_) (fun hi1=>?_)
 ·have q:¬a.1.err=0:=by simpa using hi1
  refine Wq<|aN rfl rfl ?_ ?_
  ·rfl
  (rw[if_neg q];rfl)
 have q:a.1.err=0:=by simpa using hi1
 refine Wj<|Ws<|V3.aY [0,0,0,0,4,0,6,0,0,0,0,0,0] [0,1,2,3,4,5,6,7,8,9,10,11,12] mG rfl (by kernel_rfl) ?_
 iterate 4 refine V3.aO ?_
 refine V3.zU 0 ?_
 refine V3.aO ?_
 refine V3.zU 1 ?_
 refine V3.cQ rfl rfl rfl rfl (fun _=>dC rfl func67 rfl rfl ((pK) _)) ?_
 iterate 5 refine V3.aO ?_
 refine V3.bo ?_
 refine Ws<|zp3 ?_
 refine Wb 25 rfl (fun hg1=>?_) (fun hg1=>?_)
 ·have yk:k.2=0:=by simpa using hg1
  refine zs3 ?_
  refine Wi rfl (fun hi2=>?_) (fun hi2=>?_)
  ·have hE2:ss a.1 a.2 = -32:=by rw[hE,if_pos ⟨yk,by have:=oT hi2;omega⟩]
   refine aa rfl ?_
   refine zs1 ?_
   refine zp2 ?_
   refine Wa 30 rfl ((congrArg i64 hE2.symm)) ?_
   refine zc rfl func41 ((pO) _ _ rfl) ?_
   refine Wn<|Ws<|zu4 ?_
   refine Wi rfl (fun hi3=>?_) (fun hi3=>?_)
   ·have q3:a.2.flags%2=1:=by rw[ln]at hi3;exact oT hi3
    refine zp3 ?_
    refine zc rfl func69 ((sF b a.2.xt kO.f.mem kO.f.here) _ _ rfl) ?_
    refine Wn<|Wq<|aN rfl rfl ?_ ?_
    ·rfl
    (rw[if_pos q,hK,if_pos q3];rfl)
   have q3:¬a.2.flags%2=1:=by rw[ln]at hi3;exact oF hi3
   refine Wj<|zp3 ?_
   refine zc rfl func42 ((uM b a.2.xt (kO.f.ck.down (by decide))) _ _ rfl) ?_
   refine Wn<|aa rfl ?_
   refine z1 ?_
   refine zc rfl func187 ((tI (tQ b a.2.xt) [44] kL.mem kL.here) _ _ rfl) ?_
   refine Wn<|aU rfl rfl ?_ ?_
   ·rfl
   (rw[if_pos q,hK,if_neg q3];rfl)
  have hE2:ss a.1 a.2=k.2:=by(rw[hE,if_neg (fun z=>by have:=oF hi2;have:=z.2;omega)])
  refine Wj<|zp2 ?_
  refine Wa 30 rfl ((congrArg i64 hE2.symm)) ?_
  refine zc rfl func41 ((pO) _ _ rfl) ?_
  refine Wn<|Ws<|zu4 ?_
  refine Wi rfl (fun hi3=>?_) (fun hi3=>?_)
  ·have q3:a.2.flags%2=1:=by rw[ln]at hi3;exact oT hi3
   refine zp3 ?_
   refine zc rfl func69 ((sF b a.2.xt kO.f.mem kO.f.here) _ _ rfl) ?_
   refine Wn<|Wq<|aN rfl rfl ?_ ?_
   ·rfl
   (rw[if_pos q,hK,if_pos q3];rfl)
  have q3:¬a.2.flags%2=1:=by rw[ln]at hi3;exact oF hi3
  refine Wj<|zp3 ?_
  refine zc rfl func42 ((uM b a.2.xt (kO.f.ck.down (by decide))) _ _ rfl) ?_
  refine Wn<|aa rfl ?_
  refine z1 ?_
  refine zc rfl func187 ((tI (tQ b a.2.xt) [44] kL.mem kL.here) _ _ rfl) ?_
  refine Wn<|aU rfl rfl ?_ ?_
  ·rfl
  (rw[if_pos q,hK,if_neg q3];rfl)
 have yk:¬k.2=0:=by simpa using hg1
 have hE2:ss a.1 a.2=k.2:=by rw[hE,if_neg (fun z=>yk z.1)]
 iterate 2 refine z6 ?_
 refine zs1 ?_
 refine Wf rfl rfl ?_
 refine Wj<|zp2 ?_
 refine Wa 30 rfl ((congrArg i64 hE2.symm)) ?_
 refine zc rfl func41 ((pO) _ _ rfl) ?_
 refine Wn<|Ws<|zu4 ?_
 refine Wi rfl (fun hi3=>?_) (fun hi3=>?_)
 ·have q3:a.2.flags%2=1:=by rw[ln]at hi3;exact oT hi3
  refine zp3 ?_
  refine zc rfl func69 ((sF b a.2.xt kO.f.mem kO.f.here) _ _ rfl) ?_
  refine Wn<|Wq<|aN rfl rfl ?_ ?_
  ·rfl
  (rw[if_pos q,hK,if_pos q3];rfl)
 have q3:¬a.2.flags%2=1:=by rw[ln]at hi3;exact oF hi3
 refine Wj<|zp3 ?_
 refine zc rfl func42 ((uM b a.2.xt (kO.f.ck.down (by decide))) _ _ rfl) ?_
 refine Wn<|aa rfl ?_
 refine z1 ?_
 refine zc rfl func187 ((tI (tQ b a.2.xt) [44] kL.mem kL.here) _ _ rfl) ?_
 refine Wn<|aU rfl rfl ?_ ?_
 ·rfl
 (rw[if_pos q,hK,if_neg q3];rfl)
theorem an4(v:VVm):(dV v).2.1.mem=v.mem/\(dV v).2.1.here=v.here/\(dV v).2.1.dict=v.dict/\(dV v).2.1.hand=v.hand/\(dV v).2.1.conf=v.conf/\(dV v).2.1.out=v.out/\(dV v).2.1.d.length<=v.d.length:=by
 refine⟨rfl,rfl,rfl,rfl,rfl,rfl,?_⟩
 show(bk v.d).2.1.length<=_
 unfold bk
 split<;>simp
theorem Fb{k:Nat}{l:ai}(h:LK k l):LK k (mv l).1:=by
 have e:=an4 l.f.vm
 unfold mv
 dsimp only
 generalize hr:((dV l.f.vm).2.1,(dV l.f.vm).2.2)=r
 have er:r.1=(dV l.f.vm).2.1:=by rw[<-hr]
 rw[<-er]at e
 have hk:FK k {l.f with vm:=r.1}:=Yq h.f (by rw[e.1];exact h.f.b) (by rw[e.1];exact h.f.old) (by rw[e.2.1];exact h.f.h0) (by rw[e.2.1,e.1];exact h.f.h1) e.2.2.1 e.2.2.2.1
 have o:=uV l r.2
 unfold ga
 split
 ·refine⟨?_,?_,?_,?_,?_,?_,?_,?_,?_,?_,?_⟩<;>dsimp only<;>try rw[o.1]
  ·exact hk
  ·rw[o.2];exact h.s
  ·have:=e.2.2.2.2.2.2;have:=h.d;omega
  ·rw[e.2.2.2.2.1];exact h.data
  ·rw[e.2.2.2.2.1];exact h.out0
  ·rw[e.2.2.2.2.1];exact h.out1
  ·rw[e.2.2.2.2.2.1];exact h.out
  ·exact h.cfl
  ·exact h.cf
  ·rw[e.2.2.1];exact h.dict
  rw[e.2.2.1];exact h.xts
 exact⟨by rw[o.1];exact h.f,by rw[o.2];exact h.s,by rw[o.1];exact h.d,by rw[o.1];exact h.data,by rw[o.1];exact h.out0,by rw[o.1];exact h.out1,by rw[o.1];exact h.out,by rw[o.1];exact h.cfl,by rw[o.1];exact h.cf,by rw[o.1];exact h.dict,by rw[o.1];exact h.xts⟩
def OP:List fG:=[.s [58],.s [79,78,58],.s [59],.s [67,82,69,65,84,69],.s [86,65,82,73,65,66,76,69],.s [67,79,78,83,84,65,78,84],.s [77,65,67,72,73,78,69],.s [73,77,77,69,68,73,65,84,69],.s [70,79,82,71,69,84],.s [39],.s [91,39,93],.s [67,72,65,82],.s [91,67,72,65,82,93],.s [76,73,84,69,82,65,76],.s [80,79,83,84,80,79,78,69],.s [82,69,67,85,82,83,69],.s [69,88,73,84],.s [68,79,69,83,62],.s [83,34],.s [46,34],.s [40],.s [92],.s [91],.s [93]]
def QY:List PV:=[.fn (.func 128) [.ptr 0 0] [],.fn (.func 129) [.ptr 0 0] [],.fn (.func 130) [.ptr 0 0] [],.fn (.func 114) [.ptr 0 0] [],.fn (.func 131) [.ptr 0 0] [],.fn (.func 132) [.ptr 0 0] [],.fn (.func 133) [.ptr 0 0] [],.fn (.func 134) [.ptr 0 0] [],.fn (.func 135) [.ptr 0 0] [],.fn (.func 136) [.ptr 0 0] [],.fn (.func 137) [.ptr 0 0] [],.fn (.func 138) [.ptr 0 0] [],.fn (.func 139) [.ptr 0 0] [],.fn (.func 140) [.ptr 0 0] [],.fn (.func 141) [.ptr 0 0] [],.fn (.func 142) [.ptr 0 0] [],.fn (.func 143) [.ptr 0 0] [],.fn (.func 144) [.ptr 0 0] [],.fn (.func 145) [.ptr 0 0] [],.fn (.func 146) [.ptr 0 0] [],.fn (.func 147) [.ptr 0 0] [],.fn (.func 148) [.ptr 0 0] [],.fn (.func 149) [.ptr 0 0] [],.fn (.func 150) [.ptr 0 0] []]
def spF(name:Str):Option (ai->ai) :=
 if name=[58]then some E8
 else if name=[79,78,58]then some oOn
 else if name=[59]then some FD
 else if name=[67,82,69,65,84,69]then some d7
 else if name=[86,65,82,73,65,66,76,69]then some ak3
 else if name=[67,79,78,83,84,65,78,84]then some JR
 else if name=[77,65,67,72,73,78,69]then some KI
 else if name=[73,77,77,69,68,73,65,84,69]then some am9
 else if name=[70,79,82,71,69,84]then some Yp
 else if name=[39]then some Sj
 else if name=[91,39,93]then some Dv
 else if name=[67,72,65,82]then some PD
 else if name=[91,67,72,65,82,93]then some DD
 else if name=[76,73,84,69,82,65,76]then some AF
 else if name=[80,79,83,84,80,79,78,69]then some Ge
 else if name=[82,69,67,85,82,83,69]then some an6
 else if name=[69,88,73,84]then some XZ
 else if name=[68,79,69,83,62]then some LE
 else if name=[83,34]then some vR
 else if name=[46,34]then some uP
 else if name=[40]then some GU
 else if name=[92]then some RX
 else if name=[91]then some Yc
 else if name=[93]then some Ae
 else none
theorem Po(l:ai):HC prog 100 [.ptr 0 0] [.cells (aQ l) 89] (.smap OP QY) [.cells (aQ l) 89,.dead]:=by
 refine mi tG (rs:=[.tmp 2]) func100 rfl rfl rfl (fun B=>?_)
 refine zu1 ?_
 refine z8 ?_
 refine Wd rfl rfl (dq rfl) ?_
 refine zy2 ?_
 refine zD 1 (.s [58]) ?_
 refine zy2 ?_
 refine zD 1 (.s [79,78,58]) ?_
 refine zy2 ?_
 refine zD 1 (.s [59]) ?_
 refine zy2 ?_
 refine zD 1 (.s [67,82,69,65,84,69]) ?_
 refine zy2 ?_
 refine zD 1 (.s [86,65,82,73,65,66,76,69]) ?_
 refine zy2 ?_
 refine zD 1 (.s [67,79,78,83,84,65,78,84]) ?_
 refine z1 ?_
 refine jx (H':=[.cells (aQ l) 89,.smap [.s [58],.s [79,78,58],.s [59],.s [67,82,69,65,84,69],.s [86,65,82,73,65,66,76,69],.s [67,79,78,83,84,65,78,84]] [.fn (.func 128) [.ptr 0 0] [],.fn (.func 129) [.ptr 0 0] [],.fn (.func 130) [.ptr 0 0] [],.fn (.func 114) [.ptr 0 0] [],.fn (.func 131) [.ptr 0 0] [],.fn (.func 132) [.ptr 0 0] []]]) rfl ?_
 refine z1 ?_
 refine zD 1 (.s [77,65,67,72,73,78,69]) ?_
 refine zy2 ?_
 refine zD 1 (.s [73,77,77,69,68,73,65,84,69]) ?_
 refine zy2 ?_
 refine zD 1 (.s [70,79,82,71,69,84]) ?_
 refine zy2 ?_
 refine zD 1 (.s [39]) ?_
 refine zy2 ?_
 refine zD 1 (.s [91,39,93]) ?_
 refine zy2 ?_
 refine zD 1 (.s [67,72,65,82]) ?_
 refine z1 ?_
 refine jx (H':=[.cells (aQ l) 89,.smap [.s [58],.s [79,78,58],.s [59],.s [67,82,69,65,84,69],.s [86,65,82,73,65,66,76,69],.s [67,79,78,83,84,65,78,84],.s [77,65,67,72,73,78,69],.s [73,77,77,69,68,73,65,84,69],.s [70,79,82,71,69,84],.s [39],.s [91,39,93],.s [67,72,65,82]] [.fn (.func 128) [.ptr 0 0] [],.fn (.func 129) [.ptr 0 0] [],.fn (.func 130) [.ptr 0 0] [],.fn (.func 114) [.ptr 0 0] [],.fn (.func 131) [.ptr 0 0] [],.fn (.func 132) [.ptr 0 0] [],.fn (.func 133) [.ptr 0 0] [],.fn (.func 134) [.ptr 0 0] [],.fn (.func 135) [.ptr 0 0] [],.fn (.func 136) [.ptr 0 0] [],.fn (.func 137) [.ptr 0 0] [],.fn (.func 138) [.ptr 0 0] []]]) rfl ?_
 refine z1 ?_
 refine zD 1 (.s [91,67,72,65,82,93]) ?_
 refine zy2 ?_
 refine zD 1 (.s [76,73,84,69,82,65,76]) ?_
 refine zy2 ?_
 refine zD 1 (.s [80,79,83,84,80,79,78,69]) ?_
 refine zy2 ?_
 refine zD 1 (.s [82,69,67,85,82,83,69]) ?_
 refine zy2 ?_
 refine zD 1 (.s [69,88,73,84]) ?_
 refine zy2 ?_
 refine zD 1 (.s [68,79,69,83,62]) ?_
 refine z1 ?_
 refine jx (H':=[.cells (aQ l) 89,.smap [.s [58],.s [79,78,58],.s [59],.s [67,82,69,65,84,69],.s [86,65,82,73,65,66,76,69],.s [67,79,78,83,84,65,78,84],.s [77,65,67,72,73,78,69],.s [73,77,77,69,68,73,65,84,69],.s [70,79,82,71,69,84],.s [39],.s [91,39,93],.s [67,72,65,82],.s [91,67,72,65,82,93],.s [76,73,84,69,82,65,76],.s [80,79,83,84,80,79,78,69],.s [82,69,67,85,82,83,69],.s [69,88,73,84],.s [68,79,69,83,62]] [.fn (.func 128) [.ptr 0 0] [],.fn (.func 129) [.ptr 0 0] [],.fn (.func 130) [.ptr 0 0] [],.fn (.func 114) [.ptr 0 0] [],.fn (.func 131) [.ptr 0 0] [],.fn (.func 132) [.ptr 0 0] [],.fn (.func 133) [.ptr 0 0] [],.fn (.func 134) [.ptr 0 0] [],.fn (.func 135) [.ptr 0 0] [],.fn (.func 136) [.ptr 0 0] [],.fn (.func 137) [.ptr 0 0] [],.fn (.func 138) [.ptr 0 0] [],.fn (.func 139) [.ptr 0 0] [],.fn (.func 140) [.ptr 0 0] [],.fn (.func 141) [.ptr 0 0] [],.fn (.func 142) [.ptr 0 0] [],.fn (.func 143) [.ptr 0 0] [],.fn (.func 144) [.ptr 0 0] []]]) rfl ?_
 refine z1 ?_
 refine zD 1 (.s [83,34]) ?_
 refine zy2 ?_
 refine zD 1 (.s [46,34]) ?_
 refine zy2 ?_
 refine zD 1 (.s [40]) ?_
 refine zy2 ?_
 refine zD 1 (.s [92]) ?_
 refine zy2 ?_
 refine zD 1 (.s [91]) ?_
 refine zy2 ?_
 refine zD 1 (.s [93]) ?_
 refine z1 ?_
 refine jx (H':=[.cells (aQ l) 89,.smap OP QY]) rfl ?_
 refine ey 52 1 rfl rfl rfl ?_
 refine zs1 ?_
 refine Wq<|Af rfl ?_ ?_
 ·rfl
 rfl
def aB3(f:FuncId)(g:ai->ai):Prop:=∀l:ai,LK 300 l->∀(H:List Ob) (i:Nat),H[i]?=some (.cells (aQ l) 89)->nX prog f [.ptr i 0] H (.tup []) (H.set i (.cells (aQ (g l)) 89))
theorem Qx(name:Str):(∃f g,gN OP QY (.s name) (.val .nilFunc)=(.fn (.func f) [.ptr 0 0] [],true)/\spF name=some g/\aB3 f g)\/(gN OP QY (.s name) (.val .nilFunc)=(.val .nilFunc,false)/\spF name=none):=by
 by_cases c0:name=[58]
 ·subst c0;exact .inl ⟨128,_,rfl,rfl,fun l h H i hi=>⟨⟨_,func128,rfl,rfl⟩,SH l (h.down (by omega)) H i hi⟩⟩
 by_cases c1:name=[79,78,58]
 ·subst c1;exact .inl ⟨129,_,rfl,rfl,fun l h H i hi=>⟨⟨_,func129,rfl,rfl⟩,am8 l (h.down (by omega)) (Fb (h.down (by omega))) H i hi⟩⟩
 by_cases c2:name=[59]
 ·subst c2;exact .inl ⟨130,_,rfl,rfl,fun l h H i hi=>⟨⟨_,func130,rfl,rfl⟩,Un l (h.down (by omega)) H i hi⟩⟩
 by_cases c3:name=[67,82,69,65,84,69]
 ·subst c3;exact .inl ⟨114,_,rfl,rfl,fun l h H i hi=>⟨⟨_,func114,rfl,rfl⟩,Cw l h.s (h.f.down (by omega)) H i hi⟩⟩
 by_cases c4:name=[86,65,82,73,65,66,76,69]
 ·subst c4;exact .inl ⟨131,_,rfl,rfl,fun l h H i hi=>⟨⟨_,func131,rfl,rfl⟩,FC l h.s (h.f.down (by omega)) H i hi⟩⟩
 by_cases c5:name=[67,79,78,83,84,65,78,84]
 ·subst c5;exact .inl ⟨132,_,rfl,rfl,fun l h H i hi=>⟨⟨_,func132,rfl,rfl⟩,Gq l (h.down (by omega)) (Fb (h.down (by omega))) H i hi⟩⟩
 by_cases c6:name=[77,65,67,72,73,78,69]
 ·subst c6;exact .inl ⟨133,_,rfl,rfl,fun l h H i hi=>⟨⟨_,func133,rfl,rfl⟩,NF l (h.down (by omega)) (Fb (h.down (by omega))) H i hi⟩⟩
 by_cases c7:name=[73,77,77,69,68,73,65,84,69]
 ·subst c7;exact .inl ⟨134,_,rfl,rfl,fun l h H i hi=>⟨⟨_,func134,rfl,rfl⟩,En l (h.down (by omega)) H i hi⟩⟩
 by_cases c8:name=[70,79,82,71,69,84]
 ·subst c8;exact .inl ⟨135,_,rfl,rfl,fun l h H i hi=>⟨⟨_,func135,rfl,rfl⟩,MW l h.s (h.f.down (by omega)) H i hi⟩⟩
 by_cases c9:name=[39]
 ·subst c9;exact .inl ⟨136,_,rfl,rfl,fun l h H i hi=>⟨⟨_,func136,rfl,rfl⟩,Xx l (h.down (by omega)) H i hi⟩⟩
 by_cases c10:name=[91,39,93]
 ·subst c10;exact .inl ⟨137,_,rfl,rfl,fun l h H i hi=>⟨⟨_,func137,rfl,rfl⟩,NU l (h.down (by omega)) H i hi⟩⟩
 by_cases c11:name=[67,72,65,82]
 ·subst c11;exact .inl ⟨138,_,rfl,rfl,fun l h H i hi=>⟨⟨_,func138,rfl,rfl⟩,XD l (h.down (by omega)) H i hi⟩⟩
 by_cases c12:name=[91,67,72,65,82,93]
 ·subst c12;exact .inl ⟨139,_,rfl,rfl,fun l h H i hi=>⟨⟨_,func139,rfl,rfl⟩,NM l (h.down (by omega)) H i hi⟩⟩
 by_cases c13:name=[76,73,84,69,82,65,76]
 ·subst c13;exact .inl ⟨140,_,rfl,rfl,fun l h H i hi=>⟨⟨_,func140,rfl,rfl⟩,JF l (h.down (by omega)) (Fb (h.down (by omega))) H i hi⟩⟩
 by_cases c14:name=[80,79,83,84,80,79,78,69]
 ·subst c14;exact .inl ⟨141,_,rfl,rfl,fun l h H i hi=>⟨⟨_,func141,rfl,rfl⟩,Gk l (h.down (by omega)) H i hi⟩⟩
 by_cases c15:name=[82,69,67,85,82,83,69]
 ·subst c15;exact .inl ⟨142,_,rfl,rfl,fun l h H i hi=>⟨⟨_,func142,rfl,rfl⟩,Jv l (h.down (by omega)) H i hi⟩⟩
 by_cases c16:name=[69,88,73,84]
 ·subst c16;exact .inl ⟨143,_,rfl,rfl,fun l h H i hi=>⟨⟨_,func143,rfl,rfl⟩,Wg l (h.down (by omega)) H i hi⟩⟩
 by_cases c17:name=[68,79,69,83,62]
 ·subst c17;exact .inl ⟨144,_,rfl,rfl,fun l h H i hi=>⟨⟨_,func144,rfl,rfl⟩,Wz l (h.down (by omega)) H i hi⟩⟩
 by_cases c18:name=[83,34]
 ·subst c18;exact .inl ⟨145,_,rfl,rfl,fun l h H i hi=>⟨⟨_,func145,rfl,rfl⟩,LM l (h.down (by omega)) H i hi⟩⟩
 by_cases c19:name=[46,34]
 ·subst c19;exact .inl ⟨146,_,rfl,rfl,fun l h H i hi=>⟨⟨_,func146,rfl,rfl⟩,Qw l (h.down (by omega)) H i hi⟩⟩
 by_cases c20:name=[40]
 ·subst c20;exact .inl ⟨147,_,rfl,rfl,fun l h H i hi=>⟨⟨_,func147,rfl,rfl⟩,Iq l h.s H i hi⟩⟩
 by_cases c21:name=[92]
 ·subst c21;exact .inl ⟨148,_,rfl,rfl,fun l h H i hi=>⟨⟨_,func148,rfl,rfl⟩,WW l H i hi⟩⟩
 by_cases c22:name=[91]
 ·subst c22;exact .inl ⟨149,_,rfl,rfl,fun l h H i hi=>⟨⟨_,func149,rfl,rfl⟩,VH l (h.down (by omega)) H i hi⟩⟩
 by_cases c23:name=[93]
 ·subst c23;exact .inl ⟨150,_,rfl,rfl,fun l h H i hi=>⟨⟨_,func150,rfl,rfl⟩,S1 l (h.down (by omega)) H i hi⟩⟩
 refine .inr ⟨?_,?_⟩
 ·unfold OP QY
  rw[iF,if_neg c0,iF,if_neg c1,iF,if_neg c2,iF,if_neg c3,iF,if_neg c4,iF,if_neg c5,iF,if_neg c6,iF,if_neg c7,iF,if_neg c8,iF,if_neg c9,iF,if_neg c10,iF,if_neg c11,iF,if_neg c12,iF,if_neg c13,iF,if_neg c14,iF,if_neg c15,iF,if_neg c16,iF,if_neg c17,iF,if_neg c18,iF,if_neg c19,iF,if_neg c20,iF,if_neg c21,iF,if_neg c22,iF,if_neg c23,SI]
 unfold spF
 rw[if_neg c0,if_neg c1,if_neg c2,if_neg c3,if_neg c4,if_neg c5,if_neg c6,if_neg c7,if_neg c8,if_neg c9,if_neg c10,if_neg c11,if_neg c12,if_neg c13,if_neg c14,if_neg c15,if_neg c16,if_neg c17,if_neg c18,if_neg c19,if_neg c20,if_neg c21,if_neg c22,if_neg c23]
def rH(l:ai)(name:Str):ai:=match spF name with
 | none=>ma l name
 | some g=>g l
theorem X7{l:ai}{name:Str}(h:spF name=none):rH l name=ma l name:=by unfold rH;rw[h]
theorem EL{l:ai}{name:Str}{g:ai->ai}(h:spF name=some g):rH l name=g l:=by unfold rH;rw[h]
theorem lE(l:ai)(name:Str)(h:LK 300 l):∀(H:List Ob) (i:Nat),H[i]?=some (.cells (aQ l) 89)->HC prog 70 (.ptr i 0::[str name]) H (.tup []) (H.set i (.cells (aQ (rH l name)) 89)):=by
 have hT:=Qx name
 refine zM func70 fun B=>?_
 refine Ws<|zp1 ?_
 refine zc rfl func100 (Po l) ?_
 refine z1 ?_
 rcases hT with ⟨f,g,hlk,hon,hc⟩|⟨hlk,hno⟩
 ·refine Wd rfl rfl (ba (b:=true) (e:=1) (key:=.s name) (by kernel_rfl) (lO tG rfl) (by kernel_rfl) rfl rfl rfl rfl (by kernel_rfl) (hlk)) ?_
  refine zs5 ?_
  refine zu1 ?_
  refine Wt rfl (by rfl) ?_
  refine zp1 ?_
  refine Wc rfl rfl (eO rfl rfl (hc l h _ 0 rfl)) ?_
  refine Wn<|Wq<|aN rfl rfl ?_ ?_
  ·rfl
  (rw[EL hon];rfl)
 refine Wd rfl rfl (ba (b:=true) (e:=1) (key:=.s name) (by kernel_rfl) (lO tG rfl) (by kernel_rfl) rfl rfl rfl rfl (by kernel_rfl) (hlk)) ?_
 refine zs5 ?_
 refine zu1 ?_
 refine Wf rfl (by rfl) ?_
 refine Wj<|aa rfl ?_
 refine zy2 ?_
 refine zc rfl func101 ((Jo l name (h.down (by omega))) _ _ rfl) ?_
 refine Wn<|aU rfl rfl ?_ ?_
 ·rfl
 (rw[X7 hno];rfl)
structure OkF (N:Nat) (f:af):Prop where
 g:bb N f.vm
 cfl:f.comp.cf.length<=32
 cf:∀c∈f.comp.cf,wW c
 dict:f.comp.xt≠0->0<=f.comp.dict/\f.comp.dict<f.vm.dict.length
 here:f.comp.xt≠0->1368<=f.comp.here/\f.comp.here<=f.vm.conf.mem
 la:ae f.comp.last
 fu:f.comp.on=true->0<=f.comp.fuel
 xts:DX f.vm.dict
theorem OkF.up{N M:Nat}{f:af}(h:OkF N f)(hM:N<=M):OkF M f:=⟨h.g.up hM,h.cfl,h.cf,h.dict,h.here,h.la,h.fu,h.xts⟩
theorem tz{l:List aR}(h:ig l=true):jX l:=by
 unfold ig at h
 simp only[Bool.and_eq_true,decide_eq_true_eq]at h
 refine⟨by omega,fun x hx=>?_⟩
 have q:=List.all_eq_true.1 h.1 x hx
 unfold AY at q
 simp only[decide_eq_true_eq]at q
 refine⟨?_,q.2.1,q.2.2⟩
 have q1:=q.1
 unfold eW at q1
 split at q1
 ·cases q1
 split at q1
 ·cases q1
 omega
theorem OkF.fk{N k:Nat}{f:af}(h:OkF N f)(hk:N+k<=1000000):FK k f:=by
 have R:=h.g.right
 have hc:=R.gd
 unfold d9 at hc
 have h1:=R.len
 have h2:=R.jG
 have h3:=R.jK
 have h4:=h.g.old
 have h5:=R.handl
 have h6:=R.dict
 have h7:f.vm.dict.length<=1024:=by
  unfold ig at h6
  simp only[Bool.and_eq_true,decide_eq_true_eq]at h6
  exact h6.2
 exact⟨by omega,by omega,h2,by omega,by omega,tz h6,by omega⟩
theorem TT{N j:Nat}{v:VVm}(g:bb N v){m:bj}{here:Int}(k:dH v.mem m j)(h0:1368<=here)(h1:here<=m.b.length):bb (N+j) {v with mem:=m,here:=here}:=by
 have R:=g.right
 have l:=R.len
 refine⟨⟨R.gd,k.right R.mem,R.dict,R.pic,?_,h0,?_,R.f,R.hand,R.d,R.r,R.fl,R.dl,R.out,R.req,R.free0,R.free1,R.next0,R.next1,R.handl⟩,?_,g.fd,g.fr,g.ff,g.ints,g.la⟩
 ·show(m.b.length:Int)=v.conf.mem;rw[k.len];exact l
 ·show here<=v.conf.mem;have:=k.len;omega
 show m.old.length<=N+j;have:=k.old;have:=g.old;omega
theorem D3{N:Nat}{v:VVm}(g:bb N v){d:List aR}(h:ig d=true)(hl:(d.length:Int)<=v.conf.words):bb N {v with dict:=d}:=by
 have R:=g.right
 exact⟨⟨R.gd,R.mem,h,R.pic,R.len,R.jG,R.jK,R.f,R.hand,R.d,R.r,R.fl,hl,R.out,R.req,R.free0,R.free1,R.next0,R.next1,R.handl⟩,g.old,g.fd,g.fr,g.ff,g.ints,g.la⟩
theorem yr{N:Nat}{v:VVm}(g:bb N v){n:Int}(h:ae n):bb N {v with last:=n}:=by
 have R:=g.right
 exact⟨⟨R.gd,R.mem,R.dict,R.pic,R.len,R.jG,R.jK,R.f,R.hand,R.d,R.r,R.fl,R.dl,R.out,R.req,R.free0,R.free1,R.next0,R.next1,R.handl⟩,g.old,g.fd,g.fr,g.ff,g.ints,h⟩
theorem Dq{N:Nat}{v:VVm}(g:bb N v){m:bj}(k:dH v.mem m 1):bb (N+1) {v with mem:=m}:=PY g k
theorem LZ{N:Nat}{v:VVm}(g:bb N v):1368<=v.here/\v.here<=v.mem.b.length:=by
 have R:=g.right
 have h1:=R.len
 have h2:=R.jG
 have h3:=R.jK
 omega
theorem IQ{N:Nat}{v:VVm}(g:bb N v)(n:Int):bb (N+1) (qX v n).1:=by
 have b:=LZ g
 have q:=sI v.mem v.here n
 have p:=uF (m:=v.mem) n b.1 b.2
 exact TT g q p.1 (by rw[q.len];exact p.2)
theorem KJ{N:Nat}{w:FW}(g:bb N w.f.vm)(n:Int):bb (N+1) (cd w n).f.vm:=by
 unfold cd;split
 ·exact IQ g n
 exact g.up (by omega)
theorem Ie:∀(l:List Int) (N:Nat) (w:FW),bb N w.f.vm->bb (N+l.length) (l.foldl cd w).f.vm
 | [],_,_,h=>h
 | x::l,N,w,h=>by
  have:=Ie l (N+1) _ (KJ h x)
  rw[List.foldl_cons,List.length_cons,show N+(l.length+1)=N+1+l.length by omega];exact this
theorem mM(w:FW)(e:Int):(okF w e).f=w.f:=by unfold okF;split<;>rfl
theorem zV{N:Nat}{w:FW}(g:bb N w.f.vm)(n:Int):bb (N+1) (dR w n).f.vm:=by
 unfold dR;rw[mM]
 exact Dq g (cM _ _ _)
theorem Mr{l:List aR}(h:ig l=true)(name:Str)(xt:Int){flags limit:Int}(h0:0<=flags)(h7:flags<=7)(hl:(l.length:Int)<=limit):ig (cz l name xt flags limit).1=true/\((cz l name xt flags limit).1.length:Int)<=limit:=by
 unfold cz
 by_cases q1:eW name≠0
 ·rw[if_pos q1];exact⟨h,hl⟩
 rw[if_neg q1]
 by_cases q2:(if 1024<limit then 1024 else limit)<=(l.length:Int)
 ·rw[if_pos q2];exact⟨h,hl⟩
 rw[if_neg q2]
 have hl2:(l.length:Int)<1024/\(l.length:Int)<limit:=by split at q2<;>omega
 unfold ig at h ⊢
 simp only[Bool.and_eq_true,decide_eq_true_eq]at h
 refine⟨?_,by show((l++[_]).length:Int)<=limit;rw[List.length_append,List.length_singleton];omega⟩
 simp only[List.all_append,List.all_cons,List.all_nil,Bool.and_true,Bool.and_eq_true,decide_eq_true_eq,List.length_append,List.length_singleton]
 exact⟨⟨h.1,by unfold AY;simp only[decide_eq_true_eq];exact⟨Decidable.not_not.1 q1,h0,h7⟩⟩,by omega⟩
theorem Tc{N:Nat}{w:FW}(g:bb N w.f.vm)(name:Str){flags:Int}(h0:0<=flags)(h7:flags<=7):bb (N+1) (fg w (aM w.f.vm.mem w.f.vm.here) (cz w.f.vm.dict name (aM w.f.vm.mem w.f.vm.here).2.1 flags w.f.vm.conf.words)).f.vm:=by
 have b:=LZ g
 unfold fg
 split
 ·unfold FW.placed
  rw[mM,mM]
  have q:dH w.f.vm.mem (aM w.f.vm.mem w.f.vm.here).1 1:=gS _
  have p:1368<=(aM w.f.vm.mem w.f.vm.here).2.1/\(aM w.f.vm.mem w.f.vm.here).2.1<=w.f.vm.mem.b.length:=iu _ b.1 b.2
  have d:=Mr g.right.dict name (aM w.f.vm.mem w.f.vm.here).2.1 (limit:=w.f.vm.conf.words) h0 h7 g.right.dl
  exact D3 (TT g q p.1 (by rw[q.len];exact p.2)) d.1 d.2
 rw[mM,mM];exact g.up (by omega)
theorem D8{N:Nat}{w:FW}(g:bb N w.f.vm)(name:Str){flags:Int}{l:List Int}(h0:0<=flags)(h7:flags<=7):bb (N+1+l.length) (ea w name flags l).1.f.vm:=Ie l (N+1) _ (Tc g name h0 h7)
theorem xf{N:Nat}{v:VVm}(g:bb N v):ae (aM v.mem v.here).2.1:=by
 have b:=LZ g
 have p:1368<=(aM v.mem v.here).2.1/\(aM v.mem v.here).2.1<=v.mem.b.length:=iu _ b.1 b.2
 have R:=g.right
 have hc:=R.gd
 unfold d9 at hc
 have h1:=R.len
 unfold ae;omega
theorem NW(w:FW)(name:Str)(flags:Int)(l:List Int):(ea w name flags l).1.f.comp=w.f.comp:=by
 have h:∀(l:List Int) (w:FW),(l.foldl cd w).f.comp=w.f.comp:=by
  intro l
  induction l with
  | nil=>intro w;rfl
  | cons x l ih=>intro w;rw[List.foldl_cons,ih];unfold cd;split<;>rfl
 unfold ea
 rw[h]
 unfold fg
 split
 ·unfold FW.placed;rw[mM,mM]
 rw[mM,mM]
theorem JL(w:FW)(n:Int):(cd w n).f.vm.conf=w.f.vm.conf/\(cd w n).f.vm.dict=w.f.vm.dict/\(cd w n).f.vm.hand=w.f.vm.hand/\((cd w n).bad=0->w.bad=0):=by
 unfold cd;split
 ·rename_i q;exact⟨rfl,rfl,rfl,fun _=>q⟩
 exact⟨rfl,rfl,rfl,id⟩
theorem Dt:∀(l:List Int) (w:FW),(l.foldl cd w).f.vm.conf=w.f.vm.conf/\(l.foldl cd w).f.vm.dict=w.f.vm.dict/\(l.foldl cd w).f.vm.hand=w.f.vm.hand/\((l.foldl cd w).bad=0->w.bad=0)
 | [],w=>⟨rfl,rfl,rfl,id⟩
 | x::l,w=>by
  have a:=Dt l (cd w x)
  have b:=JL w x
  rw[List.foldl_cons]
  exact⟨a.1.trans b.1,a.2.1.trans b.2.1,a.2.2.1.trans b.2.2.1,fun q=>b.2.2.2 (a.2.2.2 q)⟩
theorem vb{w:FW}{e:Int}(h:(okF w e).bad=0):w.bad=0/\e=0:=by
 unfold okF at h
 split at h
 ·rename_i q;exact⟨q,h⟩
 rename_i q;exact absurd h q
theorem Uu(l:List aR)(name:Str)(xt flags limit:Int):((cz l name xt flags limit).2=0->(cz l name xt flags limit).1.length=l.length+1)/\l.length<=(cz l name xt flags limit).1.length:=by
 unfold cz
 by_cases q1:eW name≠0
 ·rw[if_pos q1];exact⟨fun z=>absurd z q1,Nat.le_refl _⟩
 rw[if_neg q1]
 by_cases q2:(if 1024<limit then 1024 else limit)<=(l.length:Int)
 ·rw[if_pos q2];exact⟨fun z=>absurd z (by show ¬((-8:Int)=0);decide),Nat.le_refl _⟩
 rw[if_neg q2]
 dsimp only
 rw[List.length_append,List.length_singleton]
 exact⟨fun _=>rfl,by omega⟩
theorem Ls(w:FW)(a:bj×Int×Int)(d:List aR×Int):(fg w a d).f.vm.conf=w.f.vm.conf/\(fg w a d).f.vm.hand=w.f.vm.hand/\((fg w a d).bad=0->(fg w a d).f.vm.dict=d.1/\d.2=0)/\((fg w a d).f.vm.dict=d.1\/(fg w a d).f.vm.dict=w.f.vm.dict):=by
 unfold fg
 split
 ·rename_i q
  unfold FW.placed
  rw[mM,mM]
  exact⟨rfl,rfl,fun _=>⟨rfl,(vb q).2⟩,.inl rfl⟩
 rename_i q
 rw[mM,mM]
 exact⟨rfl,rfl,fun z=>absurd z q,.inr rfl⟩
theorem Qj(w:FW)(name:Str)(flags:Int)(l:List Int):(ea w name flags l).1.f.vm.conf=w.f.vm.conf/\(ea w name flags l).1.f.vm.hand=w.f.vm.hand/\((ea w name flags l).1.bad=0->(ea w name flags l).1.f.vm.dict.length=w.f.vm.dict.length+1)/\w.f.vm.dict.length<=(ea w name flags l).1.f.vm.dict.length:=by
 have a:=Dt l (fg w (aM w.f.vm.mem w.f.vm.here) (cz w.f.vm.dict name (aM w.f.vm.mem w.f.vm.here).2.1 flags w.f.vm.conf.words))
 have b:=Ls w (aM w.f.vm.mem w.f.vm.here) (cz w.f.vm.dict name (aM w.f.vm.mem w.f.vm.here).2.1 flags w.f.vm.conf.words)
 have c:=Uu w.f.vm.dict name (aM w.f.vm.mem w.f.vm.here).2.1 flags w.f.vm.conf.words
 unfold ea
 refine⟨a.1.trans b.1,a.2.2.1.trans b.2.1,fun q=>?_,?_⟩
 ·have:=b.2.2.1 (a.2.2.2 q)
  dsimp only
  rw[a.2.1,this.1];exact c.1 this.2
 dsimp only
 rw[a.2.1]
 rcases b.2.2.2 with e|e
 ·rw[e];exact c.2
 rw[e];exact Nat.le_refl _
theorem ac3{l:List aR}(h:DX l)(name:Str){xt:Int}(flags limit:Int)(hx:ae xt):DX (cz l name xt flags limit).1:=by
 unfold cz
 by_cases q1:eW name≠0
 ·rw[if_pos q1];exact h
 rw[if_neg q1]
 by_cases q2:(if 1024<limit then 1024 else limit)<=(l.length:Int)
 ·rw[if_pos q2];exact h
 rw[if_neg q2]
 intro x hx'
 rcases List.mem_append.1 hx' with q|q
 ·exact h x q
 rw[List.mem_singleton.1 q];exact hx
theorem Dz{N:Nat}{w:FW}(g:bb N w.f.vm)(h:DX w.f.vm.dict)(name:Str)(flags:Int)(l:List Int):DX (ea w name flags l).1.f.vm.dict:=by
 have a:=Dt l (fg w (aM w.f.vm.mem w.f.vm.here) (cz w.f.vm.dict name (aM w.f.vm.mem w.f.vm.here).2.1 flags w.f.vm.conf.words))
 have b:=Ls w (aM w.f.vm.mem w.f.vm.here) (cz w.f.vm.dict name (aM w.f.vm.mem w.f.vm.here).2.1 flags w.f.vm.conf.words)
 unfold ea
 dsimp only
 rw[a.2.1]
 rcases b.2.2.2 with e|e
 ·rw[e];exact ac3 h name flags _ (xf g)
 rw[e];exact h
theorem oK{N:Nat}{f:af}(h:OkF N f)(name:Str)(last:Bool)(l:List Int):OkF (N+1+l.length) (cI f name last l).1:=by
 unfold cI
 split
 ·exact h.up (by omega)
 rename_i q
 unfold gz
 split
 ·exact h.up (by omega)
 have g:=D8 (l:=l) (w:=aJ f) h.g name (flags:=0) (by decide) (by decide)
 have c:=NW (aJ f) name 0 l
 have hx:f.comp.xt=0:=Decidable.not_not.1 q
 have go:bb (N+1+l.length) (i4 (ea (aJ f) name 0 l) last).f.vm:=by
  unfold i4;split
  ·exact yr g (xf h.g)
  exact g
 have dd:DX (i4 (ea (aJ f) name 0 l) last).f.vm.dict:=by
  have q:=Dz (w:=aJ f) h.g h.xts name 0 l
  unfold i4;split<;>exact q
 have cc:(i4 (ea (aJ f) name 0 l) last).f.comp=f.comp:=by unfold i4;split<;>exact c
 exact⟨go,by show(i4 _ _).f.comp.cf.length<=32;rw[cc];exact h.cfl,by show ∀c∈(i4 _ _).f.comp.cf,_;rw[cc];exact h.cf,by show(i4 _ _).f.comp.xt≠0->_;rw[cc];exact fun z=>absurd hx z,by show(i4 _ _).f.comp.xt≠0->_;rw[cc];exact fun z=>absurd hx z,by show ae (i4 _ _).f.comp.last;rw[cc];exact h.la,by show(i4 _ _).f.comp.on=true->0<=(i4 _ _).f.comp.fuel;rw[cc];exact h.fu,dd⟩
structure KV (v w:VVm):Prop where
 conf:w.conf=v.conf
 dict:w.dict=v.dict
 hand:w.hand=v.hand
theorem KV.rf(v:VVm):KV v v:=⟨rfl,rfl,rfl⟩
theorem KV.tr{a b c:VVm}(h:KV a b)(g:KV b c):KV a c:=⟨g.conf.trans h.conf,g.dict.trans h.dict,g.hand.trans h.hand⟩
theorem fT{c:Prop}[Decidable c]{v:VVm}{a b:VWk}(h1:KV v a.v)(h2:KV v b.v):KV v (if c then a else b).v:=by
 by_cases hc:c
 ·rw[if_pos hc];exact h1
 rw[if_neg hc];exact h2
section
variable (k : VWk)
theorem lR(e:Int):KV k.v (cH k e).v:=fT (.rf _) (.rf _)
theorem kG(n:Int):KV k.v (jw k n).v:=⟨rfl,rfl,rfl⟩
theorem rl:KV k.v (fS k).1.v:=⟨rfl,rfl,rfl⟩
theorem jN(n:Int):KV k.v (dY k n).v:=by show KV k.v (gm k.v n).1;unfold gm;split<;>exact⟨rfl,rfl,rfl⟩
theorem mZ:KV k.v (g9 k).1.v:=by show KV k.v (eU k.v).2.1;unfold eU;split<;>exact⟨rfl,rfl,rfl⟩
theorem mn(a:Int):KV k.v (bq k a).1.v:=lR _ _
theorem Ij(a n:Int):KV k.v (mD k a n).v:=⟨rfl,rfl,rfl⟩
theorem Aw(n:Int):KV k.v (kD k n).1.v:=by unfold kD;split;exact lR _ _;exact .rf _
theorem Lv:KV k.v (dTo k).v:=mn _ _
theorem D1:KV k.v (ww k).1.v:=(rl k).tr (rl _)
theorem LJ(n:Int):KV k.v (zw k n).v:=by
 unfold zw
 dsimp only
 have h1:KV k.v (kD (kD k 1).1 0).1.v:=(Aw k 1).tr (Aw _ 0)
 refine fT h1 ?_
 have h2:=h1.tr (mZ _)
 exact fT (h2.tr (mZ _)) ((h2.tr (jN _ _)).tr (Lv _))
theorem Oj:KV k.v (vh k).v:=by
 unfold vh
 exact fT (lR _ _) ⟨rfl,rfl,rfl⟩
theorem U0:KV k.v (CR k).v:=by
 unfold CR
 dsimp only
 exact fT (lR _ _) (((Ij _ _ _).tr (Ij _ _ _)).tr (mZ _))
theorem ZS:KV k.v (V6 k).v:=by
 unfold V6
 dsimp only
 exact((KV.tr (mn k _) (fT (.rf _) (lR _ _))).tr (kG _ _)).tr (kG _ _)
theorem mH{c:Prop}[Decidable c]{v:VVm}{a b:VWk×Bool}(h1:KV v a.1.v)(h2:KV v b.1.v):KV v (if c then a else b).1.v:=by
 by_cases hc:c
 ·rw[if_pos hc];exact h1
 rw[if_neg hc];exact h2
theorem KL(name:Str):KV k.v (sM k name).1.v:=by
 unfold sM
 dsimp only
 refine mH (mZ k) (mH ((mn k _).tr (kG _ _)) (mH (Lv k) (mH ?_ (mH ?_ (mH ?_ (mH (LJ k 1) (mH ((rl k).tr (LJ _ _)) (mH (.rf _) (mH (Oj k) (mH (U0 k) (mH (ZS k) (.rf _))))))))))))
 ·exact fT ((rl k).tr (Lv _)) (rl k)
 ·exact((D1 k).tr (jN _ _)).tr (jN _ _)
 exact fT ((D1 k).tr (Lv _)) (((D1 k).tr (jN _ _)).tr (jN _ _))
theorem OK:KV k.v (A9 k).v:=by
 unfold A9
 dsimp only
 have h:KV k.v (if 64<=((fS k).1.v.f.length:Int)then cH (fS k).1 (-5)else(fS k).1).v:=(rl k).tr (fT (lR _ _) (.rf _))
 exact h.tr ⟨rfl,rfl,rfl⟩
theorem Uc(name:Str):KV k.v (F9 k name).v:=by
 unfold F9
 dsimp only
 refine fT (rl k) (fT (OK k) (fT ((rl k).tr (lR _ _)) (fT ((Aw k 0).tr (kG _ _)) (fT ((Aw k 2).tr (kG _ _)) (fT ?_ (fT ((rl k).tr (jN _ _)) (fT ((mZ k).tr (kG _ _)) (fT ?_ (fT ?_ (.rf _))))))))))
 ·exact((Aw k 1).tr (mZ _)).tr (mZ _)
 ·exact((D1 k).tr (jN _ _)).tr (jN _ _)
 exact(((mZ k).tr (mZ _)).tr (kG _ _)).tr (kG _ _)
theorem Kg(xt:Int):KV k.v (pw k xt).v:=by
 unfold pw
 dsimp only
 have h:∀c:Prop,[Decidable c]->∀a b:Int,KV k.v (bq (if c then cH (bq (bq k (W64 (xt+16))).1 a).1 (-24)else(bq (bq k (W64 (xt+16))).1 a).1) b).1.v:=fun c _ a b =>
  (((mn k _).tr (mn _ _)).tr (fT (lR _ _) (.rf _))).tr (mn _ _)
 exact fT (h _ _ _) (h _ _ _)
theorem ax0{v:VVm}{n:Int}{N:Nat}(g:vD N v):KV v (doS v n).1:=by
 have s:=HO (n:=n) g
 unfold CU at s
 exact⟨by have q:=congrArg VVm.conf s;exact q,by have q:=congrArg VVm.dict s;exact q,by have q:=congrArg VVm.hand s;exact q⟩
theorem Ur(xt:Int){N:Nat}(g:vD N k.v):KV k.v (rF k xt).v:=by
 unfold rF
 dsimp only
 refine fT (lR _ _) (fT (lR _ _) (fT (jN _ _) (fT (kG _ _) (fT ((mn _ _).tr (kG _ _)) (fT (((mn _ _).tr (kG _ _)).tr (jN _ _)) (fT (Kg k xt) (fT (ax0 g) (fT (KL _ _) ((KL _ _).tr (Uc _ _))))))))))
end
theorem zr(a:bH)(bad:Int):KV a.vm (cp a bad).1.vm:=by unfold cp;split<;>exact⟨rfl,rfl,rfl⟩
theorem UC{r:bH}{N:Nat}(g:gA N r):KV r.vm (bR r).1.vm:=by
 have gv:=g.m.v
 unfold bR
 dsimp only
 by_cases h:r.fuel<1
 ·rw[if_pos h];exact .rf _
 rw[if_neg h]
 have hq:∀q:VWk×Int,q.1.v=r.vm->KV r.vm (if q.1.bad=0 then rF q.1 q.2 else q.1).v:=fun q e=>by
  refine fT ?_ (by rw[e];exact .rf _)
  have:=Ur q.1 q.2 (N:=N) (by rw[e];exact gv)
  rw[e]at this;exact this
 have e0:(if r.dof=true then((⟨r.vm,r.ip,0,false,false,0⟩:VWk),r.w)else(if (bq ⟨r.vm,r.ip,0,false,false,0⟩ r.ip).1.bad=0 then jH (bq ⟨r.vm,r.ip,0,false,false,0⟩ r.ip).1 else(bq ⟨r.vm,r.ip,0,false,false,0⟩ r.ip).1,(bq ⟨r.vm,r.ip,0,false,false,0⟩ r.ip).2)).1.v=r.vm:=by
  split
  ·rfl
  dsimp only
  unfold bq cH jH
  dsimp only
  (repeat' split)<;>rfl
 have h1:=hq _ e0
 revert h1
 generalize (if r.dof=true then((⟨r.vm,r.ip,0,false,false,0⟩:VWk),r.w)else(if (bq ⟨r.vm,r.ip,0,false,false,0⟩ r.ip).1.bad=0 then jH (bq ⟨r.vm,r.ip,0,false,false,0⟩ r.ip).1 else(bq ⟨r.vm,r.ip,0,false,false,0⟩ r.ip).1,(bq ⟨r.vm,r.ip,0,false,false,0⟩ r.ip).2))=q at e0 ⊢
 intro h1
 have ca:∀b:Int,KV r.vm (cp ⟨r.vm,q.1.ip,0,false,W64 (r.fuel-1)⟩ b).1.vm:=fun b=>zr ⟨r.vm,q.1.ip,0,false,W64 (r.fuel-1)⟩ b
 generalize (if q.1.bad=0 then rF q.1 q.2 else q.1)=k at h1 ⊢
 split
 ·exact h1
 exact ca _
open Go.RowKit
structure CG (N:Nat) (v:VVm) (w:CW):Prop where
 g:bb N w.v
 k:KV v w.v
 len:w.l.length<=32
 cf:∀c∈w.l,wW c
section
variable {N : Nat} {v : VVm} {w : CW}
theorem CG.up(h:CG N v w){M:Nat}(hM:N<=M):CG M v w:=⟨h.g.up hM,h.k,h.len,h.cf⟩
theorem CG.fit(h:CG N v w):ae w.v.here:=by
 have R:=h.g.right
 have hc:=R.gd
 unfold d9 at hc
 have h1:=R.jG
 have h2:=R.jK
 unfold ae;omega
theorem E7(h:CG N v w)(e:Int):CG N v (w.fail e):=by
 unfold CW.fail;split
 ·exact⟨h.g,h.k,h.len,h.cf⟩
 exact h
theorem q9(h:CG N v w)(n:Int):CG (N+1) v (iq w n):=by
 unfold iq;split
 ·exact⟨IQ h.g n,h.k.tr ⟨rfl,rfl,rfl⟩,h.len,h.cf⟩
 exact h.up (by omega)
theorem iM(h:CG N v w)(name:Str):CG (N+1) v (cJ w name):=q9 h _
theorem o9(h:CG N v w)(name:Str):CG (N+2) v (gn w name):=q9 (iM h name) 0
theorem yN(h:CG N v w)(a:Int):CG (N+1) v (jz w a):=by
 unfold jz;split
 ·exact⟨Dq h.g (cM _ _ _),h.k.tr ⟨rfl,rfl,rfl⟩,h.len,h.cf⟩
 exact h.up (by omega)
theorem qO(h:CG N v w){c:VCf}(hc:wW c):CG N v (mN w c):=by
 unfold mN;split
 ·exact E7 h _
 rename_i q
 refine⟨h.g,h.k,by simp only[List.length_append,List.length_singleton];omega,fun x hx=>?_⟩
 rcases List.mem_append.1 hx with hx|hx
 ·exact h.cf x hx
 rw[List.mem_singleton.1 hx];exact hc
theorem oc(h:CG N v w)(kind:Int):CG N v (bh w kind).1/\wW (bh w kind).2:=by
 unfold bh;split
 ·exact⟨E7 h _,Q9⟩
 rename_i q
 have hl:w.l.length≠0:=fun z=>q (.inl z)
 refine⟨⟨h.g,h.k,by simp only[List.length_take];have:=h.len;omega,fun x hx=>h.cf x (List.mem_of_mem_take hx)⟩,?_⟩
 show wW (w.l.getD (w.l.length-1) zCf)
 rw[List.getD_eq_getElem?_getD,List.getElem?_eq_getElem (by omega)]
 exact h.cf _ (List.getElem_mem _)
theorem Bc(h:CG N v w)(kind:Int):wW ⟨kind,w.v.here,[]⟩:=⟨h.fit,Nat.zero_le _,fun x hx=>by cases hx⟩
theorem LU:∀(l:List Int) (N:Nat) (w:CW),CG N v w->CG (N+l.length) v (l.foldl jz w)
 | [],_,_,h=>h
 | x::l,N,w,h=>by
  have:=LU l (N+1) _ (yN h x)
  rw[List.foldl_cons,List.length_cons,show N+(l.length+1)=N+1+l.length by omega];exact this
theorem Lp(name:Str)(h:CG N v w):CG (N+2) v (B9 name w):=q9 (iM (oc h 2).1 name) _
theorem Pe(name:Str)(h:CG N v w):CG (N+40) v (Bf name w):=by
 have c:=oc h 3
 have q:=LU (bh w 3).2.leaves _ _ (q9 (iM c.1 name) (bh w 3).2.at_)
 exact q.up (by have:=c.2.len;omega)
theorem T0(h:CG N v w):CG (N+40) v (wO w):=by
 unfold wO
 split
 ·exact(E7 h _).up (by omega)
 rename_i q
 have a:=iM h [85,78,76,79,79,80]
 have b:=o9 a [40,98,114,97,110,99,104,41]
 have rg:=wF w.l w.l.length
 have hn:(lj w.l w.l.length).toNat<w.l.length:=by omega
 have ho:wW (w.l.getD (lj w.l w.l.length).toNat zCf):=by
  rw[List.getD_eq_getElem?_getD,List.getElem?_eq_getElem hn]
  exact h.cf _ (List.getElem_mem _)
 refine⟨b.g.up (by omega),b.k,by show(w.l.set _ _).length<=32;rw[List.length_set];exact h.len,fun x hx=>?_⟩
 rcases List.mem_or_eq_of_mem_set hx with hx|hx
 ·exact h.cf x hx
 subst hx
 refine⟨ho.fit,by simp only[List.length_append,List.length_singleton];omega,fun y hy=>?_⟩
 rcases List.mem_append.1 hy with hy|hy
 ·exact ho.each y hy
 rw[List.mem_singleton.1 hy];exact(iM a [40,98,114,97,110,99,104,41]).fit
theorem aa8(h:CG N v w):CG (N+2) v (TF w):=by
 have b:=o9 h [40,63,100,111,41]
 exact qO b ⟨b.fit,by show(1:Nat)<=32;decide,fun x hx=>by rw[List.mem_singleton.1 hx];exact(iM h [40,63,100,111,41]).fit⟩
theorem am7{name:Str}{g:CW->CW}(hg:brF name=some g)(h:CG N v w):CG (N+40) v (g w):=by
 unfold brF at hg
 rcases ag hg with rfl|hg
 ·exact(qO (o9 h _) (Bc (iM h _) 1)).up (by omega)
 rcases ag hg with rfl|hg
 ·have c:=oc h 1
  exact(qO (yN (o9 c.1 _) _) (Bc (iM c.1 _) 1)).up (by omega)
 rcases ag hg with rfl|hg
 ·exact(yN (oc h 1).1 _).up (by omega)
 rcases ag hg with rfl|hg
 ·exact(qO h (Bc h 2)).up (by omega)
 rcases ag hg with rfl|hg
 ·have c:=oc h 2
  exact(qO (qO (o9 c.1 _) (Bc (iM c.1 _) 1)) c.2).up (by omega)
 rcases ag hg with rfl|hg
 ·have c:=oc h 2
  have o:=oc c.1 1
  exact(yN (q9 (iM o.1 _) _) _).up (by omega)
 rcases ag hg with rfl|hg
 ·exact(Lp _ h).up (by omega)
 rcases ag hg with rfl|hg
 ·exact(Lp _ h).up (by omega)
 rcases ag hg with rfl|hg
 ·exact(qO (iM h _) (Bc (iM h _) 3)).up (by omega)
 rcases ag hg with rfl|hg
 ·exact(aa8 h).up (by omega)
 rcases ag hg with rfl|hg
 ·exact Pe _ h
 rcases ag hg with rfl|hg
 ·exact Pe _ h
 rcases ag hg with rfl|hg
 ·exact T0 h
 cases hg
end
theorem K5{N:Nat}{v:VVm}(g:bb N v):CG N v (kN v):=⟨g,.rf _,Nat.zero_le _,(fun c hc=>by cases hc)⟩
theorem KW{N M:Nat}{v:VVm}{w:CW}(g:bb N v)(h:CG M v w)(hM:N<=M):bb M (zg w v).1/\KV v (zg w v).1:=by
 unfold zg oR
 split
 ·exact⟨g.up hM,.rf _⟩
 exact⟨h.g,h.k⟩
theorem Pz{N:Nat}{v:VVm}(g:bb N v)(n:Int):bb (N+2) (GK v n).1/\KV v (GK v n).1 :=
 KW g (q9 (iM (K5 g) _) n) (by omega)
theorem Va{N:Nat}{v:VVm}{x:CW}(h:CG N v x)(s:Str):CG (N+2) v (wu x s):=by
 unfold wu
 split
 ·unfold C5
  have b:=LZ h.g
  have m1:dH x.v.mem (da x.v.mem x.v.here s).1 1:=gS _
  have p1:=iu (m:=x.v.mem) s b.1 b.2
  split
  ·have m2:dH (da x.v.mem x.v.here s).1 (aM (da x.v.mem x.v.here s).1 (da x.v.mem x.v.here s).2.1).1 1:=gS _
   have p2:1368<=(aM (da x.v.mem x.v.here s).1 (da x.v.mem x.v.here s).2.1).2.1/\(aM (da x.v.mem x.v.here s).1 (da x.v.mem x.v.here s).2.1).2.1<=(da x.v.mem x.v.here s).1.b.length:=iu _ p1.1 (by rw[m1.len];exact p1.2)
   have l1:=m1.len
   have l2:=m2.len
   exact⟨TT h.g (m1.trans m2) p2.1 (by omega),h.k.tr ⟨rfl,rfl,rfl⟩,h.len,h.cf⟩
  exact⟨h.g.up (by omega),h.k,h.len,h.cf⟩
 exact h.up (by omega)
theorem Qu{N:Nat}{v:VVm}(g:bb N v)(s:Str):bb (N+4) (Kl v s).1/\KV v (Kl v s).1 :=
 KW g (Va (q9 (iM (K5 g) _) _) s) (by omega)
theorem OkF.vm{N M:Nat}{f:af}(h:OkF N f){v:VVm}(g:bb M v)(hd:f.vm.dict.length<=v.dict.length)(hc:v.conf=f.vm.conf)(hx:DX v.dict):OkF M {f with vm:=v} :=
 ⟨g,h.cfl,h.cf,fun q=>⟨(h.dict q).1,by have:=(h.dict q).2;show f.comp.dict<(v.dict.length:Int);omega⟩,fun q=>by show _/\_<=v.conf.mem;rw[hc];exact h.here q,h.la,h.fu,hx⟩
theorem OkF.kv{N M:Nat}{f:af}(h:OkF N f){v:VVm}(g:bb M v)(k:KV f.vm v):OkF M {f with vm:=v}:=h.vm g (by rw[k.dict];exact Nat.le_refl _) k.conf (by rw[k.dict];exact h.xts)
theorem Gf{N:Nat}{f:af}(h:OkF N f)(name:Str):OkF (N+40) {f with vm:=(bn f.vm f.comp.cf name).1}/\OkF (N+40) {f with vm:=(bn f.vm f.comp.cf name).1,comp:={f.comp with cf:=(bn f.vm f.comp.cf name).2.1}}:=by
 have up:OkF (N+40) f:=h.up (by omega)
 unfold bn
 cases hb:brF name with
 | none=>exact⟨up,up⟩
 | some g =>
  dsimp only
  split
  ·exact⟨up,up⟩
  unfold oR
  split
  ·exact⟨up,up⟩
  have q:=am7 hb (w:=⟨f.vm,f.comp.cf,0⟩) (v:=f.vm) ⟨h.g,.rf _,h.cfl,h.cf⟩
  have o:=h.kv q.g q.k
  exact⟨o,⟨o.g,q.len,q.cf,o.dict,o.here,o.la,o.fu,o.xts⟩⟩
open Go.RowKit
theorem yv(w:FW)(n:Int):(dR w n).f.vm.conf=w.f.vm.conf/\(dR w n).f.vm.dict=w.f.vm.dict/\(dR w n).f.vm.hand=w.f.vm.hand/\(dR w n).f.comp=w.f.comp/\(dR w n).f.vm.here=w.f.vm.here/\((dR w n).bad=0->w.bad=0):=by
 unfold dR
 rw[mM]
 exact⟨rfl,rfl,rfl,rfl,rfl,fun q=>(vb q).1⟩
theorem Ou{N:Nat}{f:af}(h:OkF N f)(name:Str)(on:Bool)(fuel:Int):OkF (N+3) (gY f name on fuel).1:=by
 unfold gY
 by_cases hB:(fI f on fuel).bad≠0
 ·rw[if_pos hB];exact h.up (by omega)
 rw[if_neg hB]
 have ck:=yU (Decidable.not_not.1 hB)
 rw[ck.2.1]
 obtain⟨fu,hfu⟩:∃fu,(if on=true then fuel else 0)=fu:=⟨_,rfl⟩
 rw[hfu]
 unfold gz
 split
 ·exact h.up (by omega)
 rename_i q
 have q:(dR (ea (aJ f) name 2 [256]).1 (-1)).bad=0:=Decidable.not_not.1 q
 have s:=yv (ea (aJ f) name 2 [256]).1 (-1)
 have w:=Qj (aJ f) name 2 [256]
 have g:=zV (D8 (l:=[256]) (w:=aJ f) h.g name (flags:=2) (by decide) (by decide)) (-1)
 have hd:=w.2.2.1 (s.2.2.2.2.2 q)
 have R:=h.g.right
 refine⟨g,Nat.zero_le _,(fun c hc=>by cases hc),fun _=>⟨Int.natCast_nonneg _,?_⟩,fun _=>⟨R.jG,?_⟩,h.g.la,fun z=>?_,?_⟩
 ·show(f.vm.dict.length:Int)<((dR (ea (aJ f) name 2 [256]).1 (-1)).f.vm.dict.length:Int)
  rw[s.2.1,hd]
  show(f.vm.dict.length:Int)<((f.vm.dict.length+1:Nat):Int)
  omega
 ·show f.vm.here<=(dR (ea (aJ f) name 2 [256]).1 (-1)).f.vm.conf.mem
  rw[s.1,w.1];exact R.jK
 ·have z:on=true:=z
  have:=(ck.2.2 z).1
  show 0<=fu
  rw[<-hfu,if_pos z];omega
 show DX (dR (ea (aJ f) name 2 [256]).1 (-1)).f.vm.dict
 rw[s.2.1];exact Dz (w:=aJ f) h.g h.xts name 2 [256]
theorem VP{N:Nat}{v:VVm}(g:bb N v){l:List sd}(h:l.all Fa=true)(hl:l.length<=64):bb N {v with hand:=l}:=by
 have R:=g.right
 exact⟨⟨R.gd,R.mem,R.dict,R.pic,R.len,R.jG,R.jK,R.f,h,R.d,R.r,R.fl,R.dl,R.out,R.req,R.free0,R.free1,R.next0,R.next1,hl⟩,g.old,g.fd,g.fr,g.ff,g.ints,g.la⟩
theorem AC{l:List aR}(h:ig l=true)(a:Int){n:Int}(h0:0<=n)(h7:n<=7):ig (cE l a n).1=true/\(cE l a n).1.length=l.length:=by
 unfold cE
 split
 ·exact⟨h,rfl⟩
 rename_i q
 have hlt:a.toNat<l.length:=by omega
 refine⟨?_,List.length_set ..⟩
 unfold ig at h ⊢
 simp only[Bool.and_eq_true,decide_eq_true_eq]at h ⊢
 refine⟨List.all_eq_true.2 fun x hx=>?_,by show(l.set _ _).length<=_;rw[List.length_set];exact h.2⟩
 rcases List.mem_or_eq_of_mem_set hx with hx|hx
 ·exact List.all_eq_true.1 h.1 x hx
 subst hx
 have:=List.all_eq_true.1 h.1 (l.getD a.toNat default) (by rw[List.getD_eq_getElem?_getD,List.getElem?_eq_getElem hlt];exact List.getElem_mem _)
 unfold AY at this ⊢
 simp only[decide_eq_true_eq]at this ⊢
 exact⟨this.1,h0,h7⟩
theorem Li{N:Nat}{v:VVm}(g:bb N v)(a:Int){n:Int}(h0:0<=n)(h7:n<=7):bb N {v with dict:=(cE v.dict a n).1}:=by
 have q:=AC g.right.dict a h0 h7
 exact D3 g q.1 (by rw[q.2];exact g.right.dl)
theorem y5{N:Nat}{v:VVm}(g:bb N v)(hx:DX v.dict):OkF N ⟨v,kj⟩:=⟨g,Nat.zero_le _,(fun c hc=>by cases hc),fun q=>absurd rfl q,fun q=>absurd rfl q,bG,(fun q=>by cases q),hx⟩
theorem LI{l:List aR}(h:DX l)(a n:Int):DX (cE l a n).1:=by
 unfold cE
 split
 ·exact h
 rename_i q
 intro x hx
 rcases List.mem_or_eq_of_mem_set hx with hx|hx
 ·exact h x hx
 subst hx
 show ae (l.getD a.toNat default).xt
 rw[List.getD_eq_getElem?_getD,List.getElem?_eq_getElem (by omega)]
 exact h _ (List.getElem_mem _)
theorem Te{l:List aR}(h:DX l)(n:Int):DX (iH l n).1:=by
 unfold iH
 split
 ·exact h
 exact fun x hx=>h x (List.mem_of_mem_take hx)
theorem IW(w:FW)(d:List aR×Int):(mQ w d).f.vm={w.f.vm with dict:=d.1}:=by unfold mQ;rw[mM]
theorem ae8{l:List aR}(h:ig l=true)(i:Nat):0<=jD (l.getD i default).flags/\jD (l.getD i default).flags<=7:=by
 by_cases hi:i<l.length
 ·have q:=((tz h).get hi)
  exact L0 q.2.1 q.2.2
 rw[List.getD_eq_getElem?_getD,List.getElem?_eq_none (by omega)];exact⟨by decide,by decide⟩
theorem T9{N:Nat}{f:af}(h:OkF N f):OkF (N+2) (mY f).1:=by
 unfold mY
 by_cases hE:mX f≠0
 ·rw[if_pos hE];exact h.up (by omega)
 rw[if_neg hE]
 have hE:mX f=0:=Decidable.not_not.1 hE
 have ho:¬(f.comp.on=true/\64<=f.vm.hand.length):=fun q=>by
  unfold mX at hE
  by_cases c1:f.comp.xt=0
  ·rw[if_pos c1]at hE;cases hE
  by_cases c2:0<f.comp.cf.length
  ·rw[if_neg c1,if_pos c2]at hE;cases hE
  rw[if_neg c1,if_neg c2,if_pos q]at hE;cases hE
 unfold gz
 split
 ·exact h.up (by omega)
 have hdx:DX (yg f).f.vm.dict:=by
  have e1:(yg f).f.vm.dict=(dR (mQ (cd ⟨f,0⟩ 32) (s5 (cd ⟨f,0⟩ 32) f.comp)) 0).f.vm.dict:=by unfold yg iJ;split<;>rfl
  rw[e1,(yv _ 0).2.1,IW]
  show DX (cE (cd ⟨f,0⟩ 32).f.vm.dict _ _).1
  rw[(JL ⟨f,0⟩ 32).2.1];exact LI h.xts _ _
 refine y5 ?_ hdx
 have g1:bb (N+1) (cd ⟨f,0⟩ 32).f.vm:=KJ (w:=⟨f,0⟩) h.g 32
 have c1:=JL ⟨f,0⟩ 32
 have u7:=ae8 g1.right.dict f.comp.dict.toNat
 have g2:bb (N+1) (mQ (cd ⟨f,0⟩ 32) (s5 (cd ⟨f,0⟩ 32) f.comp)).f.vm:=by rw[IW];exact Li g1 _ u7.1 u7.2
 have g3:=zV g2 0
 have s3:=yv (mQ (cd ⟨f,0⟩ 32) (s5 (cd ⟨f,0⟩ 32) f.comp)) 0
 have hh:(dR (mQ (cd ⟨f,0⟩ 32) (s5 (cd ⟨f,0⟩ 32) f.comp)) 0).f.vm.hand=f.vm.hand:=by rw[s3.2.2.1,IW];exact c1.2.2.1
 show bb (N+2) (yg f).f.vm
 unfold yg iJ
 split
 ·rename_i q
  have hr:=h.g.right.hand
  refine VP g3 ?_ ?_
  ·rw[hh,List.all_append,hr,Bool.true_and,List.all_cons,List.all_nil,Bool.and_true]
   unfold Fa
   exact decide_eq_true (h.fu q)
  rw[hh,List.length_append,List.length_singleton]
  have:¬64<=f.vm.hand.length:=fun z=>ho ⟨q,z⟩
  omega
 exact g3
theorem JM{l:List aR}(h:ig l=true)(n:Nat):ig (l.take n)=true:=by
 unfold ig at h ⊢
 simp only[Bool.and_eq_true,decide_eq_true_eq]at h ⊢
 exact⟨List.all_eq_true.2 fun x hx=>List.all_eq_true.1 h.1 x (List.mem_of_mem_take hx),by rw[List.length_take];omega⟩
theorem OS{N:Nat}{v:VVm}(g:bb N v)(n:Int):bb N {v with dict:=(iH v.dict n).1}:=by
 unfold iH
 split
 ·exact g
 exact D3 g (JM g.right.dict _) (by have:=g.right.dl;rw[List.length_take];omega)
theorem LT{N:Nat}{v:VVm}(g:bb N v){here:Int}(h0:1368<=here)(h1:here<=v.conf.mem):bb N {v with here:=here}:=by
 have R:=g.right
 exact⟨⟨R.gd,R.mem,R.dict,R.pic,R.len,h0,h1,R.f,R.hand,R.d,R.r,R.fl,R.dl,R.out,R.req,R.free0,R.free1,R.next0,R.next1,R.handl⟩,g.old,g.fd,g.fr,g.ff,g.ints,g.la⟩
theorem Pl{N:Nat}{f:af}(h:OkF N f):OkF (N+1) (jP f):=by
 unfold jP
 split
 ·exact h.up (by omega)
 rename_i q
 have g:=zV (w:=⟨f,0⟩) h.g 0
 have s:=yv ⟨f,0⟩ 0
 refine y5 (v:={(dR ⟨f,0⟩ 0).f.vm with dict:=(iH (dR ⟨f,0⟩ 0).f.vm.dict f.comp.dict).1,here:=f.comp.here,last:=f.comp.last}) ?_ (by show DX (iH (dR ⟨f,0⟩ 0).f.vm.dict f.comp.dict).1;rw[s.2.1];exact Te h.xts _)
 have hq:=h.here q
 exact yr (LT (OS g _) hq.1 (by show f.comp.here<=(dR ⟨f,0⟩ 0).f.vm.conf.mem;rw[s.1];exact hq.2)) h.la
theorem V5{N:Nat}{v:VVm}(g:bb N v){n:Int}(hn:ae n):bb N (gJ v n).1:=by
 unfold gJ gD
 by_cases c:v.conf.data<=(v.d.length:Int)
 ·rw[if_pos c];exact g
 rw[if_neg c];exact Sn g (by simp only[List.length_append,List.length_singleton];omega) (ja g.fd (dg hn))
theorem SE{N:Nat}{v:VVm}(g:bb N v):bb N (dV v).2.1/\ae (dV v).1:=by
 refine⟨?_,(EB g.x).2⟩
 unfold dV bk
 split
 ·exact g
 exact Sn g (by have:=g.right.d;simp only[List.length_take];omega) (nD _ g.fd)
theorem Gz{N:Nat}{v:VVm}(g:bb N v)(s:Str):bb N (iI v s).1/\KV v (iI v s).1:=by
 unfold iI
 split
 ·exact⟨g,.rf _⟩
 rename_i q
 have R:=g.right
 exact⟨⟨⟨R.gd,R.mem,R.dict,R.pic,R.len,R.jG,R.jK,R.f,R.hand,R.d,R.r,R.fl,R.dl,by show((v.out++s).length:Int)<=v.conf.out;rw[List.length_append];omega,R.req,R.free0,R.free1,R.next0,R.next1,R.handl⟩,g.old,g.fd,g.fr,g.ff,g.ints,g.la⟩,⟨rfl,rfl,rfl⟩⟩
structure Nx (N:Nat) (l0 l:ai):Prop where
 f:OkF N l.f
 s:l.s=l0.s
 a:l0.at_<=l.at_
 b:l.at_<=l0.s.length
 u:l.fuel=l0.fuel
theorem Nx.up{N M:Nat}{l0 l:ai}(h:Nx N l0 l)(hM:N<=M):Nx M l0 l:=⟨h.f.up hM,h.s,h.a,h.b,h.u⟩
theorem Nx.to{N M:Nat}{l0 l l':ai}(h:Nx N l0 l)(hf:OkF M l'.f)(hs:l'.s=l.s)(ha:l'.at_=l.at_)(hu:l'.fuel=l.fuel):Nx M l0 l':=⟨hf,hs.trans h.s,by rw[ha];exact h.a,by rw[ha];exact h.b,hu.trans h.u⟩
theorem y2(l:ai)(e:Int):(oOk l e).s=l.s/\(oOk l e).at_=l.at_/\(oOk l e).fuel=l.fuel:=by unfold oOk;split<;>exact⟨rfl,rfl,rfl⟩
theorem DK(l:ai)(r:VVm×Int):(ga l r).s=l.s/\(ga l r).at_=l.at_/\(ga l r).fuel=l.fuel:=by
 have q:=y2 l r.2
 unfold ga;split<;>exact q
theorem yB(l:ai)(r:af×Int):(kQ l r).s=l.s/\(kQ l r).at_=l.at_/\(kQ l r).fuel=l.fuel:=by
 have q:=y2 l r.2
 unfold kQ;split<;>exact q
theorem Es(s:Str){a:Int}(h0:0<=a)(h1:a<=s.length)(hw:(bC s a).1≠[]):a<(bC s a).2/\(bC s a).2<=s.length/\(a+2<=(bC s a).2\/(bC s a).2=s.length):=by
 have hf:dF s a=a.toNat:=by unfold dF;rw[if_neg (by omega)]
 have hb:=Ak s (s.length-dF s a) (dF s a) (E0 s a)
 have he:=Do s (s.length-lf s (dF s a)) (lf s (dF s a)) hb.2
 have hb1:dF s a<=lf s (dF s a):=hb.1
 have he1:nP s (lf s (dF s a))<=s.length:=he.2
 have hlt:lf s (dF s a)<nP s (lf s (dF s a)):=by
  refine Nat.lt_of_not_le fun q=>hw ?_
  unfold bC
  dsimp only
  exact List.drop_eq_nil_of_le (by rw[List.length_take];omega)
 have e2:(bC s a).2=min ((nP s (lf s (dF s a)):Int)+1) s.length:=rfl
 omega
theorem VT(s:Str){a:Int}(c:UInt8)(h0:0<=a)(h1:a<=s.length):a<=(ld s a c).2.1/\(ld s a c).2.1<=s.length:=by
 have hf:dF s a=a.toNat:=by unfold dF;rw[if_neg (by omega)]
 have hi:=AQ (s.drop (dF s a)) c
 rw[List.length_drop]at hi
 unfold ld
 dsimp only
 split
 ·exact⟨h1,Int.le_refl _⟩
 rename_i q
 dsimp only
 rw[hf]at hi q ⊢
 omega
section
variable {N M : Nat} {l0 l : ai}
theorem vl(h:Nx N l0 l)(e:Int):Nx N l0 (oOk l e):=h.to (by rw[(uV l e).1];exact h.f) (y2 l e).1 (y2 l e).2.1 (y2 l e).2.2
theorem yx(h:Nx M l0 l){r:VVm×Int}(hr:OkF M {l.f with vm:=r.1}):Nx M l0 (ga l r):=by
 refine h.to ?_ (DK l r).1 (DK l r).2.1 (DK l r).2.2
 unfold ga
 rw[(uV l r.2).1]
 split
 ·exact hr
 rw[(uV l r.2).1];exact h.f
theorem yP(h:Nx M l0 l){r:af×Int}(hr:OkF M r.1):Nx M l0 (kQ l r):=by
 refine h.to ?_ (yB l r).1 (yB l r).2.1 (yB l r).2.2
 rcases Jf l r with e|e
 ·rw[e];exact hr
 rw[e];exact h.f
theorem G5(h:Nx M l0 l){r:VVm×Int}(hr:OkF M {l.f with vm:=r.1}):Nx M l0 (oDo l r):=by
 unfold oDo;split
 ·exact yx h hr
 exact h
theorem Dy(h:Nx N l0 l)(n:Int):Nx (N+1) l0 (wN l n):=G5 (h.up (by omega)) (h.f.kv (IQ h.f.g n) ⟨rfl,rfl,rfl⟩)
theorem zC(h:Nx N l0 l)(n:Int):Nx (N+2) l0 (tQ l n):=G5 (h.up (by omega)) (h.f.kv (Pz h.f.g n).1 (Pz h.f.g n).2)
theorem EF(h:Nx N l0 l){n:Int}(hn:ae n):Nx N l0 (vC l n):=G5 h (h.f.kv (V5 h.f.g hn) ⟨rfl,rfl,rfl⟩)
theorem Jj(h:Nx N l0 l):Nx N l0 (mv l).1/\ae (mv l).2:=⟨yx h (h.f.kv (SE h.f.g).1 ⟨rfl,rfl,rfl⟩),(SE h.f.g).2⟩
theorem yp(h:Nx N l0 l)(name:Str):Nx (N+1) l0 (xK l name):=Dy h _
theorem wE(h:Nx N l0 l)(h0:0<=l0.at_):Nx N l0 (bU l).1:=by
 unfold bU;split
 ·exact vl h _
 rename_i q
 have w:=Es l.s (a:=l.at_) (by have:=h.a;omega) (by rw[h.s];exact h.b) q
 have e:=h.s
 have a:=h.a
 exact⟨h.f,e,by show l0.at_<=(bC l.s l.at_).2;omega,by show(bC l.s l.at_).2<=_;rw[<-e];exact w.2.1,h.u⟩
theorem EJ(h:Nx N l0 l)(h0:0<=l0.at_)(c:UInt8):Nx N l0 (iv l c).1:=by
 have w:=VT l.s (a:=l.at_) c (by have:=h.a;omega) (by rw[h.s];exact h.b)
 unfold iv;split
 ·have e:=h.s
  have a:=h.a
  exact⟨h.f,e,by show l0.at_<=(ld l.s l.at_ c).2.1;omega,by show(ld l.s l.at_ c).2.1<=_;rw[<-e];exact w.2,h.u⟩
 exact vl h _
theorem UZ(h:Nx N l0 l):Nx N l0 (RX l):=⟨h.f,h.s,by show l0.at_<=(l.s.length:Int);rw[h.s];have:=h.a;have:=h.b;omega,by show(l.s.length:Int)<=_;rw[h.s];exact Int.le_refl _,h.u⟩
theorem Fm(h:Nx N l0 l)(h0:0<=l0.at_)(on:Bool)(fuel:Int):Nx (N+3) l0 (uW l on fuel):=by
 have q:=wE h h0
 unfold uW;split
 ·exact yP (q.up (by omega)) (Ou q.f _ _ _)
 exact q.up (by omega)
theorem Vf(h:Nx N l0 l):Nx (N+2) l0 (FD l):=yP (h.up (by omega)) (T9 h.f)
theorem KA(h:Nx N l0 l)(h0:0<=l0.at_):Nx (N+4) l0 (vR l):=by
 have q:=EJ h h0 34
 exact G5 (q.up (by omega)) (q.f.kv (Qu q.f.g _).1 (Qu q.f.g _).2)
theorem Tz(h:Nx N l0 l)(h0:0<=l0.at_):Nx (N+5) l0 (uP l):=by
 unfold uP;split
 ·exact yp (KA h h0) _
 have q:=EJ h h0 34
 exact(G5 q (q.f.kv (Gz q.f.g _).1 (Gz q.f.g _).2)).up (by omega)
theorem IH(h:Nx N l0 l)(name:Str):Nx (N+40) l0 (ma l name):=by
 have b:=Gf h.f name
 have m:Nx (N+40) l0 (ga l ((bn l.f.vm l.f.comp.cf name).1,(bn l.f.vm l.f.comp.cf name).2.2)):=yx (h.up (by omega)) b.1
 have e:(ga l ((bn l.f.vm l.f.comp.cf name).1,(bn l.f.vm l.f.comp.cf name).2.2)).err=0->(ga l ((bn l.f.vm l.f.comp.cf name).1,(bn l.f.vm l.f.comp.cf name).2.2)).f={l.f with vm:=(bn l.f.vm l.f.comp.cf name).1}:=fun q=>by
  unfold ga at q ⊢
  split at q
  ·rename_i z;rw[if_pos z];dsimp only;rw[(uV l _).1]
  rename_i z;exact absurd q z
 unfold ma
 split
 ·rename_i q
  refine m.to ?_ rfl rfl rfl
  rw[e q];exact b.2
 exact m
theorem vV(h:Nx N l0 l)(h0:0<=l0.at_){D:af->Str->af×Int}{j:Nat}(hD:∀f name,OkF N f->OkF (N+j) (D f name).1):Nx (N+j) l0 (jC l D):=by
 have q:=wE h h0
 unfold jC;split
 ·exact yP (q.up (by omega)) (hD _ _ q.f)
 exact q.up (by omega)
theorem NN(h:Nx N l0 l)(h0:0<=l0.at_):Nx (N+3) l0 (d7 l):=vV h h0 fun f name o=>oK o name true [257,0]
theorem B3(h:Nx N l0 l)(h0:0<=l0.at_){D:af->Str->Int->af×Int}{j:Nat}(hD:∀f name n,OkF N f->OkF (N+j) (D f name n).1):Nx (N+j) l0 (tc l D):=by
 have p:=Jj h
 unfold tc;split
 ·exact vV p.1 h0 fun f name o=>hD f name _ o
 exact p.1.up (by omega)
theorem S4(h:Nx N l0 l)(h0:0<=l0.at_):Nx (N+4) l0 (JR l):=B3 h h0 fun f name n o=>oK o name false [258,0,n]
end
open Go.RowKit
def ik:List Str:=[[58],[67,82,69,65,84,69],[86,65,82,73,65,66,76,69],[67,79,78,83,84,65,78,84],[73,77,77,69,68,73,65,84,69],[39],[67,72,65,82],[46,34],[40],[92],[91],[93],[70,79,82,71,69,84],[77,65,67,72,73,78,69],[79,78,58]]
def vg(k:Int):Bool:=if k<300 then false else !decide (cq.getD (k-300).toNat []∈ik)
theorem Fg(k:Int)(h1:k<337)(h0:ae k):ab prog 68 [i64 k] (boo (vg k)):=by
 have hL:=il
 unfold ae at h0
 have w1:¬k<300->IntKind.i64.wrap (k-300)=k-300:=fun q=>by rw[gE (by omega) (by omega)]
 obtain⟨x,hx⟩:∃x,cq.getD (k-300).toNat []=x:=⟨_,rfl⟩
 have e1:¬k<300->vg k = !decide (x∈ik):=fun q=>by unfold vg;rw[if_neg q,hx]
 refine zY func68 fun B=>?_
 refine zu1 ?_
 refine Ws<|zu2 ?_
 refine Wi rfl (fun hi1=>?_) (fun hi1=>?_)
 ·have q:k<300:=oT hi1
  refine zu1 ?_
  refine zR ?_
  (unfold vg;rw[if_pos q];rfl)
 have q:¬k<300:=oF hi1
 refine Wj<|Ws<|z8 ?_
 refine zc rfl func71 ((eK) _) ?_
 refine zy2 ?_
 refine Wa 7 rfl (congrArg (fun z=>PV.val (Value.int .i64 z)) (w1 q)) ?_
 refine Wv tG rfl rfl rfl (by omega) (iR gy 1 (fun _=>rfl) [] (by omega)) ?_
 refine z1 ?_
 refine Wa 9 rfl (congrArg str hx) ?_
 refine Wn<|Wl<|Ws<|zp1 ?_
 refine zq 11 ?_
 refine zs1 ?_
 refine Wi rfl (fun hi2=>?_) (fun hi2=>?_)
 ·have m:x∈ik:=by rw[oT hi2];decide
  refine Wj<|Wt rfl hi2 ?_
  refine zu1 ?_
  refine zR ?_
  (rw[e1 q,decide_eq_true m];rfl)
 have n0:=oF hi2
 refine zp1 ?_
 refine zq 12 ?_
 refine zs1 ?_
 refine Wi rfl (fun hi3=>?_) (fun hi3=>?_)
 ·have m:x∈ik:=by rw[oT hi3];decide
  refine Wj<|Wt rfl hi3 ?_
  refine zu1 ?_
  refine zR ?_
  (rw[e1 q,decide_eq_true m];rfl)
 have n1:=oF hi3
 refine zp1 ?_
 refine zq 13 ?_
 refine zs1 ?_
 refine Wi rfl (fun hi4=>?_) (fun hi4=>?_)
 ·have m:x∈ik:=by rw[oT hi4];decide
  refine Wj<|Wt rfl hi4 ?_
  refine zu1 ?_
  refine zR ?_
  (rw[e1 q,decide_eq_true m];rfl)
 have n2:=oF hi4
 refine zp1 ?_
 refine zq 14 ?_
 refine zs1 ?_
 refine Wi rfl (fun hi5=>?_) (fun hi5=>?_)
 ·have m:x∈ik:=by rw[oT hi5];decide
  refine Wj<|Wt rfl hi5 ?_
  refine zu1 ?_
  refine zR ?_
  (rw[e1 q,decide_eq_true m];rfl)
 have n3:=oF hi5
 refine zp1 ?_
 refine zq 15 ?_
 refine zs1 ?_
 refine Wi rfl (fun hi6=>?_) (fun hi6=>?_)
 ·have m:x∈ik:=by rw[oT hi6];decide
  refine Wj<|Wt rfl hi6 ?_
  refine zu1 ?_
  refine zR ?_
  (rw[e1 q,decide_eq_true m];rfl)
 have n4:=oF hi6
 refine zp1 ?_
 refine zq 16 ?_
 refine zs1 ?_
 refine Wi rfl (fun hi7=>?_) (fun hi7=>?_)
 ·have m:x∈ik:=by rw[oT hi7];decide
  refine Wj<|Wt rfl hi7 ?_
  refine zu1 ?_
  refine zR ?_
  (rw[e1 q,decide_eq_true m];rfl)
 have n5:=oF hi7
 refine zp1 ?_
 refine zq 17 ?_
 refine zs1 ?_
 refine Wi rfl (fun hi8=>?_) (fun hi8=>?_)
 ·have m:x∈ik:=by rw[oT hi8];decide
  refine Wj<|Wt rfl hi8 ?_
  refine zu1 ?_
  refine zR ?_
  (rw[e1 q,decide_eq_true m];rfl)
 have n6:=oF hi8
 refine zp1 ?_
 refine zq 18 ?_
 refine zs1 ?_
 refine Wi rfl (fun hi9=>?_) (fun hi9=>?_)
 ·have m:x∈ik:=by rw[oT hi9];decide
  refine Wj<|Wt rfl hi9 ?_
  refine zu1 ?_
  refine zR ?_
  (rw[e1 q,decide_eq_true m];rfl)
 have n7:=oF hi9
 refine zp1 ?_
 refine zq 19 ?_
 refine zs1 ?_
 refine Wi rfl (fun hi10=>?_) (fun hi10=>?_)
 ·have m:x∈ik:=by rw[oT hi10];decide
  refine Wj<|Wt rfl hi10 ?_
  refine zu1 ?_
  refine zR ?_
  (rw[e1 q,decide_eq_true m];rfl)
 have n8:=oF hi10
 refine zp1 ?_
 refine zq 20 ?_
 refine zs1 ?_
 refine Wi rfl (fun hi11=>?_) (fun hi11=>?_)
 ·have m:x∈ik:=by rw[oT hi11];decide
  refine Wj<|Wt rfl hi11 ?_
  refine zu1 ?_
  refine zR ?_
  (rw[e1 q,decide_eq_true m];rfl)
 have n9:=oF hi11
 refine zp1 ?_
 refine zq 21 ?_
 refine zs1 ?_
 refine Wi rfl (fun hi12=>?_) (fun hi12=>?_)
 ·have m:x∈ik:=by rw[oT hi12];decide
  refine Wj<|Wt rfl hi12 ?_
  refine zu1 ?_
  refine zR ?_
  (rw[e1 q,decide_eq_true m];rfl)
 have n10:=oF hi12
 refine zp1 ?_
 refine zq 22 ?_
 refine zs1 ?_
 refine Wi rfl (fun hi13=>?_) (fun hi13=>?_)
 ·have m:x∈ik:=by rw[oT hi13];decide
  refine Wj<|Wt rfl hi13 ?_
  refine zu1 ?_
  refine zR ?_
  (rw[e1 q,decide_eq_true m];rfl)
 have n11:=oF hi13
 refine zp1 ?_
 refine zq 23 ?_
 refine zs1 ?_
 refine Wi rfl (fun hi14=>?_) (fun hi14=>?_)
 ·have m:x∈ik:=by rw[oT hi14];decide
  refine Wj<|Wt rfl hi14 ?_
  refine zu1 ?_
  refine zR ?_
  (rw[e1 q,decide_eq_true m];rfl)
 have n12:=oF hi14
 refine zp1 ?_
 refine zq 24 ?_
 refine zs1 ?_
 refine Wi rfl (fun hi15=>?_) (fun hi15=>?_)
 ·have m:x∈ik:=by rw[oT hi15];decide
  refine Wj<|Wt rfl hi15 ?_
  refine zu1 ?_
  refine zR ?_
  (rw[e1 q,decide_eq_true m];rfl)
 have n13:=oF hi15
 refine aa rfl ?_
 refine z1 ?_
 refine zq 25 ?_
 refine zs1 ?_
 refine Wi rfl (fun hi16=>?_) (fun hi16=>?_)
 ·have m:x∈ik:=by rw[oT hi16];decide
  refine zu1 ?_
  refine zR ?_
  (rw[e1 q,decide_eq_true m];rfl)
 have n14:=oF hi16
 have m:¬x∈ik:=by unfold ik;simp only[List.mem_cons,List.not_mem_nil,or_false,not_or];exact⟨n0,n1,n2,n3,n4,n5,n6,n7,n8,n9,n10,n11,n12,n13,n14⟩
 refine Wj<|zu1 ?_
 refine zR ?_
 (rw[e1 q,decide_eq_false m];rfl)
def kC:Int:=300+tO cq [67,82,69,65,84,69] cq.length 0
def Bi(r:bH)(xt ip:Int):Bool×Int:=(decide ((av r.vm xt).2=0/\(av r.vm xt).1=kC),ip)
theorem X9{r:bH}{xt ip:Int}(h:(av r.vm xt).2=0):Bi r xt ip=((av r.vm xt).1==kC,ip):=by
 unfold Bi
 by_cases q:(av r.vm xt).1=kC
 ·rw[decide_eq_true ⟨h,q⟩,beq_iff_eq.2 q]
 rw[decide_eq_false (fun z=>q z.2),beq_eq_false_iff_ne.2 q]
theorem Yd{r:bH}{xt ip:Int}(h:¬(av r.vm xt).2=0):Bi r xt ip=(false,ip):=by
 unfold Bi;rw[decide_eq_false (fun z=>h z.1)]
def cF(r:bH):Bool×Int:=if r.dof=true then Bi r r.w r.ip else if (am r.vm.mem r.ip).2≠0 then(false,r.ip)else Bi r (am r.vm.mem r.ip).1 (W64 (r.ip+8))
theorem Bg(r:bH)(hm:r.vm.mem.b.length<=140737488355328)(hi:ae r.ip)(hw:ae r.w):ab prog 85 [w9 r] (ic (boo (cF r).1) (i64 (cF r).2)):=by
 have hL:=il
 have w1:IntKind.i64.wrap (300+tO cq [67,82,69,65,84,69] cq.length 0)=kC:=by decide +kernel
 have c1:r.dof=true->cF r=Bi r r.w r.ip:=fun q=>by unfold cF;rw[if_pos q]
 have c2:r.dof=false->(am r.vm.mem r.ip).2≠0->cF r=(false,r.ip):=fun q q1=>by unfold cF;rw[if_neg (by rw[q];decide),if_pos q1]
 have c3:r.dof=false->¬(am r.vm.mem r.ip).2≠0->cF r=Bi r (am r.vm.mem r.ip).1 (W64 (r.ip+8)):=fun q q1=>by unfold cF;rw[if_neg (by rw[q];decide),if_neg q1]
 refine zY func85 fun B=>?_
 refine zu3 ?_
 refine Ws<|az [0,1,0,1,0,0] [0,1,2,3,4,5] mG rfl (by kernel_rfl) ?_
 refine z3 ?_
 refine z5 ?_
 refine z3 ?_
 refine z5 ?_
 iterate 2 refine z3 ?_
 refine aP ?_
 refine Ws<|zu3 ?_
 refine Wi rfl (fun hi1=>?_) (fun hi1=>?_)
 ·have q0:r.dof=false:=by simpa using hi1
  have k0:=qI r.vm (am r.vm.mem r.ip).1 hm (tq _ _)
  refine zp5 ?_
  refine zc rfl func39 ((gi r.vm.mem r.ip hm hi) _) ?_
  refine zs5 ?_
  refine Ws<|zu2 ?_
  refine Wi rfl (fun hi2=>?_) (fun hi2=>?_)
  ·have q1:(am r.vm.mem r.ip).2≠0:=by simpa using hi2
   refine zu3 ?_
   refine zR ?_
   (rw[c2 q0 q1];rfl)
  have q1:¬(am r.vm.mem r.ip).2≠0:=by simpa using hi2
  refine Wj<|aa rfl ?_
  refine zs5 ?_
  refine zp3 ?_
  refine zc rfl func67 ((k0) _) ?_
  refine zs5 ?_
  refine zp3 ?_
  refine Wb 41 rfl (fun hg1=>?_) (fun hg1=>?_)
  ·refine z1 ?_
   refine zc rfl func71 ((eK) _) ?_
   refine zc rfl func113 ((tD cq [67,82,69,65,84,69] (by rw[hL];omega)) _) ?_
   refine z1 ?_
   refine Wa 45 rfl (congrArg (fun z=>PV.val (Value.int .i64 z)) w1) ?_
   refine zs5 ?_
   refine zR ?_
   (rw[c3 q0 q1,X9 (by simpa using hg1)];rfl)
  refine z6 ?_
  iterate 4 refine z6 ?_
  refine zs4 ?_
  refine zR ?_
  (rw[c3 q0 q1,Yd (by simpa using hg1)];rfl)
 have q0:r.dof=true:=by simpa using hi1
 have k0:=qI r.vm r.w hm hw
 refine Wj<|zp3 ?_
 refine zc rfl func67 ((k0) _) ?_
 refine zs5 ?_
 refine zp3 ?_
 refine Wb 41 rfl (fun hg1=>?_) (fun hg1=>?_)
 ·refine z1 ?_
  refine zc rfl func71 ((eK) _) ?_
  refine zc rfl func113 ((tD cq [67,82,69,65,84,69] (by rw[hL];omega)) _) ?_
  refine z1 ?_
  refine Wa 45 rfl (congrArg (fun z=>PV.val (Value.int .i64 z)) w1) ?_
  refine zs5 ?_
  refine zR ?_
  (rw[c1 q0,X9 (by simpa using hg1)];rfl)
 refine z6 ?_
 iterate 4 refine z6 ?_
 refine zs4 ?_
 refine zR ?_
 (rw[c1 q0,Yd (by simpa using hg1)];rfl)
theorem rR(s:List Int)(n:Nat)(hs:s.length<=1000000)(hn:n<=1000000):ab prog 160 [sq ap s,i64 (n:Int)] (sqc ap (ky s n)):=by
 refine zY func160 fun B=>?_
 refine zu1 ?_
 refine zp1 ?_
 refine z2 ?_ (q:=(by(simp_all;omega)))
 refine zs1 ?_
 refine zp2 ?_
 refine Wd rfl rfl (nt (lO tG rfl) rfl (lO tG rfl) rfl rfl rfl rfl (al _ 1 (fun _=>rfl) _) (bD _ (fun _=>rfl) _) (by rw[mj _ _ rfl];simp)) ?_
 refine jx (H':=[.cells ((ky s n).flatMap ap) 3]) (by refine congrArg (fun z=>[Ob.cells z 3]) (yc s n ?_ ?_).symm<;>rfl) ?_
 refine Wn<|zp1 ?_
 refine Ap 11 0 n n rfl rfl (by rw[oz,List.length_map,lG];exact Nat.le_refl _) ?_
 refine Wa 11 rfl (Mh s n) ?_
 refine zs1 ?_
 refine Wq ?_
 exact nY rfl rfl
def L3(r:bH×Int):PV:=ic (w9 r.1) (i64 r.2)
@[simp] theorem ac7 (r : bH × Int) : aS (L3 r) := by simp [L3]
theorem Ee(r:bH)(e:Int)(N:Nat)(g:bb N r.vm):ab prog 115 [w9 r,i64 e] (L3 (cp r e)):=by
 have R:=g.right
 have hc:=R.gd
 unfold d9 at hc
 have hfl:=R.fl
 have hd:=R.d
 have hr:=R.r
 by_cases h0:r.vm.f.length=0
 ·have e1:cp r e=(r,e):=by unfold cp;rw[if_pos h0]
  rw[e1]
  refine zY func115 fun B=>?_
  refine zu3 ?_
  refine zu5 ?_
  refine Ws<|zu2 ?_
  refine Wt rfl (by(try simp only[dnL]at *);omega) ?_
  refine zu4 ?_
  refine zR ?_
  rfl
 have hm:r.vm.f.getD (r.vm.f.length-1) default∈r.vm.f:=by rw[List.getD_eq_getElem?_getD,List.getElem?_eq_getElem (by omega)];exact List.getElem_mem _
 have hf:=List.all_eq_true.1 R.f _ hm
 unfold qp at hf
 simp only[decide_eq_true_eq,Bool.and_eq_true]at hf
 have e1:cp r e=({r with vm:={r.vm with f:=r.vm.f.take (r.vm.f.length-1),d:=ky r.vm.d (min (r.vm.f.getD (r.vm.f.length-1) default).d (r.vm.conf.data-1)).toNat++[e],r:=ky r.vm.r (min (r.vm.f.getD (r.vm.f.length-1) default).r r.vm.conf.ret).toNat},ip:=(r.vm.f.getD (r.vm.f.length-1) default).ip},0):=by
  unfold cp;rw[if_neg h0]
 rw[e1]
 have w0:IntKind.i64.wrap ((r.vm.f.length:Int)-1)=((r.vm.f.length-1:Nat):Int):=by((rw[bS];unfold wrap64;(try simp only[dnL]at *);omega))
 have w1:IntKind.i64.wrap (r.vm.conf.data-1)=r.vm.conf.data-1:=by((rw[bS];unfold wrap64;(try simp only[dnL]at *);omega))
 have w2:(if r.vm.conf.data-1<(r.vm.f.getD (r.vm.f.length-1) default).d then r.vm.conf.data-1 else(r.vm.f.getD (r.vm.f.length-1) default).d)=((min (r.vm.f.getD (r.vm.f.length-1) default).d (r.vm.conf.data-1)).toNat:Int):=by split<;>omega
 have w3:(if r.vm.conf.ret<(r.vm.f.getD (r.vm.f.length-1) default).r then r.vm.conf.ret else(r.vm.f.getD (r.vm.f.length-1) default).r)=((min (r.vm.f.getD (r.vm.f.length-1) default).r r.vm.conf.ret).toNat:Int):=by split<;>omega
 have hdl:=lG r.vm.d (min (r.vm.f.getD (r.vm.f.length-1) default).d (r.vm.conf.data-1)).toNat
 refine zY func115 fun B=>?_
 refine zu3 ?_
 refine zu5 ?_
 refine Ws<|zu2 ?_
 refine Wf rfl (by(try simp only[dnL]at *);omega) ?_
 refine Wj<|zp5 ?_
 refine Wa 20 rfl (congrArg (fun z=>PV.val (Value.int .i64 z)) w0) ?_
 refine Wv tG rfl rfl rfl (by omega) (iN je 3 (fun _=>rfl) default (by omega)) ?_
 refine zs3 ?_
 refine zp5 ?_
 refine Wa 27 rfl (congrArg (fun z=>PV.val (Value.int .i64 z)) w0) ?_
 refine z2 ?_ (q:=(by(simp_all;done)))
 refine Wa 28 rfl (cK je 3 (fun _=>rfl) (by omega)) ?_
 refine zs3 ?_
 refine zp5 ?_
 refine zy5 ?_
 refine Wa 40 rfl (congrArg (fun z=>PV.val (Value.int .i64 z)) w1) ?_
 refine z1 ?_
 refine Wa 41 rfl (congrArg (fun z=>PV.val (Value.int .i64 z)) w2) ?_
 refine zc rfl func160 ((rR r.vm.d (min (r.vm.f.getD (r.vm.f.length-1) default).d (r.vm.conf.data-1)).toNat (by omega) (by omega)) _) ?_
 refine zy2 ?_
 refine Wa 44 rfl (bsL ap [_] rfl rfl) ?_
 refine Wd rfl rfl (cb (lO tG rfl) rfl (lO tG rfl) (lO tG rfl) rfl rfl (by exact⟨_,rfl⟩) (by exact⟨rfl,rfl,al _ 1 (fun _=>rfl) _,bD _ (fun _=>rfl) _⟩) (by exact al _ 1 (fun _=>rfl) _) (by((simp_all;omega))) (by((simp_all;omega)))) ?_
 refine Wa 45 rfl (cw ap) ?_
 refine zs3 ?_
 refine zp5 ?_
 refine zy5 ?_
 refine Wa 57 rfl (congrArg (fun z=>PV.val (Value.int .i64 z)) w3) ?_
 refine zc rfl func160 ((rR r.vm.r (min (r.vm.f.getD (r.vm.f.length-1) default).r r.vm.conf.ret).toNat (by omega) (by omega)) _) ?_
 refine zs3 ?_
 refine zu4 ?_
 refine zu3 ?_
 refine zR ?_
 rfl
end Go.Proofs.YtjcminooghmpeaaGreatDoor
