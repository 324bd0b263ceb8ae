import Derived.Test.YtjcminooghmpeaaGreatDoorPk9
set_option linter.all false
set_option maxRecDepth 100000
set_option maxHeartbeats 40000000
open Go.Proofs.Tryz
namespace Go.Proofs.YtjcminooghmpeaaGreatDoor
open Go.RowKit
structure ai where
 f:af
 s:Str
 at_:Int
 fuel:Int
 err:Int
def aq7(e:Int):Value:=if e=0 then .nilIface else .iface 141 (.agg #[.int .i64 e])
def BR(e:Int):PV:=.val (aq7 e)
def aE4:BR 0=.val .nilIface:=rfl
def SD{e:Int}(h:e≠0):BR e=.val (.iface 141 (.agg #[.int .i64 e])):=by unfold BR aq7;rw[if_neg h]
@[simp] theorem ap0 (e : Int) : aU (BR e) := by unfold BR; simp
def dW(e:Int):xh (BR e)=some (decide (e=0)):=by
 by_cases h:e=0
 ·rw[h];rfl
 rw[SD h,decide_eq_false h];rfl
def WC(e:Int):Imp (.ifc 141 (.agg [i64 e])) (.val (.iface 141 (.agg #[.int .i64 e]))):=fun c v h=>by rw[y6 h];exact aq _ _
def aR(l:ai):List PV:=jQ l.f++[str l.s,i64 l.at_,i64 l.fuel,BR l.err]
@[simp] theorem al4 (l : ai) : aw (aR l) := by simp [aR, jQ, cVm, DE]
def zI(e:Int):ab prog 79 [i64 e] (BR e):=by
 refine zY func79 fun B=>?_
 refine zu1 ?_
 refine Ws<|zu2 ?_
 refine Wi rfl (fun hi1=>?_) (fun hi1=>?_)
 ·have q:e=0:=by simpa using hi1
  refine zu1 ?_
  refine zR ?_
  (rw[q];rfl)
 have q:¬e=0:=by simpa using hi1
 refine Wj<|zp2 ?_
 refine Wd rfl rfl (qk rfl (by kernel_rfl) rfl) ?_
 refine Wm 7 rfl (WC e) ?_
 refine zs1 ?_
 refine zR ?_
 (rw[SD q];done)
def oOk(l:ai)(e:Int):ai:=if l.err=0 then {l with err:=e} else l
def ok0{l:ai}{e:Int}(h:l.err=0):oOk l e={l with err:=e}:=by unfold oOk;rw[if_pos h]
def ok1{l:ai}{e:Int}(h:¬l.err=0):oOk l e=l:=by unfold oOk;rw[if_neg h]
def o7(l:ai)(e:Int):∀(H:List Ob) (i:Nat),H[i]?=some (.cells (aR l) 89)->HC prog 41 (.ptr i 0::[i64 e]) H (boo (decide ((oOk l e).err=0))) (H.set i (.cells (aR (oOk l e)) 89)):=by
 by_cases he:e=0
 ·have he':=he
  refine zM func41 fun B=>?_
  refine zu1 ?_
  refine Ws<|zp4 ?_
  refine Wd rfl rfl (aW rfl (by kernel_rfl) rfl (by exact dW _)) ?_
  refine Wn<|Wi rfl (fun hi1=>?_) (fun hi1=>?_)
  ·have q:l.err=0:=oT hi1
   refine aa rfl ?_
   refine zy2 ?_
   refine zc rfl func79 ((zI e) _) ?_
   refine Wa 12 rfl ((show BR e=PV.val .nilIface from by rw[he];rfl)) ?_
   refine zs3 ?_
   refine zp4 ?_
   refine Wd rfl rfl (aW rfl (by kernel_rfl) rfl (by rfl)) ?_
   refine zs1 ?_
   refine Wq<|aO rfl rfl ?_ ?_
   ·(rw[ok0 q];exact congrArg boo (decide_eq_true he).symm)
   (rw[ok0 q,he];rfl)
  have q:¬l.err=0:=oF hi1
  refine Wj<|zp4 ?_
  refine Wd rfl rfl (aW rfl (by kernel_rfl) rfl (by exact dW _)) ?_
  refine zs1 ?_
  refine Wq<|aO rfl rfl ?_ ?_
  ·(rw[ok1 q];rfl)
  (rw[ok1 q];rfl)
 have he':=he
 refine zM func41 fun B=>?_
 refine zu1 ?_
 refine Ws<|zp4 ?_
 refine Wd rfl rfl (aW rfl (by kernel_rfl) rfl (by exact dW _)) ?_
 refine Wn<|Wi rfl (fun hi1=>?_) (fun hi1=>?_)
 ·have q:l.err=0:=oT hi1
  refine aa rfl ?_
  refine zy2 ?_
  refine zc rfl func79 ((zI e) _) ?_
  refine Wa 12 rfl ((SD he)) ?_
  refine zs3 ?_
  refine zp4 ?_
  refine Wd rfl rfl (aW rfl (by kernel_rfl) rfl (by rfl)) ?_
  refine zs1 ?_
  refine Wq<|aO rfl rfl ?_ ?_
  ·(rw[ok0 q];exact congrArg boo (decide_eq_false he).symm)
  (rw[ok0 q];unfold aR;rw[SD he];rfl)
 have q:¬l.err=0:=oF hi1
 refine Wj<|zp4 ?_
 refine Wd rfl rfl (aW rfl (by kernel_rfl) rfl (by exact dW _)) ?_
 refine zs1 ?_
 refine Wq<|aO rfl rfl ?_ ?_
 ·(rw[ok1 q];rfl)
 (rw[ok1 q];rfl)
def lx(l:ai)(r:af×Int):ai:=if (oOk l r.2).err=0 then {oOk l r.2 with f:=r.1} else oOk l r.2
def wQ(l:ai)(r:af×Int):∀(H:List Ob) (i:Nat),H[i]?=some (.cells (aR l) 89)->HC prog 177 (.ptr i 0::[bS r.1,i64 r.2]) H (.tup []) (H.set i (.cells (aR (lx l r)) 89)):=by
 refine zM func177 fun B=>?_
 refine zu1 ?_
 refine zp2 ?_
 refine zc rfl func41 ((o7 l r.2) _ _ rfl) ?_
 refine Wn<|Wi rfl (fun hi1=>?_) (fun hi1=>?_)
 ·have q:(oOk l r.2).err=0:=oT hi1
  refine aa rfl ?_
  refine zs5 ?_
  refine aV rfl rfl ?_ ?_
  ·rfl
  (rw[lx,if_pos q];rfl)
 have q:¬(oOk l r.2).err=0:=oF hi1
 refine Wj<|aV rfl rfl ?_ ?_
 ·rfl
 (rw[lx,if_neg q];rfl)
def gC(l:ai)(r:VVm×Int):ai:=if (oOk l r.2).err=0 then {oOk l r.2 with f:={(oOk l r.2).f with vm:=r.1}} else oOk l r.2
def oR(l:ai)(r:VVm×Int):∀(H:List Ob) (i:Nat),H[i]?=some (.cells (aR l) 89)->HC prog 80 (.ptr i 0::[eVm r.1,i64 r.2]) H (.tup []) (H.set i (.cells (aR (gC l r)) 89)):=by
 refine zM func80 fun B=>?_
 refine zu1 ?_
 refine zp2 ?_
 refine zc rfl func41 ((o7 l r.2) _ _ rfl) ?_
 refine Wn<|Wi rfl (fun hi1=>?_) (fun hi1=>?_)
 ·have q:(oOk l r.2).err=0:=oT hi1
  refine aa rfl ?_
  refine zy5 ?_
  refine zs1 ?_
  refine aV rfl rfl ?_ ?_
  ·rfl
  (rw[gC,if_pos q];rfl)
 have q:¬(oOk l r.2).err=0:=oF hi1
 refine Wj<|aV rfl rfl ?_ ?_
 ·rfl
 (rw[gC,if_neg q];rfl)
def bW(l:ai):ai×Str:=if (bE l.s l.at_).1=[]then(oOk l (-16),[])else({l with at_:=(bE l.s l.at_).2},(bE l.s l.at_).1)
def tK(l:ai)(hs:l.s.length<=1000000):∀(H:List Ob) (i:Nat),H[i]?=some (.cells (aR l) 89)->HC prog 194 (.ptr i 0::[]) H (str (bW l).2) (H.set i (.cells (aR (bW l).1) 89)):=by
 obtain⟨w,hw⟩:∃w,bE l.s l.at_=w:=⟨_,rfl⟩
 have pW:=G5 l.s l.at_ hs
 rw[hw]at pW
 have e1:w.1=[]->bW l=(oOk l (-16),[]):=fun q=>by unfold bW;rw[hw,if_pos q]
 have e2:¬w.1=[]->bW l=({l with at_:=w.2},w.1):=fun q=>by unfold bW;rw[hw,if_neg q]
 refine zM func194 fun B=>?_
 refine zu1 ?_
 refine Ws<|ax [0,0,0,1,0,0,0,1,0,0,0,0,0,0] [0,1,2,3,4,5,6,7,8,9,10,11,12,13] mG rfl (by kernel_rfl) ?_
 iterate 3 refine z3 ?_
 refine z5 ?_
 iterate 3 refine z3 ?_
 refine z5 ?_
 refine Xc rfl rfl rfl rfl (fun _=>dC rfl func36 rfl rfl ((pW) _)) ?_
 iterate 5 refine z3 ?_
 refine aQ ?_
 refine Ws<|zp2 ?_
 refine zq 18 ?_
 refine Wn<|Wi rfl (fun hi1=>?_) (fun hi1=>?_)
 ·have q:w.1=[]:=oT hi1
  refine zp1 ?_
  refine zc rfl func41 ((o7 l (-16)) _ _ rfl) ?_
  refine Wn<|zu1 ?_
  refine Wq<|aO rfl rfl ?_ ?_
  ·(rw[e1 q];rfl)
  (rw[e1 q];rfl)
 have q:¬w.1=[]:=oF hi1
 refine Wj<|zu5 ?_
 refine zu2 ?_
 refine Wq<|aO rfl rfl ?_ ?_
 ·(rw[e2 q];rfl)
 (rw[e2 q];rfl)
def iM(l:ai)(c:UInt8):ai×Str:=if (lE l.s l.at_ c).2.2=true then({l with at_:=(lE l.s l.at_ c).2.1},(lE l.s l.at_ c).1)else(oOk l (-39),[])
def EI(l:ai)(c:UInt8)(hs:l.s.length<=1000000):∀(H:List Ob) (i:Nat),H[i]?=some (.cells (aR l) 89)->HC prog 188 (.ptr i 0::[.val (.int .u8 (c.toNat:Int))]) H (str (iM l c).2) (H.set i (.cells (aR (iM l c).1) 89)):=by
 obtain⟨w,hw⟩:∃w,lE l.s l.at_ c=w:=⟨_,rfl⟩
 have pW:=RN l.s l.at_ c hs
 rw[hw]at pW
 have e1:w.2.2=true->iM l c=({l with at_:=w.2.1},w.1):=fun q=>by unfold iM;rw[hw,if_pos q]
 have e2:w.2.2=false->iM l c=(oOk l (-39),[]):=fun q=>by unfold iM;rw[hw,if_neg (by rw[q];decide)]
 refine zM func188 fun B=>?_
 refine zu1 ?_
 refine Ws<|ax [0,0,0,1,0,0,0,1,0,0,0,0,0,0,0,0,0] [0,1,2,3,4,5,6,7,8,9,10,11,12,13,14,15,16] mG rfl (by kernel_rfl) ?_
 iterate 3 refine z3 ?_
 refine z5 ?_
 iterate 3 refine z3 ?_
 refine z5 ?_
 refine z3 ?_
 refine Xc rfl rfl rfl rfl (fun _=>dC rfl func219 rfl rfl ((pW) _)) ?_
 iterate 7 refine z3 ?_
 refine aQ ?_
 refine Ws<|zu2 ?_
 refine Wi rfl (fun hi1=>?_) (fun hi1=>?_)
 ·have q:w.2.2=false:=by simpa using hi1
  refine zp1 ?_
  refine zc rfl func41 ((o7 l (-39)) _ _ rfl) ?_
  refine Wn<|zu1 ?_
  refine Wq<|aO rfl rfl ?_ ?_
  ·(rw[e2 q];rfl)
  (rw[e2 q];rfl)
 have q:w.2.2=true:=by simpa using hi1
 refine Wj<|zu5 ?_
 refine zu2 ?_
 refine Wq<|aO rfl rfl ?_ ?_
 ·(rw[e1 q];rfl)
 (rw[e1 q];rfl)
def mS(l:ai):ai×Int:=(gC l ((eg l.f.vm).2.1,(eg l.f.vm).2.2),(eg l.f.vm).1)
def Ji(l:ai)(hd:l.f.vm.d.length<=100000):∀(H:List Ob) (i:Nat),H[i]?=some (.cells (aR l) 89)->HC prog 176 (.ptr i 0::[]) H (i64 (mS l).2) (H.set i (.cells (aR (mS l).1) 89)):=by
 refine zM func176 fun B=>?_
 refine zu1 ?_
 refine zp5 ?_
 refine zc rfl func211 ((RL l.f.vm hd) _) ?_
 refine zy5 ?_
 refine zs3 ?_
 refine zp3 ?_
 refine zc rfl func80 ((oR l ((eg l.f.vm).2.1,(eg l.f.vm).2.2)) _ _ rfl) ?_
 refine Wn<|zu2 ?_
 refine Wq<|aO rfl rfl ?_ ?_
 ·rfl
 rfl
def oDo(l:ai)(r:VVm×Int):ai:=if l.err=0 then gC l r else l
def do0{l:ai}{r:VVm×Int}(h:l.err=0):oDo l r=gC l r:=by unfold oDo;rw[if_pos h]
def do1{l:ai}{r:VVm×Int}(h:¬l.err=0):oDo l r=l:=by unfold oDo;rw[if_neg h]
def wa(l:ai)(n:Int):ai:=oDo l (fQ l.f.vm n)
def En(l:ai)(n:Int)(hd:l.f.vm.d.length<=100000)(hc:ae l.f.vm.conf.data):∀(H:List Ob) (i:Nat),H[i]?=some (.cells (aR l) 89)->HC prog 43 (.ptr i 0::[i64 n]) H (.tup []) (H.set i (.cells (aR (wa l n)) 89)):=by
 refine zM func43 fun B=>?_
 refine zp4 ?_
 refine Wd rfl rfl (aW rfl (by kernel_rfl) rfl (by exact dW _)) ?_
 refine Wn<|Wi rfl (fun hi1=>?_) (fun hi1=>?_)
 ·have q:l.err=0:=oT hi1
  refine aa rfl ?_
  refine zy5 ?_
  refine zy2 ?_
  refine zc rfl func82 ((L3 l.f.vm n hd hc) _) ?_
  refine zy2 ?_
  refine zc rfl func80 ((oR l (fQ l.f.vm n)) _ _ rfl) ?_
  refine Wn<|aV rfl rfl ?_ ?_
  ·rfl
  unfold wa;((rw[do0 q];rfl))
 have q:¬l.err=0:=oF hi1
 refine Wj<|aV rfl rfl ?_ ?_
 ·rfl
 unfold wa;((rw[do1 q];rfl))
def xj(l:ai)(n:Int):ai:=oDo l (rp l.f.vm n)
def s5(l:ai)(n:Int)(hm:da l.f.vm.mem)(hh:iy l.f.vm.mem l.f.vm.here):∀(H:List Ob) (i:Nat),H[i]?=some (.cells (aR l) 89)->HC prog 69 (.ptr i 0::[i64 n]) H (.tup []) (H.set i (.cells (aR (xj l n)) 89)):=by
 refine zM func69 fun B=>?_
 refine zp4 ?_
 refine Wd rfl rfl (aW rfl (by kernel_rfl) rfl (by exact dW _)) ?_
 refine Wn<|Wi rfl (fun hi1=>?_) (fun hi1=>?_)
 ·have q:l.err=0:=oT hi1
  refine aa rfl ?_
  refine zy5 ?_
  refine zy2 ?_
  refine zc rfl func99 ((xd l.f.vm n hm hh) _) ?_
  refine zy2 ?_
  refine zc rfl func80 ((oR l (rp l.f.vm n)) _ _ rfl) ?_
  refine Wn<|aV rfl rfl ?_ ?_
  ·rfl
  unfold xj;((rw[do0 q];rfl))
 have q:¬l.err=0:=oF hi1
 refine Wj<|aV rfl rfl ?_ ?_
 ·rfl
 unfold xj;((rw[do1 q];rfl))
def uk(l:ai)(n:Int):ai:=oDo l (Hl l.f.vm n)
def vh(l:ai)(n:Int)(h:CK 2 (lw l.f.vm)):∀(H:List Ob) (i:Nat),H[i]?=some (.cells (aR l) 89)->HC prog 42 (.ptr i 0::[i64 n]) H (.tup []) (H.set i (.cells (aR (uk l n)) 89)):=by
 refine zM func42 fun B=>?_
 refine zp4 ?_
 refine Wd rfl rfl (aW rfl (by kernel_rfl) rfl (by exact dW _)) ?_
 refine Wn<|Wi rfl (fun hi1=>?_) (fun hi1=>?_)
 ·have q:l.err=0:=oT hi1
  refine aa rfl ?_
  refine zy5 ?_
  refine zy2 ?_
  refine zc rfl func81 ((Ot l.f.vm n h) _) ?_
  refine zy2 ?_
  refine zc rfl func80 ((oR l (Hl l.f.vm n)) _ _ rfl) ?_
  refine Wn<|aV rfl rfl ?_ ?_
  ·rfl
  unfold uk;((rw[do0 q];rfl))
 have q:¬l.err=0:=oF hi1
 refine Wj<|aV rfl rfl ?_ ?_
 ·rfl
 unfold uk;((rw[do1 q];rfl))
def yg(l:ai)(name:Str):ai:=xj l (rR name)
def ud(l:ai)(name:Str)(hm:da l.f.vm.mem)(hh:iy l.f.vm.mem l.f.vm.here):∀(H:List Ob) (i:Nat),H[i]?=some (.cells (aR l) 89)->HC prog 187 (.ptr i 0::[str name]) H (.tup []) (H.set i (.cells (aR (yg l name)) 89)):=by
 have hn:=lI
 have hx:=zt ao name ao.length 0 (by rw[hn];omega)
 have w1:IntKind.i64.wrap (32+IntKind.i64.wrap (8*ui ao name ao.length 0))=rR name:=by unfold rR;rw[gZ (n:=8*_) (by omega) (by omega),gZ (by omega) (by omega)]
 refine zM func187 fun B=>?_
 refine aa rfl ?_
 refine z1 ?_
 refine zc rfl func98 ((oo) _) ?_
 refine z1 ?_
 refine zc rfl func113 ((tZ ao name (by rw[hn];omega)) _) ?_
 refine zy2 ?_
 refine Wa 9 rfl (congrArg (fun z=>PV.val (Value.int .i64 z)) w1) ?_
 refine zc rfl func69 ((s5 l (rR name) hm hh) _ _ rfl) ?_
 refine Wn<|aV rfl rfl ?_ ?_
 ·rfl
 rfl
def cw(f:af):Bool:=decide (f.comp.xt≠0/\(am f.vm.mem 8).1≠0)
def j8(f:af)(hm:f.vm.mem.b.length<=140737488355328):ab prog 23 [bS f] (boo (cw f)):=by
 refine zY func23 fun B=>?_
 refine zu2 ?_
 refine zp3 ?_
 refine zc rfl func39 ((gH f.vm.mem 8 hm (by unfold ae;omega)) _) ?_
 refine zs5 ?_
 refine zp5 ?_
 refine Wb 16 rfl (fun hg1=>?_) (fun hg1=>?_)
 ·have q1:f.comp.xt≠0:=by simpa using hg1
  refine zs4 ?_
  refine zR ?_
  (refine congrArg boo ?_;unfold cw;simp[q1];rfl)
 have q1:¬f.comp.xt≠0:=by simpa using hg1
 iterate 2 refine z6 ?_
 refine zs2 ?_
 refine zR ?_
 (refine congrArg boo ?_;unfold cw;rw[decide_eq_false (fun z=>q1 z.1)];done)
def DX(l:List aS):Prop:=∀x∈l,ae x.xt
structure LK (k:Nat) (l:ai):Prop where
 f:FK k l.f
 s:l.s.length<=1000000
 d:l.f.vm.d.length<=100000
 data:ae l.f.vm.conf.data
 out0:0<=l.f.vm.conf.out
 out1:l.f.vm.conf.out<=1000000
 out:l.f.vm.out.length<=1000000
 cfl:l.f.comp.cf.length<=32
 cf:∀c∈l.f.comp.cf,xq c
 dict:l.f.comp.xt≠0->0<=l.f.comp.dict/\l.f.comp.dict<l.f.vm.dict.length
 xts:DX l.f.vm.dict
def FK.ck{k:Nat}{f:af}(h:FK k f):CK k (lw f.vm):=⟨h.b,h.old,h.h0,h.h1,Nat.zero_le _,fun c hc=>by cases hc⟩
def LK.ck{k:Nat}{l:ai}(h:LK k l):CK k ⟨l.f.vm,l.f.comp.cf,0⟩:=⟨h.f.b,h.f.old,h.f.h0,h.f.h1,h.cfl,h.cf⟩
def LK.end_{l:ai}(h:LK 2 l):Y1 l.f:=⟨h.f,fun q=>h.dict (fun z=>by unfold nt at q;rw[if_pos z]at q;cases q)⟩
def LK.down{k j:Nat}{l:ai}(h:LK k l)(hj:j<=k):LK j l:=⟨h.f.down hj,h.s,h.d,h.data,h.out0,h.out1,h.out,h.cfl,h.cf,h.dict,h.xts⟩
def vq(l:ai)(e:Int):(oOk l e).f=l.f/\(oOk l e).s=l.s:=by unfold oOk;split<;>exact⟨rfl,rfl⟩
def JX(l:ai)(r:af×Int):(lx l r).f=r.1\/(lx l r).f=l.f:=by
 unfold lx;split
 ·exact .inl rfl
 exact .inr (vq l _).1
def lX(l:ai):(bW l).1.f=l.f/\(bW l).1.s=l.s:=by unfold bW;split;exact vq l _;exact⟨rfl,rfl⟩
def Is(s:Str)(a:Int):(bE s a).1.length<=s.length:=by unfold bE;dsimp only;simp;omega
def wO(l:ai):(bW l).2.length<=l.s.length:=by unfold bW;split;exact Nat.zero_le _;exact Is _ _
def JS(l:ai)(c:UInt8):(iM l c).1.f=l.f/\(iM l c).1.s=l.s:=by unfold iM;split;exact⟨rfl,rfl⟩;exact vq l _
def H9(l:ai)(c:UInt8):(iM l c).2.length<=l.s.length:=by
 unfold iM
 split
 ·show(lE l.s l.at_ c).1.length<=_
  unfold lE
  dsimp only
  split<;>simp<;>omega
 exact Nat.zero_le _
def vr(l:ai)(on:Bool)(fuel:Int):ai:=if (bW l).1.err=0 then lx (bW l).1 (iq (bW l).1.f (bW l).2 on fuel)else(bW l).1
def HI(l:ai)(on:Bool)(fuel:Int)(h:LK 3 l):∀(H:List Ob) (i:Nat),H[i]?=some (.cells (aR l) 89)->HC prog 175 (.ptr i 0::[boo on,i64 fuel]) H (.tup []) (H.set i (.cells (aR (vr l on fuel)) 89)):=by
 have e1:=lX l
 have e2:=wO l
 have pN:=tK l h.s
 unfold vr
 obtain⟨a,ha⟩:∃a,bW l=a:=⟨_,rfl⟩
 rw[ha]at e1 e2 pN ⊢
 have hs:=h.s
 have hF:=h.f
 rw[<-e1.1]at hF
 refine zM func175 fun B=>?_
 refine zp1 ?_
 refine zc rfl func194 ((pN) _ _ rfl) ?_
 refine zs1 ?_
 refine zp4 ?_
 refine Wd rfl rfl (aW rfl (by kernel_rfl) rfl (by exact dW _)) ?_
 refine Wn<|Wi rfl (fun hi1=>?_) (fun hi1=>?_)
 ·have q:a.1.err=0:=oT hi1
  refine aa rfl ?_
  refine zy5 ?_
  refine zy3 ?_
  refine zc rfl func210 ((JG a.1.f a.2 on fuel (by omega) hF) _) ?_
  refine zy2 ?_
  refine zc rfl func177 ((wQ a.1 (iq a.1.f a.2 on fuel)) _ _ rfl) ?_
  refine Wn<|aV rfl rfl ?_ ?_
  ·rfl
  (rw[if_pos q];rfl)
 have q:¬a.1.err=0:=oF hi1
 refine Wj<|aV rfl rfl ?_ ?_
 ·rfl
 (rw[if_neg q];rfl)
def FF(l:ai):ai:=vr l false 0
def Ts(l:ai)(h:LK 3 l):∀(H:List Ob) (i:Nat),H[i]?=some (.cells (aR l) 89)->HC prog 128 (.ptr i 0::[]) H (.tup []) (H.set i (.cells (aR (FF l)) 89)):=by
 refine zM func128 fun B=>?_
 refine aa rfl ?_
 refine z1 ?_
 refine zc rfl func175 ((HI l false 0 h) _ _ rfl) ?_
 refine Wn<|aV rfl rfl ?_ ?_
 ·rfl
 rfl
def Gg(l:ai):ai:=lx l (nu l.f)
def U2(l:ai)(h:LK 2 l):∀(H:List Ob) (i:Nat),H[i]?=some (.cells (aR l) 89)->HC prog 130 (.ptr i 0::[]) H (.tup []) (H.set i (.cells (aR (Gg l)) 89)):=by
 refine zM func130 fun B=>?_
 refine aa rfl ?_
 refine zy5 ?_
 refine zc rfl func178 ((Sy l.f h.end_) _) ?_
 refine zy2 ?_
 refine zc rfl func177 ((wQ l (nu l.f)) _ _ rfl) ?_
 refine Wn<|aV rfl rfl ?_ ?_
 ·rfl
 rfl
def Ml(l:ai):ai:=yg l [40,100,111,101,115,41]
def Xs(l:ai)(h:LK 1 l):∀(H:List Ob) (i:Nat),H[i]?=some (.cells (aR l) 89)->HC prog 144 (.ptr i 0::[]) H (.tup []) (H.set i (.cells (aR (Ml l)) 89)):=by
 refine zM func144 fun B=>?_
 refine aa rfl ?_
 refine z1 ?_
 refine zc rfl func187 ((ud l [40,100,111,101,115,41] h.f.mem h.f.here) _ _ rfl) ?_
 refine Wn<|aV rfl rfl ?_ ?_
 ·rfl
 rfl
def YH(l:ai):ai:=yg l [40,101,120,105,116,41]
def Xl(l:ai)(h:LK 1 l):∀(H:List Ob) (i:Nat),H[i]?=some (.cells (aR l) 89)->HC prog 143 (.ptr i 0::[]) H (.tup []) (H.set i (.cells (aR (YH l)) 89)):=by
 refine zM func143 fun B=>?_
 refine aa rfl ?_
 refine z1 ?_
 refine zc rfl func187 ((ud l [40,101,120,105,116,41] h.f.mem h.f.here) _ _ rfl) ?_
 refine Wn<|aV rfl rfl ?_ ?_
 ·rfl
 rfl
def as8(l:ai):ai:=xj l l.f.comp.xt
def Kf(l:ai)(h:LK 1 l):∀(H:List Ob) (i:Nat),H[i]?=some (.cells (aR l) 89)->HC prog 142 (.ptr i 0::[]) H (.tup []) (H.set i (.cells (aR (as8 l)) 89)):=by
 refine zM func142 fun B=>?_
 refine aa rfl ?_
 refine zy5 ?_
 refine zy2 ?_
 refine zc rfl func69 ((s5 l l.f.comp.xt h.f.mem h.f.here) _ _ rfl) ?_
 refine Wn<|aV rfl rfl ?_ ?_
 ·rfl
 rfl
def Hw(l:ai):ai:=(iM l 41).1
def I7(l:ai)(hs:l.s.length<=1000000):∀(H:List Ob) (i:Nat),H[i]?=some (.cells (aR l) 89)->HC prog 147 (.ptr i 0::[]) H (.tup []) (H.set i (.cells (aR (Hw l)) 89)):=by
 refine zM func147 fun B=>?_
 refine aa rfl ?_
 refine z1 ?_
 refine zc rfl func188 ((EI l 41 hs) _ _ rfl) ?_
 refine Wn<|aV rfl rfl ?_ ?_
 ·rfl
 rfl
def SI(l:ai):ai:={l with at_:=l.s.length}
def XM(l:ai):∀(H:List Ob) (i:Nat),H[i]?=some (.cells (aR l) 89)->HC prog 148 (.ptr i 0::[]) H (.tup []) (H.set i (.cells (aR (SI l)) 89)):=by
 refine zM func148 fun B=>?_
 refine aa rfl ?_
 refine zy5 ?_
 refine z1 ?_
 refine Wa 7 rfl (gJ _) ?_
 refine zs3 ?_
 refine aV rfl rfl ?_ ?_
 ·rfl
 rfl
def wA(l:ai):ai:=oDo (iM l 34).1 (K7 (iM l 34).1.f.vm (iM l 34).2)
def Mr(l:ai)(h:LK 4 l):∀(H:List Ob) (i:Nat),H[i]?=some (.cells (aR l) 89)->HC prog 145 (.ptr i 0::[]) H (.tup []) (H.set i (.cells (aR (wA l)) 89)):=by
 have e1:=JS l 34
 have e2:=H9 l 34
 have pU:=EI l 34 h.s
 unfold wA
 obtain⟨a,ha⟩:∃a,iM l 34=a:=⟨_,rfl⟩
 rw[ha]at e1 e2 pU ⊢
 have hs:=h.s
 have hF:=h.f.ck
 rw[<-e1.1]at hF
 refine zM func145 fun B=>?_
 refine zp1 ?_
 refine zc rfl func188 ((pU) _ _ rfl) ?_
 refine zs1 ?_
 refine zp4 ?_
 refine Wd rfl rfl (aW rfl (by kernel_rfl) rfl (by exact dW _)) ?_
 refine Wn<|Wi rfl (fun hi1=>?_) (fun hi1=>?_)
 ·have q:a.1.err=0:=oT hi1
  refine aa rfl ?_
  refine zy5 ?_
  refine zy2 ?_
  refine zc rfl func189 ((MY a.1.f.vm a.2 (by omega) hF) _) ?_
  refine zy2 ?_
  refine zc rfl func80 ((oR a.1 (K7 a.1.f.vm a.2)) _ _ rfl) ?_
  refine Wn<|aV rfl rfl ?_ ?_
  ·rfl
  (rw[do0 q];rfl)
 have q:¬a.1.err=0:=oF hi1
 refine Wj<|aV rfl rfl ?_ ?_
 ·rfl
 (rw[do1 q];rfl)
def Zc{k:Nat}{f:af}(h:FK k f){v:VVm}(hb:v.mem.b.length<=1000000)(ho:v.mem.old.length+k<=1000000)(h0:1368<=v.here)(h1:v.here<=v.mem.b.length)(hd:v.dict=f.vm.dict)(hh:v.hand=f.vm.hand):FK k {f with vm:=v} :=
 ⟨hb,ho,h0,h1,by rw[show({f with vm:=v}:af).vm=v from rfl,hd];exact h.dict,by rw[show({f with vm:=v}:af).vm=v from rfl,hd];exact h.each,by rw[show({f with vm:=v}:af).vm=v from rfl,hh];exact h.hand⟩
def X8{k:Nat}{l:ai}{r:VVm×Int}(h:FK k l.f)(hr:FK k {l.f with vm:=r.1}):FK k (gC l r).f:=by
 unfold gC
 rw[(vq l r.2).1]
 split
 ·exact hr
 rw[(vq l r.2).1];exact h
def YP{k:Nat}{l:ai}{r:VVm×Int}(h:FK k l.f)(hr:FK k {l.f with vm:=r.1}):FK k (oDo l r).f:=by
 unfold oDo;split
 ·exact X8 h hr
 exact h
def ae9{k:Nat}{x:CW}(h:CK (k+2) x)(s:Str):CK k (wT x s):=by
 unfold wT
 split
 ·unfold Dz
  have mk:dP x.v.mem (dg x.v.mem x.v.here s).1 1:=ij _
  have mh:=iL (m:=x.v.mem) s h.h0 h.h1
  obtain⟨r,hr⟩:∃r,dg x.v.mem x.v.here s=r:=⟨_,rfl⟩
  rw[hr]at mk mh ⊢
  have m2:dP r.1 (aN r.1 r.2.1).1 1:=ij _
  have mh2:1368<=(aN r.1 r.2.1).2.1/\(aN r.1 r.2.1).2.1<=r.1.b.length:=iL _ mh.1 (by rw[mk.len];exact mh.2)
  have l1:=mk.len
  have l2:=mk.old
  have l3:=m2.len
  have l4:=m2.old
  have l5:=h.old
  have l6:=h.b
  split
  ·exact⟨by show(aN r.1 r.2.1).1.b.length<=_;omega,by show(aN r.1 r.2.1).1.old.length+k<=_;omega,mh2.1,by show(aN r.1 r.2.1).2.1<=((aN r.1 r.2.1).1.b.length:Int);omega,h.len,h.cf⟩
  have q:=h.down (j:=k) (by omega);exact⟨q.b,q.old,q.h0,q.h1,q.len,q.cf⟩
 exact h.down (by omega)
def nS(w:CW)(n:Int):(iI w n).v.dict=w.v.dict/\(iI w n).v.hand=w.v.hand:=by unfold iI;split<;>exact⟨rfl,rfl⟩
def QB(x:CW)(s:Str):(wT x s).v.dict=x.v.dict/\(wT x s).v.hand=x.v.hand:=by
 unfold wT Dz
 split
 ·split<;>exact⟨rfl,rfl⟩
 exact⟨rfl,rfl⟩
def MP{k:Nat}{f:af}(h:FK k f){w:CW}(hw:CK k w)(hd:w.v.dict=f.vm.dict)(hh:w.v.hand=f.vm.hand):FK k {f with vm:=(zO w f.vm).1}:=by
 unfold zO pa
 split
 ·exact h
 exact Zc h hw.b hw.old hw.h0 hw.h1 hd hh
def ah1{k:Nat}{f:af}(h:FK (k+4) f)(s:Str):FK k {f with vm:=(K7 f.vm s).1}:=by
 have c1:CK (k+2) (N2 f.vm s):=qR (k:=k+2) (jE (k:=k+3) h.ck _) _
 have e1:=QB (N2 f.vm s) s
 have e2:=nS (cL (lw f.vm) [40,115,116,114,41]) s.length
 have e3:=nS (lw f.vm) (rR [40,115,116,114,41])
 exact MP (h.down (by omega)) (ae9 c1 s) (e1.1.trans (e2.1.trans e3.1)) (e1.2.trans (e2.2.trans e3.2))
def WQ{k:Nat}{l:ai}(h:FK (k+4) l.f):FK k (wA l).f:=by
 unfold wA
 have e1:=(JS l 34).1
 exact YP (by rw[e1];exact h.down (by omega)) (by rw[e1];exact ah1 h _)
def vk(l:ai):ai:=if cw l.f=true then yg (wA l) [84,89,80,69]else oDo (iM l 34).1 (i8 (iM l 34).1.f.vm (iM l 34).2)
def Rb(l:ai)(h:LK 5 l):∀(H:List Ob) (i:Nat),H[i]?=some (.cells (aR l) 89)->HC prog 146 (.ptr i 0::[]) H (.tup []) (H.set i (.cells (aR (vk l)) 89)):=by
 have kT:FK 1 (wA l).f:=WQ (k:=1) h.f
 have e1:=JS l 34
 have e2:=H9 l 34
 have pU:=EI l 34 h.s
 have eP:cw l.f=false->vk l=oDo (iM l 34).1 (i8 (iM l 34).1.f.vm (iM l 34).2):=fun q=>by unfold vk;rw[if_neg (by rw[q];decide)]
 have hs:=h.s
 have ho0:=h.out0
 have ho1:=h.out1
 have ho2:=h.out
 rw[<-e1.1]at ho0 ho1 ho2
 obtain⟨a,ha⟩:∃a,iM l 34=a:=⟨_,rfl⟩
 rw[ha]at e1 e2 pU eP ho0 ho1 ho2
 refine zM func146 fun B=>?_
 refine Ws<|zp4 ?_
 refine zc rfl func23 ((j8 l.f (by have:=h.f.b;omega)) _) ?_
 refine Wn<|Wi rfl (fun hi1=>?_) (fun hi1=>?_)
 ·have q1:cw l.f=true:=hi1
  refine zp1 ?_
  refine zc rfl func145 ((Mr l (h.down (by decide))) _ _ rfl) ?_
  refine Wn<|zp1 ?_
  refine zc rfl func187 ((ud (wA l) [84,89,80,69] kT.mem kT.here) _ _ rfl) ?_
  refine Wn<|Wq<|aO rfl rfl ?_ ?_
  ·rfl
  (rw[vk,if_pos q1];rfl)
 have q1:cw l.f=false:=hi1
 refine Wj<|zp1 ?_
 refine zc rfl func188 ((pU) _ _ rfl) ?_
 refine zs1 ?_
 refine zp4 ?_
 refine Wd rfl rfl (aW rfl (by kernel_rfl) rfl (by exact dW _)) ?_
 refine Wn<|Wi rfl (fun hi2=>?_) (fun hi2=>?_)
 ·have q:a.1.err=0:=oT hi2
  refine aa rfl ?_
  refine zy5 ?_
  refine zy2 ?_
  refine zc rfl func190 ((If a.1.f.vm a.2 ⟨ho0,ho1⟩ ho2 (by omega)) _) ?_
  refine zy2 ?_
  refine zc rfl func80 ((oR a.1 (i8 a.1.f.vm a.2)) _ _ rfl) ?_
  refine Wn<|aV rfl rfl ?_ ?_
  ·rfl
  (rw[eP q1,do0 q];rfl)
 have q:¬a.1.err=0:=oF hi2
 refine Wj<|aV rfl rfl ?_ ?_
 ·rfl
 (rw[eP q1,do1 q];rfl)
def my(l:ai)(name:Str):ai :=
 if (gC l ((bq l.f.vm l.f.comp.cf name).1,(bq l.f.vm l.f.comp.cf name).2.2)).err=0 then {gC l ((bq l.f.vm l.f.comp.cf name).1,(bq l.f.vm l.f.comp.cf name).2.2)with f:={(gC l ((bq l.f.vm l.f.comp.cf name).1,(bq l.f.vm l.f.comp.cf name).2.2)).f with comp:={(gC l ((bq l.f.vm l.f.comp.cf name).1,(bq l.f.vm l.f.comp.cf name).2.2)).f.comp with cf:=(bq l.f.vm l.f.comp.cf name).2.1}}}
 else gC l ((bq l.f.vm l.f.comp.cf name).1,(bq l.f.vm l.f.comp.cf name).2.2)
def J9(l:ai)(name:Str)(h:LK 40 l):∀(H:List Ob) (i:Nat),H[i]?=some (.cells (aR l) 89)->HC prog 101 (.ptr i 0::[str name]) H (.tup []) (H.set i (.cells (aR (my l name)) 89)):=by
 have pB:=BP l.f.vm l.f.comp.cf name h.ck
 unfold my
 obtain⟨r,hr⟩:∃r,bq l.f.vm l.f.comp.cf name=r:=⟨_,rfl⟩
 rw[hr]at pB ⊢
 have pM:=oR l (r.1,r.2.2)
 obtain⟨m,hm⟩:∃m,gC l (r.1,r.2.2)=m:=⟨_,rfl⟩
 rw[hm]at pM ⊢
 refine zM func101 fun B=>?_
 refine Ws<|V3.bb [0,0,0,0,1,0,0,0,0,0,1,0,0,0,0,0,0,2,3,0,0] [0,1,2,3,4,5,6,7,8,9,10,11,12,13,14,15,16,17,18,19,20] mG rfl (by kernel_rfl) ?_
 iterate 4 refine V3.aP ?_
 refine V3.i4 ?_
 iterate 5 refine V3.aP ?_
 refine V3.i4 ?_
 refine V3.aP ?_
 refine V3.cR rfl rfl rfl rfl (fun _=>dC rfl func151 rfl rfl ((pB) _)) ?_
 iterate 4 refine V3.aP ?_
 refine V3.sV tG rfl rfl rfl rfl rfl trivial rfl ?_
 refine V3.oL tG rfl rfl rfl rfl rfl trivial ?_
 iterate 2 refine V3.aP ?_
 refine V3.br ?_
 refine zp3 ?_
 refine zc rfl func80 ((pM) _ _ rfl) ?_
 refine Wn<|zp4 ?_
 refine Wd rfl rfl (aW rfl (by kernel_rfl) rfl (by exact dW _)) ?_
 refine Wn<|Wi rfl (fun hi1=>?_) (fun hi1=>?_)
 ·have q:m.err=0:=oT hi1
  refine aa rfl ?_
  refine zy5 ?_
  refine zs2 ?_
  refine aV rfl rfl ?_ ?_
  ·rfl
  (rw[if_pos q];rfl)
 have q:¬m.err=0:=oF hi1
 refine Wj<|aV rfl rfl ?_ ?_
 ·rfl
 (rw[if_neg q];rfl)
def jR(l:ai)(D:af->Str->af×Int):ai:=if (bW l).1.err=0 then lx (bW l).1 (D (bW l).1.f (bW l).2)else(bW l).1
def eJ(l:ai):ai:=jR l fun f name=>cK f name true [257,0]
def Yb(F:FuncId)(D:af->Str->af×Int)(k:Nat):Prop:=∀f name,name.length<=1000000->FK k f->∀H,ou prog F [bS f,str name] H (iY (D f name)) H
def zG{F:FuncId}{D:af->Str->af×Int}{k:Nat}(hD:Yb F D k)(l:ai)(hs:l.s.length<=1000000)(hF:FK k l.f):∀(H:List Ob) (i:Nat),H[i]?=some (.cells (aR l) 89)->HC prog 158 (.ptr i 0::[.fn (.func F) [] []]) H (.tup []) (H.set i (.cells (aR (jR l D)) 89)):=by
 have e1:=lX l
 have e2:=wO l
 have pN:=tK l hs
 unfold jR
 obtain⟨a,ha⟩:∃a,bW l=a:=⟨_,rfl⟩
 rw[ha]at e1 e2 pN ⊢
 rw[<-e1.1]at hF
 refine zM func158 fun B=>?_
 refine zp1 ?_
 refine zc rfl func194 ((pN) _ _ rfl) ?_
 refine zs1 ?_
 refine zp4 ?_
 refine Wd rfl rfl (aW rfl (by kernel_rfl) rfl (by exact dW _)) ?_
 refine Wn<|Wi rfl (fun hi1=>?_) (fun hi1=>?_)
 ·have q:a.1.err=0:=oT hi1
  refine aa rfl ?_
  refine zy5 ?_
  refine zy2 ?_
  refine Wc rfl rfl (fp rfl rfl (hD a.1.f a.2 (by omega) hF _)) ?_
  refine zy2 ?_
  refine zc rfl func177 ((wQ a.1 (D a.1.f a.2)) _ _ rfl) ?_
  refine Wn<|aV rfl rfl ?_ ?_
  ·rfl
  (rw[if_pos q];rfl)
 have q:¬a.1.err=0:=oF hi1
 refine Wj<|aV rfl rfl ?_ ?_
 ·rfl
 (rw[if_neg q];rfl)
def KM:Yb 159 (fun f name=>cK f name true [257,0]) 3:=fun f name hn h H=>⟨⟨_,func159,rfl,rfl⟩,IO f name hn h H⟩
def C7(l:ai)(hs:l.s.length<=1000000)(hF:FK 3 l.f):∀(H:List Ob) (i:Nat),H[i]?=some (.cells (aR l) 89)->HC prog 114 (.ptr i 0::[]) H (.tup []) (H.set i (.cells (aR (eJ l)) 89)):=by
 refine zM func114 fun B=>?_
 refine aa rfl ?_
 refine z1 ?_
 refine zc rfl func158 ((zG KM l hs hF) _ _ rfl) ?_
 refine Wn<|aV rfl rfl ?_ ?_
 ·rfl
 rfl
def fK(F:FuncId):PV:=.fn (.func F) [] []
def Rl(F:FuncId)(D:af->Str->Int->af×Int)(k:Nat):Prop:=∀f name n,name.length<=1000000->FK k f->∀H,ou prog F [bS f,str name,i64 n] H (iY (D f name n)) H
section
variable {F : FuncId} {D : af -> Str -> Int -> af × Int} {k : Nat}
def Yw(hD:Rl F D k)(l:ai)(f:af)(name:Str)(n:Int)(hn:name.length<=1000000)(hF:FK k f):
  HC prog 216 [bS f,str name,.ptr 1 0,.ptr 2 0] [.cells (aR l) 89,.cells [fK F] 252,.cells [i64 n] 3] (iY (D f name n))
   [.cells (aR l) 89,.cells [fK F] 252,.cells [i64 n] 3,.cells (jQ f) 42,.cells (jQ (D f name n).1) 42]:=by
 refine mJ tG (rs:=[.cell 6 42,.tmp 7]) func216 rfl rfl rfl (fun B=>?_)
 refine zu3 ?_
 refine zp4 ?_
 refine Wc rfl rfl (fp rfl rfl (hD f name n hn hF _)) ?_
 refine zs4 ?_
 refine Wq<|AH rfl ?_ ?_
 ·rfl
 rfl
def tJ(l:ai)(D:af->Str->Int->af×Int):ai:=if (mS l).1.err=0 then jR (mS l).1 (fun f name=>D f name (mS l).2)else(mS l).1
def Ud(hD:Rl F D k)(l:ai)(n:Int)(h:LK k l)(q:(bW l).1.err=0):
  HC prog 158 [.ptr 0 0,.fn (.func 216) [] [.ptr 1 0,.ptr 2 0]] [.cells (aR l) 89,.cells [fK F] 252,.cells [i64 n] 3] (.tup [])
   [.cells (aR (jR l fun f name=>D f name n)) 89,.cells [fK F] 252,.cells [i64 n] 3,.cells (jQ (bW l).1.f) 42,.cells (jQ (D (bW l).1.f (bW l).2 n).1) 42]:=by
 have e1:=lX l
 have e2:=wO l
 have pN:=tK l h.s
 unfold jR
 obtain⟨a,ha⟩:∃a,bW l=a:=⟨_,rfl⟩
 rw[ha]at e1 e2 pN q ⊢
 have hs:=h.s
 have hF:=h.f
 rw[<-e1.1]at hF
 rw[if_pos q]
 refine mJ tG (rs:=[]) func158 rfl rfl rfl (fun B=>?_)
 refine zp1 ?_
 refine zc rfl func194 ((pN) _ _ rfl) ?_
 refine zs1 ?_
 refine zp4 ?_
 refine Wd rfl rfl (aW rfl (by kernel_rfl) rfl (by exact dW _)) ?_
 refine Wn<|Wt rfl (by exact decide_eq_true q) ?_
 refine aa rfl ?_
 refine zy5 ?_
 refine zy2 ?_
 refine Wc rfl rfl (ei rfl rfl func216 rfl rfl ((Yw hD a.1 a.1.f a.2 n (by omega) hF))) ?_
 refine zy2 ?_
 refine zc rfl func177 ((wQ a.1 (D a.1.f a.2 n)) _ _ rfl) ?_
 refine Wn<|Uj rfl ?_ ?_
 ·rfl
 rfl
def PT(l:ai)(n:Int)(hs:l.s.length<=1000000)(q:¬(bW l).1.err=0):
  HC prog 158 [.ptr 0 0,.fn (.func 216) [] [.ptr 1 0,.ptr 2 0]] [.cells (aR l) 89,.cells [fK F] 252,.cells [i64 n] 3] (.tup [])
   [.cells (aR (jR l fun f name=>D f name n)) 89,.cells [fK F] 252,.cells [i64 n] 3]:=by
 have pN:=tK l hs
 unfold jR
 obtain⟨a,ha⟩:∃a,bW l=a:=⟨_,rfl⟩
 rw[ha]at pN q ⊢
 rw[if_neg q]
 refine mJ tG (rs:=[]) func158 rfl rfl rfl (fun B=>?_)
 refine zp1 ?_
 refine zc rfl func194 ((pN) _ _ rfl) ?_
 refine zs1 ?_
 refine zp4 ?_
 refine Wd rfl rfl (aW rfl (by kernel_rfl) rfl (by exact dW _)) ?_
 refine Wn<|Wf rfl (by exact decide_eq_false q) ?_
 refine Wj<|Uj rfl ?_ ?_
 ·rfl
 rfl
def aa3(l:ai)(r:VVm×Int):(gC l r).s=l.s:=by unfold gC;split;exact(vq l _).2;exact(vq l _).2
def Cc(hD:Rl F D k)(l:ai)(h:LK k l)(hP:LK k (mS l).1):∀(H:List Ob) (i:Nat),H[i]?=some (.cells (aR l) 89)->HC prog 180 (.ptr i 0::[fK F]) H (.tup []) (H.set i (.cells (aR (tJ l D)) 89)):=by
 have pP:=Ji l h.d
 have hp:=aa3 l ((eg l.f.vm).2.1,(eg l.f.vm).2.2)
 unfold tJ
 change (mS l).1.s=l.s at hp
 obtain⟨p,hp'⟩:∃p,mS l=p:=⟨_,rfl⟩
 rw[hp']at pP hp hP ⊢
 have flK:aU (fK F):=by simp[fK,aU,aw]
 by_cases q:(bW p.1).1.err=0
 ·have q':=q
  refine ju tG (rs:=[]) func180 rfl rfl rfl (by(simp[aw,aU,fK];done)) (by(simp;done)) (by(simp;done)) (by(simp;done)) (fun B=>?_)
  refine zu1 ?_
  refine zp1 ?_
  refine zc rfl func176 ((pP) _ _ rfl) ?_
  refine zs2 ?_
  refine zp4 ?_
  refine Wd rfl rfl (aW rfl (by kernel_rfl) rfl (by exact dW _)) ?_
  refine Wn<|Wi rfl (fun hi1=>?_) (fun hi1=>?_)
  ·have q1:p.1.err=0:=oT hi1
   refine aa rfl ?_
   refine zy2 ?_
   refine zc rfl func158 (Ud hD p.1 p.2 hP q) ?_
   refine Wn<|aV rfl rfl ?_ ?_
   ·rfl
   (rw[if_pos q1];rfl)
  have q1:¬p.1.err=0:=oF hi1
  refine Wj<|aV rfl rfl ?_ ?_
  ·rfl
  (rw[if_neg q1];rfl)
 have q':=q
 refine ju tG (rs:=[]) func180 rfl rfl rfl (by(simp[aw,aU,fK];done)) (by(simp;done)) (by(simp;done)) (by(simp;done)) (fun B=>?_)
 refine zu1 ?_
 refine zp1 ?_
 refine zc rfl func176 ((pP) _ _ rfl) ?_
 refine zs2 ?_
 refine zp4 ?_
 refine Wd rfl rfl (aW rfl (by kernel_rfl) rfl (by exact dW _)) ?_
 refine Wn<|Wi rfl (fun hi1=>?_) (fun hi1=>?_)
 ·have q1:p.1.err=0:=oT hi1
  refine aa rfl ?_
  refine zy2 ?_
  refine zc rfl func158 (PT (F:=F) (D:=D) p.1 p.2 hP.s q) ?_
  refine Wn<|aV rfl rfl ?_ ?_
  ·rfl
  (rw[if_pos q1];rfl)
 have q1:¬p.1.err=0:=oF hi1
 refine Wj<|aV rfl rfl ?_ ?_
 ·rfl
 (rw[if_neg q1];rfl)
end
def KA(l:ai):ai:=tJ l fun f name n=>cK f name false [258,0,n]
def Ff:Rl 181 (fun f name n=>cK f name false [258,0,n]) 4:=fun f name n hn h H=>⟨⟨_,func181,rfl,rfl⟩,BO f name n hn h H⟩
def GW(l:ai)(h:LK 4 l)(hP:LK 4 (mS l).1):∀(H:List Ob) (i:Nat),H[i]?=some (.cells (aR l) 89)->HC prog 132 (.ptr i 0::[]) H (.tup []) (H.set i (.cells (aR (KA l)) 89)):=by
 refine zM func132 fun B=>?_
 refine aa rfl ?_
 refine z1 ?_
 refine zc rfl func180 ((Cc Ff l h hP) _ _ rfl) ?_
 refine Wn<|aV rfl rfl ?_ ?_
 ·rfl
 rfl
open Go.RowKit
def Ek(l:ai)(n:Int):ai:=gC l ({l.f.vm with mem:=(ay l.f.vm.mem 8 n).1},(ay l.f.vm.mem 8 n).2)
def IQ(l:ai)(n:Int)(h:LK 1 l):∀(H:List Ob) (i:Nat),H[i]?=some (.cells (aR l) 89)->HC prog 191 (.ptr i 0::[i64 n]) H (.tup []) (H.set i (.cells (aR (Ek l n)) 89)):=by
 refine zM func191 fun B=>?_
 refine zp5 ?_
 refine zy2 ?_
 refine zc rfl func92 ((jG l.f.vm.mem 8 n h.f.mem (by unfold ae;omega)) _) ?_
 refine zy5 ?_
 refine zs1 ?_
 refine zp5 ?_
 refine zs2 ?_
 refine zu3 ?_
 refine aa rfl ?_
 refine zy3 ?_
 refine zc rfl func80 ((oR l ({l.f.vm with mem:=(ay l.f.vm.mem 8 n).1},(ay l.f.vm.mem 8 n).2)) _ _ rfl) ?_
 refine Wn<|aV rfl rfl ?_ ?_
 ·rfl
 rfl
def YY(l:ai):ai:=Ek l 0
def WJ(l:ai)(h:LK 1 l):∀(H:List Ob) (i:Nat),H[i]?=some (.cells (aR l) 89)->HC prog 149 (.ptr i 0::[]) H (.tup []) (H.set i (.cells (aR (YY l)) 89)):=by
 refine zM func149 fun B=>?_
 refine aa rfl ?_
 refine z1 ?_
 refine zc rfl func191 ((IQ l 0 h) _ _ rfl) ?_
 refine Wn<|aV rfl rfl ?_ ?_
 ·rfl
 rfl
def AG(l:ai):ai:=if l.f.comp.xt=0 then oOk l (-14)else Ek l (-1)
def TH(l:ai)(h:LK 1 l):∀(H:List Ob) (i:Nat),H[i]?=some (.cells (aR l) 89)->HC prog 150 (.ptr i 0::[]) H (.tup []) (H.set i (.cells (aR (AG l)) 89)):=by
 refine zM func150 fun B=>?_
 refine Ws<|zp5 ?_
 refine zs2 ?_
 refine Wi rfl (fun hi1=>?_) (fun hi1=>?_)
 ·have q:l.f.comp.xt=0:=by simpa using hi1
  refine zp1 ?_
  refine zc rfl func41 ((o7 l (-14)) _ _ rfl) ?_
  refine Wn<|Wq<|aO rfl rfl ?_ ?_
  ·rfl
  (rw[AG,if_pos q];rfl)
 have q:¬l.f.comp.xt=0:=by simpa using hi1
 refine Wj<|aa rfl ?_
 refine z1 ?_
 refine zc rfl func191 ((IQ l (-1) h) _ _ rfl) ?_
 refine Wn<|aV rfl rfl ?_ ?_
 ·rfl
 (rw[AG,if_neg q];rfl)
def as0(l:ai):ai:=lx l (Nv l.f)
def EV(l:ai)(h:LK 1 l):∀(H:List Ob) (i:Nat),H[i]?=some (.cells (aR l) 89)->HC prog 134 (.ptr i 0::[]) H (.tup []) (H.set i (.cells (aR (as0 l)) 89)):=by
 refine zM func134 fun B=>?_
 refine aa rfl ?_
 refine zy5 ?_
 refine zc rfl func183 ((Am l.f (h.f.down (by decide))) _) ?_
 refine zy2 ?_
 refine zc rfl func177 ((wQ l (Nv l.f)) _ _ rfl) ?_
 refine Wn<|aV rfl rfl ?_ ?_
 ·rfl
 rfl
def oOn(l:ai):ai:=if (mS l).1.err=0 then vr (mS l).1 true (mS l).2 else(mS l).1
def ar9(l:ai)(h:LK 4 l)(hP:LK 4 (mS l).1):∀(H:List Ob) (i:Nat),H[i]?=some (.cells (aR l) 89)->HC prog 129 (.ptr i 0::[]) H (.tup []) (H.set i (.cells (aR (oOn l)) 89)):=by
 have pP:=Ji l h.d
 unfold oOn
 obtain⟨p,hp⟩:∃p,mS l=p:=⟨_,rfl⟩
 rw[hp]at pP hP ⊢
 refine zM func129 fun B=>?_
 refine zp1 ?_
 refine zc rfl func176 ((pP) _ _ rfl) ?_
 refine zs1 ?_
 refine zp4 ?_
 refine Wd rfl rfl (aW rfl (by kernel_rfl) rfl (by exact dW _)) ?_
 refine Wn<|Wi rfl (fun hi1=>?_) (fun hi1=>?_)
 ·have q:p.1.err=0:=oT hi1
  refine aa rfl ?_
  refine zy2 ?_
  refine zc rfl func175 ((HI p.1 true p.2 (hP.down (by decide))) _ _ rfl) ?_
  refine Wn<|aV rfl rfl ?_ ?_
  ·rfl
  (rw[if_pos q];rfl)
 have q:¬p.1.err=0:=oF hi1
 refine Wj<|aV rfl rfl ?_ ?_
 ·rfl
 (rw[if_neg q];rfl)
def fR(l:ai):ai×aS :=
 if (bW l).1.err=0 then(if (dc (bW l).1.f.vm.dict (bW l).2).2.2=false then oOk (bW l).1 (-13)else(bW l).1,(dc (bW l).1.f.vm.dict (bW l).2).1)else((bW l).1,default)
def AK(l:ai)(h:LK 1 l):∀(H:List Ob) (i:Nat),H[i]?=some (.cells (aR l) 89)->HC prog 185 (.ptr i 0::[]) H (yB (fR l).2) (H.set i (.cells (aR (fR l).1) 89)):=by
 have e1:=lX l
 have e2:=wO l
 have pN:=tK l h.s
 have hs:=h.s
 have hD:=h.f.each
 unfold fR
 obtain⟨a,ha⟩:∃a,bW l=a:=⟨_,rfl⟩
 rw[ha]at e1 e2 pN ⊢
 rw[<-e1.1]at hD
 have pD:=xv a.1.f.vm.dict a.2 hD (by omega)
 obtain⟨d,hd⟩:∃d,dc a.1.f.vm.dict a.2=d:=⟨_,rfl⟩
 rw[hd]at pD ⊢
 refine zM func185 fun B=>?_
 refine zu1 ?_
 refine zp1 ?_
 refine zc rfl func194 ((pN) _ _ rfl) ?_
 refine zs1 ?_
 refine Ws<|zp4 ?_
 refine Wd rfl rfl (jn rfl (by kernel_rfl) rfl (by exact dW _)) ?_
 refine Wn<|Wi rfl (fun hi1=>?_) (fun hi1=>?_)
 ·have q:¬a.1.err=0:=by simpa using hi1
  refine zu2 ?_
  refine Wq<|aO rfl rfl ?_ ?_
  ·(rw[if_neg q];rfl)
  (rw[if_neg q];rfl)
 have q:a.1.err=0:=by simpa using hi1
 refine Wj<|zp5 ?_
 refine zy2 ?_
 refine zc rfl func37 ((pD) _) ?_
 refine zy5 ?_
 refine zs3 ?_
 refine Ws<|zu2 ?_
 refine Wi rfl (fun hi2=>?_) (fun hi2=>?_)
 ·have q2:d.2.2=false:=by simpa using hi2
  refine aa rfl ?_
  refine z1 ?_
  refine zc rfl func41 ((o7 a.1 (-13)) _ _ rfl) ?_
  refine Wn<|zu2 ?_
  refine Wq<|aO rfl rfl ?_ ?_
  ·(rw[if_pos q];rfl)
  (rw[if_pos q,if_pos q2];rfl)
 have q2:¬d.2.2=false:=by simpa using hi2
 refine Wj<|zu2 ?_
 refine Wq<|aO rfl rfl ?_ ?_
 ·(rw[if_pos q];rfl)
 (rw[if_pos q,if_neg q2];rfl)
def Dv{k:Nat}{l l':ai}(h:LK k l)(hf:l'.f=l.f)(hs:l'.s=l.s):LK k l' :=
 ⟨by rw[hf];exact h.f,by rw[hs];exact h.s,by rw[hf];exact h.d,by rw[hf];exact h.data,by rw[hf];exact h.out0,by rw[hf];exact h.out1,by rw[hf];exact h.out,by rw[hf];exact h.cfl,by rw[hf];exact h.cf,by rw[hf];exact h.dict,by rw[hf];exact h.xts⟩
def tY(l:ai):(fR l).1.f=l.f/\(fR l).1.s=l.s:=by
 have e:=lX l
 have o:=vq (bW l).1 (-13)
 unfold fR
 split
 ·dsimp only
  split
  ·exact⟨o.1.trans e.1,o.2.trans e.2⟩
  exact e
 exact e
def S5(l:ai):ai:=wa (fR l).1 (fR l).2.xt
def Yj(l:ai)(h:LK 1 l):∀(H:List Ob) (i:Nat),H[i]?=some (.cells (aR l) 89)->HC prog 136 (.ptr i 0::[]) H (.tup []) (H.set i (.cells (aR (S5 l)) 89)):=by
 have pF:=AK l h
 have hF:=Dv h (tY l).1 (tY l).2
 unfold S5
 obtain⟨a,ha⟩:∃a,fR l=a:=⟨_,rfl⟩
 rw[ha]at pF hF ⊢
 refine zM func136 fun B=>?_
 refine aa rfl ?_
 refine zy2 ?_
 refine zc rfl func185 ((pF) _ _ rfl) ?_
 refine z1 ?_
 refine zc rfl func43 ((En a.1 a.2.xt hF.d hF.data) _ _ rfl) ?_
 refine Wn<|aV rfl rfl ?_ ?_
 ·rfl
 rfl
def D3(l:ai):ai:=uk (fR l).1 (fR l).2.xt
def OD(l:ai)(h:LK 2 l):∀(H:List Ob) (i:Nat),H[i]?=some (.cells (aR l) 89)->HC prog 137 (.ptr i 0::[]) H (.tup []) (H.set i (.cells (aR (D3 l)) 89)):=by
 have pF:=AK l (h.down (by decide))
 have hF:=Dv h (tY l).1 (tY l).2
 unfold D3
 obtain⟨a,ha⟩:∃a,fR l=a:=⟨_,rfl⟩
 rw[ha]at pF hF ⊢
 refine zM func137 fun B=>?_
 refine aa rfl ?_
 refine zy2 ?_
 refine zc rfl func185 ((pF) _ _ rfl) ?_
 refine z1 ?_
 refine zc rfl func42 ((vh a.1 a.2.xt hF.f.ck) _ _ rfl) ?_
 refine Wn<|aV rfl rfl ?_ ?_
 ·rfl
 rfl
def VS(s:Str):Int:=((s.getD 0 0).toNat:Int)
def pT(l:ai):ai×Int:=((bW l).1,if (bW l).2=[]then 0 else VS (bW l).2)
def Mh(l:ai)(hs:l.s.length<=1000000):∀(H:List Ob) (i:Nat),H[i]?=some (.cells (aR l) 89)->HC prog 186 (.ptr i 0::[]) H (i64 (pT l).2) (H.set i (.cells (aR (pT l).1) 89)):=by
 have pN:=tK l hs
 unfold pT
 obtain⟨a,ha⟩:∃a,bW l=a:=⟨_,rfl⟩
 rw[ha]at pN ⊢
 have w0:IntKind.i64.wrap ((a.2.getD 0 0).toNat:Int)=((a.2.getD 0 0).toNat:Int):=by have:=(a.2.getD 0 0).toNat_lt;exact gZ (by omega) (by omega)
 refine zM func186 fun B=>?_
 refine zu1 ?_
 refine Ws<|zp1 ?_
 refine zc rfl func194 ((pN) _ _ rfl) ?_
 refine zs1 ?_
 refine zp2 ?_
 refine Wa 7 rfl (W7 _ _) ?_
 refine Wn<|Wi rfl (fun hi1=>?_) (fun hi1=>?_)
 ·have q:¬a.2=[]:=by simpa using hi1
  have q0:=List.length_pos_iff.2 q
  refine zp1 ?_
  refine z2 ?_ (q:=(by simp only[ew];omega))
  refine Wa 9 rfl (tC _ _) ?_
  refine zs2 ?_
  refine Wq<|aO rfl rfl ?_ ?_
  ·(show i64 _=i64 (if a.2=[]then 0 else VS a.2);rw[if_neg q,w0];rfl)
  rfl
 have q:a.2=[]:=by simpa using hi1
 refine Wj<|zu1 ?_
 refine Wq<|aO rfl rfl ?_ ?_
 ·(show i64 _=i64 (if a.2=[]then 0 else VS a.2);rw[if_pos q];done)
 rfl
def Qn(l:ai):ai:=wa (pT l).1 (pT l).2
def Yp(l:ai)(h:LK 1 l):∀(H:List Ob) (i:Nat),H[i]?=some (.cells (aR l) 89)->HC prog 138 (.ptr i 0::[]) H (.tup []) (H.set i (.cells (aR (Qn l)) 89)):=by
 have pF:=Mh l h.s
 have hF:=Dv (l':=(pT l).1) h (lX l).1 (lX l).2
 unfold Qn
 obtain⟨a,ha⟩:∃a,pT l=a:=⟨_,rfl⟩
 rw[ha]at pF hF ⊢
 refine zM func138 fun B=>?_
 refine aa rfl ?_
 refine zy2 ?_
 refine zc rfl func186 ((pF) _ _ rfl) ?_
 refine zc rfl func43 ((En a.1 a.2 hF.d hF.data) _ _ rfl) ?_
 refine Wn<|aV rfl rfl ?_ ?_
 ·rfl
 rfl
def Ec(l:ai):ai:=uk (pT l).1 (pT l).2
def Ov(l:ai)(h:LK 2 l):∀(H:List Ob) (i:Nat),H[i]?=some (.cells (aR l) 89)->HC prog 139 (.ptr i 0::[]) H (.tup []) (H.set i (.cells (aR (Ec l)) 89)):=by
 have pF:=Mh l h.s
 have hF:=Dv (l':=(pT l).1) h (lX l).1 (lX l).2
 unfold Ec
 obtain⟨a,ha⟩:∃a,pT l=a:=⟨_,rfl⟩
 rw[ha]at pF hF ⊢
 refine zM func139 fun B=>?_
 refine aa rfl ?_
 refine zy2 ?_
 refine zc rfl func186 ((pF) _ _ rfl) ?_
 refine zc rfl func42 ((vh a.1 a.2 hF.f.ck) _ _ rfl) ?_
 refine Wn<|aV rfl rfl ?_ ?_
 ·rfl
 rfl
def Bb(l:ai):ai:=uk (mS l).1 (mS l).2
def Ko(l:ai)(h:LK 4 l)(hP:LK 4 (mS l).1):∀(H:List Ob) (i:Nat),H[i]?=some (.cells (aR l) 89)->HC prog 140 (.ptr i 0::[]) H (.tup []) (H.set i (.cells (aR (Bb l)) 89)):=by
 have pP:=Ji l h.d
 unfold Bb
 obtain⟨p,hp⟩:∃p,mS l=p:=⟨_,rfl⟩
 rw[hp]at pP hP ⊢
 refine zM func140 fun B=>?_
 refine aa rfl ?_
 refine zy2 ?_
 refine zc rfl func176 ((pP) _ _ rfl) ?_
 refine zc rfl func42 ((vh p.1 p.2 (hP.f.ck.down (by decide))) _ _ rfl) ?_
 refine Wn<|aV rfl rfl ?_ ?_
 ·rfl
 rfl
def Fs:Yb 179 (fun f name=>cK f name true [257,0,0]) 4:=fun f name hn h H=>⟨⟨_,func179,rfl,rfl⟩,BS f name hn h H⟩
def K4:Yb 184 C6 0:=fun f name hn h H=>⟨⟨_,func184,rfl,rfl⟩,Hp f name hn h H⟩
def Gx:Rl 182 wj 270:=fun f name n hn h H=>⟨⟨_,func182,rfl,rfl⟩,FB f name n hn h H⟩
def ap5(l:ai):ai:=jR l fun f name=>cK f name true [257,0,0]
def Gf(l:ai)(hs:l.s.length<=1000000)(hF:FK 4 l.f):∀(H:List Ob) (i:Nat),H[i]?=some (.cells (aR l) 89)->HC prog 131 (.ptr i 0::[]) H (.tup []) (H.set i (.cells (aR (ap5 l)) 89)):=by
 refine zM func131 fun B=>?_
 refine aa rfl ?_
 refine z1 ?_
 refine zc rfl func158 ((zG Fs l hs hF) _ _ rfl) ?_
 refine Wn<|aV rfl rfl ?_ ?_
 ·rfl
 rfl
def Zb(l:ai):ai:=jR l C6
def NF(l:ai)(hs:l.s.length<=1000000)(hF:FK 0 l.f):∀(H:List Ob) (i:Nat),H[i]?=some (.cells (aR l) 89)->HC prog 135 (.ptr i 0::[]) H (.tup []) (H.set i (.cells (aR (Zb l)) 89)):=by
 refine zM func135 fun B=>?_
 refine aa rfl ?_
 refine z1 ?_
 refine zc rfl func158 ((zG K4 l hs hF) _ _ rfl) ?_
 refine Wn<|aV rfl rfl ?_ ?_
 ·rfl
 rfl
def Lr(l:ai):ai:=tJ l wj
def On(l:ai)(h:LK 270 l)(hP:LK 270 (mS l).1):∀(H:List Ob) (i:Nat),H[i]?=some (.cells (aR l) 89)->HC prog 133 (.ptr i 0::[]) H (.tup []) (H.set i (.cells (aR (Lr l)) 89)):=by
 refine zM func133 fun B=>?_
 refine aa rfl ?_
 refine z1 ?_
 refine zc rfl func180 ((Cc Gx l h hP) _ _ rfl) ?_
 refine Wn<|aV rfl rfl ?_ ?_
 ·rfl
 rfl
def IV(l:List aS)(name:Str):∀k,k<=l.length->(mv l name k).1∈l\/(mv l name k).1=default
 | 0,_=>.inr rfl
 | k+1,hk=>by
  unfold mv
  split
  ·left
   show l.getD k default∈l
   rw[List.getD_eq_getElem?_getD,List.getElem?_eq_getElem (by omega)]
   exact List.getElem_mem _
  exact IV l name k (by omega)
def Bc{l:List aS}(h:DX l)(name:Str):ae (dc l name).1.xt:=by
 rcases IV l name l.length (Nat.le_refl _)with q|q
 ·exact h _ q
 show ae (mv l name l.length).1.xt
 rw[q];exact bI
def C8{l:ai}(h:DX l.f.vm.dict):ae (fR l).2.xt:=by
 unfold fR
 split
 ·rw[(lX l).1];exact Bc h _
 exact bI
def Hh{l:ai}(h:kh l.f.vm.dict):0<=(fR l).2.flags/\(fR l).2.flags<=7:=by
 unfold fR
 split
 ·rw[(lX l).1]
  exact sg (fun x hx=>(h.2 x hx).2) _ _ (Nat.le_refl _)
 show 0<=(default:aS).flags/\(default:aS).flags<=7
 exact⟨by decide,by decide⟩
def am0{f:Int}(h0:0<=f)(h7:f<=7):(IntKind.i64.wrap ↑(BitVec.ofInt IntKind.i64.bits f &&& BitVec.ofInt IntKind.i64.bits 1).toNat != 0)=decide (f%2=1):=by
 rcases rc h0 h7 with rfl|rfl|rfl|rfl|rfl|rfl|rfl|rfl<;>decide
def sT(l:ai)(w:aS):Int:=if (av l.f.vm w.xt).2=0/\300<=(av l.f.vm w.xt).1 then -32 else(av l.f.vm w.xt).2
def PM(l:ai)(w:aS):ai:=if w.flags%2=1 then xj (oOk l (sT l w)) w.xt else yg (uk (oOk l (sT l w)) w.xt) [44]
def GK(l:ai):ai:=if (fR l).1.err=0 then PM (fR l).1 (fR l).2 else(fR l).1
def GQ(l:ai)(h:LK 5 l):∀(H:List Ob) (i:Nat),H[i]?=some (.cells (aR l) 89)->HC prog 141 (.ptr i 0::[]) H (.tup []) (H.set i (.cells (aR (GK l)) 89)):=by
 have pF:=AK l (h.down (by decide))
 have hF:=Dv h (tY l).1 (tY l).2
 have fx:=C8 (l:=l) h.xts
 have fl:=Hh (l:=l) h.f.each
 unfold GK
 obtain⟨a,ha⟩:∃a,fR l=a:=⟨_,rfl⟩
 rw[ha]at pF hF fx fl ⊢
 have ln:=am0 fl.1 fl.2
 have hm:a.1.f.vm.mem.b.length<=140737488355328:=by have:=hF.f.b;omega
 have pK:=qW a.1.f.vm a.2.xt hm fx
 have hE:sT a.1 a.2=if (av a.1.f.vm a.2.xt).2=0/\300<=(av a.1.f.vm a.2.xt).1 then -32 else(av a.1.f.vm a.2.xt).2:=rfl
 have hK:PM a.1 a.2=if a.2.flags%2=1 then xj (oOk a.1 (sT a.1 a.2)) a.2.xt else yg (uk (oOk a.1 (sT a.1 a.2)) a.2.xt) [44]:=rfl
 obtain⟨k,hk⟩:∃k,av a.1.f.vm a.2.xt=k:=⟨_,rfl⟩
 rw[hk]at pK hE
 have hO:=vq a.1 (sT a.1 a.2)
 have kO:=Dv hF hO.1 hO.2
 have pO:=o7 a.1 (sT a.1 a.2)
 obtain⟨b,hb⟩:∃b,oOk a.1 (sT a.1 a.2)=b:=⟨_,rfl⟩
 rw[hb]at kO pO hK
 have kL:FK 1 (uk b a.2.xt).f:=YP (kO.f.down (by decide)) (MP (kO.f.down (by decide)) (qR (k:=1) (jE (k:=2) (kO.f.ck.down (by decide)) _) _) ((nS _ _).1.trans (nS _ _).1) ((nS _ _).2.trans (nS _ _).2))
 refine zM func141 fun B=>?_
 refine zp1 ?_
 refine zc rfl func185 ((pF) _ _ rfl) ?_
 refine zs2 ?_
 refine Ws<|zp4 ?_
 refine Wd rfl rfl (jn rfl (by kernel_rfl) rfl (by exact dW _)) ?_
 refine Wn<|Wi rfl (fun hi1=>?_) (fun hi1=>?_)
 ·have q:¬a.1.err=0:=by simpa using hi1
  refine Wq<|aO rfl rfl ?_ ?_
  ·rfl
  (rw[if_neg q];rfl)
 have q:a.1.err=0:=by simpa using hi1
 refine Wj<|Ws<|V3.bb [0,0,0,0,4,0,6,0,0,0,0,0,0] [0,1,2,3,4,5,6,7,8,9,10,11,12] mG rfl (by kernel_rfl) ?_
 iterate 4 refine V3.aP ?_
 refine V3.zU 0 ?_
 refine V3.aP ?_
 refine V3.zU 1 ?_
 refine V3.cR rfl rfl rfl rfl (fun _=>dC rfl func67 rfl rfl ((pK) _)) ?_
 iterate 5 refine V3.aP ?_
 refine V3.br ?_
 refine Ws<|zp3 ?_
 refine Wb 25 rfl (fun hg1=>?_) (fun hg1=>?_)
 ·have yk:k.2=0:=by simpa using hg1
  refine zs3 ?_
  refine Wi rfl (fun hi2=>?_) (fun hi2=>?_)
  ·have hE2:sT a.1 a.2 = -32:=by rw[hE,if_pos ⟨yk,by have:=oT hi2;omega⟩]
   refine aa rfl ?_
   refine zs1 ?_
   refine zp2 ?_
   refine Wa 30 rfl ((congrArg i64 hE2.symm)) ?_
   refine zc rfl func41 ((pO) _ _ rfl) ?_
   refine Wn<|Ws<|zu4 ?_
   refine Wi rfl (fun hi3=>?_) (fun hi3=>?_)
   ·have q3:a.2.flags%2=1:=by rw[ln]at hi3;exact oT hi3
    refine zp3 ?_
    refine zc rfl func69 ((s5 b a.2.xt kO.f.mem kO.f.here) _ _ rfl) ?_
    refine Wn<|Wq<|aO rfl rfl ?_ ?_
    ·rfl
    (rw[if_pos q,hK,if_pos q3];rfl)
   have q3:¬a.2.flags%2=1:=by rw[ln]at hi3;exact oF hi3
   refine Wj<|zp3 ?_
   refine zc rfl func42 ((vh b a.2.xt (kO.f.ck.down (by decide))) _ _ rfl) ?_
   refine Wn<|aa rfl ?_
   refine z1 ?_
   refine zc rfl func187 ((ud (uk b a.2.xt) [44] kL.mem kL.here) _ _ rfl) ?_
   refine Wn<|aV rfl rfl ?_ ?_
   ·rfl
   (rw[if_pos q,hK,if_neg q3];rfl)
  have hE2:sT a.1 a.2=k.2:=by(rw[hE,if_neg (fun z=>by have:=oF hi2;have:=z.2;omega)])
  refine Wj<|zp2 ?_
  refine Wa 30 rfl ((congrArg i64 hE2.symm)) ?_
  refine zc rfl func41 ((pO) _ _ rfl) ?_
  refine Wn<|Ws<|zu4 ?_
  refine Wi rfl (fun hi3=>?_) (fun hi3=>?_)
  ·have q3:a.2.flags%2=1:=by rw[ln]at hi3;exact oT hi3
   refine zp3 ?_
   refine zc rfl func69 ((s5 b a.2.xt kO.f.mem kO.f.here) _ _ rfl) ?_
   refine Wn<|Wq<|aO rfl rfl ?_ ?_
   ·rfl
   (rw[if_pos q,hK,if_pos q3];rfl)
  have q3:¬a.2.flags%2=1:=by rw[ln]at hi3;exact oF hi3
  refine Wj<|zp3 ?_
  refine zc rfl func42 ((vh b a.2.xt (kO.f.ck.down (by decide))) _ _ rfl) ?_
  refine Wn<|aa rfl ?_
  refine z1 ?_
  refine zc rfl func187 ((ud (uk b a.2.xt) [44] kL.mem kL.here) _ _ rfl) ?_
  refine Wn<|aV rfl rfl ?_ ?_
  ·rfl
  (rw[if_pos q,hK,if_neg q3];rfl)
 have yk:¬k.2=0:=by simpa using hg1
 have hE2:sT a.1 a.2=k.2:=by rw[hE,if_neg (fun z=>yk z.1)]
 iterate 2 refine z6 ?_
 refine zs1 ?_
 refine Wf rfl rfl ?_
 refine Wj<|zp2 ?_
 refine Wa 30 rfl ((congrArg i64 hE2.symm)) ?_
 refine zc rfl func41 ((pO) _ _ rfl) ?_
 refine Wn<|Ws<|zu4 ?_
 refine Wi rfl (fun hi3=>?_) (fun hi3=>?_)
 ·have q3:a.2.flags%2=1:=by rw[ln]at hi3;exact oT hi3
  refine zp3 ?_
  refine zc rfl func69 ((s5 b a.2.xt kO.f.mem kO.f.here) _ _ rfl) ?_
  refine Wn<|Wq<|aO rfl rfl ?_ ?_
  ·rfl
  (rw[if_pos q,hK,if_pos q3];rfl)
 have q3:¬a.2.flags%2=1:=by rw[ln]at hi3;exact oF hi3
 refine Wj<|zp3 ?_
 refine zc rfl func42 ((vh b a.2.xt (kO.f.ck.down (by decide))) _ _ rfl) ?_
 refine Wn<|aa rfl ?_
 refine z1 ?_
 refine zc rfl func187 ((ud (uk b a.2.xt) [44] kL.mem kL.here) _ _ rfl) ?_
 refine Wn<|aV rfl rfl ?_ ?_
 ·rfl
 (rw[if_pos q,hK,if_neg q3];rfl)
def as6(v:VVm):(eg v).2.1.mem=v.mem/\(eg v).2.1.here=v.here/\(eg v).2.1.dict=v.dict/\(eg v).2.1.hand=v.hand/\(eg v).2.1.conf=v.conf/\(eg v).2.1.out=v.out/\(eg v).2.1.d.length<=v.d.length:=by
 refine⟨rfl,rfl,rfl,rfl,rfl,rfl,?_⟩
 show(bo v.d).2.1.length<=_
 unfold bo
 split<;>simp
def FI{k:Nat}{l:ai}(h:LK k l):LK k (mS l).1:=by
 have e:=as6 l.f.vm
 unfold mS
 dsimp only
 generalize hr:((eg l.f.vm).2.1,(eg l.f.vm).2.2)=r
 have er:r.1=(eg l.f.vm).2.1:=by rw[<-hr]
 rw[<-er]at e
 have hk:FK k {l.f with vm:=r.1}:=Zc h.f (by rw[e.1];exact h.f.b) (by rw[e.1];exact h.f.old) (by rw[e.2.1];exact h.f.h0) (by rw[e.2.1,e.1];exact h.f.h1) e.2.2.1 e.2.2.2.1
 have o:=vq l r.2
 unfold gC
 split
 ·refine⟨?_,?_,?_,?_,?_,?_,?_,?_,?_,?_,?_⟩<;>dsimp only<;>try rw[o.1]
  ·exact hk
  ·rw[o.2];exact h.s
  ·have:=e.2.2.2.2.2.2;have:=h.d;omega
  ·rw[e.2.2.2.2.1];exact h.data
  ·rw[e.2.2.2.2.1];exact h.out0
  ·rw[e.2.2.2.2.1];exact h.out1
  ·rw[e.2.2.2.2.2.1];exact h.out
  ·exact h.cfl
  ·exact h.cf
  ·rw[e.2.2.1];exact h.dict
  rw[e.2.2.1];exact h.xts
 exact⟨by rw[o.1];exact h.f,by rw[o.2];exact h.s,by rw[o.1];exact h.d,by rw[o.1];exact h.data,by rw[o.1];exact h.out0,by rw[o.1];exact h.out1,by rw[o.1];exact h.out,by rw[o.1];exact h.cfl,by rw[o.1];exact h.cf,by rw[o.1];exact h.dict,by rw[o.1];exact h.xts⟩
def Pv:List ga:=[.s [58],.s [79,78,58],.s [59],.s [67,82,69,65,84,69],.s [86,65,82,73,65,66,76,69],.s [67,79,78,83,84,65,78,84],.s [77,65,67,72,73,78,69],.s [73,77,77,69,68,73,65,84,69],.s [70,79,82,71,69,84],.s [39],.s [91,39,93],.s [67,72,65,82],.s [91,67,72,65,82,93],.s [76,73,84,69,82,65,76],.s [80,79,83,84,80,79,78,69],.s [82,69,67,85,82,83,69],.s [69,88,73,84],.s [68,79,69,83,62],.s [83,34],.s [46,34],.s [40],.s [92],.s [91],.s [93]]
def RG:List PV:=[.fn (.func 128) [.ptr 0 0] [],.fn (.func 129) [.ptr 0 0] [],.fn (.func 130) [.ptr 0 0] [],.fn (.func 114) [.ptr 0 0] [],.fn (.func 131) [.ptr 0 0] [],.fn (.func 132) [.ptr 0 0] [],.fn (.func 133) [.ptr 0 0] [],.fn (.func 134) [.ptr 0 0] [],.fn (.func 135) [.ptr 0 0] [],.fn (.func 136) [.ptr 0 0] [],.fn (.func 137) [.ptr 0 0] [],.fn (.func 138) [.ptr 0 0] [],.fn (.func 139) [.ptr 0 0] [],.fn (.func 140) [.ptr 0 0] [],.fn (.func 141) [.ptr 0 0] [],.fn (.func 142) [.ptr 0 0] [],.fn (.func 143) [.ptr 0 0] [],.fn (.func 144) [.ptr 0 0] [],.fn (.func 145) [.ptr 0 0] [],.fn (.func 146) [.ptr 0 0] [],.fn (.func 147) [.ptr 0 0] [],.fn (.func 148) [.ptr 0 0] [],.fn (.func 149) [.ptr 0 0] [],.fn (.func 150) [.ptr 0 0] []]
def spF(name:Str):Option (ai->ai) :=
 if name=[58]then some FF
 else if name=[79,78,58]then some oOn
 else if name=[59]then some Gg
 else if name=[67,82,69,65,84,69]then some eJ
 else if name=[86,65,82,73,65,66,76,69]then some ap5
 else if name=[67,79,78,83,84,65,78,84]then some KA
 else if name=[77,65,67,72,73,78,69]then some Lr
 else if name=[73,77,77,69,68,73,65,84,69]then some as0
 else if name=[70,79,82,71,69,84]then some Zb
 else if name=[39]then some S5
 else if name=[91,39,93]then some D3
 else if name=[67,72,65,82]then some Qn
 else if name=[91,67,72,65,82,93]then some Ec
 else if name=[76,73,84,69,82,65,76]then some Bb
 else if name=[80,79,83,84,80,79,78,69]then some GK
 else if name=[82,69,67,85,82,83,69]then some as8
 else if name=[69,88,73,84]then some YH
 else if name=[68,79,69,83,62]then some Ml
 else if name=[83,34]then some wA
 else if name=[46,34]then some vk
 else if name=[40]then some Hw
 else if name=[92]then some SI
 else if name=[91]then some YY
 else if name=[93]then some AG
 else none
def P8(l:ai):HC prog 100 [.ptr 0 0] [.cells (aR l) 89] (.smap Pv RG) [.cells (aR l) 89,.dead]:=by
 refine mJ tG (rs:=[.tmp 2]) func100 rfl rfl rfl (fun B=>?_)
 refine zu1 ?_
 refine z8 ?_
 refine Wd rfl rfl (du rfl) ?_
 refine zy2 ?_
 refine zD 1 (.s [58]) ?_
 refine zy2 ?_
 refine zD 1 (.s [79,78,58]) ?_
 refine zy2 ?_
 refine zD 1 (.s [59]) ?_
 refine zy2 ?_
 refine zD 1 (.s [67,82,69,65,84,69]) ?_
 refine zy2 ?_
 refine zD 1 (.s [86,65,82,73,65,66,76,69]) ?_
 refine zy2 ?_
 refine zD 1 (.s [67,79,78,83,84,65,78,84]) ?_
 refine z1 ?_
 refine jM (H':=[.cells (aR l) 89,.smap [.s [58],.s [79,78,58],.s [59],.s [67,82,69,65,84,69],.s [86,65,82,73,65,66,76,69],.s [67,79,78,83,84,65,78,84]] [.fn (.func 128) [.ptr 0 0] [],.fn (.func 129) [.ptr 0 0] [],.fn (.func 130) [.ptr 0 0] [],.fn (.func 114) [.ptr 0 0] [],.fn (.func 131) [.ptr 0 0] [],.fn (.func 132) [.ptr 0 0] []]]) rfl ?_
 refine z1 ?_
 refine zD 1 (.s [77,65,67,72,73,78,69]) ?_
 refine zy2 ?_
 refine zD 1 (.s [73,77,77,69,68,73,65,84,69]) ?_
 refine zy2 ?_
 refine zD 1 (.s [70,79,82,71,69,84]) ?_
 refine zy2 ?_
 refine zD 1 (.s [39]) ?_
 refine zy2 ?_
 refine zD 1 (.s [91,39,93]) ?_
 refine zy2 ?_
 refine zD 1 (.s [67,72,65,82]) ?_
 refine z1 ?_
 refine jM (H':=[.cells (aR l) 89,.smap [.s [58],.s [79,78,58],.s [59],.s [67,82,69,65,84,69],.s [86,65,82,73,65,66,76,69],.s [67,79,78,83,84,65,78,84],.s [77,65,67,72,73,78,69],.s [73,77,77,69,68,73,65,84,69],.s [70,79,82,71,69,84],.s [39],.s [91,39,93],.s [67,72,65,82]] [.fn (.func 128) [.ptr 0 0] [],.fn (.func 129) [.ptr 0 0] [],.fn (.func 130) [.ptr 0 0] [],.fn (.func 114) [.ptr 0 0] [],.fn (.func 131) [.ptr 0 0] [],.fn (.func 132) [.ptr 0 0] [],.fn (.func 133) [.ptr 0 0] [],.fn (.func 134) [.ptr 0 0] [],.fn (.func 135) [.ptr 0 0] [],.fn (.func 136) [.ptr 0 0] [],.fn (.func 137) [.ptr 0 0] [],.fn (.func 138) [.ptr 0 0] []]]) rfl ?_
 refine z1 ?_
 refine zD 1 (.s [91,67,72,65,82,93]) ?_
 refine zy2 ?_
 refine zD 1 (.s [76,73,84,69,82,65,76]) ?_
 refine zy2 ?_
 refine zD 1 (.s [80,79,83,84,80,79,78,69]) ?_
 refine zy2 ?_
 refine zD 1 (.s [82,69,67,85,82,83,69]) ?_
 refine zy2 ?_
 refine zD 1 (.s [69,88,73,84]) ?_
 refine zy2 ?_
 refine zD 1 (.s [68,79,69,83,62]) ?_
 refine z1 ?_
 refine jM (H':=[.cells (aR l) 89,.smap [.s [58],.s [79,78,58],.s [59],.s [67,82,69,65,84,69],.s [86,65,82,73,65,66,76,69],.s [67,79,78,83,84,65,78,84],.s [77,65,67,72,73,78,69],.s [73,77,77,69,68,73,65,84,69],.s [70,79,82,71,69,84],.s [39],.s [91,39,93],.s [67,72,65,82],.s [91,67,72,65,82,93],.s [76,73,84,69,82,65,76],.s [80,79,83,84,80,79,78,69],.s [82,69,67,85,82,83,69],.s [69,88,73,84],.s [68,79,69,83,62]] [.fn (.func 128) [.ptr 0 0] [],.fn (.func 129) [.ptr 0 0] [],.fn (.func 130) [.ptr 0 0] [],.fn (.func 114) [.ptr 0 0] [],.fn (.func 131) [.ptr 0 0] [],.fn (.func 132) [.ptr 0 0] [],.fn (.func 133) [.ptr 0 0] [],.fn (.func 134) [.ptr 0 0] [],.fn (.func 135) [.ptr 0 0] [],.fn (.func 136) [.ptr 0 0] [],.fn (.func 137) [.ptr 0 0] [],.fn (.func 138) [.ptr 0 0] [],.fn (.func 139) [.ptr 0 0] [],.fn (.func 140) [.ptr 0 0] [],.fn (.func 141) [.ptr 0 0] [],.fn (.func 142) [.ptr 0 0] [],.fn (.func 143) [.ptr 0 0] [],.fn (.func 144) [.ptr 0 0] []]]) rfl ?_
 refine z1 ?_
 refine zD 1 (.s [83,34]) ?_
 refine zy2 ?_
 refine zD 1 (.s [46,34]) ?_
 refine zy2 ?_
 refine zD 1 (.s [40]) ?_
 refine zy2 ?_
 refine zD 1 (.s [92]) ?_
 refine zy2 ?_
 refine zD 1 (.s [91]) ?_
 refine zy2 ?_
 refine zD 1 (.s [93]) ?_
 refine z1 ?_
 refine jM (H':=[.cells (aR l) 89,.smap Pv RG]) rfl ?_
 refine eZ 52 1 rfl rfl rfl ?_
 refine zs1 ?_
 refine Wq<|AH rfl ?_ ?_
 ·rfl
 rfl
def aG5(f:FuncId)(g:ai->ai):Prop:=∀l:ai,LK 300 l->∀(H:List Ob) (i:Nat),H[i]?=some (.cells (aR l) 89)->ou prog f [.ptr i 0] H (.tup []) (H.set i (.cells (aR (g l)) 89))
def Rc(name:Str):(∃f g,ia Pv RG (.s name) (.val .nilFunc)=(.fn (.func f) [.ptr 0 0] [],true)/\spF name=some g/\aG5 f g)\/(ia Pv RG (.s name) (.val .nilFunc)=(.val .nilFunc,false)/\spF name=none):=by
 by_cases c0:name=[58]
 ·subst c0;exact .inl ⟨128,_,rfl,rfl,fun l h H i hi=>⟨⟨_,func128,rfl,rfl⟩,Ts l (h.down (by omega)) H i hi⟩⟩
 by_cases c1:name=[79,78,58]
 ·subst c1;exact .inl ⟨129,_,rfl,rfl,fun l h H i hi=>⟨⟨_,func129,rfl,rfl⟩,ar9 l (h.down (by omega)) (FI (h.down (by omega))) H i hi⟩⟩
 by_cases c2:name=[59]
 ·subst c2;exact .inl ⟨130,_,rfl,rfl,fun l h H i hi=>⟨⟨_,func130,rfl,rfl⟩,U2 l (h.down (by omega)) H i hi⟩⟩
 by_cases c3:name=[67,82,69,65,84,69]
 ·subst c3;exact .inl ⟨114,_,rfl,rfl,fun l h H i hi=>⟨⟨_,func114,rfl,rfl⟩,C7 l h.s (h.f.down (by omega)) H i hi⟩⟩
 by_cases c4:name=[86,65,82,73,65,66,76,69]
 ·subst c4;exact .inl ⟨131,_,rfl,rfl,fun l h H i hi=>⟨⟨_,func131,rfl,rfl⟩,Gf l h.s (h.f.down (by omega)) H i hi⟩⟩
 by_cases c5:name=[67,79,78,83,84,65,78,84]
 ·subst c5;exact .inl ⟨132,_,rfl,rfl,fun l h H i hi=>⟨⟨_,func132,rfl,rfl⟩,GW l (h.down (by omega)) (FI (h.down (by omega))) H i hi⟩⟩
 by_cases c6:name=[77,65,67,72,73,78,69]
 ·subst c6;exact .inl ⟨133,_,rfl,rfl,fun l h H i hi=>⟨⟨_,func133,rfl,rfl⟩,On l (h.down (by omega)) (FI (h.down (by omega))) H i hi⟩⟩
 by_cases c7:name=[73,77,77,69,68,73,65,84,69]
 ·subst c7;exact .inl ⟨134,_,rfl,rfl,fun l h H i hi=>⟨⟨_,func134,rfl,rfl⟩,EV l (h.down (by omega)) H i hi⟩⟩
 by_cases c8:name=[70,79,82,71,69,84]
 ·subst c8;exact .inl ⟨135,_,rfl,rfl,fun l h H i hi=>⟨⟨_,func135,rfl,rfl⟩,NF l h.s (h.f.down (by omega)) H i hi⟩⟩
 by_cases c9:name=[39]
 ·subst c9;exact .inl ⟨136,_,rfl,rfl,fun l h H i hi=>⟨⟨_,func136,rfl,rfl⟩,Yj l (h.down (by omega)) H i hi⟩⟩
 by_cases c10:name=[91,39,93]
 ·subst c10;exact .inl ⟨137,_,rfl,rfl,fun l h H i hi=>⟨⟨_,func137,rfl,rfl⟩,OD l (h.down (by omega)) H i hi⟩⟩
 by_cases c11:name=[67,72,65,82]
 ·subst c11;exact .inl ⟨138,_,rfl,rfl,fun l h H i hi=>⟨⟨_,func138,rfl,rfl⟩,Yp l (h.down (by omega)) H i hi⟩⟩
 by_cases c12:name=[91,67,72,65,82,93]
 ·subst c12;exact .inl ⟨139,_,rfl,rfl,fun l h H i hi=>⟨⟨_,func139,rfl,rfl⟩,Ov l (h.down (by omega)) H i hi⟩⟩
 by_cases c13:name=[76,73,84,69,82,65,76]
 ·subst c13;exact .inl ⟨140,_,rfl,rfl,fun l h H i hi=>⟨⟨_,func140,rfl,rfl⟩,Ko l (h.down (by omega)) (FI (h.down (by omega))) H i hi⟩⟩
 by_cases c14:name=[80,79,83,84,80,79,78,69]
 ·subst c14;exact .inl ⟨141,_,rfl,rfl,fun l h H i hi=>⟨⟨_,func141,rfl,rfl⟩,GQ l (h.down (by omega)) H i hi⟩⟩
 by_cases c15:name=[82,69,67,85,82,83,69]
 ·subst c15;exact .inl ⟨142,_,rfl,rfl,fun l h H i hi=>⟨⟨_,func142,rfl,rfl⟩,Kf l (h.down (by omega)) H i hi⟩⟩
 by_cases c16:name=[69,88,73,84]
 ·subst c16;exact .inl ⟨143,_,rfl,rfl,fun l h H i hi=>⟨⟨_,func143,rfl,rfl⟩,Xl l (h.down (by omega)) H i hi⟩⟩
 by_cases c17:name=[68,79,69,83,62]
 ·subst c17;exact .inl ⟨144,_,rfl,rfl,fun l h H i hi=>⟨⟨_,func144,rfl,rfl⟩,Xs l (h.down (by omega)) H i hi⟩⟩
 by_cases c18:name=[83,34]
 ·subst c18;exact .inl ⟨145,_,rfl,rfl,fun l h H i hi=>⟨⟨_,func145,rfl,rfl⟩,Mr l (h.down (by omega)) H i hi⟩⟩
 by_cases c19:name=[46,34]
 ·subst c19;exact .inl ⟨146,_,rfl,rfl,fun l h H i hi=>⟨⟨_,func146,rfl,rfl⟩,Rb l (h.down (by omega)) H i hi⟩⟩
 by_cases c20:name=[40]
 ·subst c20;exact .inl ⟨147,_,rfl,rfl,fun l h H i hi=>⟨⟨_,func147,rfl,rfl⟩,I7 l h.s H i hi⟩⟩
 by_cases c21:name=[92]
 ·subst c21;exact .inl ⟨148,_,rfl,rfl,fun l h H i hi=>⟨⟨_,func148,rfl,rfl⟩,XM l H i hi⟩⟩
 by_cases c22:name=[91]
 ·subst c22;exact .inl ⟨149,_,rfl,rfl,fun l h H i hi=>⟨⟨_,func149,rfl,rfl⟩,WJ l (h.down (by omega)) H i hi⟩⟩
 by_cases c23:name=[93]
 ·subst c23;exact .inl ⟨150,_,rfl,rfl,fun l h H i hi=>⟨⟨_,func150,rfl,rfl⟩,TH l (h.down (by omega)) H i hi⟩⟩
 refine .inr ⟨?_,?_⟩
 ·unfold Pv RG
  rw[iZ,if_neg c0,iZ,if_neg c1,iZ,if_neg c2,iZ,if_neg c3,iZ,if_neg c4,iZ,if_neg c5,iZ,if_neg c6,iZ,if_neg c7,iZ,if_neg c8,iZ,if_neg c9,iZ,if_neg c10,iZ,if_neg c11,iZ,if_neg c12,iZ,if_neg c13,iZ,if_neg c14,iZ,if_neg c15,iZ,if_neg c16,iZ,if_neg c17,iZ,if_neg c18,iZ,if_neg c19,iZ,if_neg c20,iZ,if_neg c21,iZ,if_neg c22,iZ,if_neg c23,Tt]
 unfold spF
 rw[if_neg c0,if_neg c1,if_neg c2,if_neg c3,if_neg c4,if_neg c5,if_neg c6,if_neg c7,if_neg c8,if_neg c9,if_neg c10,if_neg c11,if_neg c12,if_neg c13,if_neg c14,if_neg c15,if_neg c16,if_neg c17,if_neg c18,if_neg c19,if_neg c20,if_neg c21,if_neg c22,if_neg c23]
def rY(l:ai)(name:Str):ai:=match spF name with
 | none=>my l name
 | some g=>g l
def YQ{l:ai}{name:Str}(h:spF name=none):rY l name=my l name:=by unfold rY;rw[h]
def Fk{l:ai}{name:Str}{g:ai->ai}(h:spF name=some g):rY l name=g l:=by unfold rY;rw[h]
def lU(l:ai)(name:Str)(h:LK 300 l):∀(H:List Ob) (i:Nat),H[i]?=some (.cells (aR l) 89)->HC prog 70 (.ptr i 0::[str name]) H (.tup []) (H.set i (.cells (aR (rY l name)) 89)):=by
 have hT:=Rc name
 refine zM func70 fun B=>?_
 refine Ws<|zp1 ?_
 refine zc rfl func100 (P8 l) ?_
 refine z1 ?_
 rcases hT with ⟨f,g,hlk,hon,hc⟩|⟨hlk,hno⟩
 ·refine Wd rfl rfl (be (b:=true) (e:=1) (key:=.s name) (by kernel_rfl) (lO tG rfl) (by kernel_rfl) rfl rfl rfl rfl (by kernel_rfl) (hlk)) ?_
  refine zs5 ?_
  refine zu1 ?_
  refine Wt rfl (by rfl) ?_
  refine zp1 ?_
  refine Wc rfl rfl (fp rfl rfl (hc l h _ 0 rfl)) ?_
  refine Wn<|Wq<|aO rfl rfl ?_ ?_
  ·rfl
  (rw[Fk hon];rfl)
 refine Wd rfl rfl (be (b:=true) (e:=1) (key:=.s name) (by kernel_rfl) (lO tG rfl) (by kernel_rfl) rfl rfl rfl rfl (by kernel_rfl) (hlk)) ?_
 refine zs5 ?_
 refine zu1 ?_
 refine Wf rfl (by rfl) ?_
 refine Wj<|aa rfl ?_
 refine zy2 ?_
 refine zc rfl func101 ((J9 l name (h.down (by omega))) _ _ rfl) ?_
 refine Wn<|aV rfl rfl ?_ ?_
 ·rfl
 (rw[YQ hno];rfl)
structure OkF (N:Nat) (f:af):Prop where
 g:bf N f.vm
 cfl:f.comp.cf.length<=32
 cf:∀c∈f.comp.cf,xq c
 dict:f.comp.xt≠0->0<=f.comp.dict/\f.comp.dict<f.vm.dict.length
 here:f.comp.xt≠0->1368<=f.comp.here/\f.comp.here<=f.vm.conf.mem
 la:ae f.comp.last
 fu:f.comp.on=true->0<=f.comp.fuel
 xts:DX f.vm.dict
def OkF.up{N M:Nat}{f:af}(h:OkF N f)(hM:N<=M):OkF M f:=⟨h.g.up hM,h.cfl,h.cf,h.dict,h.here,h.la,h.fu,h.xts⟩
def tW{l:List aS}(h:iC l=true):kh l:=by
 unfold iC at h
 simp only[Bool.and_eq_true,decide_eq_true_eq]at h
 refine⟨by omega,fun x hx=>?_⟩
 have q:=List.all_eq_true.1 h.1 x hx
 unfold Bu at q
 simp only[decide_eq_true_eq]at q
 refine⟨?_,q.2.1,q.2.2⟩
 have q1:=q.1
 unfold fy at q1
 split at q1
 ·cases q1
 split at q1
 ·cases q1
 omega
def OkF.fk{N k:Nat}{f:af}(h:OkF N f)(hk:N+k<=1000000):FK k f:=by
 have R:=h.g.right
 have hc:=R.gE
 unfold eO at hc
 have h1:=R.len
 have h2:=R.jV
 have h3:=R.jZ
 have h4:=h.g.old
 have h5:=R.handl
 have h6:=R.dict
 have h7:f.vm.dict.length<=1024:=by
  unfold iC at h6
  simp only[Bool.and_eq_true,decide_eq_true_eq]at h6
  exact h6.2
 exact⟨by omega,by omega,h2,by omega,by omega,tW h6,by omega⟩
def UA{N j:Nat}{v:VVm}(g:bf N v){m:bn}{here:Int}(k:dP v.mem m j)(h0:1368<=here)(h1:here<=m.b.length):bf (N+j) {v with mem:=m,here:=here}:=by
 have R:=g.right
 have l:=R.len
 refine⟨⟨R.gE,k.right R.mem,R.dict,R.pic,?_,h0,?_,R.f,R.hand,R.d,R.r,R.fl,R.dl,R.out,R.req,R.free0,R.free1,R.next0,R.next1,R.handl⟩,?_,g.fd,g.fr,g.ff,g.ints,g.la⟩
 ·show(m.b.length:Int)=v.conf.mem;rw[k.len];exact l
 ·show here<=v.conf.mem;have:=k.len;omega
 show m.old.length<=N+j;have:=k.old;have:=g.old;omega
def EB{N:Nat}{v:VVm}(g:bf N v){d:List aS}(h:iC d=true)(hl:(d.length:Int)<=v.conf.words):bf N {v with dict:=d}:=by
 have R:=g.right
 exact⟨⟨R.gE,R.mem,h,R.pic,R.len,R.jV,R.jZ,R.f,R.hand,R.d,R.r,R.fl,hl,R.out,R.req,R.free0,R.free1,R.next0,R.next1,R.handl⟩,g.old,g.fd,g.fr,g.ff,g.ints,g.la⟩
def yT{N:Nat}{v:VVm}(g:bf N v){n:Int}(h:ae n):bf N {v with last:=n}:=by
 have R:=g.right
 exact⟨⟨R.gE,R.mem,R.dict,R.pic,R.len,R.jV,R.jZ,R.f,R.hand,R.d,R.r,R.fl,R.dl,R.out,R.req,R.free0,R.free1,R.next0,R.next1,R.handl⟩,g.old,g.fd,g.fr,g.ff,g.ints,h⟩
def DW{N:Nat}{v:VVm}(g:bf N v){m:bn}(k:dP v.mem m 1):bf (N+1) {v with mem:=m}:=QC g k
def MC{N:Nat}{v:VVm}(g:bf N v):1368<=v.here/\v.here<=v.mem.b.length:=by
 have R:=g.right
 have h1:=R.len
 have h2:=R.jV
 have h3:=R.jZ
 omega
def Jz{N:Nat}{v:VVm}(g:bf N v)(n:Int):bf (N+1) (rp v n).1:=by
 have b:=MC g
 have q:=s8 v.mem v.here n
 have p:=va (m:=v.mem) n b.1 b.2
 exact UA g q p.1 (by rw[q.len];exact p.2)
def Ls{N:Nat}{w:FW}(g:bf N w.f.vm)(n:Int):bf (N+1) (cg w n).f.vm:=by
 unfold cg;split
 ·exact Jz g n
 exact g.up (by omega)
def IS:∀(l:List Int) (N:Nat) (w:FW),bf N w.f.vm->bf (N+l.length) (l.foldl cg w).f.vm
 | [],_,_,h=>h
 | x::l,N,w,h=>by
  have:=IS l (N+1) _ (Ls h x)
  rw[List.foldl_cons,List.length_cons,show N+(l.length+1)=N+1+l.length by omega];exact this
def m7(w:FW)(e:Int):(okF w e).f=w.f:=by unfold okF;split<;>rfl
def Ay{N:Nat}{w:FW}(g:bf N w.f.vm)(n:Int):bf (N+1) (d7 w n).f.vm:=by
 unfold d7;rw[m7]
 exact DW g (cP _ _ _)
def M5{l:List aS}(h:iC l=true)(name:Str)(xt:Int){flags limit:Int}(h0:0<=flags)(h7:flags<=7)(hl:(l.length:Int)<=limit):iC (cE l name xt flags limit).1=true/\((cE l name xt flags limit).1.length:Int)<=limit:=by
 unfold cE
 by_cases q1:fy name≠0
 ·rw[if_pos q1];exact⟨h,hl⟩
 rw[if_neg q1]
 by_cases q2:(if 1024<limit then 1024 else limit)<=(l.length:Int)
 ·rw[if_pos q2];exact⟨h,hl⟩
 rw[if_neg q2]
 have hl2:(l.length:Int)<1024/\(l.length:Int)<limit:=by split at q2<;>omega
 unfold iC at h ⊢
 simp only[Bool.and_eq_true,decide_eq_true_eq]at h
 refine⟨?_,by show((l++[_]).length:Int)<=limit;rw[List.length_append,List.length_singleton];omega⟩
 simp only[List.all_append,List.all_cons,List.all_nil,Bool.and_true,Bool.and_eq_true,decide_eq_true_eq,List.length_append,List.length_singleton]
 exact⟨⟨h.1,by unfold Bu;simp only[decide_eq_true_eq];exact⟨Decidable.not_not.1 q1,h0,h7⟩⟩,by omega⟩
def TR{N:Nat}{w:FW}(g:bf N w.f.vm)(name:Str){flags:Int}(h0:0<=flags)(h7:flags<=7):bf (N+1) (fP w (aN w.f.vm.mem w.f.vm.here) (cE w.f.vm.dict name (aN w.f.vm.mem w.f.vm.here).2.1 flags w.f.vm.conf.words)).f.vm:=by
 have b:=MC g
 unfold fP
 split
 ·unfold FW.placed
  rw[m7,m7]
  have q:dP w.f.vm.mem (aN w.f.vm.mem w.f.vm.here).1 1:=ij _
  have p:1368<=(aN w.f.vm.mem w.f.vm.here).2.1/\(aN w.f.vm.mem w.f.vm.here).2.1<=w.f.vm.mem.b.length:=iL _ b.1 b.2
  have d:=M5 g.right.dict name (aN w.f.vm.mem w.f.vm.here).2.1 (limit:=w.f.vm.conf.words) h0 h7 g.right.dl
  exact EB (UA g q p.1 (by rw[q.len];exact p.2)) d.1 d.2
 rw[m7,m7];exact g.up (by omega)
def EF{N:Nat}{w:FW}(g:bf N w.f.vm)(name:Str){flags:Int}{l:List Int}(h0:0<=flags)(h7:flags<=7):bf (N+1+l.length) (eS w name flags l).1.f.vm:=IS l (N+1) _ (TR g name h0 h7)
def xE{N:Nat}{v:VVm}(g:bf N v):ae (aN v.mem v.here).2.1:=by
 have b:=MC g
 have p:1368<=(aN v.mem v.here).2.1/\(aN v.mem v.here).2.1<=v.mem.b.length:=iL _ b.1 b.2
 have R:=g.right
 have hc:=R.gE
 unfold eO at hc
 have h1:=R.len
 unfold ae;omega
def OE(w:FW)(name:Str)(flags:Int)(l:List Int):(eS w name flags l).1.f.comp=w.f.comp:=by
 have h:∀(l:List Int) (w:FW),(l.foldl cg w).f.comp=w.f.comp:=by
  intro l
  induction l with
  | nil=>intro w;rfl
  | cons x l ih=>intro w;rw[List.foldl_cons,ih];unfold cg;split<;>rfl
 unfold eS
 rw[h]
 unfold fP
 split
 ·unfold FW.placed;rw[m7,m7]
 rw[m7,m7]
def Ku(w:FW)(n:Int):(cg w n).f.vm.conf=w.f.vm.conf/\(cg w n).f.vm.dict=w.f.vm.dict/\(cg w n).f.vm.hand=w.f.vm.hand/\((cg w n).bad=0->w.bad=0):=by
 unfold cg;split
 ·rename_i q;exact⟨rfl,rfl,rfl,fun _=>q⟩
 exact⟨rfl,rfl,rfl,id⟩
def D1:∀(l:List Int) (w:FW),(l.foldl cg w).f.vm.conf=w.f.vm.conf/\(l.foldl cg w).f.vm.dict=w.f.vm.dict/\(l.foldl cg w).f.vm.hand=w.f.vm.hand/\((l.foldl cg w).bad=0->w.bad=0)
 | [],w=>⟨rfl,rfl,rfl,id⟩
 | x::l,w=>by
  have a:=D1 l (cg w x)
  have b:=Ku w x
  rw[List.foldl_cons]
  exact⟨a.1.trans b.1,a.2.1.trans b.2.1,a.2.2.1.trans b.2.2.1,fun q=>b.2.2.2 (a.2.2.2 q)⟩
def vz{w:FW}{e:Int}(h:(okF w e).bad=0):w.bad=0/\e=0:=by
 unfold okF at h
 split at h
 ·rename_i q;exact⟨q,h⟩
 rename_i q;exact absurd h q
def Va(l:List aS)(name:Str)(xt flags limit:Int):((cE l name xt flags limit).2=0->(cE l name xt flags limit).1.length=l.length+1)/\l.length<=(cE l name xt flags limit).1.length:=by
 unfold cE
 by_cases q1:fy name≠0
 ·rw[if_pos q1];exact⟨fun z=>absurd z q1,Nat.le_refl _⟩
 rw[if_neg q1]
 by_cases q2:(if 1024<limit then 1024 else limit)<=(l.length:Int)
 ·rw[if_pos q2];exact⟨fun z=>absurd z (by show ¬((-8:Int)=0);decide),Nat.le_refl _⟩
 rw[if_neg q2]
 dsimp only
 rw[List.length_append,List.length_singleton]
 exact⟨fun _=>rfl,by omega⟩
def Ma(w:FW)(a:bn×Int×Int)(d:List aS×Int):(fP w a d).f.vm.conf=w.f.vm.conf/\(fP w a d).f.vm.hand=w.f.vm.hand/\((fP w a d).bad=0->(fP w a d).f.vm.dict=d.1/\d.2=0)/\((fP w a d).f.vm.dict=d.1\/(fP w a d).f.vm.dict=w.f.vm.dict):=by
 unfold fP
 split
 ·rename_i q
  unfold FW.placed
  rw[m7,m7]
  exact⟨rfl,rfl,fun _=>⟨rfl,(vz q).2⟩,.inl rfl⟩
 rename_i q
 rw[m7,m7]
 exact⟨rfl,rfl,fun z=>absurd z q,.inr rfl⟩
def QW(w:FW)(name:Str)(flags:Int)(l:List Int):(eS w name flags l).1.f.vm.conf=w.f.vm.conf/\(eS w name flags l).1.f.vm.hand=w.f.vm.hand/\((eS w name flags l).1.bad=0->(eS w name flags l).1.f.vm.dict.length=w.f.vm.dict.length+1)/\w.f.vm.dict.length<=(eS w name flags l).1.f.vm.dict.length:=by
 have a:=D1 l (fP w (aN w.f.vm.mem w.f.vm.here) (cE w.f.vm.dict name (aN w.f.vm.mem w.f.vm.here).2.1 flags w.f.vm.conf.words))
 have b:=Ma w (aN w.f.vm.mem w.f.vm.here) (cE w.f.vm.dict name (aN w.f.vm.mem w.f.vm.here).2.1 flags w.f.vm.conf.words)
 have c:=Va w.f.vm.dict name (aN w.f.vm.mem w.f.vm.here).2.1 flags w.f.vm.conf.words
 unfold eS
 refine⟨a.1.trans b.1,a.2.2.1.trans b.2.1,fun q=>?_,?_⟩
 ·have:=b.2.2.1 (a.2.2.2 q)
  dsimp only
  rw[a.2.1,this.1];exact c.1 this.2
 dsimp only
 rw[a.2.1]
 rcases b.2.2.2 with e|e
 ·rw[e];exact c.2
 rw[e];exact Nat.le_refl _
def ah2{l:List aS}(h:DX l)(name:Str){xt:Int}(flags limit:Int)(hx:ae xt):DX (cE l name xt flags limit).1:=by
 unfold cE
 by_cases q1:fy name≠0
 ·rw[if_pos q1];exact h
 rw[if_neg q1]
 by_cases q2:(if 1024<limit then 1024 else limit)<=(l.length:Int)
 ·rw[if_pos q2];exact h
 rw[if_neg q2]
 intro x hx'
 rcases List.mem_append.1 hx' with q|q
 ·exact h x q
 rw[List.mem_singleton.1 q];exact hx
def D8{N:Nat}{w:FW}(g:bf N w.f.vm)(h:DX w.f.vm.dict)(name:Str)(flags:Int)(l:List Int):DX (eS w name flags l).1.f.vm.dict:=by
 have a:=D1 l (fP w (aN w.f.vm.mem w.f.vm.here) (cE w.f.vm.dict name (aN w.f.vm.mem w.f.vm.here).2.1 flags w.f.vm.conf.words))
 have b:=Ma w (aN w.f.vm.mem w.f.vm.here) (cE w.f.vm.dict name (aN w.f.vm.mem w.f.vm.here).2.1 flags w.f.vm.conf.words)
 unfold eS
 dsimp only
 rw[a.2.1]
 rcases b.2.2.2 with e|e
 ·rw[e];exact ah2 h name flags _ (xE g)
 rw[e];exact h
def oX{N:Nat}{f:af}(h:OkF N f)(name:Str)(last:Bool)(l:List Int):OkF (N+1+l.length) (cK f name last l).1:=by
 unfold cK
 split
 ·exact h.up (by omega)
 rename_i q
 unfold gU
 split
 ·exact h.up (by omega)
 have g:=EF (l:=l) (w:=aK f) h.g name (flags:=0) (by decide) (by decide)
 have c:=OE (aK f) name 0 l
 have hx:f.comp.xt=0:=Decidable.not_not.1 q
 have go:bf (N+1+l.length) (jm (eS (aK f) name 0 l) last).f.vm:=by
  unfold jm;split
  ·exact yT g (xE h.g)
  exact g
 have dd:DX (jm (eS (aK f) name 0 l) last).f.vm.dict:=by
  have q:=D8 (w:=aK f) h.g h.xts name 0 l
  unfold jm;split<;>exact q
 have cc:(jm (eS (aK f) name 0 l) last).f.comp=f.comp:=by unfold jm;split<;>exact c
 exact⟨go,by show(jm _ _).f.comp.cf.length<=32;rw[cc];exact h.cfl,by show ∀c∈(jm _ _).f.comp.cf,_;rw[cc];exact h.cf,by show(jm _ _).f.comp.xt≠0->_;rw[cc];exact fun z=>absurd hx z,by show(jm _ _).f.comp.xt≠0->_;rw[cc];exact fun z=>absurd hx z,by show ae (jm _ _).f.comp.last;rw[cc];exact h.la,by show(jm _ _).f.comp.on=true->0<=(jm _ _).f.comp.fuel;rw[cc];exact h.fu,dd⟩
structure KV (v w:VVm):Prop where
 conf:w.conf=v.conf
 dict:w.dict=v.dict
 hand:w.hand=v.hand
def KV.rf(v:VVm):KV v v:=⟨rfl,rfl,rfl⟩
def KV.tr{a b c:VVm}(h:KV a b)(g:KV b c):KV a c:=⟨g.conf.trans h.conf,g.dict.trans h.dict,g.hand.trans h.hand⟩
def gu{c:Prop}[Decidable c]{v:VVm}{a b:VWk}(h1:KV v a.v)(h2:KV v b.v):KV v (if c then a else b).v:=by
 by_cases hc:c
 ·rw[if_pos hc];exact h1
 rw[if_neg hc];exact h2
section
variable (k : VWk)
def me(e:Int):KV k.v (cG k e).v:=gu (.rf _) (.rf _)
def lj(n:Int):KV k.v (jp k n).v:=⟨rfl,rfl,rfl⟩
def rD:KV k.v (gq k).1.v:=⟨rfl,rfl,rfl⟩
def j4(n:Int):KV k.v (ey k n).v:=by show KV k.v (gK k.v n).1;unfold gK;split<;>exact⟨rfl,rfl,rfl⟩
def nv:KV k.v (iu k).1.v:=by show KV k.v (fv k.v).2.1;unfold fv;split<;>exact⟨rfl,rfl,rfl⟩
def mO(a:Int):KV k.v (bu k a).1.v:=me _ _
def IY(a n:Int):KV k.v (mY k a n).v:=⟨rfl,rfl,rfl⟩
def AY(n:Int):KV k.v (lf k n).1.v:=by unfold lf;split;exact me _ _;exact .rf _
def Md:KV k.v (dTo k).v:=mO _ _
def EA:KV k.v (wU k).1.v:=(rD k).tr (rD _)
def Mp(n:Int):KV k.v (Ad k n).v:=by
 unfold Ad
 dsimp only
 have h1:KV k.v (lf (lf k 1).1 0).1.v:=(AY k 1).tr (AY _ 0)
 refine gu h1 ?_
 have h2:=h1.tr (nv _)
 exact gu (h2.tr (nv _)) ((h2.tr (j4 _ _)).tr (Md _))
def O1:KV k.v (vG k).v:=by
 unfold vG
 exact gu (me _ _) ⟨rfl,rfl,rfl⟩
def VG:KV k.v (Dp k).v:=by
 unfold Dp
 dsimp only
 exact gu (me _ _) (((IY _ _ _).tr (IY _ _ _)).tr (nv _))
def ac9:KV k.v (Xg k).v:=by
 unfold Xg
 dsimp only
 exact((KV.tr (mO k _) (gu (.rf _) (me _ _))).tr (lj _ _)).tr (lj _ _)
def m4{c:Prop}[Decidable c]{v:VVm}{a b:VWk×Bool}(h1:KV v a.1.v)(h2:KV v b.1.v):KV v (if c then a else b).1.v:=by
 by_cases hc:c
 ·rw[if_pos hc];exact h1
 rw[if_neg hc];exact h2
def Lu(name:Str):KV k.v (tf k name).1.v:=by
 unfold tf
 dsimp only
 refine m4 (nv k) (m4 ((mO k _).tr (lj _ _)) (m4 (Md k) (m4 ?_ (m4 ?_ (m4 ?_ (m4 (Mp k 1) (m4 ((rD k).tr (Mp _ _)) (m4 (.rf _) (m4 (O1 k) (m4 (VG k) (m4 (ac9 k) (.rf _))))))))))))
 ·exact gu ((rD k).tr (Md _)) (rD k)
 ·exact((EA k).tr (j4 _ _)).tr (j4 _ _)
 exact gu ((EA k).tr (Md _)) (((EA k).tr (j4 _ _)).tr (j4 _ _))
def Pq:KV k.v (BC k).v:=by
 unfold BC
 dsimp only
 have h:KV k.v (if 64<=((gq k).1.v.f.length:Int)then cG (gq k).1 (-5)else(gq k).1).v:=(rD k).tr (gu (me _ _) (.rf _))
 exact h.tr ⟨rfl,rfl,rfl⟩
def UQ(name:Str):KV k.v (GF k name).v:=by
 unfold GF
 dsimp only
 refine gu (rD k) (gu (Pq k) (gu ((rD k).tr (me _ _)) (gu ((AY k 0).tr (lj _ _)) (gu ((AY k 2).tr (lj _ _)) (gu ?_ (gu ((rD k).tr (j4 _ _)) (gu ((nv k).tr (lj _ _)) (gu ?_ (gu ?_ (.rf _))))))))))
 ·exact((AY k 1).tr (nv _)).tr (nv _)
 ·exact((EA k).tr (j4 _ _)).tr (j4 _ _)
 exact(((nv k).tr (nv _)).tr (lj _ _)).tr (lj _ _)
def K2(xt:Int):KV k.v (pZ k xt).v:=by
 unfold pZ
 dsimp only
 have h:∀c:Prop,[Decidable c]->∀a b:Int,KV k.v (bu (if c then cG (bu (bu k (W64 (xt+16))).1 a).1 (-24)else(bu (bu k (W64 (xt+16))).1 a).1) b).1.v:=fun c _ a b =>
  (((mO k _).tr (mO _ _)).tr (gu (me _ _) (.rf _))).tr (mO _ _)
 exact gu (h _ _ _) (h _ _ _)
def aC1{v:VVm}{n:Int}{N:Nat}(g:wb N v):KV v (doS v n).1:=by
 have s:=IG (n:=n) g
 unfold Ds at s
 exact⟨by have q:=congrArg VVm.conf s;exact q,by have q:=congrArg VVm.dict s;exact q,by have q:=congrArg VVm.hand s;exact q⟩
def U7(xt:Int){N:Nat}(g:wb N k.v):KV k.v (rV k xt).v:=by
 unfold rV
 dsimp only
 refine gu (me _ _) (gu (me _ _) (gu (j4 _ _) (gu (lj _ _) (gu ((mO _ _).tr (lj _ _)) (gu (((mO _ _).tr (lj _ _)).tr (j4 _ _)) (gu (K2 k xt) (gu (aC1 g) (gu (Lu _ _) ((Lu _ _).tr (UQ _ _))))))))))
end
def Aa(a:bJ)(bad:Int):KV a.vm (ct a bad).1.vm:=by unfold ct;split<;>exact⟨rfl,rfl,rfl⟩
def Vi{r:bJ}{N:Nat}(g:gV N r):KV r.vm (bT r).1.vm:=by
 have gv:=g.m.v
 unfold bT
 dsimp only
 by_cases h:r.fuel<1
 ·rw[if_pos h];exact .rf _
 rw[if_neg h]
 have hq:∀q:VWk×Int,q.1.v=r.vm->KV r.vm (if q.1.bad=0 then rV q.1 q.2 else q.1).v:=fun q e=>by
  refine gu ?_ (by rw[e];exact .rf _)
  have:=U7 q.1 q.2 (N:=N) (by rw[e];exact gv)
  rw[e]at this;exact this
 have e0:(if r.dof=true then((⟨r.vm,r.ip,0,false,false,0⟩:VWk),r.w)else(if (bu ⟨r.vm,r.ip,0,false,false,0⟩ r.ip).1.bad=0 then jW (bu ⟨r.vm,r.ip,0,false,false,0⟩ r.ip).1 else(bu ⟨r.vm,r.ip,0,false,false,0⟩ r.ip).1,(bu ⟨r.vm,r.ip,0,false,false,0⟩ r.ip).2)).1.v=r.vm:=by
  split
  ·rfl
  dsimp only
  unfold bu cG jW
  dsimp only
  (repeat' split)<;>rfl
 have h1:=hq _ e0
 revert h1
 generalize (if r.dof=true then((⟨r.vm,r.ip,0,false,false,0⟩:VWk),r.w)else(if (bu ⟨r.vm,r.ip,0,false,false,0⟩ r.ip).1.bad=0 then jW (bu ⟨r.vm,r.ip,0,false,false,0⟩ r.ip).1 else(bu ⟨r.vm,r.ip,0,false,false,0⟩ r.ip).1,(bu ⟨r.vm,r.ip,0,false,false,0⟩ r.ip).2))=q at e0 ⊢
 intro h1
 have ca:∀b:Int,KV r.vm (ct ⟨r.vm,q.1.ip,0,false,W64 (r.fuel-1)⟩ b).1.vm:=fun b=>Aa ⟨r.vm,q.1.ip,0,false,W64 (r.fuel-1)⟩ b
 generalize (if q.1.bad=0 then rV q.1 q.2 else q.1)=k at h1 ⊢
 split
 ·exact h1
 exact ca _
open Go.RowKit
structure CG (N:Nat) (v:VVm) (w:CW):Prop where
 g:bf N w.v
 k:KV v w.v
 len:w.l.length<=32
 cf:∀c∈w.l,xq c
section
variable {N : Nat} {v : VVm} {w : CW}
def CG.up(h:CG N v w){M:Nat}(hM:N<=M):CG M v w:=⟨h.g.up hM,h.k,h.len,h.cf⟩
def CG.fit(h:CG N v w):ae w.v.here:=by
 have R:=h.g.right
 have hc:=R.gE
 unfold eO at hc
 have h1:=R.jV
 have h2:=R.jZ
 unfold ae;omega
def FE(h:CG N v w)(e:Int):CG N v (w.fail e):=by
 unfold CW.fail;split
 ·exact⟨h.g,h.k,h.len,h.cf⟩
 exact h
def rv(h:CG N v w)(n:Int):CG (N+1) v (iI w n):=by
 unfold iI;split
 ·exact⟨Jz h.g n,h.k.tr ⟨rfl,rfl,rfl⟩,h.len,h.cf⟩
 exact h.up (by omega)
def jc(h:CG N v w)(name:Str):CG (N+1) v (cL w name):=rv h _
def pu(h:CG N v w)(name:Str):CG (N+2) v (gM w name):=rv (jc h name) 0
def zh(h:CG N v w)(a:Int):CG (N+1) v (jO w a):=by
 unfold jO;split
 ·exact⟨DW h.g (cP _ _ _),h.k.tr ⟨rfl,rfl,rfl⟩,h.len,h.cf⟩
 exact h.up (by omega)
def rh(h:CG N v w){c:VCf}(hc:xq c):CG N v (m8 w c):=by
 unfold m8;split
 ·exact FE h _
 rename_i q
 refine⟨h.g,h.k,by simp only[List.length_append,List.length_singleton];omega,fun x hx=>?_⟩
 rcases List.mem_append.1 hx with hx|hx
 ·exact h.cf x hx
 rw[List.mem_singleton.1 hx];exact hc
def oy(h:CG N v w)(kind:Int):CG N v (bk w kind).1/\xq (bk w kind).2:=by
 unfold bk;split
 ·exact⟨FE h _,RO⟩
 rename_i q
 have hl:w.l.length≠0:=fun z=>q (.inl z)
 refine⟨⟨h.g,h.k,by simp only[List.length_take];have:=h.len;omega,fun x hx=>h.cf x (List.mem_of_mem_take hx)⟩,?_⟩
 show xq (w.l.getD (w.l.length-1) zCf)
 rw[List.getD_eq_getElem?_getD,List.getElem?_eq_getElem (by omega)]
 exact h.cf _ (List.getElem_mem _)
def BF(h:CG N v w)(kind:Int):xq ⟨kind,w.v.here,[]⟩:=⟨h.fit,Nat.zero_le _,fun x hx=>by cases hx⟩
def My:∀(l:List Int) (N:Nat) (w:CW),CG N v w->CG (N+l.length) v (l.foldl jO w)
 | [],_,_,h=>h
 | x::l,N,w,h=>by
  have:=My l (N+1) _ (zh h x)
  rw[List.foldl_cons,List.length_cons,show N+(l.length+1)=N+1+l.length by omega];exact this
def L7(name:Str)(h:CG N v w):CG (N+2) v (CE name w):=rv (jc (oy h 2).1 name) _
def PX(name:Str)(h:CG N v w):CG (N+40) v (BH name w):=by
 have c:=oy h 3
 have q:=My (bk w 3).2.leaves _ _ (rv (jc c.1 name) (bk w 3).2.at_)
 exact q.up (by have:=c.2.len;omega)
def UI(h:CG N v w):CG (N+40) v (xk w):=by
 unfold xk
 split
 ·exact(FE h _).up (by omega)
 rename_i q
 have a:=jc h [85,78,76,79,79,80]
 have b:=pu a [40,98,114,97,110,99,104,41]
 have rg:=xa w.l w.l.length
 have hn:(lH w.l w.l.length).toNat<w.l.length:=by omega
 have ho:xq (w.l.getD (lH w.l w.l.length).toNat zCf):=by
  rw[List.getD_eq_getElem?_getD,List.getElem?_eq_getElem hn]
  exact h.cf _ (List.getElem_mem _)
 refine⟨b.g.up (by omega),b.k,by show(w.l.set _ _).length<=32;rw[List.length_set];exact h.len,fun x hx=>?_⟩
 rcases List.mem_or_eq_of_mem_set hx with hx|hx
 ·exact h.cf x hx
 subst hx
 refine⟨ho.fit,by simp only[List.length_append,List.length_singleton];omega,fun y hy=>?_⟩
 rcases List.mem_append.1 hy with hy|hy
 ·exact ho.each y hy
 rw[List.mem_singleton.1 hy];exact(jc a [40,98,114,97,110,99,104,41]).fit
def af6(h:CG N v w):CG (N+2) v (Um w):=by
 have b:=pu h [40,63,100,111,41]
 exact rh b ⟨b.fit,by show(1:Nat)<=32;decide,fun x hx=>by rw[List.mem_singleton.1 hx];exact(jc h [40,63,100,111,41]).fit⟩
def ar8{name:Str}{g:CW->CW}(hg:brF name=some g)(h:CG N v w):CG (N+40) v (g w):=by
 unfold brF at hg
 rcases ag hg with rfl|hg
 ·exact(rh (pu h _) (BF (jc h _) 1)).up (by omega)
 rcases ag hg with rfl|hg
 ·have c:=oy h 1
  exact(rh (zh (pu c.1 _) _) (BF (jc c.1 _) 1)).up (by omega)
 rcases ag hg with rfl|hg
 ·exact(zh (oy h 1).1 _).up (by omega)
 rcases ag hg with rfl|hg
 ·exact(rh h (BF h 2)).up (by omega)
 rcases ag hg with rfl|hg
 ·have c:=oy h 2
  exact(rh (rh (pu c.1 _) (BF (jc c.1 _) 1)) c.2).up (by omega)
 rcases ag hg with rfl|hg
 ·have c:=oy h 2
  have o:=oy c.1 1
  exact(zh (rv (jc o.1 _) _) _).up (by omega)
 rcases ag hg with rfl|hg
 ·exact(L7 _ h).up (by omega)
 rcases ag hg with rfl|hg
 ·exact(L7 _ h).up (by omega)
 rcases ag hg with rfl|hg
 ·exact(rh (jc h _) (BF (jc h _) 3)).up (by omega)
 rcases ag hg with rfl|hg
 ·exact(af6 h).up (by omega)
 rcases ag hg with rfl|hg
 ·exact PX _ h
 rcases ag hg with rfl|hg
 ·exact PX _ h
 rcases ag hg with rfl|hg
 ·exact UI h
 cases hg
end
def LO{N:Nat}{v:VVm}(g:bf N v):CG N v (lw v):=⟨g,.rf _,Nat.zero_le _,(fun c hc=>by cases hc)⟩
def LF{N M:Nat}{v:VVm}{w:CW}(g:bf N v)(h:CG M v w)(hM:N<=M):bf M (zO w v).1/\KV v (zO w v).1:=by
 unfold zO pa
 split
 ·exact⟨g.up hM,.rf _⟩
 exact⟨h.g,h.k⟩
def Qj{N:Nat}{v:VVm}(g:bf N v)(n:Int):bf (N+2) (Hl v n).1/\KV v (Hl v n).1 :=
 LF g (rv (jc (LO g) _) n) (by omega)
def VQ{N:Nat}{v:VVm}{x:CW}(h:CG N v x)(s:Str):CG (N+2) v (wT x s):=by
 unfold wT
 split
 ·unfold Dz
  have b:=MC h.g
  have m1:dP x.v.mem (dg x.v.mem x.v.here s).1 1:=ij _
  have p1:=iL (m:=x.v.mem) s b.1 b.2
  split
  ·have m2:dP (dg x.v.mem x.v.here s).1 (aN (dg x.v.mem x.v.here s).1 (dg x.v.mem x.v.here s).2.1).1 1:=ij _
   have p2:1368<=(aN (dg x.v.mem x.v.here s).1 (dg x.v.mem x.v.here s).2.1).2.1/\(aN (dg x.v.mem x.v.here s).1 (dg x.v.mem x.v.here s).2.1).2.1<=(dg x.v.mem x.v.here s).1.b.length:=iL _ p1.1 (by rw[m1.len];exact p1.2)
   have l1:=m1.len
   have l2:=m2.len
   exact⟨UA h.g (m1.trans m2) p2.1 (by omega),h.k.tr ⟨rfl,rfl,rfl⟩,h.len,h.cf⟩
  exact⟨h.g.up (by omega),h.k,h.len,h.cf⟩
 exact h.up (by omega)
def Q9{N:Nat}{v:VVm}(g:bf N v)(s:Str):bf (N+4) (K7 v s).1/\KV v (K7 v s).1 :=
 LF g (VQ (rv (jc (LO g) _) _) s) (by omega)
def OkF.vm{N M:Nat}{f:af}(h:OkF N f){v:VVm}(g:bf M v)(hd:f.vm.dict.length<=v.dict.length)(hc:v.conf=f.vm.conf)(hx:DX v.dict):OkF M {f with vm:=v} :=
 ⟨g,h.cfl,h.cf,fun q=>⟨(h.dict q).1,by have:=(h.dict q).2;show f.comp.dict<(v.dict.length:Int);omega⟩,fun q=>by show _/\_<=v.conf.mem;rw[hc];exact h.here q,h.la,h.fu,hx⟩
def OkF.kv{N M:Nat}{f:af}(h:OkF N f){v:VVm}(g:bf M v)(k:KV f.vm v):OkF M {f with vm:=v}:=h.vm g (by rw[k.dict];exact Nat.le_refl _) k.conf (by rw[k.dict];exact h.xts)
def GL{N:Nat}{f:af}(h:OkF N f)(name:Str):OkF (N+40) {f with vm:=(bq f.vm f.comp.cf name).1}/\OkF (N+40) {f with vm:=(bq f.vm f.comp.cf name).1,comp:={f.comp with cf:=(bq f.vm f.comp.cf name).2.1}}:=by
 have up:OkF (N+40) f:=h.up (by omega)
 unfold bq
 cases hb:brF name with
 | none=>exact⟨up,up⟩
 | some g =>
  dsimp only
  split
  ·exact⟨up,up⟩
  unfold pa
  split
  ·exact⟨up,up⟩
  have q:=ar8 hb (w:=⟨f.vm,f.comp.cf,0⟩) (v:=f.vm) ⟨h.g,.rf _,h.cfl,h.cf⟩
  have o:=h.kv q.g q.k
  exact⟨o,⟨o.g,q.len,q.cf,o.dict,o.here,o.la,o.fu,o.xts⟩⟩
open Go.RowKit
def yV(w:FW)(n:Int):(d7 w n).f.vm.conf=w.f.vm.conf/\(d7 w n).f.vm.dict=w.f.vm.dict/\(d7 w n).f.vm.hand=w.f.vm.hand/\(d7 w n).f.comp=w.f.comp/\(d7 w n).f.vm.here=w.f.vm.here/\((d7 w n).bad=0->w.bad=0):=by
 unfold d7
 rw[m7]
 exact⟨rfl,rfl,rfl,rfl,rfl,fun q=>(vz q).1⟩
def Pa{N:Nat}{f:af}(h:OkF N f)(name:Str)(on:Bool)(fuel:Int):OkF (N+3) (iq f name on fuel).1:=by
 unfold iq
 by_cases hB:(gd f on fuel).bad≠0
 ·rw[if_pos hB];exact h.up (by omega)
 rw[if_neg hB]
 have ck:=zo (Decidable.not_not.1 hB)
 rw[ck.2.1]
 obtain⟨fu,hfu⟩:∃fu,(if on=true then fuel else 0)=fu:=⟨_,rfl⟩
 rw[hfu]
 unfold gU
 split
 ·exact h.up (by omega)
 rename_i q
 have q:(d7 (eS (aK f) name 2 [256]).1 (-1)).bad=0:=Decidable.not_not.1 q
 have s:=yV (eS (aK f) name 2 [256]).1 (-1)
 have w:=QW (aK f) name 2 [256]
 have g:=Ay (EF (l:=[256]) (w:=aK f) h.g name (flags:=2) (by decide) (by decide)) (-1)
 have hd:=w.2.2.1 (s.2.2.2.2.2 q)
 have R:=h.g.right
 refine⟨g,Nat.zero_le _,(fun c hc=>by cases hc),fun _=>⟨Int.natCast_nonneg _,?_⟩,fun _=>⟨R.jV,?_⟩,h.g.la,fun z=>?_,?_⟩
 ·show(f.vm.dict.length:Int)<((d7 (eS (aK f) name 2 [256]).1 (-1)).f.vm.dict.length:Int)
  rw[s.2.1,hd]
  show(f.vm.dict.length:Int)<((f.vm.dict.length+1:Nat):Int)
  omega
 ·show f.vm.here<=(d7 (eS (aK f) name 2 [256]).1 (-1)).f.vm.conf.mem
  rw[s.1,w.1];exact R.jZ
 ·have z:on=true:=z
  have:=(ck.2.2 z).1
  show 0<=fu
  rw[<-hfu,if_pos z];omega
 show DX (d7 (eS (aK f) name 2 [256]).1 (-1)).f.vm.dict
 rw[s.2.1];exact D8 (w:=aK f) h.g h.xts name 2 [256]
def WT{N:Nat}{v:VVm}(g:bf N v){l:List sz}(h:l.all FH=true)(hl:l.length<=64):bf N {v with hand:=l}:=by
 have R:=g.right
 exact⟨⟨R.gE,R.mem,R.dict,R.pic,R.len,R.jV,R.jZ,R.f,h,R.d,R.r,R.fl,R.dl,R.out,R.req,R.free0,R.free1,R.next0,R.next1,hl⟩,g.old,g.fd,g.fr,g.ff,g.ints,g.la⟩
def A8{l:List aS}(h:iC l=true)(a:Int){n:Int}(h0:0<=n)(h7:n<=7):iC (cH l a n).1=true/\(cH l a n).1.length=l.length:=by
 unfold cH
 split
 ·exact⟨h,rfl⟩
 rename_i q
 have hlt:a.toNat<l.length:=by omega
 refine⟨?_,List.length_set ..⟩
 unfold iC at h ⊢
 simp only[Bool.and_eq_true,decide_eq_true_eq]at h ⊢
 refine⟨List.all_eq_true.2 fun x hx=>?_,by show(l.set _ _).length<=_;rw[List.length_set];exact h.2⟩
 rcases List.mem_or_eq_of_mem_set hx with hx|hx
 ·exact List.all_eq_true.1 h.1 x hx
 subst hx
 have:=List.all_eq_true.1 h.1 (l.getD a.toNat default) (by rw[List.getD_eq_getElem?_getD,List.getElem?_eq_getElem hlt];exact List.getElem_mem _)
 unfold Bu at this ⊢
 simp only[decide_eq_true_eq]at this ⊢
 exact⟨this.1,h0,h7⟩
def L1{N:Nat}{v:VVm}(g:bf N v)(a:Int){n:Int}(h0:0<=n)(h7:n<=7):bf N {v with dict:=(cH v.dict a n).1}:=by
 have q:=A8 g.right.dict a h0 h7
 exact EB g q.1 (by rw[q.2];exact g.right.dl)
def zB{N:Nat}{v:VVm}(g:bf N v)(hx:DX v.dict):OkF N ⟨v,kN⟩:=⟨g,Nat.zero_le _,(fun c hc=>by cases hc),fun q=>absurd rfl q,fun q=>absurd rfl q,bI,(fun q=>by cases q),hx⟩
def Mo{l:List aS}(h:DX l)(a n:Int):DX (cH l a n).1:=by
 unfold cH
 split
 ·exact h
 rename_i q
 intro x hx
 rcases List.mem_or_eq_of_mem_set hx with hx|hx
 ·exact h x hx
 subst hx
 show ae (l.getD a.toNat default).xt
 rw[List.getD_eq_getElem?_getD,List.getElem?_eq_getElem (by omega)]
 exact h _ (List.getElem_mem _)
def TT{l:List aS}(h:DX l)(n:Int):DX (i6 l n).1:=by
 unfold i6
 split
 ·exact h
 exact fun x hx=>h x (List.mem_of_mem_take hx)
def JF(w:FW)(d:List aS×Int):(nc w d).f.vm={w.f.vm with dict:=d.1}:=by unfold nc;rw[m7]
def aj7{l:List aS}(h:iC l=true)(i:Nat):0<=jS (l.getD i default).flags/\jS (l.getD i default).flags<=7:=by
 by_cases hi:i<l.length
 ·have q:=((tW h).get hi)
  exact MD q.2.1 q.2.2
 rw[List.getD_eq_getElem?_getD,List.getElem?_eq_none (by omega)];exact⟨by decide,by decide⟩
def UN{N:Nat}{f:af}(h:OkF N f):OkF (N+2) (nu f).1:=by
 unfold nu
 by_cases hE:nt f≠0
 ·rw[if_pos hE];exact h.up (by omega)
 rw[if_neg hE]
 have hE:nt f=0:=Decidable.not_not.1 hE
 have ho:¬(f.comp.on=true/\64<=f.vm.hand.length):=fun q=>by
  unfold nt at hE
  by_cases c1:f.comp.xt=0
  ·rw[if_pos c1]at hE;cases hE
  by_cases c2:0<f.comp.cf.length
  ·rw[if_neg c1,if_pos c2]at hE;cases hE
  rw[if_neg c1,if_neg c2,if_pos q]at hE;cases hE
 unfold gU
 split
 ·exact h.up (by omega)
 have hdx:DX (yK f).f.vm.dict:=by
  have e1:(yK f).f.vm.dict=(d7 (nc (cg ⟨f,0⟩ 32) (tz (cg ⟨f,0⟩ 32) f.comp)) 0).f.vm.dict:=by unfold yK i9;split<;>rfl
  rw[e1,(yV _ 0).2.1,JF]
  show DX (cH (cg ⟨f,0⟩ 32).f.vm.dict _ _).1
  rw[(Ku ⟨f,0⟩ 32).2.1];exact Mo h.xts _ _
 refine zB ?_ hdx
 have g1:bf (N+1) (cg ⟨f,0⟩ 32).f.vm:=Ls (w:=⟨f,0⟩) h.g 32
 have c1:=Ku ⟨f,0⟩ 32
 have u7:=aj7 g1.right.dict f.comp.dict.toNat
 have g2:bf (N+1) (nc (cg ⟨f,0⟩ 32) (tz (cg ⟨f,0⟩ 32) f.comp)).f.vm:=by rw[JF];exact L1 g1 _ u7.1 u7.2
 have g3:=Ay g2 0
 have s3:=yV (nc (cg ⟨f,0⟩ 32) (tz (cg ⟨f,0⟩ 32) f.comp)) 0
 have hh:(d7 (nc (cg ⟨f,0⟩ 32) (tz (cg ⟨f,0⟩ 32) f.comp)) 0).f.vm.hand=f.vm.hand:=by rw[s3.2.2.1,JF];exact c1.2.2.1
 show bf (N+2) (yK f).f.vm
 unfold yK i9
 split
 ·rename_i q
  have hr:=h.g.right.hand
  refine WT g3 ?_ ?_
  ·rw[hh,List.all_append,hr,Bool.true_and,List.all_cons,List.all_nil,Bool.and_true]
   unfold FH
   exact decide_eq_true (h.fu q)
  rw[hh,List.length_append,List.length_singleton]
  have:¬64<=f.vm.hand.length:=fun z=>ho ⟨q,z⟩
  omega
 exact g3
def Kv{l:List aS}(h:iC l=true)(n:Nat):iC (l.take n)=true:=by
 unfold iC at h ⊢
 simp only[Bool.and_eq_true,decide_eq_true_eq]at h ⊢
 exact⟨List.all_eq_true.2 fun x hx=>List.all_eq_true.1 h.1 x (List.mem_of_mem_take hx),by rw[List.length_take];omega⟩
def Py{N:Nat}{v:VVm}(g:bf N v)(n:Int):bf N {v with dict:=(i6 v.dict n).1}:=by
 unfold i6
 split
 ·exact g
 exact EB g (Kv g.right.dict _) (by have:=g.right.dl;rw[List.length_take];omega)
def Mx{N:Nat}{v:VVm}(g:bf N v){here:Int}(h0:1368<=here)(h1:here<=v.conf.mem):bf N {v with here:=here}:=by
 have R:=g.right
 exact⟨⟨R.gE,R.mem,R.dict,R.pic,R.len,h0,h1,R.f,R.hand,R.d,R.r,R.fl,R.dl,R.out,R.req,R.free0,R.free1,R.next0,R.next1,R.handl⟩,g.old,g.fd,g.fr,g.ff,g.ints,g.la⟩
def P5{N:Nat}{f:af}(h:OkF N f):OkF (N+1) (j6 f):=by
 unfold j6
 split
 ·exact h.up (by omega)
 rename_i q
 have g:=Ay (w:=⟨f,0⟩) h.g 0
 have s:=yV ⟨f,0⟩ 0
 refine zB (v:={(d7 ⟨f,0⟩ 0).f.vm with dict:=(i6 (d7 ⟨f,0⟩ 0).f.vm.dict f.comp.dict).1,here:=f.comp.here,last:=f.comp.last}) ?_ (by show DX (i6 (d7 ⟨f,0⟩ 0).f.vm.dict f.comp.dict).1;rw[s.2.1];exact TT h.xts _)
 have hq:=h.here q
 exact yT (Mx (Py g _) hq.1 (by show f.comp.here<=(d7 ⟨f,0⟩ 0).f.vm.conf.mem;rw[s.1];exact hq.2)) h.la
def Xd{N:Nat}{v:VVm}(g:bf N v){n:Int}(hn:ae n):bf N (fQ v n).1:=by
 unfold fQ gP
 by_cases c:v.conf.data<=(v.d.length:Int)
 ·rw[if_pos c];exact g
 rw[if_neg c];exact S8 g (by simp only[List.length_append,List.length_singleton];omega) (jr g.fd (dj hn))
def Tp{N:Nat}{v:VVm}(g:bf N v):bf N (eg v).2.1/\ae (eg v).1:=by
 refine⟨?_,(Fa g.x).2⟩
 unfold eg bo
 split
 ·exact g
 exact S8 g (by have:=g.right.d;simp only[List.length_take];omega) (nU _ g.fd)
def G6{N:Nat}{v:VVm}(g:bf N v)(s:Str):bf N (i8 v s).1/\KV v (i8 v s).1:=by
 unfold i8
 split
 ·exact⟨g,.rf _⟩
 rename_i q
 have R:=g.right
 exact⟨⟨⟨R.gE,R.mem,R.dict,R.pic,R.len,R.jV,R.jZ,R.f,R.hand,R.d,R.r,R.fl,R.dl,by show((v.out++s).length:Int)<=v.conf.out;rw[List.length_append];omega,R.req,R.free0,R.free1,R.next0,R.next1,R.handl⟩,g.old,g.fd,g.fr,g.ff,g.ints,g.la⟩,⟨rfl,rfl,rfl⟩⟩
structure Nx (N:Nat) (l0 l:ai):Prop where
 f:OkF N l.f
 s:l.s=l0.s
 a:l0.at_<=l.at_
 b:l.at_<=l0.s.length
 u:l.fuel=l0.fuel
def Nx.up{N M:Nat}{l0 l:ai}(h:Nx N l0 l)(hM:N<=M):Nx M l0 l:=⟨h.f.up hM,h.s,h.a,h.b,h.u⟩
def Nx.to{N M:Nat}{l0 l l':ai}(h:Nx N l0 l)(hf:OkF M l'.f)(hs:l'.s=l.s)(ha:l'.at_=l.at_)(hu:l'.fuel=l.fuel):Nx M l0 l':=⟨hf,hs.trans h.s,by rw[ha];exact h.a,by rw[ha];exact h.b,hu.trans h.u⟩
def zy(l:ai)(e:Int):(oOk l e).s=l.s/\(oOk l e).at_=l.at_/\(oOk l e).fuel=l.fuel:=by unfold oOk;split<;>exact⟨rfl,rfl,rfl⟩
def Ej(l:ai)(r:VVm×Int):(gC l r).s=l.s/\(gC l r).at_=l.at_/\(gC l r).fuel=l.fuel:=by
 have q:=zy l r.2
 unfold gC;split<;>exact q
def y3(l:ai)(r:af×Int):(lx l r).s=l.s/\(lx l r).at_=l.at_/\(lx l r).fuel=l.fuel:=by
 have q:=zy l r.2
 unfold lx;split<;>exact q
def E1(s:Str){a:Int}(h0:0<=a)(h1:a<=s.length)(hw:(bE s a).1≠[]):a<(bE s a).2/\(bE s a).2<=s.length/\(a+2<=(bE s a).2\/(bE s a).2=s.length):=by
 have hf:dM s a=a.toNat:=by unfold dM;rw[if_neg (by omega)]
 have hb:=AM s (s.length-dM s a) (dM s a) (Fy s a)
 have he:=DU s (s.length-lF s (dM s a)) (lF s (dM s a)) hb.2
 have hb1:dM s a<=lF s (dM s a):=hb.1
 have he1:og s (lF s (dM s a))<=s.length:=he.2
 have hlt:lF s (dM s a)<og s (lF s (dM s a)):=by
  refine Nat.lt_of_not_le fun q=>hw ?_
  unfold bE
  dsimp only
  exact List.drop_eq_nil_of_le (by rw[List.length_take];omega)
 have e2:(bE s a).2=min ((og s (lF s (dM s a)):Int)+1) s.length:=rfl
 omega
def WZ(s:Str){a:Int}(c:UInt8)(h0:0<=a)(h1:a<=s.length):a<=(lE s a c).2.1/\(lE s a c).2.1<=s.length:=by
 have hf:dM s a=a.toNat:=by unfold dM;rw[if_neg (by omega)]
 have hi:=Bm (s.drop (dM s a)) c
 rw[List.length_drop]at hi
 unfold lE
 dsimp only
 split
 ·exact⟨h1,Int.le_refl _⟩
 rename_i q
 dsimp only
 rw[hf]at hi q ⊢
 omega
section
variable {N M : Nat} {l0 l : ai}
def vK(h:Nx N l0 l)(e:Int):Nx N l0 (oOk l e):=h.to (by rw[(vq l e).1];exact h.f) (zy l e).1 (zy l e).2.1 (zy l e).2.2
def yX(h:Nx M l0 l){r:VVm×Int}(hr:OkF M {l.f with vm:=r.1}):Nx M l0 (gC l r):=by
 refine h.to ?_ (Ej l r).1 (Ej l r).2.1 (Ej l r).2.2
 unfold gC
 rw[(vq l r.2).1]
 split
 ·exact hr
 rw[(vq l r.2).1];exact h.f
def zj(h:Nx M l0 l){r:af×Int}(hr:OkF M r.1):Nx M l0 (lx l r):=by
 refine h.to ?_ (y3 l r).1 (y3 l r).2.1 (y3 l r).2.2
 rcases JX l r with e|e
 ·rw[e];exact hr
 rw[e];exact h.f
def HT(h:Nx M l0 l){r:VVm×Int}(hr:OkF M {l.f with vm:=r.1}):Nx M l0 (oDo l r):=by
 unfold oDo;split
 ·exact yX h hr
 exact h
def D7(h:Nx N l0 l)(n:Int):Nx (N+1) l0 (xj l n):=HT (h.up (by omega)) (h.f.kv (Jz h.f.g n) ⟨rfl,rfl,rfl⟩)
def Aj(h:Nx N l0 l)(n:Int):Nx (N+2) l0 (uk l n):=HT (h.up (by omega)) (h.f.kv (Qj h.f.g n).1 (Qj h.f.g n).2)
def Fe(h:Nx N l0 l){n:Int}(hn:ae n):Nx N l0 (wa l n):=HT h (h.f.kv (Xd h.f.g hn) ⟨rfl,rfl,rfl⟩)
def J3(h:Nx N l0 l):Nx N l0 (mS l).1/\ae (mS l).2:=⟨yX h (h.f.kv (Tp h.f.g).1 ⟨rfl,rfl,rfl⟩),(Tp h.f.g).2⟩
def yR(h:Nx N l0 l)(name:Str):Nx (N+1) l0 (yg l name):=D7 h _
def w9(h:Nx N l0 l)(h0:0<=l0.at_):Nx N l0 (bW l).1:=by
 unfold bW;split
 ·exact vK h _
 rename_i q
 have w:=E1 l.s (a:=l.at_) (by have:=h.a;omega) (by rw[h.s];exact h.b) q
 have e:=h.s
 have a:=h.a
 exact⟨h.f,e,by show l0.at_<=(bE l.s l.at_).2;omega,by show(bE l.s l.at_).2<=_;rw[<-e];exact w.2.1,h.u⟩
def Fi(h:Nx N l0 l)(h0:0<=l0.at_)(c:UInt8):Nx N l0 (iM l c).1:=by
 have w:=WZ l.s (a:=l.at_) c (by have:=h.a;omega) (by rw[h.s];exact h.b)
 unfold iM;split
 ·have e:=h.s
  have a:=h.a
  exact⟨h.f,e,by show l0.at_<=(lE l.s l.at_ c).2.1;omega,by show(lE l.s l.at_ c).2.1<=_;rw[<-e];exact w.2,h.u⟩
 exact vK h _
def VF(h:Nx N l0 l):Nx N l0 (SI l):=⟨h.f,h.s,by show l0.at_<=(l.s.length:Int);rw[h.s];have:=h.a;have:=h.b;omega,by show(l.s.length:Int)<=_;rw[h.s];exact Int.le_refl _,h.u⟩
def FT(h:Nx N l0 l)(h0:0<=l0.at_)(on:Bool)(fuel:Int):Nx (N+3) l0 (vr l on fuel):=by
 have q:=w9 h h0
 unfold vr;split
 ·exact zj (q.up (by omega)) (Pa q.f _ _ _)
 exact q.up (by omega)
def VV(h:Nx N l0 l):Nx (N+2) l0 (Gg l):=zj (h.up (by omega)) (UN h.f)
def Lm(h:Nx N l0 l)(h0:0<=l0.at_):Nx (N+4) l0 (wA l):=by
 have q:=Fi h h0 34
 exact HT (q.up (by omega)) (q.f.kv (Q9 q.f.g _).1 (Q9 q.f.g _).2)
def Uh(h:Nx N l0 l)(h0:0<=l0.at_):Nx (N+5) l0 (vk l):=by
 unfold vk;split
 ·exact yR (Lm h h0) _
 have q:=Fi h h0 34
 exact(HT q (q.f.kv (G6 q.f.g _).1 (G6 q.f.g _).2)).up (by omega)
def Jo(h:Nx N l0 l)(name:Str):Nx (N+40) l0 (my l name):=by
 have b:=GL h.f name
 have m:Nx (N+40) l0 (gC l ((bq l.f.vm l.f.comp.cf name).1,(bq l.f.vm l.f.comp.cf name).2.2)):=yX (h.up (by omega)) b.1
 have e:(gC l ((bq l.f.vm l.f.comp.cf name).1,(bq l.f.vm l.f.comp.cf name).2.2)).err=0->(gC l ((bq l.f.vm l.f.comp.cf name).1,(bq l.f.vm l.f.comp.cf name).2.2)).f={l.f with vm:=(bq l.f.vm l.f.comp.cf name).1}:=fun q=>by
  unfold gC at q ⊢
  split at q
  ·rename_i z;rw[if_pos z];dsimp only;rw[(vq l _).1]
  rename_i z;exact absurd q z
 unfold my
 split
 ·rename_i q
  refine m.to ?_ rfl rfl rfl
  rw[e q];exact b.2
 exact m
def wC(h:Nx N l0 l)(h0:0<=l0.at_){D:af->Str->af×Int}{j:Nat}(hD:∀f name,OkF N f->OkF (N+j) (D f name).1):Nx (N+j) l0 (jR l D):=by
 have q:=w9 h h0
 unfold jR;split
 ·exact zj (q.up (by omega)) (hD _ _ q.f)
 exact q.up (by omega)
def Ow(h:Nx N l0 l)(h0:0<=l0.at_):Nx (N+3) l0 (eJ l):=wC h h0 fun f name o=>oX o name true [257,0]
def Cv(h:Nx N l0 l)(h0:0<=l0.at_){D:af->Str->Int->af×Int}{j:Nat}(hD:∀f name n,OkF N f->OkF (N+j) (D f name n).1):Nx (N+j) l0 (tJ l D):=by
 have p:=J3 h
 unfold tJ;split
 ·exact wC p.1 h0 fun f name o=>hD f name _ o
 exact p.1.up (by omega)
def TJ(h:Nx N l0 l)(h0:0<=l0.at_):Nx (N+4) l0 (KA l):=Cv h h0 fun f name n o=>oX o name false [258,0,n]
end
open Go.RowKit
def iE:List Str:=[[58],[67,82,69,65,84,69],[86,65,82,73,65,66,76,69],[67,79,78,83,84,65,78,84],[73,77,77,69,68,73,65,84,69],[39],[67,72,65,82],[46,34],[40],[92],[91],[93],[70,79,82,71,69,84],[77,65,67,72,73,78,69],[79,78,58]]
def vF(k:Int):Bool:=if k<300 then false else !decide (cv.getD (k-300).toNat []∈iE)
def FN(k:Int)(h1:k<337)(h0:ae k):ab prog 68 [i64 k] (boo (vF k)):=by
 have hL:=iF
 unfold ae at h0
 have w1:¬k<300->IntKind.i64.wrap (k-300)=k-300:=fun q=>by rw[gZ (by omega) (by omega)]
 obtain⟨x,hx⟩:∃x,cv.getD (k-300).toNat []=x:=⟨_,rfl⟩
 have e1:¬k<300->vF k = !decide (x∈iE):=fun q=>by unfold vF;rw[if_neg q,hx]
 refine zY func68 fun B=>?_
 refine zu1 ?_
 refine Ws<|zu2 ?_
 refine Wi rfl (fun hi1=>?_) (fun hi1=>?_)
 ·have q:k<300:=oT hi1
  refine zu1 ?_
  refine zR ?_
  (unfold vF;rw[if_pos q];rfl)
 have q:¬k<300:=oF hi1
 refine Wj<|Ws<|z8 ?_
 refine zc rfl func71 ((fh) _) ?_
 refine zy2 ?_
 refine Wa 7 rfl (congrArg (fun z=>PV.val (Value.int .i64 z)) (w1 q)) ?_
 refine Wv tG rfl rfl rfl (by omega) (iR gR 1 (fun _=>rfl) [] (by omega)) ?_
 refine z1 ?_
 refine Wa 9 rfl (congrArg str hx) ?_
 refine Wn<|Wl<|Ws<|zp1 ?_
 refine zq 11 ?_
 refine zs1 ?_
 refine Wi rfl (fun hi2=>?_) (fun hi2=>?_)
 ·have m:x∈iE:=by rw[oT hi2];decide
  refine Wj<|Wt rfl hi2 ?_
  refine zu1 ?_
  refine zR ?_
  (rw[e1 q,decide_eq_true m];rfl)
 have n0:=oF hi2
 refine zp1 ?_
 refine zq 12 ?_
 refine zs1 ?_
 refine Wi rfl (fun hi3=>?_) (fun hi3=>?_)
 ·have m:x∈iE:=by rw[oT hi3];decide
  refine Wj<|Wt rfl hi3 ?_
  refine zu1 ?_
  refine zR ?_
  (rw[e1 q,decide_eq_true m];rfl)
 have n1:=oF hi3
 refine zp1 ?_
 refine zq 13 ?_
 refine zs1 ?_
 refine Wi rfl (fun hi4=>?_) (fun hi4=>?_)
 ·have m:x∈iE:=by rw[oT hi4];decide
  refine Wj<|Wt rfl hi4 ?_
  refine zu1 ?_
  refine zR ?_
  (rw[e1 q,decide_eq_true m];rfl)
 have n2:=oF hi4
 refine zp1 ?_
 refine zq 14 ?_
 refine zs1 ?_
 refine Wi rfl (fun hi5=>?_) (fun hi5=>?_)
 ·have m:x∈iE:=by rw[oT hi5];decide
  refine Wj<|Wt rfl hi5 ?_
  refine zu1 ?_
  refine zR ?_
  (rw[e1 q,decide_eq_true m];rfl)
 have n3:=oF hi5
 refine zp1 ?_
 refine zq 15 ?_
 refine zs1 ?_
 refine Wi rfl (fun hi6=>?_) (fun hi6=>?_)
 ·have m:x∈iE:=by rw[oT hi6];decide
  refine Wj<|Wt rfl hi6 ?_
  refine zu1 ?_
  refine zR ?_
  (rw[e1 q,decide_eq_true m];rfl)
 have n4:=oF hi6
 refine zp1 ?_
 refine zq 16 ?_
 refine zs1 ?_
 refine Wi rfl (fun hi7=>?_) (fun hi7=>?_)
 ·have m:x∈iE:=by rw[oT hi7];decide
  refine Wj<|Wt rfl hi7 ?_
  refine zu1 ?_
  refine zR ?_
  (rw[e1 q,decide_eq_true m];rfl)
 have n5:=oF hi7
 refine zp1 ?_
 refine zq 17 ?_
 refine zs1 ?_
 refine Wi rfl (fun hi8=>?_) (fun hi8=>?_)
 ·have m:x∈iE:=by rw[oT hi8];decide
  refine Wj<|Wt rfl hi8 ?_
  refine zu1 ?_
  refine zR ?_
  (rw[e1 q,decide_eq_true m];rfl)
 have n6:=oF hi8
 refine zp1 ?_
 refine zq 18 ?_
 refine zs1 ?_
 refine Wi rfl (fun hi9=>?_) (fun hi9=>?_)
 ·have m:x∈iE:=by rw[oT hi9];decide
  refine Wj<|Wt rfl hi9 ?_
  refine zu1 ?_
  refine zR ?_
  (rw[e1 q,decide_eq_true m];rfl)
 have n7:=oF hi9
 refine zp1 ?_
 refine zq 19 ?_
 refine zs1 ?_
 refine Wi rfl (fun hi10=>?_) (fun hi10=>?_)
 ·have m:x∈iE:=by rw[oT hi10];decide
  refine Wj<|Wt rfl hi10 ?_
  refine zu1 ?_
  refine zR ?_
  (rw[e1 q,decide_eq_true m];rfl)
 have n8:=oF hi10
 refine zp1 ?_
 refine zq 20 ?_
 refine zs1 ?_
 refine Wi rfl (fun hi11=>?_) (fun hi11=>?_)
 ·have m:x∈iE:=by rw[oT hi11];decide
  refine Wj<|Wt rfl hi11 ?_
  refine zu1 ?_
  refine zR ?_
  (rw[e1 q,decide_eq_true m];rfl)
 have n9:=oF hi11
 refine zp1 ?_
 refine zq 21 ?_
 refine zs1 ?_
 refine Wi rfl (fun hi12=>?_) (fun hi12=>?_)
 ·have m:x∈iE:=by rw[oT hi12];decide
  refine Wj<|Wt rfl hi12 ?_
  refine zu1 ?_
  refine zR ?_
  (rw[e1 q,decide_eq_true m];rfl)
 have n10:=oF hi12
 refine zp1 ?_
 refine zq 22 ?_
 refine zs1 ?_
 refine Wi rfl (fun hi13=>?_) (fun hi13=>?_)
 ·have m:x∈iE:=by rw[oT hi13];decide
  refine Wj<|Wt rfl hi13 ?_
  refine zu1 ?_
  refine zR ?_
  (rw[e1 q,decide_eq_true m];rfl)
 have n11:=oF hi13
 refine zp1 ?_
 refine zq 23 ?_
 refine zs1 ?_
 refine Wi rfl (fun hi14=>?_) (fun hi14=>?_)
 ·have m:x∈iE:=by rw[oT hi14];decide
  refine Wj<|Wt rfl hi14 ?_
  refine zu1 ?_
  refine zR ?_
  (rw[e1 q,decide_eq_true m];rfl)
 have n12:=oF hi14
 refine zp1 ?_
 refine zq 24 ?_
 refine zs1 ?_
 refine Wi rfl (fun hi15=>?_) (fun hi15=>?_)
 ·have m:x∈iE:=by rw[oT hi15];decide
  refine Wj<|Wt rfl hi15 ?_
  refine zu1 ?_
  refine zR ?_
  (rw[e1 q,decide_eq_true m];rfl)
 have n13:=oF hi15
 refine aa rfl ?_
 refine z1 ?_
 refine zq 25 ?_
 refine zs1 ?_
 refine Wi rfl (fun hi16=>?_) (fun hi16=>?_)
 ·have m:x∈iE:=by rw[oT hi16];decide
  refine zu1 ?_
  refine zR ?_
  (rw[e1 q,decide_eq_true m];rfl)
 have n14:=oF hi16
 have m:¬x∈iE:=by unfold iE;simp only[List.mem_cons,List.not_mem_nil,or_false,not_or];exact⟨n0,n1,n2,n3,n4,n5,n6,n7,n8,n9,n10,n11,n12,n13,n14⟩
 refine Wj<|zu1 ?_
 refine zR ?_
 (rw[e1 q,decide_eq_false m];rfl)
def kC:Int:=300+ui cv [67,82,69,65,84,69] cv.length 0
def BK(r:bJ)(xt ip:Int):Bool×Int:=(decide ((av r.vm xt).2=0/\(av r.vm xt).1=kC),ip)
def YT{r:bJ}{xt ip:Int}(h:(av r.vm xt).2=0):BK r xt ip=((av r.vm xt).1==kC,ip):=by
 unfold BK
 by_cases q:(av r.vm xt).1=kC
 ·rw[decide_eq_true ⟨h,q⟩,beq_iff_eq.2 q]
 rw[decide_eq_false (fun z=>q z.2),beq_eq_false_iff_ne.2 q]
def YZ{r:bJ}{xt ip:Int}(h:¬(av r.vm xt).2=0):BK r xt ip=(false,ip):=by
 unfold BK;rw[decide_eq_false (fun z=>h z.1)]
def cI(r:bJ):Bool×Int:=if r.dof=true then BK r r.w r.ip else if (am r.vm.mem r.ip).2≠0 then(false,r.ip)else BK r (am r.vm.mem r.ip).1 (W64 (r.ip+8))
def BI(r:bJ)(hm:r.vm.mem.b.length<=140737488355328)(hi:ae r.ip)(hw:ae r.w):ab prog 85 [xy r] (iA (boo (cI r).1) (i64 (cI r).2)):=by
 have hL:=iF
 have w1:IntKind.i64.wrap (300+ui cv [67,82,69,65,84,69] cv.length 0)=kC:=by decide +kernel
 have c1:r.dof=true->cI r=BK r r.w r.ip:=fun q=>by unfold cI;rw[if_pos q]
 have c2:r.dof=false->(am r.vm.mem r.ip).2≠0->cI r=(false,r.ip):=fun q q1=>by unfold cI;rw[if_neg (by rw[q];decide),if_pos q1]
 have c3:r.dof=false->¬(am r.vm.mem r.ip).2≠0->cI r=BK r (am r.vm.mem r.ip).1 (W64 (r.ip+8)):=fun q q1=>by unfold cI;rw[if_neg (by rw[q];decide),if_neg q1]
 refine zY func85 fun B=>?_
 refine zu3 ?_
 refine Ws<|ax [0,1,0,1,0,0] [0,1,2,3,4,5] mG rfl (by kernel_rfl) ?_
 refine z3 ?_
 refine z5 ?_
 refine z3 ?_
 refine z5 ?_
 iterate 2 refine z3 ?_
 refine aQ ?_
 refine Ws<|zu3 ?_
 refine Wi rfl (fun hi1=>?_) (fun hi1=>?_)
 ·have q0:r.dof=false:=by simpa using hi1
  have k0:=qW r.vm (am r.vm.mem r.ip).1 hm (tS _ _)
  refine zp5 ?_
  refine zc rfl func39 ((gH r.vm.mem r.ip hm hi) _) ?_
  refine zs5 ?_
  refine Ws<|zu2 ?_
  refine Wi rfl (fun hi2=>?_) (fun hi2=>?_)
  ·have q1:(am r.vm.mem r.ip).2≠0:=by simpa using hi2
   refine zu3 ?_
   refine zR ?_
   (rw[c2 q0 q1];rfl)
  have q1:¬(am r.vm.mem r.ip).2≠0:=by simpa using hi2
  refine Wj<|aa rfl ?_
  refine zs5 ?_
  refine zp3 ?_
  refine zc rfl func67 ((k0) _) ?_
  refine zs5 ?_
  refine zp3 ?_
  refine Wb 41 rfl (fun hg1=>?_) (fun hg1=>?_)
  ·refine z1 ?_
   refine zc rfl func71 ((fh) _) ?_
   refine zc rfl func113 ((tZ cv [67,82,69,65,84,69] (by rw[hL];omega)) _) ?_
   refine z1 ?_
   refine Wa 45 rfl (congrArg (fun z=>PV.val (Value.int .i64 z)) w1) ?_
   refine zs5 ?_
   refine zR ?_
   (rw[c3 q0 q1,YT (by simpa using hg1)];rfl)
  refine z6 ?_
  iterate 4 refine z6 ?_
  refine zs4 ?_
  refine zR ?_
  (rw[c3 q0 q1,YZ (by simpa using hg1)];rfl)
 have q0:r.dof=true:=by simpa using hi1
 have k0:=qW r.vm r.w hm hw
 refine Wj<|zp3 ?_
 refine zc rfl func67 ((k0) _) ?_
 refine zs5 ?_
 refine zp3 ?_
 refine Wb 41 rfl (fun hg1=>?_) (fun hg1=>?_)
 ·refine z1 ?_
  refine zc rfl func71 ((fh) _) ?_
  refine zc rfl func113 ((tZ cv [67,82,69,65,84,69] (by rw[hL];omega)) _) ?_
  refine z1 ?_
  refine Wa 45 rfl (congrArg (fun z=>PV.val (Value.int .i64 z)) w1) ?_
  refine zs5 ?_
  refine zR ?_
  (rw[c1 q0,YT (by simpa using hg1)];rfl)
 refine z6 ?_
 iterate 4 refine z6 ?_
 refine zs4 ?_
 refine zR ?_
 (rw[c1 q0,YZ (by simpa using hg1)];rfl)
def sj(s:List Int)(n:Nat)(hs:s.length<=1000000)(hn:n<=1000000):ab prog 160 [sq ap s,i64 (n:Int)] (sqc ap (lc s n)):=by
 refine zY func160 fun B=>?_
 refine zu1 ?_
 refine zp1 ?_
 refine z2 ?_ (q:=(by(simp_all;omega)))
 refine zs1 ?_
 refine zp2 ?_
 refine Wd rfl rfl (nN (lO tG rfl) rfl (lO tG rfl) rfl rfl rfl rfl (al _ 1 (fun _=>rfl) _) (bF _ (fun _=>rfl) _) (by rw[mL _ _ rfl];simp)) ?_
 refine jM (H':=[.cells ((lc s n).flatMap ap) 3]) (by refine congrArg (fun z=>[Ob.cells z 3]) (yE s n ?_ ?_).symm<;>rfl) ?_
 refine Wn<|zp1 ?_
 refine AS 11 0 n n rfl rfl (by rw[oN,List.length_map,lW];exact Nat.le_refl _) ?_
 refine Wa 11 rfl (MV s n) ?_
 refine zs1 ?_
 refine Wq ?_
 exact ow rfl rfl
def MG(r:bJ×Int):PV:=iA (xy r.1) (i64 r.2)
@[simp] theorem ah6 (r : bJ × Int) : aU (MG r) := by simp [MG]
def EL(r:bJ)(e:Int)(N:Nat)(g:bf N r.vm):ab prog 115 [xy r,i64 e] (MG (ct r e)):=by
 have R:=g.right
 have hc:=R.gE
 unfold eO at hc
 have hfl:=R.fl
 have hd:=R.d
 have hr:=R.r
 by_cases h0:r.vm.f.length=0
 ·have e1:ct r e=(r,e):=by unfold ct;rw[if_pos h0]
  rw[e1]
  refine zY func115 fun B=>?_
  refine zu3 ?_
  refine zu5 ?_
  refine Ws<|zu2 ?_
  refine Wt rfl (by(try simp only[dnL]at *);omega) ?_
  refine zu4 ?_
  refine zR ?_
  rfl
 have hm:r.vm.f.getD (r.vm.f.length-1) default∈r.vm.f:=by rw[List.getD_eq_getElem?_getD,List.getElem?_eq_getElem (by omega)];exact List.getElem_mem _
 have hf:=List.all_eq_true.1 R.f _ hm
 unfold qE at hf
 simp only[decide_eq_true_eq,Bool.and_eq_true]at hf
 have e1:ct r e=({r with vm:={r.vm with f:=r.vm.f.take (r.vm.f.length-1),d:=lc r.vm.d (min (r.vm.f.getD (r.vm.f.length-1) default).d (r.vm.conf.data-1)).toNat++[e],r:=lc r.vm.r (min (r.vm.f.getD (r.vm.f.length-1) default).r r.vm.conf.ret).toNat},ip:=(r.vm.f.getD (r.vm.f.length-1) default).ip},0):=by
  unfold ct;rw[if_neg h0]
 rw[e1]
 have w0:IntKind.i64.wrap ((r.vm.f.length:Int)-1)=((r.vm.f.length-1:Nat):Int):=by((rw[bU];unfold wrap64;(try simp only[dnL]at *);omega))
 have w1:IntKind.i64.wrap (r.vm.conf.data-1)=r.vm.conf.data-1:=by((rw[bU];unfold wrap64;(try simp only[dnL]at *);omega))
 have w2:(if r.vm.conf.data-1<(r.vm.f.getD (r.vm.f.length-1) default).d then r.vm.conf.data-1 else(r.vm.f.getD (r.vm.f.length-1) default).d)=((min (r.vm.f.getD (r.vm.f.length-1) default).d (r.vm.conf.data-1)).toNat:Int):=by split<;>omega
 have w3:(if r.vm.conf.ret<(r.vm.f.getD (r.vm.f.length-1) default).r then r.vm.conf.ret else(r.vm.f.getD (r.vm.f.length-1) default).r)=((min (r.vm.f.getD (r.vm.f.length-1) default).r r.vm.conf.ret).toNat:Int):=by split<;>omega
 have hdl:=lW r.vm.d (min (r.vm.f.getD (r.vm.f.length-1) default).d (r.vm.conf.data-1)).toNat
 refine zY func115 fun B=>?_
 refine zu3 ?_
 refine zu5 ?_
 refine Ws<|zu2 ?_
 refine Wf rfl (by(try simp only[dnL]at *);omega) ?_
 refine Wj<|zp5 ?_
 refine Wa 20 rfl (congrArg (fun z=>PV.val (Value.int .i64 z)) w0) ?_
 refine Wv tG rfl rfl rfl (by omega) (iN jv 3 (fun _=>rfl) default (by omega)) ?_
 refine zs3 ?_
 refine zp5 ?_
 refine Wa 27 rfl (congrArg (fun z=>PV.val (Value.int .i64 z)) w0) ?_
 refine z2 ?_ (q:=(by(simp_all;done)))
 refine Wa 28 rfl (cM jv 3 (fun _=>rfl) (by omega)) ?_
 refine zs3 ?_
 refine zp5 ?_
 refine zy5 ?_
 refine Wa 40 rfl (congrArg (fun z=>PV.val (Value.int .i64 z)) w1) ?_
 refine z1 ?_
 refine Wa 41 rfl (congrArg (fun z=>PV.val (Value.int .i64 z)) w2) ?_
 refine zc rfl func160 ((sj r.vm.d (min (r.vm.f.getD (r.vm.f.length-1) default).d (r.vm.conf.data-1)).toNat (by omega) (by omega)) _) ?_
 refine zy2 ?_
 refine Wa 44 rfl (bsL ap [_] rfl rfl) ?_
 refine Wd rfl rfl (ce (lO tG rfl) rfl (lO tG rfl) (lO tG rfl) rfl rfl (by exact⟨_,rfl⟩) (by exact⟨rfl,rfl,al _ 1 (fun _=>rfl) _,bF _ (fun _=>rfl) _⟩) (by exact al _ 1 (fun _=>rfl) _) (by((simp_all;omega))) (by((simp_all;omega)))) ?_
 refine Wa 45 rfl (cz ap) ?_
 refine zs3 ?_
 refine zp5 ?_
 refine zy5 ?_
 refine Wa 57 rfl (congrArg (fun z=>PV.val (Value.int .i64 z)) w3) ?_
 refine zc rfl func160 ((sj r.vm.r (min (r.vm.f.getD (r.vm.f.length-1) default).r r.vm.conf.ret).toNat (by omega) (by omega)) _) ?_
 refine zs3 ?_
 refine zu4 ?_
 refine zu3 ?_
 refine zR ?_
 rfl
end Go.Proofs.YtjcminooghmpeaaGreatDoor
