import Derived.LaidEql
import Derived.RowKitTokens
import Derived.Stop.Asserts
import Derived.Test.YtjcminooghmpeaaGreatDoorPk7
set_option linter.all false
set_option maxRecDepth 100000
set_option maxHeartbeats 40000000
open Go.Proofs.Tryz
namespace Go.Proofs.YtjcminooghmpeaaGreatDoor
open Go.RowKit
structure ti where
 xt:Int
 cf:List VCf
 here:Int
 dict:Int
 last:Int
 on:Bool
 fuel:Int
def im:ti:=⟨0,[],0,0,0,false,0⟩
def CT(c:ti):List PV:=[i64 c.xt,sq cCf c.cf,i64 c.here,i64 c.dict,i64 c.last,boo c.on,i64 c.fuel]
@[simp] theorem ad6 (c : ti) : aG (CT c) := by simp [CT]
structure ae where
 vm:VVm
 comp:ti
def gA(f:ae):List PV:=cVm f.vm++CT f.comp
@[simp] theorem F7 (f : ae) : aG (gA f) := by simp [gA, cVm, CT]
def bE(f:ae):PV:=.agg (gA f)
@[simp] theorem Yn (f : ae) : aQ (bE f) := by unfold bE aQ; exact F7 f
structure FW where
 f:ae
 bad:Int
def cFw(w:FW):List PV:=gA w.f++[i64 w.bad]
@[simp] theorem aw1 (w : FW) : aG (cFw w) := by simp [cFw, gA, cVm, CT]
def okF(w:FW)(e:Int):FW:=if w.bad=0 then {w with bad:=e} else w
def Vk{w:FW}{e:Int}(h:w.bad=0):okF w e={w with bad:=e}:=by unfold okF;rw[if_pos h]
def ax3{w:FW}{e:Int}(h:¬w.bad=0):okF w e=w:=by unfold okF;rw[if_neg h]
def lc(w:FW)(e:Int):∀(H:List Ob) (i:Nat),H[i]?=some (.cells (cFw w) 106)->HC prog 93 (.ptr i 30::[i64 e]) H (boo (decide ((okF w e).bad=0))) (H.set i (.cells (cFw (okF w e)) 106)):=by
 refine zM func93 fun B=>?_
 refine zu1 ?_
 refine Ws<|zu5 ?_
 refine Wi rfl (fun hi1=>?_) (fun hi1=>?_)
 ·have h0:w.bad=0:=by simpa using hi1
  refine aa rfl ?_
  refine zs5 ?_
  refine zp5 ?_
  refine zs1 ?_
  refine Wq<|aP rfl rfl ?_ ?_
  ·(rw[Vk h0];rfl)
  (rw[Vk h0];rfl)
 have h0:¬w.bad=0:=by simpa using hi1
 refine Wj<|zp5 ?_
 refine zs1 ?_
 refine Wq<|aP rfl rfl ?_ ?_
 ·(rw[ax3 h0];rfl)
 (rw[ax3 h0];rfl)
structure FK (k:Nat) (f:ae):Prop where
 b:f.vm.mem.b.length<=1000000
 old:f.vm.mem.old.length+k<=1000000
 h0:1368<=f.vm.here
 h1:f.vm.here<=f.vm.mem.b.length
 dict:f.vm.dict.length<=2000
 each:jT f.vm.dict
 hand:f.vm.hand.length<=1000
def FK.mem{k:Nat}{f:ae}(h:FK k f):cy f.vm.mem:=⟨h.b,by have:=h.old;omega⟩
def FK.here{k:Nat}{f:ae}(h:FK k f):fG f.vm.mem f.vm.here:=⟨by have:=h.h0;omega,h.h1⟩
def FK.down{k j:Nat}{f:ae}(h:FK k f)(hj:j<=k):FK j f:=⟨h.b,by have:=h.old;omega,h.h0,h.h1,h.dict,h.each,h.hand⟩
def FW.lay(w:FW)(n:Int):FW:={f:={w.f with vm:=(lT w.f.vm n).1},bad:=(lT w.f.vm n).2}
def b9(w:FW)(n:Int):FW:=if w.bad=0 then w.lay n else w
def TY{w:FW}{n:Int}(h:w.bad=0):b9 w n=w.lay n:=by unfold b9;rw[if_pos h]
def ah9{w:FW}{n:Int}(h:¬w.bad=0):b9 w n=w:=by unfold b9;rw[if_neg h]
def w9{w:FW}(h:¬w.bad=0):∀l:List Int,l.foldl b9 w=w
 | []=>rfl
 | n::l=>by rw[List.foldl_cons,ah9 h];exact w9 h l
def SN{k:Nat}{f:ae}(h:FK (k+1) f)(n:Int):FK k {f with vm:=(lT f.vm n).1}:=by
 have q:=r4 f.vm.mem f.vm.here n
 have p:=tX n h.h0 h.h1
 exact⟨by show(bW f.vm.mem f.vm.here n).1.b.length<=_;rw[q.len];exact h.b,by show(bW f.vm.mem f.vm.here n).1.old.length+k<=_;have:=q.old;have:=h.old;omega,p.1,by show(bW f.vm.mem f.vm.here n).2.1<=((bW f.vm.mem f.vm.here n).1.b.length:Int);rw[q.len];exact p.2,h.dict,h.each,h.hand⟩
def KI{k:Nat}{w:FW}(h:FK (k+1) w.f)(n:Int):FK k (b9 w n).f:=by
 unfold b9;split
 ·exact SN h n
 exact h.down (by omega)
def AC:∀(l:List Int) (k:Nat) (w:FW),FK (k+l.length) w.f->FK k (l.foldl b9 w).f
 | [],_,_,h=>h
 | x::l,k,w,h=>AC l k _ (KI (by rw[List.length_cons]at h;exact h) x)
def Ig{l:List Int}{k:Nat}(hk:k<l.length)(w:FW):(l.take (k+1)).foldl b9 w=b9 ((l.take k).foldl b9 w) (l.getD k 0):=by
 rw[fI l k 0 hk,List.foldl_append];rfl
def yY(w:FW)(l:List Int)(hl:l.length<=1000)(h:FK l.length w.f):∀(H:List Ob) (i:Nat),H[i]?=some (.cells (cFw w) 106)->HC prog 213 (.ptr i 0::[sq au l]) H (.tup []) (H.set i (.cells (cFw (l.foldl b9 w)) 106)):=by
 refine zM func213 fun B=>?_
 refine zu3 ?_
 refine Wl ?_
 show W _ _ _ _ _ _ _
 refine cQ (fun(k:Nat)=>[(0,.ptr 0 0),(8,sq au l),(9,i64 l.length),(10,i64 k)]) (fun(k:Nat)=>[.cells (cFw ((l.take k).foldl b9 w)) 106]) (fun(k:Nat)=>[]) (fun(k:Nat)=>k<=l.length) (fun(k:Nat)=>l.length-k) (0) (by exact Nat.zero_le _) [] ?_ ?_
 ·exact cV
 intro k hk
 refine zu1 ?_
 refine Ws<|Wi rfl (fun hi1=>?_) (fun hi1=>?_)
 ·have hlt:k<l.length:=by have:=oT hi1;omega
  have e:=Ig hlt w
  have kk:FK 1 ((l.take k).foldl b9 w).f:=AC _ _ _ (h.down (by simp;omega))
  have eT:l.foldl b9 w=(l.drop k).foldl b9 ((l.take k).foldl b9 w):=by rw[<-List.foldl_append,List.take_append_drop]
  obtain⟨x,hx⟩:∃x,(l.take k).foldl b9 w=x:=⟨_,rfl⟩
  rw[hx]at e kk eT ⊢
  refine Wj<|Ws<|Wl<|z8 ?_
  refine Wv tG rfl rfl rfl (by omega) (iN au 1 (fun _=>rfl) 0 (by omega)) ?_
  refine zs2 ?_
  refine Ws<|zp5 ?_
  refine zs1 ?_
  refine Wi rfl (fun hi2=>?_) (fun hi2=>?_)
  ·have q:¬x.bad=0:=by simpa using hi2
   refine Wq<|aP rfl rfl ?_ ?_
   ·rfl
   (rw[eT,w9 q];rfl)
  have q:x.bad=0:=by simpa using hi2
  refine Wj<|zp5 ?_
  refine z1 ?_
  refine zc rfl func99 ((vU x.f.vm (l.getD k 0) kk.mem kk.here) _) ?_
  refine zy5 ?_
  refine zs1 ?_
  refine zp5 ?_
  refine zs1 ?_
  refine aa rfl ?_
  refine zy4 ?_
  refine zc rfl func93 (lc ⟨{x.f with vm:=(lT x.f.vm (l.getD k 0)).1},x.bad⟩ (lT x.f.vm (l.getD k 0)).2 _ 0 rfl) ?_
  refine Wn<|aa rfl ?_
  refine z1 ?_
  refine iS (H':=[.cells (cFw ((l.take (k+1)).foldl b9 w)) 106,.cells (cVm (lT x.f.vm (l.getD k 0)).1) 37]) (by rw[e,TY q,Vk (by exact q)];rfl) ?_
  refine zs1 ?_
  exact⟨k+1,[],(by exact hlt),(by omega),cV⟩
 have hge:l.length<=k:=by have:=oF hi1;omega
 refine aU ?_
 refine aS rfl rfl ?_ ?_
 ·rfl
 (rw[List.take_of_length_le hge];rfl)
def dv(w:FW)(n:Int):FW:=okF {w with f:={w.f with vm:={w.f.vm with mem:=(aH w.f.vm.mem 8 n).1}}} (aH w.f.vm.mem 8 n).2
def uK(w:FW)(n:Int)(h:FK 0 w.f):∀(H:List Ob) (i:Nat),H[i]?=some (.cells (cFw w) 106)->HC prog 52 (.ptr i 0::[i64 n]) H (.tup []) (H.set i (.cells (cFw (dv w n)) 106)):=by
 refine zM func52 fun B=>?_
 refine zp5 ?_
 refine zy2 ?_
 refine zc rfl func92 ((jm w.f.vm.mem 8 n h.mem (by unfold ab;omega)) _) ?_
 refine zy5 ?_
 refine zs1 ?_
 refine zp5 ?_
 refine zs2 ?_
 refine aa rfl ?_
 refine zy4 ?_
 refine zc rfl func93 (lc {w with f:={w.f with vm:={w.f.vm with mem:=(aH w.f.vm.mem 8 n).1}}} (aH w.f.vm.mem 8 n).2 _ 0 rfl) ?_
 refine Wn<|aS rfl rfl ?_ ?_
 ·rfl
 rfl
def Kj{k:Nat}{w:FW}(h:FK k w.f)(e:Int):FK k (okF w e).f:=by unfold okF;split<;>exact h
def Hz{k:Nat}{w:FW}(h:FK (k+1) w.f)(n:Int):FK k (dv w n).f:=by
 refine Kj ?_ _
 have q:=cM w.f.vm.mem 8 n
 exact⟨by show(aH w.f.vm.mem 8 n).1.b.length<=_;rw[q.len];exact h.b,by show(aH w.f.vm.mem 8 n).1.old.length+k<=_;have:=q.old;have:=h.old;omega,h.h0,by show w.f.vm.here<=((aH w.f.vm.mem 8 n).1.b.length:Int);rw[q.len];exact h.h1,h.dict,h.each,h.hand⟩
def gd(w:FW)(f:ae):ae×Int:=if w.bad≠0 then(f,w.bad)else(w.f,0)
def gE(r:ae×Int):PV:=gY (bE r.1) (i64 r.2)
def dG(w:FW)(f:ae):∀(H:List Ob) (i:Nat),H[i]?=some (.cells (cFw w) 106)->HC prog 212 (.ptr i 0::[bE f]) H (gY (bE (gd w f).1) (i64 (gd w f).2)) (H.set i (.cells (cFw w) 106)):=by
 refine zM func212 fun B=>?_
 refine zu3 ?_
 refine Ws<|zp5 ?_
 refine zs1 ?_
 refine Wi rfl (fun hi1=>?_) (fun hi1=>?_)
 ·have q:w.bad≠0:=by simpa using hi1
  refine Ws<|am [6,0,0,0,0,4,9,0] [0,1,2,3,4,5,6,7] mG rfl (by kernel_rfl) ?_
  refine zU 1 ?_
  iterate 4 refine z3 ?_
  refine zU 0 ?_
  refine dK 2 tG rfl rfl rfl rfl rfl trivial rfl ?_
  refine z3 ?_
  refine ap ?_
  refine Wq<|aP rfl rfl ?_ ?_
  ·(rw[gd,if_pos q];rfl)
  rfl
 have q:¬w.bad≠0:=by simpa using hi1
 refine Wj<|zp5 ?_
 refine zs1 ?_
 refine Wq<|aP rfl rfl ?_ ?_
 ·(rw[gd,if_neg q];rfl)
 rfl
def j9(f:ae):af prog 51 [bE f] (boo (!decide (f.comp.xt=0))):=by
 refine zY func51 fun B=>?_
 refine zu2 ?_
 refine zu5 ?_
 refine zR ?_
 exact congrArg boo (by simp only[bne];rfl)
def FW.placed(w:FW)(a:bf×Int×Int)(d:List aL):FW:={w with f:={w.f with vm:={w.f.vm with mem:=a.1,here:=a.2.1,dict:=d}}}
def fb(w:FW)(a:bf×Int×Int)(d:List aL×Int):FW:=if (okF (okF w a.2.2) d.2).bad=0 then(okF (okF w a.2.2) d.2).placed a d.1 else okF (okF w a.2.2) d.2
def dP(w:FW)(name:Str)(flags:Int)(l:List Int):FW×Int :=
 (l.foldl b9 (fb w (aM w.f.vm.mem w.f.vm.here) (bU w.f.vm.dict name (aM w.f.vm.mem w.f.vm.here).2.1 flags w.f.vm.conf.words)),(aM w.f.vm.mem w.f.vm.here).2.1)
def OG{l:List aL}{name:Str}{xt flags limit:Int}(h:l.length<=2000)(hd:jT l)(h0:0<=flags)(h7:flags<=7):(bU l name xt flags limit).1.length<=2000/\jT (bU l name xt flags limit).1:=by
 unfold bU
 by_cases q1:cI name≠0
 ·rw[if_pos q1];exact⟨h,hd⟩
 rw[if_neg q1]
 by_cases q2:(if 1024<limit then 1024 else limit)<=(l.length:Int)
 ·rw[if_pos q2];exact⟨h,hd⟩
 rw[if_neg q2]
 have hl:(l.length:Int)<1024:=by split at q2<;>omega
 have hn:name.length<=31:=by
  have:cI name=0:=Decidable.not_not.1 q1
  unfold cI at this
  split at this
  ·cases this
  split at this
  ·cases this
  omega
 refine⟨by show(l++[_]).length<=2000;simp;omega,by show(l++[_]).length<=_;simp;omega,fun x hx=>?_⟩
 rcases List.mem_append.1 hx with hx|hx
 ·exact hd.2 x hx
 rw[List.mem_singleton.1 hx];exact⟨by show name.length<=_;omega,h0,h7⟩
def BX{k:Nat}{w:FW}(h:FK (k+1) w.f)(name:Str){flags:Int}(h0:0<=flags)(h7:flags<=7):FK k (fb w (aM w.f.vm.mem w.f.vm.here) (bU w.f.vm.dict name (aM w.f.vm.mem w.f.vm.here).2.1 flags w.f.vm.conf.words)).f:=by
 unfold fb
 split
 ·have q:dy w.f.vm.mem (aM w.f.vm.mem w.f.vm.here).1 1:=gR _
  have p:1368<=(aM w.f.vm.mem w.f.vm.here).2.1/\(aM w.f.vm.mem w.f.vm.here).2.1<=w.f.vm.mem.b.length:=iu _ h.h0 h.h1
  have d:=OG (name:=name) (xt:=(aM w.f.vm.mem w.f.vm.here).2.1) (limit:=w.f.vm.conf.words) h.dict h.each h0 h7
  have e:(okF (okF w (aM w.f.vm.mem w.f.vm.here).2.2) (bU w.f.vm.dict name (aM w.f.vm.mem w.f.vm.here).2.1 flags w.f.vm.conf.words).2).f=w.f:=by unfold okF;(repeat' split)<;>rfl
  unfold FW.placed
  rw[e]
  exact⟨by show(aM w.f.vm.mem w.f.vm.here).1.b.length<=_;rw[q.len];exact h.b,by show(aM w.f.vm.mem w.f.vm.here).1.old.length+k<=_;have:=q.old;have:=h.old;omega,p.1,by show(aM w.f.vm.mem w.f.vm.here).2.1<=((aM w.f.vm.mem w.f.vm.here).1.b.length:Int);rw[q.len];exact p.2,d.1,d.2,h.hand⟩
 exact Kj (Kj (h.down (by omega)) _) _
def XD{k:Nat}{w:FW}{name:Str}{flags:Int}{l:List Int}(h:FK (k+l.length+1) w.f)(h0:0<=flags)(h7:flags<=7):FK k (dP w name flags l).1.f:=AC l k _ (BX h name h0 h7)
def DA(w:FW)(name:Str)(flags:Int)(l:List Int)(hn:name.length<=1000000)(h0:0<=flags)(h7:flags<=7)(hl:l.length<=1000)(h:FK (l.length+1) w.f):
  ∀(H:List Ob) (i:Nat),H[i]?=some (.cells (cFw w) 106)->HC prog 235 (.ptr i 0::[str name,i64 flags,sq au l]) H (i64 (dP w name flags l).2) (H.set i (.cells (cFw (dP w name flags l).1) 106)):=by
 obtain⟨a,ha⟩:∃a,aM w.f.vm.mem w.f.vm.here=a:=⟨_,rfl⟩
 obtain⟨d,hd⟩:∃d,bU w.f.vm.dict name a.2.1 flags w.f.vm.conf.words=d:=⟨_,rfl⟩
 have p1:=rH w.f.vm.mem w.f.vm.here h.mem h.here
 have p2:=OZ w.f.vm.dict name a.2.1 flags w.f.vm.conf.words (by have:=h.dict;omega) hn h0 h7
 have kP:=BX (k:=l.length) h name h0 h7
 have hW:dP w name flags l=(l.foldl b9 (fb w a d),a.2.1):=by unfold dP;rw[ha,hd]
 rw[ha]at p1 kP
 rw[hd]at p2 kP
 rw[hW]
 have e1:(okF w a.2.2).f=w.f:=by unfold okF;split<;>rfl
 obtain⟨w1,hw1⟩:∃w1,okF w a.2.2=w1:=⟨_,rfl⟩
 have q1:=lc w a.2.2
 rw[hw1]at q1 e1
 rw[<-e1]at p2
 have e2:(okF w1 d.2).f=w1.f:=by unfold okF;split<;>rfl
 obtain⟨w2,hw2⟩:∃w2,okF w1 d.2=w2:=⟨_,rfl⟩
 have q2:=lc w1 d.2
 rw[hw2]at q2 e2
 have eP:fb w a d=if w2.bad=0 then w2.placed a d.1 else w2:=by unfold fb;rw[hw1,hw2]
 refine zM func235 fun B=>?_
 refine zu1 ?_
 refine Ws<|am [0,0,0,0,0,1,0,0,0,0,0,1,0,0,0,0,0,2,3,0,0] [0,1,2,3,4,5,6,7,8,9,10,11,12,13,14,15,16,17,18,19,20] mG rfl (by kernel_rfl) ?_
 iterate 5 refine z3 ?_
 refine z5 ?_
 iterate 5 refine z3 ?_
 refine z5 ?_
 refine Xc rfl rfl rfl rfl (fun _=>dC rfl func220 rfl rfl ((p1) _)) ?_
 iterate 4 refine z3 ?_
 refine mj tG rfl rfl rfl rfl rfl trivial rfl ?_
 refine ct tG rfl rfl rfl rfl rfl trivial ?_
 iterate 2 refine z3 ?_
 refine ap ?_
 refine zp4 ?_
 refine zc rfl func93 (q1 _ 0 rfl) ?_
 refine Wn<|Ws<|am [0,0,0,0,0,1,0,0,0,0,0,0,0,0,0,1,0,0,0,0,0,0] [0,1,2,3,4,5,6,7,8,9,10,11,12,13,14,15,16,17,18,19,20,21] mG rfl (by kernel_rfl) ?_
 iterate 5 refine z3 ?_
 refine z5 ?_
 iterate 9 refine z3 ?_
 refine z5 ?_
 refine Xc rfl rfl rfl rfl (fun _=>dC rfl func270 rfl rfl ((p2) _)) ?_
 iterate 5 refine z3 ?_
 refine ap ?_
 refine Ws<|zp4 ?_
 refine zc rfl func93 (q2 _ 0 rfl) ?_
 refine Wn<|Wi rfl (fun hi1=>?_) (fun hi1=>?_)
 ·have q:w2.bad=0:=oT hi1
  rw[if_pos q]at eP
  refine aa rfl ?_
  refine zy5 ?_
  refine zy5 ?_
  refine zy5 ?_
  refine zy5 ?_
  refine zs1 ?_
  refine zp1 ?_
  (refine iS (H':=[.cells (cFw (fb w a d)) 106,.cells (yC a.1) 28]) (by rw[eP];rfl) ?_)
  refine z1 ?_
  refine zc rfl func213 ((yY (fb w a d) l hl kP) _ _ rfl) ?_
  refine Wn<|zu2 ?_
  refine Wq<|aP rfl rfl ?_ ?_
  ·rfl
  rfl
 have q:¬w2.bad=0:=oF hi1
 rw[if_neg q]at eP
 refine Wj<|zp1 ?_
 (refine iS (H':=[.cells (cFw (fb w a d)) 106,.cells (yC a.1) 28]) (by rw[eP];rfl) ?_)
 refine z1 ?_
 refine zc rfl func213 ((yY (fb w a d) l hl kP) _ _ rfl) ?_
 refine Wn<|zu2 ?_
 refine Wq<|aP rfl rfl ?_ ?_
 ·rfl
 rfl
def aK(f:ae):FW:=⟨f,if f.comp.xt=0 then 0 else -29⟩
def Tf(f:ae):HC prog 217 [bE f] [] (.ptr 1 0) [.cells (gA f) 42,.cells (cFw (aK f)) 106]:=by
 refine lZ tG (rs:=[.tmp 2]) func217 rfl rfl rfl (fun B=>?_)
 refine zu2 ?_
 refine zu4 ?_
 refine Ws<|zp1 ?_
 refine zc rfl func51 ((j9 f) _) ?_
 refine Wn<|Wi rfl (fun hi1=>?_) (fun hi1=>?_)
 ·have q:¬f.comp.xt=0:=by simpa using hi1
  refine aa rfl ?_
  refine zs5 ?_
  refine zu2 ?_
  refine Wq<|zH rfl ?_ ?_
  ·rfl
  (unfold aK;rw[if_neg q];rfl)
 have q:f.comp.xt=0:=by simpa using hi1
 refine Wj<|zu2 ?_
 refine Wq<|zH rfl ?_ ?_
 ·rfl
 (unfold aK;rw[if_pos q];rfl)
def mX(f:ae):SY prog 217 [bE f] (fun i=>.ptr i 0) (cFw (aK f)) 106 :=
 xj 1 (by simp) (by simp) (.inr fun _=>rfl) rfl (Tf f)
def fw(f:ae)(on:Bool)(fuel:Int):FW :=
 if on=false then aK f else if fuel<0\/1048576<fuel then okF (aK f) (-24)else if 64<=f.vm.hand.length then okF (aK f) (-8)else aK f
def uI(f:ae)(w:FW)(name:Str)(on:Bool)(fuel:Int):FW :=
 {dv (dP w name 2 [256]).1 (-1)with f:={(dv (dP w name 2 [256]).1 (-1)).f with comp:=⟨(dP w name 2 [256]).2,[],f.vm.here,f.vm.dict.length,f.vm.last,on,fuel⟩}}
def gX(f:ae)(name:Str)(on:Bool)(fuel:Int):ae×Int :=
 if (fw f on fuel).bad≠0 then(f,(fw f on fuel).bad)else gd (uI f (fw f on fuel) name on (if on=true then fuel else 0)) f
@[simp] theorem Yv (r : ae × Int) : aQ (gE r) := by unfold gE; simp
def zFc:List PV:=[i64 0,i64 0,i64 0,i64 0,i64 0,.seq 0 [] .clip,.seq 0 [] .clip,i64 0,.seq 0 [] .clip,.seq 0 [] .clip,.seq 0 [] .clip,.seq 0 [] .clip,i64 0,.seq 0 [] .clip,.seq 0 [] .clip,boo false,.seq 0 [] .clip,i64 0,i64 0,i64 0,i64 0,i64 0,.seq 0 [] .clip,i64 0,.seq 0 [] .clip,i64 0,i64 0,i64 0,boo false,i64 0]
def yv{f:ae}{on:Bool}{fuel:Int}(h:(fw f on fuel).bad=0):f.comp.xt=0/\fw f on fuel=aK f/\(on=true->¬(fuel<0\/1048576<fuel)/\¬64<=f.vm.hand.length):=by
 unfold fw at h ⊢
 have hx:(aK f).bad=0->f.comp.xt=0:=fun q=>by unfold aK at q;split at q;assumption;cases q
 have hb:∀e:Int,e≠0->(okF (aK f) e).bad≠0:=fun e he q=>by unfold okF at q;split at q;exact he q;rename_i z;exact z q
 by_cases c1:on=false
 ·rw[if_pos c1]at h ⊢;exact⟨hx h,rfl,fun k=>by rw[c1]at k;cases k⟩
 rw[if_neg c1]at h ⊢
 by_cases c2:fuel<0\/1048576<fuel
 ·rw[if_pos c2]at h;exact absurd h (hb _ (by decide))
 rw[if_neg c2]at h ⊢
 by_cases c3:64<=f.vm.hand.length
 ·rw[if_pos c3]at h;exact absurd h (hb _ (by decide))
 rw[if_neg c3]at h ⊢;exact⟨hx h,rfl,fun _=>⟨c2,c3⟩⟩
def Qt(f:ae)(name:Str)(on:Bool)(fuel:Int)(hB:(fw f on fuel).bad≠0):af prog 210 [bE f,str name,boo on,i64 fuel] (gE (f,(fw f on fuel).bad)):=by
 refine zY func210 fun B=>?_
 refine zu3 ?_
 refine zp1 ?_
 refine zc rfl func217 (mX f _) ?_
 refine Wa 13 rfl ((show _=PV.ptr 2 0 from rfl)) ?_
 refine zs1 ?_
 refine Ws<|Wl<|zu3 ?_
 refine Wi rfl (fun hi1=>?_) (fun hi1=>?_)
 ·have eC:fw f on fuel=aK f:=by unfold fw;rw[if_pos (by simpa using hi1)]
  refine aa rfl ?_
  refine zs1 ?_
  refine Ws<|zp5 ?_
  refine zs1 ?_
  refine Wt rfl (by rw[eC]at hB;(simpa using hB)) ?_
  refine zp2 ?_
  refine zc rfl func212 ((dG _ f) _ _ rfl) ?_
  refine zs4 ?_
  refine zR ?_
  rw[eC]at hB ⊢;unfold gd;rw[if_pos hB];rfl
 have q1:¬on=false:=by simpa using hi1
 refine zp3 ?_
 refine Wb 20 rfl (fun hg1=>?_) (fun hg1=>?_)
 ·have q2:fuel<0\/1048576<fuel:=.inl (oT hg1)
  have eC:fw f on fuel=okF (aK f) (-24):=by unfold fw;rw[if_neg q1,if_pos q2]
  iterate 2 refine z6 ?_
  refine zs2 ?_
  refine Wt rfl rfl ?_
  refine aa rfl ?_
  refine zy3 ?_
  refine zc rfl func93 (lc (aK f) (-24) _ 2 rfl) ?_
  refine Wn<|Ws<|zp5 ?_
  refine zs1 ?_
  refine Wt rfl (by rw[eC]at hB;(simpa using hB)) ?_
  refine zp2 ?_
  refine zc rfl func212 ((dG _ f) _ _ rfl) ?_
  refine zs4 ?_
  refine zR ?_
  rw[eC]at hB ⊢;unfold gd;rw[if_pos hB];rfl
 refine zs4 ?_
 refine Wi rfl (fun hi3=>?_) (fun hi3=>?_)
 ·have q2:fuel<0\/1048576<fuel:=by(try simp only[dnL]at *);omega
  have eC:fw f on fuel=okF (aK f) (-24):=by unfold fw;rw[if_neg q1,if_pos q2]
  refine aa rfl ?_
  refine zy3 ?_
  refine zc rfl func93 (lc (aK f) (-24) _ 2 rfl) ?_
  refine Wn<|Ws<|zp5 ?_
  refine zs1 ?_
  refine Wt rfl (by rw[eC]at hB;(simpa using hB)) ?_
  refine zp2 ?_
  refine zc rfl func212 ((dG _ f) _ _ rfl) ?_
  refine zs4 ?_
  refine zR ?_
  rw[eC]at hB ⊢;unfold gd;rw[if_pos hB];rfl
 have q2:¬(fuel<0\/1048576<fuel):=by(try simp only[dnL]at *);omega
 refine zp5 ?_
 refine zs1 ?_
 refine Wi rfl (fun hi4=>?_) (fun hi4=>?_)
 ·have q3:64<=f.vm.hand.length:=by have:=oT hi4;omega
  have eC:fw f on fuel=okF (aK f) (-8):=by unfold fw;rw[if_neg q1,if_neg q2,if_pos q3]
  refine aa rfl ?_
  refine zy3 ?_
  refine zc rfl func93 (lc (aK f) (-8) _ 2 rfl) ?_
  refine Wn<|Ws<|zp5 ?_
  refine zs1 ?_
  refine Wt rfl (by rw[eC]at hB;(simpa using hB)) ?_
  refine zp2 ?_
  refine zc rfl func212 ((dG _ f) _ _ rfl) ?_
  refine zs4 ?_
  refine zR ?_
  rw[eC]at hB ⊢;unfold gd;rw[if_pos hB];rfl
 have q3:¬64<=f.vm.hand.length:=by have:=oF hi4;omega
 have eC:fw f on fuel=aK f:=by unfold fw;rw[if_neg q1,if_neg q2,if_neg q3]
 refine Wj<|Ws<|zp5 ?_
 refine zs1 ?_
 refine Wt rfl (by rw[eC]at hB;(simpa using hB)) ?_
 refine zp2 ?_
 refine zc rfl func212 ((dG _ f) _ _ rfl) ?_
 refine zs4 ?_
 refine zR ?_
 rw[eC]at hB ⊢;unfold gd;rw[if_pos hB];rfl
def M8(f:ae)(name:Str)(on:Bool)(fuel:Int)(hn:name.length<=1000000)(h:FK 3 f)(hB:(fw f on fuel).bad=0):af prog 210 [bE f,str name,boo on,i64 fuel] (gE (gd (uI f (aK f) name on (if on=true then fuel else 0)) f)):=by
 obtain⟨hx,hc,ho⟩:=yv hB
 have kW:FK 3 (aK f).f:=h
 have kS:FK 1 (dP (aK f) name 2 [256]).1.f:=XD (k:=1) kW (by decide) (by decide)
 have hb:(aK f).bad=0:=by unfold aK;rw[if_pos hx]
 refine zY func210 fun B=>?_
 refine zu3 ?_
 refine zp1 ?_
 refine zc rfl func217 (mX f _) ?_
 refine Wa 13 rfl ((show _=PV.ptr 2 0 from rfl)) ?_
 refine zs1 ?_
 refine Ws<|Wl<|zu3 ?_
 refine Wi rfl (fun hi1=>?_) (fun hi1=>?_)
 ·have q1:on=false:=by simpa using hi1
  have eF:(if on=true then fuel else 0)=0:=by rw[q1];rfl
  refine aa rfl ?_
  refine zs1 ?_
  refine Ws<|zp5 ?_
  refine zs1 ?_
  refine Wf rfl (by rw[hb];rfl) ?_
  refine Wj<|zp3 ?_
  refine Wa 51 rfl ((show _=PV.seq (List.length [(256:Int)]) (List.flatMap au [(256:Int)]) .clip from rfl)) ?_
  refine zc rfl func235 ((DA (aK f) name 2 [256] hn (by decide) (by decide) (by decide) (kW.down (by decide))) _ _ rfl) ?_
  refine zs1 ?_
  refine zp1 ?_
  refine zc rfl func52 ((uK _ (-1) (kS.down (by decide))) _ _ rfl) ?_
  refine Wn<|zp5 ?_
  refine zy5 ?_
  refine zy5 ?_
  refine zs4 ?_
  refine zp1 ?_
  refine uo 2 rfl rfl (ys:=cFw (uI f (aK f) name on (if on=true then fuel else 0))) (by unfold uI;rw[eF];rfl) rfl ?_
  refine z1 ?_
  refine zc rfl func212 ((dG (uI f (aK f) name on (if on=true then fuel else 0)) f) _ _ rfl) ?_
  refine zs4 ?_
  refine zR ?_
  rfl
 have q1:on=true:=by simpa using hi1
 have eF:(if on=true then fuel else 0)=fuel:=by rw[if_pos q1]
 have ho1:=ho q1
 refine zp3 ?_
 refine nB 20 rfl (by exact decide_eq_false (fun q=>ho1.1 (.inl q))) ?_
 refine zs4 ?_
 refine Wf rfl (by exact decide_eq_false (fun q=>ho1.1 (.inr q))) ?_
 refine zp5 ?_
 refine zs1 ?_
 refine Wf rfl (by exact decide_eq_false (fun q=>ho1.2 (by omega))) ?_
 refine Wj<|Ws<|zp5 ?_
 refine zs1 ?_
 refine Wf rfl (by rw[hb];rfl) ?_
 refine Wj<|zp3 ?_
 refine Wa 51 rfl ((show _=PV.seq (List.length [(256:Int)]) (List.flatMap au [(256:Int)]) .clip from rfl)) ?_
 refine zc rfl func235 ((DA (aK f) name 2 [256] hn (by decide) (by decide) (by decide) (kW.down (by decide))) _ _ rfl) ?_
 refine zs1 ?_
 refine zp1 ?_
 refine zc rfl func52 ((uK _ (-1) (kS.down (by decide))) _ _ rfl) ?_
 refine Wn<|zp5 ?_
 refine zy5 ?_
 refine zy5 ?_
 refine zs4 ?_
 refine zp1 ?_
 refine uo 2 rfl rfl (ys:=cFw (uI f (aK f) name on (if on=true then fuel else 0))) (by unfold uI;rw[eF];rfl) rfl ?_
 refine z1 ?_
 refine zc rfl func212 ((dG (uI f (aK f) name on (if on=true then fuel else 0)) f) _ _ rfl) ?_
 refine zs4 ?_
 refine zR ?_
 rfl
def IG(f:ae)(name:Str)(on:Bool)(fuel:Int)(hn:name.length<=1000000)(h:FK 3 f):af prog 210 [bE f,str name,boo on,i64 fuel] (gE (gX f name on fuel)):=by
 by_cases hB:(fw f on fuel).bad=0
 ·have:=M8 f name on fuel hn h hB
  unfold gX
  rw[if_neg (fun q=>q hB),(yv hB).2.1];exact this
 have:=Qt f name on fuel hB
 unfold gX
 rw[if_pos hB];exact this
def iL(r:FW×Int)(last:Bool):FW:=if last=true then {r.1 with f:={r.1.f with vm:={r.1.f.vm with last:=r.2}}} else r.1
def bR(f:ae)(name:Str)(last:Bool)(l:List Int):ae×Int:=if f.comp.xt≠0 then(f,-29)else gd (iL (dP (aK f) name 0 l) last) f
def mF(f:ae)(name:Str)(last:Bool)(l:List Int)(hn:name.length<=1000000)(hl:l.length<=1000)(h:FK (l.length+1) f):af prog 195 [bE f,str name,boo last,sq au l] (gE (bR f name last l)):=by
 refine zY func195 fun B=>?_
 refine zu3 ?_
 refine zp1 ?_
 refine zc rfl func217 (mX f _) ?_
 refine Wa 13 rfl ((show _=PV.ptr 2 0 from rfl)) ?_
 refine zs1 ?_
 refine Ws<|zp5 ?_
 refine zs1 ?_
 refine Wi rfl (fun hi1=>?_) (fun hi1=>?_)
 ·have q:¬(aK f).bad=0:=by simpa using hi1
  have qx:f.comp.xt≠0:=fun z=>q (by unfold aK;rw[if_pos z])
  refine zp2 ?_
  refine zc rfl func212 ((dG (aK f) f) _ _ rfl) ?_
  refine zs4 ?_
  refine zR ?_
  (rw[bR,if_pos qx];unfold gd;rw[if_pos q];unfold aK;rw[if_neg qx];rfl)
 have q:(aK f).bad=0:=by simpa using hi1
 have qx:¬f.comp.xt≠0:=fun z=>by unfold aK at q;rw[if_neg z]at q;cases q
 refine Wj<|zp3 ?_
 refine zc rfl func235 ((DA (aK f) name 0 l hn (by decide) (by decide) hl h) _ _ rfl) ?_
 refine zs1 ?_
 refine Ws<|zu1 ?_
 refine Wi rfl (fun hi2=>?_) (fun hi2=>?_)
 ·refine aa rfl ?_
  refine zy5 ?_
  refine zs2 ?_
  refine zp2 ?_
  (refine iS (H':=[.cells (gA f) 42,.cells zFc 42,.cells (cFw (iL (dP (aK f) name 0 l) last)) 106]) (by unfold iL;((rw[if_pos hi2];rfl))) ?_)
  refine zc rfl func212 ((dG (iL (dP (aK f) name 0 l) last) f) _ _ rfl) ?_
  refine zs4 ?_
  refine zR ?_
  (rw[bR,if_neg qx];rfl)
 refine Wj<|zp2 ?_
 (refine iS (H':=[.cells (gA f) 42,.cells zFc 42,.cells (cFw (iL (dP (aK f) name 0 l) last)) 106]) (by unfold iL;((rw[if_neg (by rw[hi2];decide)];rfl))) ?_)
 refine zc rfl func212 ((dG (iL (dP (aK f) name 0 l) last) f) _ _ rfl) ?_
 refine zs4 ?_
 refine zR ?_
 (rw[bR,if_neg qx];rfl)
def Hv(f:ae)(name:Str)(hn:name.length<=1000000)(h:FK 3 f):af prog 159 [bE f,str name] (gE (bR f name true [257,0])):=by
 refine zY func159 fun B=>?_
 refine zu3 ?_
 refine zp3 ?_
 refine Wa 8 rfl ((show _=PV.seq (List.length [(257:Int),0]) (List.flatMap au [(257:Int),0]) .clip from rfl)) ?_
 refine zc rfl func195 ((mF f name true [257,0] hn (by decide) h) _) ?_
 refine zs4 ?_
 refine zR ?_
 rfl
def A7(f:ae)(name:Str)(n:Int)(hn:name.length<=1000000)(h:FK 4 f):af prog 181 [bE f,str name,i64 n] (gE (bR f name false [258,0,n])):=by
 refine zY func181 fun B=>?_
 refine zu3 ?_
 refine zp4 ?_
 refine Wa 11 rfl ((show _=PV.seq (List.length [(258:Int),0,n]) (List.flatMap au [(258:Int),0,n]) .clip from rfl)) ?_
 refine zc rfl func195 ((mF f name false [258,0,n] hn (by simp) h) _) ?_
 refine zs4 ?_
 refine zR ?_
 rfl
def ax8(w:FW)(c:ti):FW:={w with f:={vm:={w.f.vm with dict:=(fZ w.f.vm.dict c.dict).1,here:=c.here,last:=c.last},comp:=im}}
def iB(f:ae):ae:=if f.comp.xt=0 then f else(ax8 (dv ⟨f,0⟩ 0) f.comp).f
def ME(f:ae)(h:FK 1 f):af prog 26 [bE f] (bE (iB f)):=by
 have kS:FK 0 (dv ⟨f,0⟩ 0).f:=Hz (w:=⟨f,0⟩) h 0
 refine zY func26 fun B=>?_
 refine zu2 ?_
 refine Ws<|zp1 ?_
 refine zc rfl func51 ((j9 f) _) ?_
 refine zs1 ?_
 refine Wi rfl (fun hi1=>?_) (fun hi1=>?_)
 ·have q:f.comp.xt=0:=by simpa using hi1
  refine zu2 ?_
  refine zR ?_
  (rw[iB,if_pos q];rfl)
 have q:¬f.comp.xt=0:=by simpa using hi1
 refine Wj<|zu4 ?_
 refine zp1 ?_
 refine zc rfl func52 ((uK ⟨f,0⟩ 0 (h.down (by decide))) _ _ rfl) ?_
 refine Wn<|Ws<|am [0,0,0,0,0,0,8,0,0,4,0,0,0,0,0,0,0,0,9] [0,1,2,3,4,5,6,7,8,9,10,11,12,13,14,15,16,17,18] mG rfl (by kernel_rfl) ?_
 iterate 6 refine z3 ?_
 refine zU 2 ?_
 iterate 2 refine z3 ?_
 refine zU 0 ?_
 refine Xc rfl rfl rfl rfl (fun _=>dC rfl func53 rfl rfl ((Hw (dv ⟨f,0⟩ 0).f.vm.dict f.comp.dict (by have:=kS.dict;omega)) _)) ?_
 iterate 7 refine z3 ?_
 refine dK 2 tG rfl rfl rfl rfl rfl trivial rfl ?_
 refine ap ?_
 refine Ws<|am [0,0,0,0,4,0,0,4,0,0,0,0,9,0,0,0,0,9] [0,1,2,3,4,5,6,7,8,9,10,11,12,13,14,15,16,17] mG rfl (by kernel_rfl) ?_
 iterate 4 refine z3 ?_
 refine zU 0 ?_
 iterate 2 refine z3 ?_
 refine zU 0 ?_
 iterate 4 refine z3 ?_
 refine dK 2 tG rfl rfl rfl rfl rfl trivial rfl ?_
 iterate 4 refine z3 ?_
 refine dK 2 tG rfl rfl rfl rfl rfl trivial rfl ?_
 refine ap ?_
 refine zp5 ?_
 refine zs1 ?_
 refine zu5 ?_
 refine zR ?_
 (rw[iB,if_neg q];rfl)
def gQ(n:Int):Int:=if n/2%2=1 then n-2 else n
def VN{f:Int}(h0:0<=f)(h7:f<=7):IntKind.i64.wrap ↑(BitVec.ofInt IntKind.i64.bits f &&& ~~~BitVec.ofInt IntKind.i64.bits 2).toNat=gQ f:=by
 rcases qn h0 h7 with rfl|rfl|rfl|rfl|rfl|rfl|rfl|rfl<;>decide
def LN{f:Int}(h0:0<=f)(h7:f<=7):0<=gQ f/\gQ f<=7:=by
 rcases qn h0 h7 with rfl|rfl|rfl|rfl|rfl|rfl|rfl|rfl<;>decide
def mv(w:FW)(d:List aL×Int):FW:={okF w d.2 with f:={(okF w d.2).f with vm:={(okF w d.2).f.vm with dict:=d.1}}}
def sk(w:FW)(c:ti):List aL×Int:=cz w.f.vm.dict c.dict (gQ (w.f.vm.dict.getD c.dict.toNat default).flags)
def iK(w:FW)(c:ti):FW:=if c.on=true then {w with f:={w.f with vm:={w.f.vm with hand:=w.f.vm.hand++[⟨c.xt,c.fuel,0,false⟩]}}} else w
def xE(f:ae):FW:=iK (dv (mv (b9 ⟨f,0⟩ 32) (sk (b9 ⟨f,0⟩ 32) f.comp)) 0) f.comp
def lM(f:ae):Int:=if f.comp.xt=0 then -14 else if 0<f.comp.cf.length then -22 else if f.comp.on=true/\64<=f.vm.hand.length then -8 else 0
def kj(f:ae):ae×Int:=if lM f≠0 then(f,lM f)else gd {xE f with f:={(xE f).f with comp:=im}} f
def Vu{l:List aL}(hl:l.length<=2000)(h:jT l){a n:Int}(h0:0<=n)(h7:n<=7):(cz l a n).1.length<=2000/\jT (cz l a n).1:=by
 unfold cz
 split
 ·exact⟨hl,h⟩
 rename_i q
 have hlt:a.toNat<l.length:=by omega
 refine⟨by show(l.set _ _).length<=_;rw[List.length_set];exact hl,by show(l.set _ _).length<=_;rw[List.length_set];exact h.1,fun x hx=>?_⟩
 rcases List.mem_or_eq_of_mem_set hx with hx|hx
 ·exact h.2 x hx
 subst hx;exact⟨(h.get hlt).1,h0,h7⟩
def W6{k:Nat}{w:FW}(h:FK k w.f){d:List aL×Int}(hd:d.1.length<=2000/\jT d.1):FK k (mv w d).f:=by
 have q:=Kj h d.2
 exact⟨q.b,q.old,q.h0,q.h1,hd.1,hd.2,q.hand⟩
def ab6(f:ae)(hE:lM f≠0):af prog 178 [bE f] (gE (f,lM f)):=by
 refine zY func178 fun B=>?_
 refine zu3 ?_
 refine zu4 ?_
 refine zu4 ?_
 refine Ws<|Wl<|zp1 ?_
 refine zc rfl func51 ((j9 f) _) ?_
 refine zs2 ?_
 refine Wi rfl (fun hi1=>?_) (fun hi1=>?_)
 ·have q:f.comp.xt=0:=by simpa using hi1
  have eE:lM f = -14:=by unfold lM;rw[if_pos q]
  refine aa rfl ?_
  refine zy3 ?_
  refine zc rfl func93 (lc ⟨f,0⟩ (-14) _ 2 rfl) ?_
  refine Wn<|Ws<|zp5 ?_
  refine zs1 ?_
  refine Wt rfl (by rfl) ?_
  refine zp2 ?_
  refine zc rfl func212 ((dG _ f) _ _ rfl) ?_
  refine zs4 ?_
  refine zR ?_
  rw[eE];rfl
 have q:¬f.comp.xt=0:=by simpa using hi1
 refine zu5 ?_
 refine Wi rfl (fun hi3=>?_) (fun hi3=>?_)
 ·have q3:0<f.comp.cf.length:=by have:=oT hi3;omega
  have eE:lM f = -22:=by unfold lM;rw[if_neg q,if_pos q3]
  refine aa rfl ?_
  refine zy3 ?_
  refine zc rfl func93 (lc ⟨f,0⟩ (-22) _ 2 rfl) ?_
  refine Wn<|Ws<|zp5 ?_
  refine zs1 ?_
  refine Wt rfl (by rfl) ?_
  refine zp2 ?_
  refine zc rfl func212 ((dG _ f) _ _ rfl) ?_
  refine zs4 ?_
  refine zR ?_
  rw[eE];rfl
 have q3:¬0<f.comp.cf.length:=by have:=oF hi3;omega
 refine zp3 ?_
 refine Wb 33 rfl (fun hg1=>?_) (fun hg1=>?_)
 ·refine zy5 ?_
  refine zs2 ?_
  refine Wi rfl (fun hi4=>?_) (fun hi4=>?_)
  ·have q4:f.comp.on=true/\64<=f.vm.hand.length:=⟨hg1,by have:=oT hi4;omega⟩
   have eE:lM f = -8:=by unfold lM;rw[if_neg q,if_neg q3,if_pos q4]
   refine aa rfl ?_
   refine zy3 ?_
   refine zc rfl func93 (lc ⟨f,0⟩ (-8) _ 2 rfl) ?_
   refine Wn<|Ws<|zp5 ?_
   refine zs1 ?_
   refine Wt rfl (by rfl) ?_
   refine zp2 ?_
   refine zc rfl func212 ((dG _ f) _ _ rfl) ?_
   refine zs4 ?_
   refine zR ?_
   rw[eE];rfl
  exact absurd (by unfold lM;rw[if_neg q,if_neg q3,if_neg (fun z=>by have:=oF hi4;have:=z.2;omega)]) hE
 exact absurd (by unfold lM;rw[if_neg q,if_neg q3,if_neg (fun z=>by rw[hg1]at z;cases z.1)]) hE
def UK(f:ae)(h:FK 2 f)(hd:0<=f.comp.dict)(hd1:f.comp.dict<f.vm.dict.length)(hE:lM f=0):af prog 178 [bE f] (gE (gd {xE f with f:={(xE f).f with comp:=im}} f)):=by
 have hx:¬f.comp.xt=0:=fun q=>by unfold lM at hE;rw[if_pos q]at hE;cases hE
 have hc:¬0<f.comp.cf.length:=fun q=>by unfold lM at hE;rw[if_neg hx,if_pos q]at hE;cases hE
 have ho:¬(f.comp.on=true/\64<=f.vm.hand.length):=fun q=>by unfold lM at hE;rw[if_neg hx,if_neg hc,if_pos q]at hE;cases hE
 have pC:=yY ⟨f,0⟩ [32] (by decide) (h.down (by decide))
 have k1:FK 1 (b9 ⟨f,0⟩ 32).f:=KI (w:=⟨f,0⟩) h 32
 have e1:(b9 ⟨f,0⟩ 32).f.vm.dict=f.vm.dict:=rfl
 unfold xE
 change af prog 178 [bE f] _ at *
 rw[show([32]:List Int).foldl b9 ⟨f,0⟩=b9 ⟨f,0⟩ 32 from rfl]at pC
 obtain⟨w1,hw1⟩:∃w1,b9 ⟨f,0⟩ 32=w1:=⟨_,rfl⟩
 rw[hw1]at pC k1 e1 ⊢
 have hk1:f.comp.dict.toNat<w1.f.vm.dict.length:=by rw[e1];omega
 have fl:=k1.each.get hk1
 have u7:=LN fl.2.1 fl.2.2
 have eN:=VN fl.2.1 fl.2.2
 have pF:=CS w1.f.vm.dict f.comp.dict (gQ (w1.f.vm.dict.getD f.comp.dict.toNat default).flags) (by have:=k1.dict;omega) u7.1 u7.2
 have kF:=W6 k1 (Vu k1.dict k1.each (a:=f.comp.dict) u7.1 u7.2)
 unfold sk
 obtain⟨d,hd'⟩:∃d,cz w1.f.vm.dict f.comp.dict (gQ (w1.f.vm.dict.getD f.comp.dict.toNat default).flags)=d:=⟨_,rfl⟩
 rw[hd']at pF kF ⊢
 have pS:=uK (mv w1 d) 0 (kF.down (by decide))
 have kS:=Hz kF 0
 obtain⟨w3,hw3⟩:∃w3,dv (mv w1 d) 0=w3:=⟨_,rfl⟩
 rw[hw3]at pS kS ⊢
 have lh:=kS.hand
 refine zY func178 fun B=>?_
 refine zu3 ?_
 refine zu4 ?_
 refine zu4 ?_
 refine Ws<|Wl<|zp1 ?_
 refine zc rfl func51 ((j9 f) _) ?_
 refine zs2 ?_
 refine Wf rfl (by exact by simpa using hx) ?_
 refine zu5 ?_
 refine Wf rfl (by exact decide_eq_false (by omega)) ?_
 refine zp3 ?_
 refine Wb 33 rfl (fun hg1=>?_) (fun hg1=>?_)
 ·refine zy5 ?_
  refine zs2 ?_
  refine Wf rfl (by exact decide_eq_false (fun z=>ho ⟨hg1,by omega⟩)) ?_
  refine Wj<|Ws<|zp5 ?_
  refine zs1 ?_
  refine Wf rfl (by rfl) ?_
  refine Wj<|zp2 ?_
  refine Wa 56 rfl ((show _=PV.seq (List.length [(32:Int)]) (List.flatMap au [(32:Int)]) .clip from rfl)) ?_
  refine zc rfl func213 ((pC) _ _ rfl) ?_
  refine Wn<|Ws<|am [0,0,0,0,0,1,0,1,0,0,0,0,0,1,0,1,0,0,1,0,0,0,0,0,0,0] [0,1,2,3,4,5,6,7,8,9,10,11,12,13,14,15,16,17,18,19,20,21,22,23,24,25] mG rfl (by kernel_rfl) ?_
  iterate 5 refine z3 ?_
  refine z5 ?_
  refine z3 ?_
  refine z5 ?_
  iterate 5 refine z3 ?_
  refine z5 ?_
  refine z3 ?_
  refine z5 ?_
  refine Xi tG rfl rfl rfl rfl (fun _=>rfl) (by omega) (iR bP 3 (fun _=>rfl) default (by omega)) ?_
  refine z3 ?_
  refine z5 ?_
  refine z3 ?_
  refine Xa 78 rfl (zI9 eN) ?_
  refine Xc rfl rfl rfl rfl (fun _=>dC rfl func214 rfl rfl ((pF) _)) ?_
  iterate 5 refine z3 ?_
  refine ap ?_
  refine zp4 ?_
  refine zc rfl func93 (lc w1 d.2 _ 2 rfl) ?_
  refine Wn<|zp5 ?_
  refine zs2 ?_
  refine zp1 ?_
  refine zc rfl func52 ((pS) _ _ rfl) ?_
  refine Wn<|Ws<|zu2 ?_
  refine Wi rfl (fun hi5=>?_) (fun hi5=>?_)
  ·refine am [0,0,0,0,0,0,8,0,0,10,0,10,0,0,0,0,0,0,0,9] [0,1,2,3,4,5,6,7,8,9,10,11,12,13,14,15,16,17,18,19] mG rfl (by kernel_rfl) ?_
   iterate 6 refine z3 ?_
   refine zU 2 ?_
   refine Xc rfl rfl rfl rfl (fun _=>dC rfl func215 rfl rfl ((Aw w3.f.vm.hand (by have:=kS.hand;omega)) _)) ?_
   refine z3 ?_
   refine zU 3 ?_
   refine z3 ?_
   refine zU 3 ?_
   iterate 2 refine z3 ?_
   refine Xa 110 rfl ((show _=PV.seq (List.length [(⟨f.comp.xt,f.comp.fuel,0,false⟩:rF)]) (List.flatMap sd [(⟨f.comp.xt,f.comp.fuel,0,false⟩:rF)]) .clip from rfl)) ?_
   refine fN rfl rfl rfl rfl (fun _=>cg (lO tG rfl) rfl (lO tG rfl) (lO tG rfl) rfl rfl (by exact⟨_,rfl⟩) (by exact⟨rfl,rfl,al _ 4 (fun _=>rfl) _,bi _ (fun _=>rfl) _⟩) (by exact al _ 4 (fun _=>rfl) _) (by((simp_all;omega))) (by((simp_all;omega))) (by exact fp (bo (fun x=>by simp) _) (bo (fun x=>by simp) _))) ?_
   refine Xa 111 rfl (bT sd) ?_
   iterate 4 refine z3 ?_
   refine dK 2 tG rfl rfl rfl rfl rfl trivial rfl ?_
   refine ap ?_
   refine zp5 ?_
   refine zs1 ?_
   refine zp2 ?_
   refine uo 2 rfl rfl (ys:=cFw {iK w3 f.comp with f:={(iK w3 f.comp).f with comp:=im}}) (by unfold iK;((rw[if_pos hi5];rfl))) rfl ?_
   refine zc rfl func212 ((dG {iK w3 f.comp with f:={(iK w3 f.comp).f with comp:=im}} f) _ _ rfl) ?_
   refine zs4 ?_
   refine zR ?_
   rfl
  refine Wj<|zp5 ?_
  refine zs1 ?_
  refine zp2 ?_
  refine uo 2 rfl rfl (ys:=cFw {iK w3 f.comp with f:={(iK w3 f.comp).f with comp:=im}}) (by unfold iK;((rw[if_neg (by rw[hi5];decide)];rfl))) rfl ?_
  refine zc rfl func212 ((dG {iK w3 f.comp with f:={(iK w3 f.comp).f with comp:=im}} f) _ _ rfl) ?_
  refine zs4 ?_
  refine zR ?_
  rfl
 have qo:True:=trivial
 iterate 5 refine z6 ?_
 refine zs2 ?_
 refine Wf rfl rfl ?_
 refine Wj<|Ws<|zp5 ?_
 refine zs1 ?_
 refine Wf rfl (by rfl) ?_
 refine Wj<|zp2 ?_
 refine Wa 56 rfl ((show _=PV.seq (List.length [(32:Int)]) (List.flatMap au [(32:Int)]) .clip from rfl)) ?_
 refine zc rfl func213 ((pC) _ _ rfl) ?_
 refine Wn<|Ws<|am [0,0,0,0,0,1,0,1,0,0,0,0,0,1,0,1,0,0,1,0,0,0,0,0,0,0] [0,1,2,3,4,5,6,7,8,9,10,11,12,13,14,15,16,17,18,19,20,21,22,23,24,25] mG rfl (by kernel_rfl) ?_
 iterate 5 refine z3 ?_
 refine z5 ?_
 refine z3 ?_
 refine z5 ?_
 iterate 5 refine z3 ?_
 refine z5 ?_
 refine z3 ?_
 refine z5 ?_
 refine Xi tG rfl rfl rfl rfl (fun _=>rfl) (by omega) (iR bP 3 (fun _=>rfl) default (by omega)) ?_
 refine z3 ?_
 refine z5 ?_
 refine z3 ?_
 refine Xa 78 rfl (zI9 eN) ?_
 refine Xc rfl rfl rfl rfl (fun _=>dC rfl func214 rfl rfl ((pF) _)) ?_
 iterate 5 refine z3 ?_
 refine ap ?_
 refine zp4 ?_
 refine zc rfl func93 (lc w1 d.2 _ 2 rfl) ?_
 refine Wn<|zp5 ?_
 refine zs2 ?_
 refine zp1 ?_
 refine zc rfl func52 ((pS) _ _ rfl) ?_
 refine Wn<|Ws<|zu2 ?_
 refine Wi rfl (fun hi5=>?_) (fun hi5=>?_)
 ·refine am [0,0,0,0,0,0,8,0,0,10,0,10,0,0,0,0,0,0,0,9] [0,1,2,3,4,5,6,7,8,9,10,11,12,13,14,15,16,17,18,19] mG rfl (by kernel_rfl) ?_
  iterate 6 refine z3 ?_
  refine zU 2 ?_
  refine Xc rfl rfl rfl rfl (fun _=>dC rfl func215 rfl rfl ((Aw w3.f.vm.hand (by have:=kS.hand;omega)) _)) ?_
  refine z3 ?_
  refine zU 3 ?_
  refine z3 ?_
  refine zU 3 ?_
  iterate 2 refine z3 ?_
  refine Xa 110 rfl ((show _=PV.seq (List.length [(⟨f.comp.xt,f.comp.fuel,0,false⟩:rF)]) (List.flatMap sd [(⟨f.comp.xt,f.comp.fuel,0,false⟩:rF)]) .clip from rfl)) ?_
  refine fN rfl rfl rfl rfl (fun _=>cg (lO tG rfl) rfl (lO tG rfl) (lO tG rfl) rfl rfl (by exact⟨_,rfl⟩) (by exact⟨rfl,rfl,al _ 4 (fun _=>rfl) _,bi _ (fun _=>rfl) _⟩) (by exact al _ 4 (fun _=>rfl) _) (by((simp_all;done))) (by((simp_all;done))) (by exact fp (bo (fun x=>by simp) _) (bo (fun x=>by simp) _))) ?_
  refine Xa 111 rfl (bT sd) ?_
  iterate 4 refine z3 ?_
  refine dK 2 tG rfl rfl rfl rfl rfl trivial rfl ?_
  refine ap ?_
  refine zp5 ?_
  refine zs1 ?_
  refine zp2 ?_
  refine uo 2 rfl rfl (ys:=cFw {iK w3 f.comp with f:={(iK w3 f.comp).f with comp:=im}}) (by unfold iK;((rw[if_pos hi5];rfl))) rfl ?_
  refine zc rfl func212 ((dG {iK w3 f.comp with f:={(iK w3 f.comp).f with comp:=im}} f) _ _ rfl) ?_
  refine zs4 ?_
  refine zR ?_
  rfl
 refine Wj<|zp5 ?_
 refine zs1 ?_
 refine zp2 ?_
 refine uo 2 rfl rfl (ys:=cFw {iK w3 f.comp with f:={(iK w3 f.comp).f with comp:=im}}) (by unfold iK;((rw[if_neg (by rw[hi5];decide)];rfl))) rfl ?_
 refine zc rfl func212 ((dG {iK w3 f.comp with f:={(iK w3 f.comp).f with comp:=im}} f) _ _ rfl) ?_
 refine zs4 ?_
 refine zR ?_
 rfl
structure Yr (f:ae):Prop where
 k:FK 2 f
 d:lM f=0->0<=f.comp.dict/\f.comp.dict<f.vm.dict.length
def RU(f:ae)(h:Yr f):af prog 178 [bE f] (gE (kj f)):=by
 unfold kj
 by_cases hE:lM f=0
 ·rw[if_neg (fun q=>q hE)];exact UK f h.k (h.d hE).1 (h.d hE).2 hE
 rw[if_pos hE];exact ab6 f hE
open Go.Lib
section
variable {P : Program} {B : Nat -> Nat -> Prop} {o : Oper} {T : Nat -> PV} {H : List Ob}
def Ft{z:Array Value}{v:Value}(h:z.toList=[v])(m:Nat):(Builtin.zeroCells z m).toList=List.replicate m v:=by
 have hz:z=#[v]:=by rw[<-Array.toList_inj];exact h
 subst hz
 unfold Builtin.zeroCells
 rw[Array.toList_map,Array.toList_range]
 apply List.ext_getElem
 ·simp
 intro i h1 h2
 simp[Nat.mod_one]
def ol{t tn e:TypeId}{d de:TD}{kn kq:IntKind}{x y:Operand}{n m:Nat}{xs:List PV}{p:PV}(f:ao P t d)(hd:d.sh=.slice e)(fe:ao P e de)(hn:P.underlying tn=some (.int kn))
  (ho:o.op=.call {callee:=.builtin .append,args:=#[x,y],argTypes:=#[t,tn]}) (hx:opv T x=.seq n xs .clip) (hy:opv T y=.val (.int kq m)) (h0:0<m) (h1:de.size=1) (hp:de.zero=[p]) (hl:xs.length=n)
  (hb:(n+m)*de.bytes<=140737488355328) (h63:n+m<=9223372036854775807) :
  bL P B o T H (.seq (n+m) (xs++List.replicate m p) (.own H.length 1)) (H++[.free ((n+m)*1)]):=by
 intro σ w a s h
 have k1:=h x (by simp[ho,Op.operands,Call.operands])
 have k2:=h y (by simp[ho,Op.operands,Call.operands])
 rw[hx]at k1
 rw[hy]at k2
 unfold Rep at k2
 obtain⟨ad,cap,vs,hv,hle,hnil,hrl,hlies,hk⟩:=gc k1
 have hcap:cap=n:=hk
 subst hcap
 obtain⟨i,z,hi,hsz,hby,hz,hzr⟩:=fe.info
 have h1':i.size=1:=hsz.trans h1
 have hvl:vs.length=cap*i.size:=by rw[ay.length hrl,hl,h1',Nat.mul_one]
 have z1:=hzr (cx B H σ w)
 rw[hp]at z1
 obtain⟨v,hzv⟩:∃v,z.cells.toList=[v]:=by
  have:=ay.length z1
  match hq:z.cells.toList,this with
  | [v],_=>exact⟨v,rfl⟩
  | [],q=>simp at q
  | _::_::_,q=>simp at q
 have hold:(Builtin.firstCells i.size cap (.slice ad cap cap)).run P w.drew=.ok vs.toArray w.drew:=by
  cases ad with
  | none =>
   have q:=hnil rfl
   obtain⟨q1,_,q3⟩:=q
   subst q3
   have q0:cap=0:=q1
   subst q0
   exact run_firstCells_none w.drew i.size 0 0 0
  | some b =>
   refine run_firstCells_some w.drew i.size cap b cap cap vs hvl fun j u hj=>?_
   have hl2:=(hlies b rfl).resolve_right (by rintro⟨_,h3⟩;rw[h3]at hj;simp at hj)
   rw[gC hl2,Addr.add_lit];exact(hl2.2 j u hj).1
 have hr:=run_append_grow_zeros (P:=P) w t tn o.type e i z kq kn (f.slice hd) hn hi hz ad cap cap vs hold m h0 (by omega) (by omega) (by omega) (by rw[hby];exact Nat.le_trans (Nat.mul_le_mul_right _ (by omega)) (Nat.le_trans hb (by decide))) (growslice_fits (by omega) (by rw[hby];exact hb))
 have hge:=grownCap_ge w (cap+m) cap e
 have hzs:z.cells.size=1:=by rw[<-Array.length_toList,hzv];rfl
 have hsize:(vs.toArray++Builtin.zeroCells z.cells m++Builtin.zeroCells z.cells (grownCap w (cap+m) cap e-(cap+m))).size=grownCap w (cap+m) cap e:=by
  rw[Array.size_append,Array.size_append,size_zeroCells,size_zeroCells,hzs,List.size_toArray,hvl,h1']
  omega
 have gr:be w (w.drew.alloc (.cells (vs.toArray++Builtin.zeroCells z.cells m++Builtin.zeroCells z.cells (grownCap w (cap+m) cap e-(cap+m))) e)):=(be.drew w).trans (be.alloc _ _)
 have hheap:(w.drew.alloc (.cells (vs.toArray++Builtin.zeroCells z.cells m++Builtin.zeroCells z.cells (grownCap w (cap+m) cap e-(cap+m))) e)).heap[w.heap.size]?=some (Obj.cells (vs.toArray++Builtin.zeroCells z.cells m++Builtin.zeroCells z.cells (grownCap w (cap+m) cap e-(cap+m))) e (0,0)):=by
  show(w.heap.push _)[w.heap.size]?=_;simp
 obtain⟨s',st⟩:=eR s gr (.free ((cap+m)*1)) (some w.heap.size) (fun b hb=>by cases hb;exact Nat.le_refl _) (fun b hb=>by
  simp only[cx]at hb;rw[bw]at hb;cases hb
  exact⟨_,e,hheap,by rw[hsize];omega⟩)
 have hnr:ay (cx B H σ w) (List.replicate m p) (List.replicate m v):=by
  rw[hzv]at z1
  have zp:=(ai.1 z1).1
  clear hr gr hheap s' st hsize hge hb h63 h0 hy k2
  induction m with
  | zero=>exact aF.2 rfl
  | succ m ih=>rw[List.replicate_succ,List.replicate_succ];exact ai.2 ⟨zp,ih⟩
 refine⟨_,_,_,.inl (m9 ho hv (by rw[k2];exact hr)),?_,s',st⟩
 refine rv (vs:=vs++List.replicate m v) (ay.append (ay.mono st.le hrl) (ay.mono st.le hnr)) (by simp) (bw _ _ _) hheap ?_ hge (by rw[hsize];omega) (fun j hj=>?_) (fun off hoff=>?_)
 ·rw[List.length_append,hl,List.length_replicate,Nat.mul_one]
 ·have e1:vs.toArray++Builtin.zeroCells z.cells m=(vs++List.replicate m v).toArray:=by
   rw[<-Array.toList_inj,Array.toList_append,Ft hzv]
  rw[e1,Array.getElem?_append_left (by simpa using hj)]
  exact List.getElem?_toArray ..
 have hoff':off<(cap+m)*1:=by rw[List.length_append,hvl,h1',List.length_replicate]at hoff;omega
 rintro(h|⟨j,oj,h1,h2,h3⟩)
 ·exact absurd (s.base _ _ h) (by simp)
 rcases eX h1 with ⟨h4,h5⟩|⟨rfl,rfl⟩
 ·rw[bZ h4]at h2
  have hlv:oj.live=true:=by cases oj<;>first|rfl|cases h3
  have:=(s.holds j oj h5).lt hlv h2
  simp[cx]at this
 simp only[Ob.wr]at h3;omega
end
open Go.RowKit
def Bb(f:ae)(name:Str)(hn:name.length<=1000000)(h:FK 4 f):af prog 179 [bE f,str name] (gE (bR f name true [257,0,0])):=by
 refine zY func179 fun B=>?_
 refine zu3 ?_
 refine zp3 ?_
 refine Wa 8 rfl (bsL au [_,_,_] rfl rfl) ?_
 refine zc rfl func195 ((mF f name true [257,0,0] hn (by decide) h) _) ?_
 refine zs4 ?_
 refine zR ?_
 rfl
def mq(f:ae)(n:Int):List Int:=[260,0,0,n]++(if f.comp.xt=0 then List.replicate n.toNat 0 else [])
def u5(f:ae)(name:Str)(n:Int):ae×Int:=if f.comp.xt=0/\(n<1\/256<n)then(f,-24)else bR f name false (mq f n)
def He{f:ae}{n:Int}(hx:f.comp.xt=0)(s:SK):PV.seq (List.length [(260:Int),0,0,n]+n.toNat) (List.flatMap au [(260:Int),0,0,n]++List.replicate n.toNat (i64 0)) s=.seq (mq f n).length ((mq f n).flatMap au) s:=by
 unfold mq
 rw[if_pos hx,List.length_append,List.length_replicate,List.flatMap_append]
 congr 2
 induction n.toNat with
 | zero=>rfl
 | succ k ih=>rw[List.replicate_succ,List.replicate_succ,List.flatMap_cons,<-ih];rfl
def Ch{f:ae}{n:Int}(hx:¬f.comp.xt=0):mq f n=[260,0,0,n]:=by unfold mq;rw[if_neg hx];rfl
def RY{f:ae}{n:Int}(h:¬(f.comp.xt=0/\(n<1\/256<n))):(mq f n).length<=260:=by
 unfold mq
 rw[List.length_append]
 split
 ·rename_i q
  have:¬(n<1\/256<n):=fun z=>h ⟨q,z⟩
  rw[List.length_replicate];show 4+n.toNat<=260;omega
 show 4+0<=260;omega
def EH(f:ae)(name:Str)(n:Int)(hn:name.length<=1000000)(h:FK 270 f):af prog 182 [bE f,str name,i64 n] (gE (u5 f name n)):=by
 by_cases hB:f.comp.xt=0/\(n<1\/256<n)
 ·have e:u5 f name n=(f,-24):=by unfold u5;rw[if_pos hB]
  rw[e]
  obtain⟨hB1,hB2⟩:=hB
  refine zY func182 fun B=>?_
  refine zu3 ?_
  refine Ws<|zp1 ?_
  refine zc rfl func51 ((j9 f) _) ?_
  refine zy2 ?_
  refine dF 12 rfl (by rw[hB1];rfl) ?_
  refine zy3 ?_
  refine Wb 15 rfl (fun hg2=>?_) (fun hg2=>?_)
  ·refine z6 ?_
   refine z6 ?_
   refine zs2 ?_
   refine Wt rfl rfl ?_
   refine zu3 ?_
   refine zR ?_
   rfl
  refine zs4 ?_
  refine Wi rfl (fun hi1=>?_) (fun hi1=>?_)
  ·have q:=hi1
   refine zu3 ?_
   refine zR ?_
   rfl
  exact absurd hB2 (fun z=>z.elim (fun z=>by have:=oF hg2;omega) (fun z=>by have:=oF hi1;omega))
 have e:u5 f name n=bR f name false (mq f n):=by unfold u5;rw[if_neg hB]
 rw[e]
 have hl:=RY hB
 have pC:=mF f name false (mq f n) hn (by omega) (h.down (by omega))
 refine zY func182 fun B=>?_
 refine zu3 ?_
 refine Ws<|zp1 ?_
 refine zc rfl func51 ((j9 f) _) ?_
 refine zy2 ?_
 refine Wb 12 rfl (fun hg1=>?_) (fun hg1=>?_)
 ·have qx:f.comp.xt=0:=by simpa using hg1
  refine zy3 ?_
  refine nB 15 rfl (by exact decide_eq_false (fun z=>hB ⟨qx,.inl z⟩)) ?_
  refine zs4 ?_
  refine Wf rfl (by exact decide_eq_false (fun z=>hB ⟨qx,.inr z⟩)) ?_
  refine Wj<|zp2 ?_
  refine Wa 22 rfl (bsL au [_,_,_,_] rfl rfl) ?_
  refine zs1 ?_
  refine Ws<|zp1 ?_
  refine zc rfl func51 ((j9 f) _) ?_
  refine zs1 ?_
  refine Wi rfl (fun hi2=>?_) (fun hi2=>?_)
  ·have q2:f.comp.xt=0:=by simpa using hi2
   have hr:=He (n:=n) q2
   have h1:1<=n/\n<=256:=⟨by have:=fun z=>hB ⟨q2,.inl z⟩;omega,by have:=fun z=>hB ⟨q2,.inr z⟩;omega⟩
   refine aa rfl ?_
   refine zy2 ?_
   refine Wa 27 rfl ((show i64 n=PV.val (.int .i64 (n.toNat:Int)) from by rw[Int.toNat_of_nonneg (by omega)];rfl)) ?_
   refine Wd rfl rfl (ol (lO tG rfl) rfl (lO tG rfl) underlying3 rfl rfl rfl (by omega) rfl rfl rfl (by show(4+n.toNat)*8<=_;omega) (by show 4+n.toNat<=_;omega)) ?_
   refine Wa 28 rfl (hr _) ?_
   refine zs1 ?_
   refine zp3 ?_
   skip
   refine zc rfl func195 ((pC) _) ?_
   refine zs4 ?_
   refine zR ?_
   rfl
  have q2:¬f.comp.xt=0:=by simpa using hi2
  refine Wj<|zp3 ?_
  refine Wa 31 rfl (show PV.seq _ _ .clip=PV.seq (mq f n).length ((mq f n).flatMap au) .clip from by rw[Ch q2]) ?_
  refine zc rfl func195 ((pC) _) ?_
  refine zs4 ?_
  refine zR ?_
  rfl
 have qx:¬f.comp.xt=0:=by simpa using hg1
 iterate 6 refine z6 ?_
 refine zs1 ?_
 refine Wf rfl rfl ?_
 refine Wj<|zp2 ?_
 refine Wa 22 rfl (bsL au [_,_,_,_] rfl rfl) ?_
 refine zs1 ?_
 refine Ws<|zp1 ?_
 refine zc rfl func51 ((j9 f) _) ?_
 refine zs1 ?_
 refine Wi rfl (fun hi2=>?_) (fun hi2=>?_)
 ·have q2:f.comp.xt=0:=by simpa using hi2
  have hr:=He (n:=n) q2
  have h1:1<=n/\n<=256:=⟨by have:=fun z=>hB ⟨q2,.inl z⟩;omega,by have:=fun z=>hB ⟨q2,.inr z⟩;omega⟩
  refine aa rfl ?_
  refine zy2 ?_
  refine Wa 27 rfl ((show i64 n=PV.val (.int .i64 (n.toNat:Int)) from by rw[Int.toNat_of_nonneg (by omega)];rfl)) ?_
  refine Wd rfl rfl (ol (lO tG rfl) rfl (lO tG rfl) underlying3 rfl rfl rfl (by omega) rfl rfl rfl (by show(4+n.toNat)*8<=_;omega) (by show 4+n.toNat<=_;omega)) ?_
  refine Wa 28 rfl (hr _) ?_
  refine zs1 ?_
  refine zp3 ?_
  skip
  refine zc rfl func195 ((pC) _) ?_
  refine zs4 ?_
  refine zR ?_
  rfl
 have q2:¬f.comp.xt=0:=by simpa using hi2
 refine Wj<|zp3 ?_
 refine Wa 31 rfl (show PV.seq _ _ .clip=PV.seq (mq f n).length ((mq f n).flatMap au) .clip from by rw[Ch q2]) ?_
 refine zc rfl func195 ((pC) _) ?_
 refine zs4 ?_
 refine zR ?_
 rfl
def Ey(n:Int):Int:=if n%2=1 then n else n+1
def or1{f:Int}(h0:0<=f)(h7:f<=7):IntKind.i64.wrap ↑(BitVec.ofInt IntKind.i64.bits f ||| BitVec.ofInt IntKind.i64.bits 1).toNat=Ey f:=by
 rcases qn h0 h7 with rfl|rfl|rfl|rfl|rfl|rfl|rfl|rfl<;>decide
def aq0{f:Int}(h0:0<=f)(h7:f<=7):0<=Ey f/\Ey f<=7:=by
 rcases qn h0 h7 with rfl|rfl|rfl|rfl|rfl|rfl|rfl|rfl<;>decide
def py(f:ae):aL:=f.vm.dict.getD (f.vm.dict.length-1) default
def MJ(f:ae):ae×Int :=
 if f.vm.dict.length=0\/(py f).xt<1368 then gd (okF (aK f) (-13)) f else gd (mv (aK f) (cz f.vm.dict ((f.vm.dict.length-1:Nat):Int) (Ey (py f).flags))) f
def zg(f:ae)(h:FK 0 f):af prog 183 [bE f] (gE (MJ f)):=by
 have hd:=h.dict
 have w1:IntKind.i64.wrap ((f.vm.dict.length:Int)-1)=(f.vm.dict.length:Int)-1:=by((rw[bB];unfold wrap64;(try simp only[dnL]at *);omega))
 have eI:MJ f=if f.vm.dict.length=0\/(py f).xt<1368 then gd (okF (aK f) (-13)) f else gd (mv (aK f) (cz f.vm.dict ((f.vm.dict.length-1:Nat):Int) (Ey (py f).flags))) f:=rfl
 by_cases h0:f.vm.dict.length=0
 ·rw[eI,if_pos (.inl h0)]
  refine zY func183 fun B=>?_
  refine zu3 ?_
  refine zp1 ?_
  refine zc rfl func217 (mX f _) ?_
  refine Wa 9 rfl ((show _=PV.ptr 2 0 from rfl)) ?_
  refine zs1 ?_
  refine zp5 ?_
  refine Wa 14 rfl (zI9 w1) ?_
  refine zs1 ?_
  iterate 2 refine Ws ?_
  refine am [0,0,0,0,0,1,0,0,0,1,0,0,0] [0,1,2,3,4,5,6,7,8,9,10,11,12] mG rfl (by kernel_rfl) ?_
  iterate 3 refine z3 ?_
  refine C7 17 rfl (by exact decide_eq_true (by omega)) ?_
  iterate 9 refine z7 ?_
  refine z3 ?_
  refine ap ?_
  refine Wt rfl rfl ?_
  refine zp3 ?_
  refine zc rfl func93 (lc (aK f) (-13) _ 2 rfl) ?_
  refine Wn<|zp2 ?_
  refine zc rfl func212 ((dG _ _) _ _ rfl) ?_
  refine zs4 ?_
  refine zR ?_
  rfl
 have w2:(f.vm.dict.length:Int)-1=((f.vm.dict.length-1:Nat):Int):=by omega
 have fl:=h.each.get (j:=f.vm.dict.length-1) (by omega)
 have i7:=aq0 fl.2.1 fl.2.2
 have eo:=or1 fl.2.1 fl.2.2
 have pF:=CS f.vm.dict ((f.vm.dict.length-1:Nat):Int) (Ey (py f).flags) (by omega) i7.1 i7.2
 obtain⟨d,hd'⟩:∃d,cz f.vm.dict ((f.vm.dict.length-1:Nat):Int) (Ey (py f).flags)=d:=⟨_,rfl⟩
 rw[hd']at pF eI
 refine zY func183 fun B=>?_
 refine zu3 ?_
 refine zp1 ?_
 refine zc rfl func217 (mX f _) ?_
 refine Wa 9 rfl ((show _=PV.ptr 2 0 from rfl)) ?_
 refine zs1 ?_
 refine zp5 ?_
 refine Wa 14 rfl (zI9 (w1.trans w2)) ?_
 refine zs1 ?_
 iterate 2 refine Ws ?_
 refine am [0,0,0,0,0,1,0,0,0,1,0,0,0] [0,1,2,3,4,5,6,7,8,9,10,11,12] mG rfl (by kernel_rfl) ?_
 iterate 3 refine z3 ?_
 refine GA 17 rfl (by exact decide_eq_false (by omega)) ?_
 iterate 2 refine z3 ?_
 refine z5 ?_
 refine z3 ?_
 refine Xi tG rfl rfl rfl rfl (fun _=>rfl) (by omega) (iN bP 3 (fun _=>rfl) default (by omega)) ?_
 refine z3 ?_
 refine z5 ?_
 refine Xc rfl rfl rfl rfl (fun _=>dC rfl func218 rfl rfl ((zn) _)) ?_
 iterate 2 refine z3 ?_
 refine ap ?_
 refine Wi rfl (fun hi1=>?_) (fun hi1=>?_)
 ·have q:(py f).xt<1368:=oT hi1
  refine zp3 ?_
  refine zc rfl func93 (lc (aK f) (-13) _ 2 rfl) ?_
  refine Wn<|zp2 ?_
  refine zc rfl func212 ((dG _ _) _ _ rfl) ?_
  refine zs4 ?_
  refine zR ?_
  (rw[eI,if_pos (.inr q)];rfl)
 have q:¬(py f).xt<1368:=oF hi1
 refine Wj<|Ws<|am [0,0,1,0,0,0,1,0,0,0,1,0,0,0,0,0,0,0] [0,1,2,3,4,5,6,7,8,9,10,11,12,13,14,15,16,17] mG rfl (by kernel_rfl) ?_
 iterate 2 refine z3 ?_
 refine z5 ?_
 iterate 3 refine z3 ?_
 refine z5 ?_
 refine z3 ?_
 refine Xi tG rfl rfl rfl rfl (fun _=>rfl) (by omega) (iN bP 3 (fun _=>rfl) default (by omega)) ?_
 refine z3 ?_
 refine z5 ?_
 refine z3 ?_
 refine Xa 49 rfl (zI9 eo) ?_
 refine Xc rfl rfl rfl rfl (fun _=>dC rfl func214 rfl rfl ((pF) _)) ?_
 iterate 5 refine z3 ?_
 refine ap ?_
 refine zp4 ?_
 refine zc rfl func93 (lc (aK f) d.2 _ 2 rfl) ?_
 refine Wn<|zp5 ?_
 refine zs2 ?_
 refine zp2 ?_
 refine zc rfl func212 ((dG (mv (aK f) d) f) _ _ rfl) ?_
 refine zs4 ?_
 refine zR ?_
 (rw[eI,if_neg (fun z=>z.elim h0 q)];rfl)
def B9(f:ae)(r:aL×Int×Bool):FW:=if r.2.2=false then okF (aK f) (-13)else if r.1.xt<1368\/f.vm.here<r.1.xt then okF (aK f) (-32)else aK f
def Aq(w:FW)(l:List aL)(r:aL×Int×Bool):FW:={w with f:={w.f with vm:={w.f.vm with dict:=(fZ l r.2.1).1,here:=r.1.xt,last:=0}}}
def Cj(f:ae)(name:Str):ae×Int:=gd (Aq (B9 f (cd f.vm.dict name)) f.vm.dict (cd f.vm.dict name)) f
def Gx(f:ae)(name:Str)(hn:name.length<=1000000)(h:FK 0 f):af prog 184 [bE f,str name] (gE (Cj f name)):=by
 have hd:=h.dict
 have pD:=wj f.vm.dict name h.each (by omega)
 unfold Cj
 obtain⟨r,hr⟩:∃r,cd f.vm.dict name=r:=⟨_,rfl⟩
 rw[hr]at pD ⊢
 have pC:=Hw f.vm.dict r.2.1 (by omega)
 have eB:B9 f r=if r.2.2=false then okF (aK f) (-13)else if r.1.xt<1368\/f.vm.here<r.1.xt then okF (aK f) (-32)else aK f:=rfl
 refine zY func184 fun B=>?_
 refine zu3 ?_
 refine zp1 ?_
 refine zc rfl func217 (mX f _) ?_
 refine Wa 13 rfl ((show _=PV.ptr 2 0 from rfl)) ?_
 refine zs1 ?_
 refine zp4 ?_
 refine zc rfl func37 ((pD) _) ?_
 refine zy5 ?_
 refine zs3 ?_
 refine Ws<|Wl<|zu3 ?_
 refine Wi rfl (fun hi1=>?_) (fun hi1=>?_)
 ·have q1:r.2.2=false:=by simpa using hi1
  rw[if_pos q1]at eB
  let xx:FW:=okF (aK f) (-13)
  refine aa rfl ?_
  refine zy3 ?_
  refine zc rfl func93 (lc (aK f) (-13) _ 2 rfl) ?_
  refine Wn<|zp4 ?_
  refine zc rfl func53 ((pC) _) ?_
  refine zs5 ?_
  refine Ws<|am [0,0,0,0,0,10,0,0,0,0,9,0,0,0,0,9,0,0,0,0,9] [0,1,2,3,4,5,6,7,8,9,10,11,12,13,14,15,16,17,18,19,20] mG rfl (by kernel_rfl) ?_
  iterate 5 refine z3 ?_
  refine zU 3 ?_
  iterate 4 refine z3 ?_
  refine dK 2 tG rfl rfl rfl rfl rfl trivial rfl ?_
  iterate 4 refine z3 ?_
  refine dK 2 tG rfl rfl rfl rfl rfl trivial rfl ?_
  iterate 4 refine z3 ?_
  refine dK 2 tG rfl rfl rfl rfl rfl trivial rfl ?_
  refine ap ?_
  refine zp2 ?_
  refine zc rfl func212 ((dG (Aq xx f.vm.dict r) f) _ _ rfl) ?_
  refine zs4 ?_
  refine zR ?_
  rw[eB];rfl
 have q1:¬r.2.2=false:=by simpa using hi1
 rw[if_neg q1]at eB
 refine Ws<|am [0,1,0,0,0,0,1,0,0,1,0,0,0] [0,1,2,3,4,5,6,7,8,9,10,11,12] mG rfl (by kernel_rfl) ?_
 refine z3 ?_
 refine z5 ?_
 refine Xc rfl rfl rfl rfl (fun _=>dC rfl func218 rfl rfl ((zn) _)) ?_
 iterate 2 refine z3 ?_
 refine i5 35 rfl (fun hg1=>?_) (fun hg1=>?_)
 ·have q2:r.1.xt<1368\/f.vm.here<r.1.xt:=.inl (oT hg1)
  rw[if_pos q2]at eB
  let xx:FW:=okF (aK f) (-32)
  iterate 6 refine z7 ?_
  iterate 2 refine z3 ?_
  refine ap ?_
  refine Wt rfl rfl ?_
  refine aa rfl ?_
  refine zy3 ?_
  refine zc rfl func93 (lc (aK f) (-32) _ 2 rfl) ?_
  refine Wn<|zp4 ?_
  refine zc rfl func53 ((pC) _) ?_
  refine zs5 ?_
  refine Ws<|am [0,0,0,0,0,10,0,0,0,0,9,0,0,0,0,9,0,0,0,0,9] [0,1,2,3,4,5,6,7,8,9,10,11,12,13,14,15,16,17,18,19,20] mG rfl (by kernel_rfl) ?_
  iterate 5 refine z3 ?_
  refine zU 3 ?_
  iterate 4 refine z3 ?_
  refine dK 2 tG rfl rfl rfl rfl rfl trivial rfl ?_
  iterate 4 refine z3 ?_
  refine dK 2 tG rfl rfl rfl rfl rfl trivial rfl ?_
  iterate 4 refine z3 ?_
  refine dK 2 tG rfl rfl rfl rfl rfl trivial rfl ?_
  refine ap ?_
  refine zp2 ?_
  refine zc rfl func212 ((dG (Aq xx f.vm.dict r) f) _ _ rfl) ?_
  refine zs4 ?_
  refine zR ?_
  rw[eB];rfl
 refine z3 ?_
 refine z5 ?_
 iterate 2 refine z3 ?_
 refine z5 ?_
 iterate 3 refine z3 ?_
 refine ap ?_
 refine Wi rfl (fun hi2=>?_) (fun hi2=>?_)
 ·have q2:r.1.xt<1368\/f.vm.here<r.1.xt:=.inr (by have:=oT hi2;omega)
  rw[if_pos q2]at eB
  let xx:FW:=okF (aK f) (-32)
  refine aa rfl ?_
  refine zy3 ?_
  refine zc rfl func93 (lc (aK f) (-32) _ 2 rfl) ?_
  refine Wn<|zp4 ?_
  refine zc rfl func53 ((pC) _) ?_
  refine zs5 ?_
  refine Ws<|am [0,0,0,0,0,10,0,0,0,0,9,0,0,0,0,9,0,0,0,0,9] [0,1,2,3,4,5,6,7,8,9,10,11,12,13,14,15,16,17,18,19,20] mG rfl (by kernel_rfl) ?_
  iterate 5 refine z3 ?_
  refine zU 3 ?_
  iterate 4 refine z3 ?_
  refine dK 2 tG rfl rfl rfl rfl rfl trivial rfl ?_
  iterate 4 refine z3 ?_
  refine dK 2 tG rfl rfl rfl rfl rfl trivial rfl ?_
  iterate 4 refine z3 ?_
  refine dK 2 tG rfl rfl rfl rfl rfl trivial rfl ?_
  refine ap ?_
  refine zp2 ?_
  refine zc rfl func212 ((dG (Aq xx f.vm.dict r) f) _ _ rfl) ?_
  refine zs4 ?_
  refine zR ?_
  rw[eB];rfl
 have q2:¬(r.1.xt<1368\/f.vm.here<r.1.xt):=by have:=oF hi2;have:=oF hg1;omega
 rw[if_neg q2]at eB
 let xx:FW:=aK f
 refine Wj<|zp4 ?_
 refine zc rfl func53 ((pC) _) ?_
 refine zs5 ?_
 refine Ws<|am [0,0,0,0,0,10,0,0,0,0,9,0,0,0,0,9,0,0,0,0,9] [0,1,2,3,4,5,6,7,8,9,10,11,12,13,14,15,16,17,18,19,20] mG rfl (by kernel_rfl) ?_
 iterate 5 refine z3 ?_
 refine zU 3 ?_
 iterate 4 refine z3 ?_
 refine dK 2 tG rfl rfl rfl rfl rfl trivial rfl ?_
 iterate 4 refine z3 ?_
 refine dK 2 tG rfl rfl rfl rfl rfl trivial rfl ?_
 iterate 4 refine z3 ?_
 refine dK 2 tG rfl rfl rfl rfl rfl trivial rfl ?_
 refine ap ?_
 refine zp2 ?_
 refine zc rfl func212 ((dG (Aq xx f.vm.dict r) f) _ _ rfl) ?_
 refine zs4 ?_
 refine zR ?_
 rw[eB];rfl
def Lq{P:Program}{B:Nat->Nat->Prop}{H:List Ob}{n:Nat}{T:Nat->PV}{c:Code}{Q:Exit->(Nat->PV)->List Ob->Prop}(j:Nat){zs ys:List PV}{t:TypeId}{H':List Ob}(hj:H[j]?=some (.cells zs t)){us:List PV}(hz:Oq zs=some us)(e:us=ys)(hH:nfH (H.set j (.cells ys t))=some H')(h1:W P B n c T H' Q):W P B n c T H Q:=by
 rw[r5 hH]at h1
 subst e
 intro σ w a g
 obtain⟨s',st⟩:=obW g.sim hj (uV hz)
 exact wp_mono (h1 σ w a ⟨s',fun i=>(g.rep i).mono st.le,g.size,g.defers⟩) fun _ _ _ k=>gM st (fun _ _ _ h=>h) k
def kN(v:VVm):CW:=⟨v,[],0⟩
def yQ(w:CW)(v:VVm):VVm×Int:=((nS w v []).1,(nS w v []).2.2)
def Gt(v:VVm)(n:Int):VVm×Int:=yQ (gi (ce (kN v) [40,108,105,116,41]) n) v
def ND(v:VVm)(n:Int)(h:CK 2 (kN v)):af prog 81 [eVm v,i64 n] (tVm (Gt v n)):=by
 have h1:=jk h [40,108,105,116,41]
 refine zY func81 fun B=>?_
 refine zu3 ?_
 refine zu4 ?_
 refine Ws<|Lq 2 rfl rfl (ys:=cCw (kN v)) rfl rfl ?_
 refine aa rfl ?_
 refine zc rfl func104 ((mO (kN v) [40,108,105,116,41] h.mem h.here) _ _ rfl) ?_
 refine Wn<|zp1 ?_
 refine zc rfl func105 ((qS (ce (kN v) [40,108,105,116,41]) n h1.mem h1.here) _ _ rfl) ?_
 refine Wn<|zp1 ?_
 refine zc rfl func106 ((vE (gi (ce (kN v) [40,108,105,116,41]) n) v []) _ _ rfl) ?_
 refine zy5 ?_
 refine zs3 ?_
 refine zu4 ?_
 refine zR ?_
 rfl
def CP(x:CW)(r a:bf×Int×Int):CW:=if r.2.2=0 then⟨{x.v with mem:=a.1,here:=a.2.1},x.l,r.2.2⟩else {x with bad:=r.2.2}
def Nb(v:VVm)(s:Str):CW:=gi (ce (kN v) [40,115,116,114,41]) s.length
def vF(x:CW)(s:Str):CW:=if x.bad=0 then CP x (cJ x.v.mem x.v.here s) (aM (cJ x.v.mem x.v.here s).1 (cJ x.v.mem x.v.here s).2.1)else x
def J6(v:VVm)(s:Str):VVm×Int:=yQ (vF (Nb v s) s) v
def Mb(v:VVm)(s:Str)(hs:s.length<=1000000)(h:CK 4 (kN v)):af prog 189 [eVm v,str s] (tVm (J6 v s)):=by
 have h1:=jk h [40,115,116,114,41]
 have h2:CK 2 (Nb v s):=qb h1 s.length
 have pC:=qS (ce (kN v) [40,115,116,114,41]) (s.length:Int) h1.mem h1.here
 rw[show gi (ce (kN v) [40,115,116,114,41]) (s.length:Int)=Nb v s from rfl]at pC
 unfold J6
 obtain⟨x,hx⟩:∃x,Nb v s=x:=⟨_,rfl⟩
 rw[hx]at pC h2 ⊢
 have pL:=xQ x.v.mem x.v.here s h2.mem h2.here hs
 have mk:dy x.v.mem (cJ x.v.mem x.v.here s).1 1:=gR _
 have mh:=iu (m:=x.v.mem) s h2.h0 h2.h1
 unfold vF
 obtain⟨r,hr⟩:∃r,cJ x.v.mem x.v.here s=r:=⟨_,rfl⟩
 rw[hr]at pL mk mh ⊢
 have l1:=mk.len
 have l2:=mk.old
 have l3:=h2.b
 have l4:=h2.old
 have pA:=rH r.1 r.2.1 ⟨by omega,by omega⟩ ⟨by omega,by omega⟩
 obtain⟨a,ha⟩:∃a,aM r.1 r.2.1=a:=⟨_,rfl⟩
 rw[ha]at pA ⊢
 refine zY func189 fun B=>?_
 refine zu3 ?_
 refine zu4 ?_
 refine Ws<|Lq 2 rfl rfl (ys:=cCw (kN v)) rfl rfl ?_
 refine aa rfl ?_
 refine zc rfl func104 ((mO (kN v) [40,115,116,114,41] h.mem h.here) _ _ rfl) ?_
 refine Wn<|zp2 ?_
 refine Wa 17 rfl (eM _) ?_
 refine zc rfl func105 ((pC) _ _ rfl) ?_
 refine Wn<|Ws<|zu3 ?_
 refine Wi rfl (fun hi1=>?_) (fun hi1=>?_)
 ·have q1:x.bad=0:=by simpa using hi1
  have pF:=lE x r.2.2
  rw[cf0 q1]at pF
  refine zp5 ?_
  refine zy3 ?_
  refine Wa 30 rfl (vR _) ?_
  refine zc rfl func174 ((pL) _) ?_
  refine zy5 ?_
  refine zs3 ?_
  refine zp1 ?_
  refine zc rfl func153 ((pF) _ _ rfl) ?_
  refine Wn<|zu2 ?_
  refine Wi rfl (fun hi2=>?_) (fun hi2=>?_)
  ·have q2:r.2.2=0:=by simpa using hi2
   refine aa rfl ?_
   refine zy2 ?_
   refine zc rfl func220 ((pA) _) ?_
   refine zy5 ?_
   refine zs5 ?_
   refine zp1 ?_
   (refine uo 2 rfl rfl (ys:=cCw (⟨{x.v with mem:=a.1,here:=a.2.1},x.l,r.2.2⟩:CW)) rfl rfl ?_)
   refine zc rfl func106 ((vE _ v []) _ _ rfl) ?_
   refine zy5 ?_
   refine zs3 ?_
   refine zu4 ?_
   refine zR ?_
   (rw[if_pos q1];unfold CP;rw[if_pos q2];rfl)
  have q2:¬r.2.2=0:=by simpa using hi2
  refine Wj<|zp1 ?_
  skip
  refine zc rfl func106 ((vE _ v []) _ _ rfl) ?_
  refine zy5 ?_
  refine zs3 ?_
  refine zu4 ?_
  refine zR ?_
  (rw[if_pos q1];unfold CP;rw[if_neg q2];rfl)
 have q1:¬x.bad=0:=by simpa using hi1
 refine Wj<|zp1 ?_
 skip
 refine zc rfl func106 ((vE _ v []) _ _ rfl) ?_
 refine zy5 ?_
 refine zs3 ?_
 refine zu4 ?_
 refine zR ?_
 (rw[if_neg q1];rfl)
end Go.Proofs.YtjcminooghmpeaaGreatDoor
namespace Go.Proofs.YtjcminooghmpeaaGreatDoor
open Go.RowKit Go.Extern.Stop Go.Stop Go.Extern
def atV(xt:Int)(v:Value):Value:=.iface 199 (.agg #[.int .i64 xt,v])
def VD(c:Int):Value:=.iface 201 (.agg #[.int .i64 c])
def rtV(n:Nat):Value:=.agg #[.pointer (some ⟨5,n,none⟩)]
def CA(n:Nat)(v:Value)(w:World):(ReflectliteType.typeOf #[.iface 383 v]).run prog w=.ok (.iface 221 (rtV 383)) w:=by kernel_rfl
def O4(w:World):(callFunc 420 #[rtV 383]).run prog w=.ok (.value (.bool true)) w :=
 (@run_callFunc_extern prog 420 _ (ReflectliteType.method fun t => do Rtype.noPackHeld "Comparable" t; pure (.bool (← typeInfo t).comparable)) func420 (by kernel_rfl) (by kernel_rfl) (by kernel_rfl) (by kernel_rfl) _ w).trans (by kernel_rfl)
def rU (v : Value) (w : World) : (Go.method 513 221 v "Comparable").run prog w = .ok (420, v) w := by kernel_rfl
def XM:(prog.info? 383).map (·.comparable)=some true:=by kernel_rfl
def V9:(prog.info? 401).map (·.size)=some 1:=by kernel_rfl
def FE(v:Value)(xT:TypeId)(w:World):(Instr.typeAssert (.iface 199 v) xT 272 true).run prog w=.ok (.tuple #[.nilIface,.bool false]) w:=run_typeAssert_lacksB (underlying272) (by kernel_rfl) (by kernel_rfl) v xT w
def S1(v:Value)(xT:TypeId)(w:World):(Instr.typeAssert (.iface 201 v) xT 272 true).run prog w=.ok (.tuple #[.nilIface,.bool false]) w:=run_typeAssert_lacksB (underlying272) (by kernel_rfl) (by kernel_rfl) v xT w
def tY(v:Value)(xT:TypeId)(w:World):(Instr.typeAssert (.iface 199 v) xT 229 true).run prog w=.ok (.tuple #[.iface 199 v,.bool true]) w:=run_typeAssert_hasB (underlying229) (by kernel_rfl) v xT w
def Se(v:Value)(xT:TypeId)(w:World):(Instr.typeAssert (.iface 201 v) xT 229 true).run prog w=.ok (.tuple #[.nilIface,.bool false]) w:=run_typeAssert_lacksB (underlying229) (by kernel_rfl) (by kernel_rfl) v xT w
def Ns(v:Value)(xT:TypeId)(w:World):(Instr.typeAssert (.iface 201 v) xT 231 true).run prog w=.ok (.tuple #[.nilIface,.bool false]) w:=run_typeAssert_lacksB (underlying231) (by kernel_rfl) (by kernel_rfl) v xT w
def tZ (v : Value) (w : World) : (Go.method 513 199 v "Unwrap").run prog w = .ok (416, v) w := by kernel_rfl
def QK(a:Addr)(xt:Int)(v:Value)(w:World):Calls prog 416 #[.agg #[.int .i64 xt,v]] w fun e w'=>e=.returned v/\w'=w.alloc (.cells #[.int .i64 xt,v] 199):=by
 go_enter func416,ntmps416
 go_wp2
 go_ret
 exact⟨rfl,rfl⟩
def ag9(a:Addr)(xt:Int)(w:World):
  Calls prog 118 #[atV xt (haltV a),haltV a] w fun e w'=>e=.returned (.bool true)/\be w w':=by
 obtain⟨i,hi,hcmp⟩:=Option.map_eq_some_iff.1 XM
 obtain⟨j,hj,hjs⟩:=Option.map_eq_some_iff.1 V9
 have h8:=@run_callFunc_extern prog 155 _ ReflectliteType.typeOf func155 (by kernel_rfl) (by kernel_rfl) (by kernel_rfl) (by kernel_rfl)
 have h32:=O4
 have tT:=CA 0
 have mR:=rU
 have nA:=FE
 have uA:=tY
 have mU:=tZ
 have heq:=run_eql_iface_ptr_same (P:=prog) (w.alloc (.cells #[.int .i64 xt,.iface 383 (.pointer (some a))] 199)) a underlying87 underlying383 hi hcmp hj
 have hty:=run_eql_iface_types (P:=prog) 199 383 (.agg #[.int .i64 xt,.iface 383 (.pointer (some a))]) (.pointer (some a)) underlying87 (by decide) w
 unfold atV haltV
 unfold rtV at *
 go_enter func118,ntmps118
 go_wp2
 refine wp_loop_rounds 2 ?_
 rw[rounds_succ]
 go_wp2_with (go_at_call 416;refine(QK a _ _ _).mono ?_;rintro e w' ⟨rfl,rfl⟩)
 rw[rounds_succ]
 go_wp2
 go_ret
 exact⟨rfl,be.alloc _ _⟩
def Zp(a:Addr)(xt c:Int)(w:World):
  Calls prog 118 #[atV xt (VD c),haltV a] w fun e w'=>e=.returned (.bool false)/\be w w':=by
 have h8:=@run_callFunc_extern prog 155 _ ReflectliteType.typeOf func155 (by kernel_rfl) (by kernel_rfl) (by kernel_rfl) (by kernel_rfl)
 have h32:=O4
 have tT:=CA 0
 have mR:=rU
 have nA:=FE
 have nT:=S1
 have uA:=tY
 have uT:=Se
 have vT:=Ns
 have mU:=tZ
 have hty:=run_eql_iface_types (P:=prog) 199 383 (.agg #[.int .i64 xt,.iface 201 (.agg #[.int .i64 c])]) (.pointer (some a)) underlying87 (by decide) w
 have hty2:=run_eql_iface_types (P:=prog) 201 383 (.agg #[.int .i64 c]) (.pointer (some a)) underlying87 (by decide) (w.alloc (.cells #[.int .i64 xt,.iface 201 (.agg #[.int .i64 c])] 199))
 unfold atV VD haltV
 unfold rtV at *
 go_enter func118,ntmps118
 go_wp2
 refine wp_loop_rounds 2 ?_
 rw[rounds_succ]
 go_wp2_with (go_at_call 416;refine(QK a _ _ _).mono ?_;rintro e w' ⟨rfl,rfl⟩)
 rw[rounds_succ]
 go_wp2
 go_ret
 exact⟨rfl,be.alloc _ _⟩
end Go.Proofs.YtjcminooghmpeaaGreatDoor
namespace Go.Proofs.YtjcminooghmpeaaGreatDoor
open Go.RowKit Go.Extern.Stop Go.Stop Go.Extern
def Jr(t:Addr)(w:World):(ReflectliteValue.unpack (.iface 203 (.pointer (some t)))).run prog w
  = .ok (.agg #[.pointer (some ⟨5,203,none⟩),.pointer (some ⟨w.heap.size,0,none⟩),.int .u64 150]) (w.alloc (.cells #[.pointer (some t)] 203)):=by kernel_rfl
def Xz (a : Addr) (w : World) : (ReflectliteValue.methodAny (ReflectliteValue.valueError "reflectlite.Value.Type" 0) (fun t _ _ _ => ReflectliteType.toType t) #[.agg #[.pointer (some ⟨5, 203, none⟩), .pointer (some a), .int .u64 150]]).run prog w
  = .ok (.iface 221 (.agg #[.pointer (some ⟨5,203,none⟩)])) w:=by kernel_rfl
def PR (h : Value) (w : World) : (Go.method 513 221 (.agg #[h]) "Kind").run prog w = .ok (408, h) w := by kernel_rfl
def TK(w:World):((ReflectliteType.abiMethod fun t=>(fun a:Nat=>Value.int IntKind.u8 (a:Int)) <$> Rtype.kind t) #[.pointer (some ⟨5,203,none⟩)]).run prog w=.ok (.int .u8 22) w:=by kernel_rfl
def Ta(w:World):((ReflectliteType.abiMethod fun t=>(fun a:Nat=>Value.int IntKind.u8 (a:Int)) <$> Rtype.kind t) #[.pointer (some ⟨5,201,none⟩)]).run prog w=.ok (.int .u8 25) w:=by kernel_rfl
def Pt(z:Sem Value)(f:TypeId->Addr->Nat->Nat->Sem Value)(v:Value):
  ReflectliteValue.method z f #[v]=(do match <-ReflectliteValue.parts v with|none=>z|some (t,a,fl)=>f t a fl (fl%32)):=rfl
def Cp(a:Addr)(w:World):(ReflectliteValue.parts (.agg #[.pointer (some ⟨5,203,none⟩),.pointer (some a),.int .u64 150])).run prog w=.ok (some (203,a,150)) w:=by kernel_rfl
def P5(a p:Addr)(W:World)(ha:W.cell? a=some (.pointer (some p))):
  (ReflectliteValue.method (ReflectliteValue.valueError "reflectlite.Value.IsNil" 0) ReflectliteValue.isNil #[.agg #[.pointer (some ⟨5, 203, none⟩), .pointer (some a), .int .u64 150]]).run prog W = .ok (.bool false) W := by
 rw[Pt]
 simp only[Sem.run_bind,Cp,Result.andThen]
 simp[ReflectliteValue.isNil,loadVar,isAgg,underlying,underlying203,ha,Result.andThen]
def Sm (h : Value) (w : World) : (Go.method 513 221 (.agg #[h]) "Elem").run prog w = .ok (421, .agg #[h]) w := by kernel_rfl
def Pg (h : Value) (w : World) : (Go.method 513 221 (.agg #[h]) "Implements").run prog w = .ok (422, .agg #[h]) w := by kernel_rfl
def IE (h : Value) (w : World) : (Go.method 513 221 (.agg #[h]) "AssignableTo").run prog w = .ok (419, .agg #[h]) w := by kernel_rfl
def Xr(w:World):(ReflectliteType.method ReflectliteType.elem #[.agg #[.pointer (some ⟨5,203,none⟩)]]).run prog w=.ok (.iface 221 (.agg #[.pointer (some ⟨5,201,none⟩)])) w:=by kernel_rfl
def Vy (w : World) : (ReflectliteType.relation "Implements" ReflectliteType.implements_ #[.agg #[.pointer (some ⟨5, 201, none⟩)], .iface 221 (.agg #[.pointer (some ⟨5, 87, none⟩)])]).run prog w = .ok (.bool true) w := by kernel_rfl
def PY(v:Value)(w:World):(ReflectliteType.typeOf #[.iface 199 v]).run prog w=.ok (.iface 221 (.agg #[.pointer (some ⟨5,199,none⟩)])) w:=by kernel_rfl
def Q3(v:Value)(w:World):(ReflectliteType.typeOf #[.iface 201 v]).run prog w=.ok (.iface 221 (.agg #[.pointer (some ⟨5,201,none⟩)])) w:=by kernel_rfl
def W4 (w : World) : (ReflectliteType.relation "AssignableTo" ReflectliteType.assignableTo #[.agg #[.pointer (some ⟨5, 199, none⟩)], .iface 221 (.agg #[.pointer (some ⟨5, 201, none⟩)])]).run prog w = .ok (.bool false) w := by kernel_rfl
def Wz (w : World) : (ReflectliteType.relation "AssignableTo" ReflectliteType.assignableTo #[.agg #[.pointer (some ⟨5, 201, none⟩)], .iface 221 (.agg #[.pointer (some ⟨5, 201, none⟩)])]).run prog w = .ok (.bool true) w := by kernel_rfl
def Ux(v:Value)(xT:TypeId)(w:World):(Instr.typeAssert (.iface 199 v) xT 226 true).run prog w=.ok (.tuple #[.nilIface,.bool false]) w:=run_typeAssert_lacksB (underlying226) (by kernel_rfl) (by kernel_rfl) v xT w
def MF(c:Int)(w:World):(ReflectliteValue.unpack (.iface 201 (.agg #[.int .i64 c]))).run prog w
  = .ok (.agg #[.pointer (some ⟨5,201,none⟩),.pointer (some ⟨w.heap.size,0,none⟩),.int .u64 153]) (w.alloc (.cells #[.int .i64 c] 201)):=by kernel_rfl
def NT(w:World):(Rtype.elem? 203).run prog w=.ok (some 201) w:=by kernel_rfl
def ar7(p:Addr)(w:World):(ReflectliteValue.mk 201 p ReflectliteValue.flagAddr).run prog w=.ok (.agg #[.pointer (some ⟨5,201,none⟩),.pointer (some p),.int .u64 409]) w:=by kernel_rfl
def RX(a p:Addr)(W:World)(ha:W.cell? a=some (.pointer (some p))):
  (ReflectliteValue.method (ReflectliteValue.valueError "reflectlite.Value.Elem" 0) ReflectliteValue.elem #[.agg #[.pointer (some ⟨5, 203, none⟩), .pointer (some a), .int .u64 150]]).run prog W
   = .ok (.agg #[.pointer (some ⟨5,201,none⟩),.pointer (some p),.int .u64 409]) W:=by
 rw[Pt]
 simp only[Sem.run_bind,Cp,Result.andThen]
 simp[ReflectliteValue.elem,loadVar,isAgg,underlying,underlying203,ha,Result.andThen,NT,ar7]
def M6(a:Addr)(w:World):(ReflectliteValue.parts (.agg #[.pointer (some ⟨5,201,none⟩),.pointer (some a),.int .u64 409])).run prog w=.ok (some (201,a,409)) w:=by kernel_rfl
def ML(a:Addr)(w:World):(ReflectliteValue.parts (.agg #[.pointer (some ⟨5,201,none⟩),.pointer (some a),.int .u64 153])).run prog w=.ok (some (201,a,153)) w:=by kernel_rfl
def Mf(w:World):(Rtype.directlyAssignable 201 201).run prog w=.ok true w:=by kernel_rfl
def YZ(v x:Value):ReflectliteValue.set #[v,x]=(do
  let (some (dst,a,fl),some (src,b,_)):=(<-ReflectliteValue.parts v,<-ReflectliteValue.parts x)
   | unsupported (.noEntry "extern/(internal/reflectlite.Value).Set.zeroValue")
  if fl / ReflectliteValue.flagAddr % 2 == 0 then unsupported (.noEntry "extern/(internal/reflectlite.Value).Set.unaddressable")
  let val <-loadVar src b
  if <-Rtype.directlyAssignable dst src then storeVar dst a val
  else if <-Rtype.implements dst src then
   if (<-Rtype.kind src)==20 then
    match val with
    | .nilIface => unsupported (.noEntry "extern/reflectlite: a nil value of one interface type handed on as a value of another")
    | _=>storeVar dst a val
   else storeVar dst a (.iface src val)
  else panicString ("reflectlite.Set: value of type " ++ (← Rtype.spelt src) ++ " is not assignable to type " ++ (← Rtype.spelt dst))
  pure (.tuple #[])):=rfl
def KP(w:World):(sizeOf 201).run prog w=.ok 1 w:=by kernel_rfl
def ae3(ta b:Addr)(c:Int)(old:Value)(W:World)(hb:W.cell? b=some (.int .i64 c))(ht:W.cell? ta=some old)(hf:W.frozen? ta=false):
  (ReflectliteValue.set #[.agg #[.pointer (some ⟨5,201,none⟩),.pointer (some ta),.int .u64 409],.agg #[.pointer (some ⟨5,201,none⟩),.pointer (some b),.int .u64 153]]).run prog W
   = .ok (.tuple #[]) (W.setCell ta (.int .i64 c)):=by
 have hl:(loadVar 201 b).run prog W=.ok (.agg #[.int .i64 c]) W:=by
  have h1:=run_loadCells_list (P:=prog) W b [.int .i64 c] (fun j v hj=>by
   match j,hj with
   | 0,hj=>cases hj;rw[show b.add 0=b from by simp[Addr.add]];exact hb
   | j+1,hj=>simp at hj)
  unfold loadVar
  have h2:(loadCells b 1).run prog W=.ok #[.int .i64 c] W:=by simpa using h1
  simp[isAgg,underlying,underlying201,Result.andThen,KP,h2]
 have hs:(storeVar 201 ta (.agg #[.int .i64 c])).run prog W=.ok () (W.setCell ta (.int .i64 c)):=by
  simp[storeVar,Value.cells,storeCells,Addr.add,KP,Result.andThen]
  rw[run_store prog W ta _ _ (by rfl)]
  simp[ht,hf]
 rw[YZ]
 simp only[Sem.run_bind,M6,ML,Result.andThen]
 simp[ReflectliteValue.flagAddr,hl,hs,Result.andThen,Mf]
def ac4(xt c:Int)(t:Addr)(old:Value)(w:World)(hg:w.cell? ⟨0,0,none⟩=some (.iface 221 (.agg #[.pointer (some ⟨5,87,none⟩)])))(ht0:w.cell? t=some old)(hf0:w.frozen? t=false):
  Calls prog 83 #[.iface 199 (.agg #[.int .i64 xt,.iface 201 (.agg #[.int .i64 c])]),.iface 203 (.pointer (some t))] w fun ev w'=>ev=.returned (.bool true)/\∃w1,be w w1/\w'=w1.setCell t (.int .i64 c):=by
 have h6:=@run_callFunc_extern prog 108 _ (fun args=>ReflectliteValue.unpack (args.getD 0 (.tuple #[]))) func108 (by kernel_rfl) (by kernel_rfl) (by kernel_rfl) (by kernel_rfl)
 have h7 := @run_callFunc_extern prog 109 _ (ReflectliteValue.methodAny (ReflectliteValue.valueError "reflectlite.Value.Type" 0) (fun t _ _ _ => ReflectliteType.toType t)) func109 (by kernel_rfl) (by kernel_rfl) (by kernel_rfl) (by kernel_rfl)
 have h8 := @run_callFunc_extern prog 110 _ (ReflectliteValue.method (ReflectliteValue.valueError "reflectlite.Value.IsNil" 0) ReflectliteValue.isNil) func110 (by kernel_rfl) (by kernel_rfl) (by kernel_rfl) (by kernel_rfl)
 have h27:=@run_callFunc_extern prog 408 _ (ReflectliteType.abiMethod fun t=>do pure (.int .u8 (<-Rtype.kind t))) func408 (by kernel_rfl) (by kernel_rfl) (by kernel_rfl) (by kernel_rfl)
 have h37:=@run_callFunc_extern prog 421 _ (ReflectliteType.method ReflectliteType.elem) func421 (by kernel_rfl) (by kernel_rfl) (by kernel_rfl) (by kernel_rfl)
 have h38 := @run_callFunc_extern prog 422 _ (ReflectliteType.relation "Implements" ReflectliteType.implements_) func422 (by kernel_rfl) (by kernel_rfl) (by kernel_rfl) (by kernel_rfl)
 have h10:=@run_callFunc_extern prog 155 _ ReflectliteType.typeOf func155 (by kernel_rfl) (by kernel_rfl) (by kernel_rfl) (by kernel_rfl)
 have h35 := @run_callFunc_extern prog 419 _ (ReflectliteType.relation "AssignableTo" ReflectliteType.assignableTo) func419 (by kernel_rfl) (by kernel_rfl) (by kernel_rfl) (by kernel_rfl)
 have h11 := @run_callFunc_extern prog 156 _ (ReflectliteValue.method (ReflectliteValue.valueError "reflectlite.Value.Elem" 0) ReflectliteValue.elem) func156 (by kernel_rfl) (by kernel_rfl) (by kernel_rfl) (by kernel_rfl)
 have h12:=@run_callFunc_extern prog 157 _ ReflectliteValue.set func157 (by kernel_rfl) (by kernel_rfl) (by kernel_rfl) (by kernel_rfl)
 have tA:=PY
 have tT:=Q3
 have mA:=IE
 have aA:=W4
 have aT:=Wz
 have vT:=MF
 have f6:=Jr
 have f7:=Xz
 have mK:=PR
 have mE:=Sm
 have mI:=Pg
 have kP:=TK
 have kT:=Ta
 have eP:=Xr
 have iT:=Vy
 have nA:=Ux
 have uA:=tY
 have mU:=tZ
 have hlt:0<w.heap.size:=by
  rcases Nat.lt_or_ge 0 w.heap.size with h|h
  ·exact h
  simp[World.cell?,Array.getElem?_eq_none h]at hg
 have htl:t.block<w.heap.size:=by
  rcases Nat.lt_or_ge t.block w.heap.size with h|h
  ·exact h
  simp[World.cell?,Array.getElem?_eq_none h]at ht0
 let A1:Obj:=.cells #[.pointer (some t)] 203
 let A2:Obj:=.cells #[.pointer (some ⟨5,203,none⟩),.pointer (some ⟨w.heap.size,0,none⟩),.int .u64 150] 184
 let A4:Obj:=.cells #[.int .i64 xt,.iface 201 (.agg #[.int .i64 c])] 199
 let A5:Obj:=.cells #[.int .i64 c] 201
 have n8:=P5 ⟨w.heap.size,0,none⟩ t ((w.alloc A1).alloc A2) (by simp[A1])
 have hg2:((w.alloc A1).alloc A2).cell? ⟨0,0,none⟩=some (.iface 221 (.agg #[.pointer (some ⟨5,87,none⟩)])):=by
  rw[World.cell?_alloc_lt _ _ ⟨0,0,none⟩ (by(simp;done)),World.cell?_alloc_lt _ _ ⟨0,0,none⟩ hlt];exact hg
 have el:=RX ⟨w.heap.size,0,none⟩ t ((((w.alloc A1).alloc A2).alloc A2).alloc A4) (by rw[World.cell?_alloc_lt _ _ ⟨w.heap.size,0,none⟩ (by(simp;omega)),World.cell?_alloc_lt _ _ ⟨w.heap.size,0,none⟩ (by(simp;omega))];simp[A1])
 have st:=ae3 t ⟨w.heap.size+1+1+1+1,0,none⟩ c old (((((w.alloc A1).alloc A2).alloc A2).alloc A4).alloc A5)
  (by rw[World.cell?_alloc_at _ _ _ _ (by simp)];rfl)
  (by rw[World.cell?_alloc_lt _ _ t (by(simp;omega)),World.cell?_alloc_lt _ _ t (by(simp;omega)),World.cell?_alloc_lt _ _ t (by(simp;omega)),World.cell?_alloc_lt _ _ t (by(simp;omega)),World.cell?_alloc_lt _ _ t htl];exact ht0)
  (by rw[World.frozen?_alloc_old _ _ t (by(simp;omega)),World.frozen?_alloc_old _ _ t (by(simp;omega)),World.frozen?_alloc_old _ _ t (by(simp;omega)),World.frozen?_alloc_old _ _ t (by(simp;omega)),World.frozen?_alloc_old _ _ t (Nat.ne_of_lt htl)];exact hf0)
 simp only[A1,A2,A4,A5]at n8 hg2 el st
 clear A1 A2 A4 A5
 go_enter func83,ntmps83
 go_wp2
 refine wp_loop_rounds 2 ?_
 rw[rounds_succ]
 go_wp2_with (go_at_call 416;refine(QK t xt _ _).mono ?_;rintro e w' ⟨rfl,rfl⟩)
 rw[rounds_succ]
 go_wp2
 go_ret
 exact⟨rfl,_,((((be.alloc _ _).trans (be.alloc _ _)).trans (be.alloc _ _)).trans (be.alloc _ _)).trans (be.alloc _ _),rfl⟩
open Go.RowKit
def CF(v v':VVm):VVm:={v' with mem:=v.mem,here:=v.here,d:=v.d,out:=v.out,pic:=v.pic,req:=v.req,free:=v.free,next:=v.next}
structure oG (v v':VVm):Prop where
 same:CF v v'=v
 dd:v'.d=v.d
 mem:dy v.mem v'.mem 2
 here:1368<=v.here->v.here<=v.mem.b.length->1368<=v'.here/\v'.here<=v.mem.b.length
 pic:dV v.pic->dV v'.pic
 out:v.out.length<=v.conf.out->v'.out.length<=v.conf.out
 req:v.req.length<=16->v'.req.length<=16
 free:0<=v.free->v.free<=64->0<=v'.free/\v'.free<=64
 next:0<=v.next->v.next<=4611686018427387904->0<=v'.next/\v'.next<=4611686018427387904
def oG.refl(v:VVm):oG v v:=⟨rfl,rfl,.refl _ _,fun a b=>⟨a,b⟩,id,id,id,fun a b=>⟨a,b⟩,fun a b=>⟨a,b⟩⟩
def Nc{v:VVm}{m:bf}{k:Nat}(h:dy v.mem m k)(hk:k<=2):oG v (r6 v m) :=
 ⟨rfl,rfl,h.up hk,fun a b=>⟨a,b⟩,id,id,id,fun a b=>⟨a,b⟩,fun a b=>⟨a,b⟩⟩
def pd{v:VVm}{p:dL}(h:dV v.pic->dV p):oG v (tp v p) :=
 ⟨rfl,rfl,.refl _ _,fun a b=>⟨a,b⟩,h,id,id,fun a b=>⟨a,b⟩,fun a b=>⟨a,b⟩⟩
def qG{v:VVm}{r:bf×Int×Int}(h:dy v.mem r.1 1)(hh:1368<=v.here->v.here<=v.mem.b.length->1368<=r.2.1/\r.2.1<=v.mem.b.length):oG v (ei v r).1 :=
 ⟨rfl,rfl,h.up (by omega),hh,id,id,id,fun a b=>⟨a,b⟩,fun a b=>⟨a,b⟩⟩
def G2(v:VVm)(r:Str×Int):oG v (dm v r).1:=by
 unfold dm iJ
 split
 ·split
  ·exact .refl v
  rename_i h
  exact⟨rfl,rfl,.refl _ _,fun a b=>⟨a,b⟩,id,fun _=>by simp only[List.length_append];omega,id,fun a b=>⟨a,b⟩,fun a b=>⟨a,b⟩⟩
 exact .refl v
def Nt(v:VVm):oG v (wV v).1:=by
 unfold wV
 split
 ·exact⟨rfl,rfl,(ke _ _ _).up (by omega),fun a b=>⟨a,b⟩,fun _=>⟨by simp[tp],.inr rfl⟩,id,id,fun a b=>⟨a,b⟩,fun a b=>⟨a,b⟩⟩
 exact .refl v
def I2{n:Int}(h:ab n):W64 n=n:=by unfold W64;rw[bB];exact cT n h
def Cs(v:VVm)(q:u4)(h:¬16<=(v.req.length:Int)):oG v (BD v q) :=
 ⟨rfl,rfl,.refl _ _,fun a b=>⟨a,b⟩,id,id,fun _=>by simp only[BD,List.length_append,List.length_singleton];omega,fun a b=>⟨a,b⟩,fun a b=>⟨a,b⟩⟩
def Ef(v:VVm)(x:List Int):oG v (jo v x).1:=by
 unfold jo;split
 ·exact .refl v
 rename_i h;exact Cs v _ h
def J4(v:VVm)(x:List Int):oG v (jJ v x).1:=by
 unfold jJ;split
 ·exact .refl v
 split
 ·exact .refl v
 rename_i h;exact Cs v _ h
def xr(k:Int)(v:VVm)(x:List Int):oG v (dk k v x).1:=by
 unfold dk;split
 ·exact .refl v
 split
 ·exact .refl v
 split
 ·exact .refl v
 rename_i h
 split
 ·exact .refl v
 rename_i hw
 refine⟨rfl,rfl,.refl _ _,fun a b=>⟨a,b⟩,id,id,fun _=>by simp only[BD,List.length_append,List.length_singleton];omega,fun a b=>?_,fun a b=>?_⟩
 ·simp only
  rw[I2 (by unfold ab;omega)]
  have:v.free≠0:=fun h=>hw (.inl h)
  omega
 simp only
 rw[I2 (by unfold ab;omega)]
 have:v.next≠4611686018427387904:=fun h=>hw (.inr h)
 omega
def Hr(v:VVm)(x:List Int):dy v.mem (ro v x).1 1:=by
 unfold ro;split
 ·exact cM _ _ _
 exact .refl _ _
def DW(v:VVm)(x:List Int):dy v.mem (oe v x).1 2:=by
 unfold oe;split
 ·exact(cM _ _ _).trans (cM _ _ _)
 exact(cM _ _ _).up (by omega)
def iF{v:VVm}{r:bf×Int}{k:Nat}(h:dy v.mem r.1 k)(hk:k<=2):oG v (di v r).1:=Nc h hk
def ew(l:List Int):Prop:=∀a∈l,ab a
def bA:ew []:=fun a h=>by simp at h
def cU{a:Int}(h:ab a):ew [a]:=fun b hb=>by simp at hb;subst hb;exact h
def gG{a b:Int}(h:ab a)(g:ab b):ew [a,b]:=fun c hc=>by simp at hc;rcases hc with rfl|rfl;exact h;exact g
def KF(v:VVm)(r:VVm×List Int×Int):Prop:=oG v r.1/\ew r.2.1
def vC{x:List Int}(h:ew x)(i:Nat):ab (xat x i):=XOk.fit (k:=0) ⟨Nat.zero_le _,h⟩ i
def aj{α:Type}{c:Prop}[Decidable c]{a r:α}{b:Option α}(h:(if c then some a else b)=some r):a=r\/b=some r:=by
 by_cases hc:c
 ·rw[if_pos hc]at h;exact .inl (Option.some.inj h)
 rw[if_neg hc]at h;exact .inr h
def nz{α:Type}{P:α->Prop}{c:Prop}[Decidable c]{a b:α}(h1:P a)(h2:P b):P (if c then a else b):=by
 by_cases hc:c
 ·rw[if_pos hc];exact h1
 rw[if_neg hc];exact h2
def IO{name:Str}{x:List Int}{r:List Int×Int}(hx:ew x)(h:qs name x=some r):ew r.1:=by
 have f:=vC hx
 unfold qs at h
 rcases aj h with rfl|h
 ·exact gG (xZ (f 1)).2 (xZ (f 1)).1
 rcases aj h with rfl|h
 ·exact cU (rA (f 2)).1
 rcases aj h with rfl|h
 ·exact gG (rA (f 2)).2 (rA (f 2)).1
 rcases aj h with rfl|h
 ·exact gG (Gp _) (Gp _)
 rcases aj h with rfl|h
 ·exact gG (zk (f 0) (f 1)).1 (zk (f 0) (f 1)).2
 rcases aj h with rfl|h
 ·exact gG uF.2 uF.1
 rcases aj h with rfl|h
 ·exact gG (Fp (f 2)).2 (Fp (f 2)).1
 rcases aj h with rfl|h
 ·exact gG (rA (f 2)).2 (rA (f 2)).1
 rcases aj h with rfl|h
 ·exact gG (f 0) (vI _)
 rcases aj h with rfl|h
 ·exact cU (vI _)
 rcases aj h with rfl|h
 ·exact cU (by unfold ab;omega)
 rcases aj h with rfl|h
 ·exact cU (by unfold ab;omega)
 rcases aj h with rfl|h
 ·exact cU (by unfold ab;omega)
 rcases aj h with rfl|h
 ·exact cU (by unfold ab;omega)
 rcases aj h with rfl|h
 ·exact cU (by unfold ab;omega)
 cases h
def MO{v:VVm}{name:Str}{x:List Int}{r:VVm×List Int×Int}(hx:ew x)(h:pY v name x=some r):KF v r:=by
 have f:=vC hx
 unfold pY at h
 rcases aj h with rfl|h
 ·exact⟨.refl v,cU (sL _ _)⟩
 rcases aj h with rfl|h
 ·exact⟨.refl v,cU (zA _ _)⟩
 rcases aj h with rfl|h
 ·exact⟨iF (cM _ _ _) (by omega),bA⟩
 rcases aj h with rfl|h
 ·exact⟨iF (ke _ _ _) (by omega),bA⟩
 rcases aj h with rfl|h
 ·exact⟨iF (Hr _ _) (by omega),bA⟩
 rcases aj h with rfl|h
 ·unfold kK;split
  ·exact⟨.refl v,gG (sL _ _) (sL _ _)⟩
  exact⟨.refl v,bA⟩
 rcases aj h with rfl|h
 ·exact⟨iF (DW _ _) (by omega),bA⟩
 rcases aj h with rfl|h
 ·exact⟨iF (Ib _ _ _ _) (by omega),bA⟩
 rcases aj h with rfl|h
 ·exact⟨iF (J5 _ _ _ _) (by omega),bA⟩
 rcases aj h with rfl|h
 ·exact⟨.refl v,gG (pI _) (zA _ _)⟩
 rcases aj h with rfl|h
 ·exact⟨iF (cM _ _ _) (by omega),bA⟩
 rcases aj h with rfl|h
 ·exact⟨iF (cM _ _ _) (by omega),bA⟩
 rcases aj h with rfl|h
 ·unfold gB;split
  ·exact⟨iF (cM _ _ _) (by omega),bA⟩
  exact⟨.refl v,bA⟩
 rcases aj h with rfl|h
 ·unfold iY;split
  ·exact⟨iF (cM _ _ _) (by omega),bA⟩
  exact⟨.refl v,bA⟩
 cases h
def Jk{v:VVm}{x:List Int}(h0:1368<=v.here)(h1:v.here<=v.mem.b.length):1368<=(tH v x).2.1/\(tH v x).2.1<=v.mem.b.length:=by
 unfold tH lR
 simp only
 split<;>simp only<;>omega
def RH{v:VVm}{name:Str}{x:List Int}{r:VVm×List Int×Int}(h:t6 v name x=some r):KF v r:=by
 unfold t6 at h
 rcases aj h with rfl|h
 ·exact⟨qG (.refl _ _) (fun a b=>Jk a b),bA⟩
 rcases aj h with rfl|h
 ·refine⟨qG ?_ ?_,bA⟩
  ·unfold bW;split
   ·exact gR _
   exact .refl _ _
  unfold bW;split
  ·exact fun a b=>iu _ a b
  exact fun a b=>⟨a,b⟩
 rcases aj h with rfl|h
 ·exact⟨qG (gR _) (fun a b=>iu _ a b),bA⟩
 rcases aj h with rfl|h
 ·exact⟨qG (gR _) (fun a b=>iu _ a b),bA⟩
 cases h
def Qz(v:VVm)(r:Str×Int):KF v (dm v r):=⟨G2 v r,by unfold dm;split<;>exact bA⟩
def Ue{v:VVm}{name:Str}{x:List Int}{r:VVm×List Int×Int}(hx:ew x)(hc : -100<=v.conf.mem/\v.conf.mem<=100000)(hp:v.pic.b.length<=1000000)(h:zX v name x=some r):KF v r:=by
 have f:=vC hx
 unfold zX at h
 rcases aj h with rfl|h
 ·exact⟨pd (fun _=>⟨by simp,.inl rfl⟩),bA⟩
 rcases aj h with rfl|h
 ·exact⟨pd (rT _ _ _),gG (Cg (f 0) (f 1)).1 (Cg (f 0) (f 1)).2⟩
 rcases aj h with rfl|h
 ·exact⟨pd (Ni _ _ _),gG jy jy⟩
 rcases aj h with rfl|h
 ·exact⟨pd (tJ _),bA⟩
 rcases aj h with rfl|h
 ·exact⟨pd (Jq _),bA⟩
 rcases aj h with rfl|h
 ·refine⟨Nt v,?_⟩
  unfold wV;split
  ·have:=zj v.pic
   exact gG (pI _) (by unfold ab;omega)
  exact bA
 cases h
def Zg{v:VVm}{name:Str}{x:List Int}{r:VVm×List Int×Int}(hn:ab v.next)(h:zP v name x=some r):KF v r:=by
 unfold zP at h
 have ht:∀k,ew (dk k v x).2.1:=fun k=>by unfold dk;split;exact bA;split;exact bA;split;exact bA;split;exact bA;exact cU hn
 rcases aj h with rfl|h
 ·exact⟨J4 _ _,by unfold jJ;split;exact bA;split<;>exact bA⟩
 rcases aj h with rfl|h
 ·exact⟨Ef _ _,by unfold jo;split<;>exact bA⟩
 rcases aj h with rfl|h
 ·exact⟨xr _ _ _,ht _⟩
 rcases aj h with rfl|h
 ·exact⟨xr _ _ _,ht _⟩
 cases h
def WF{v:VVm}{name:Str}{x:List Int}(hh:ab v.here/\ab v.arg/\ab v.self/\ab v.now):KF v (GE v name x):=by
 unfold GE
 split
 ·exact⟨.refl v,cU hh.1⟩
 split
 ·exact⟨.refl v,cU hh.2.1⟩
 split
 ·exact⟨.refl v,cU hh.2.2.1⟩
 split
 ·exact⟨.refl v,cU hh.2.2.2⟩
 split
 ·unfold va;split
  ·exact⟨.refl v,bA⟩
  exact⟨.refl v,cU (pI _)⟩
 exact⟨.refl v,bA⟩
structure uX (N:Nat) (v:VVm):Prop where
 right:ES v=true
 old:v.mem.old.length<=N
 d:ew v.d
 ints:ab v.arg/\ab v.self/\ab v.now
structure yy (v:VVm):Prop where
 fV:dW v.conf
 mem:lK v.mem=true
 dict:ib v.dict=true
 pic:dV v.pic
 len:(v.mem.b.length:Int)=v.conf.mem
 ju:1368<=v.here
 jx:v.here<=v.conf.mem
 f:v.f.all pT=true
 hand:v.hand.all EP=true
 d:(v.d.length:Int)<=v.conf.data
 r:(v.r.length:Int)<=v.conf.ret
 fl:v.f.length<=64
 dl:(v.dict.length:Int)<=v.conf.words
 out:(v.out.length:Int)<=v.conf.out
 req:v.req.length<=16
 free0:0<=v.free
 free1:v.free<=64
 next0:0<=v.next
 next1:v.next<=4611686018427387904
 handl:v.hand.length<=64
def lB(v:VVm):ES v=true↔yy v:=by
 unfold ES To OU
 simp only[Bool.and_eq_true,decide_eq_true_eq]
 constructor
 ·rintro⟨⟨a1,a2,a3,a4,a5,a6,a7⟩,a8,a9,a10,a11,a12,a13,a14,a15,a16,a17,a18,a19,a20⟩
  exact⟨a1,a2,a3,a4,a5,a6,a7,a8,a9,a10,a11,a12,a13,a14,a15,a16,a17,a18,a19,a20⟩
 rintro⟨a1,a2,a3,a4,a5,a6,a7,a8,a9,a10,a11,a12,a13,a14,a15,a16,a17,a18,a19,a20⟩
 exact⟨⟨a1,a2,a3,a4,a5,a6,a7⟩,a8,a9,a10,a11,a12,a13,a14,a15,a16,a17,a18,a19,a20⟩
def K3{v:VVm}{n:Int}{name:Str}{x:List Int}{N:Nat}(g:uX N v)(hx:ew x):KF v (bM v n name x):=by
 have R:=(lB v).1 g.right
 have f:=vC hx
 have hm:=R.fV
 unfold dW at hm
 unfold bM
 split
 ·exact⟨.refl v,cU (OV _ (f 0) (f 1))⟩
 split
 ·exact⟨.refl v,cU (O5 _ (f 0))⟩
 cases h1:qs name x with
 | some r=>exact⟨.refl v,IO hx h1⟩
 | none =>
  cases h2:pY v name x with
  | some r=>exact MO hx h2
  | none =>
   cases h3:t6 v name x with
   | some r=>exact RH h3
   | none =>
    cases h4:Fl v name x with
    | some r=>exact Qz v r
    | none =>
     cases h5:zX v name x with
     | some r=>exact Ue hx (by omega) (by have:=R.pic.1;omega) h5
     | none =>
      cases h6:zP v name x with
      | some r=>exact Zg (by have:=R.next0;have:=R.next1;unfold ab;omega) h6
      | none=>exact WF ⟨by have:=R.ju;have:=R.jx;unfold ab;omega,g.ints⟩
def Pk{name:Str}{x:List Int}{d:Nat}(hx:ew x)(hd:d<=100000):ew (yF name x d):=by
 have f:=vC hx
 have hq:∀l:List Int,(∀a∈l,a∈x\/(∃i,a=xat x i)\/a=d)->ew l:=fun l h a ha=>by
  rcases h a ha with h|⟨i,rfl⟩|rfl
  ·exact hx a h
  ·exact f i
  unfold ab;omega
 unfold yF
 refine nz (P:=ew) (hq _ fun a ha=>by simp only[List.mem_cons,List.not_mem_nil,or_false]at ha;rcases ha with rfl|rfl<;>exact .inr (.inl ⟨_,rfl⟩)) ?_
 refine nz (P:=ew) (hq _ fun a ha=>by simp only[List.mem_cons,List.not_mem_nil,or_false]at ha;rcases ha with rfl|rfl<;>exact .inr (.inl ⟨_,rfl⟩)) ?_
 refine nz (P:=ew) (hq _ fun a ha=>by simp only[List.mem_cons,List.not_mem_nil,or_false]at ha;rcases ha with rfl|rfl|rfl<;>exact .inr (.inl ⟨_,rfl⟩)) ?_
 refine nz (P:=ew) (hq _ fun a ha=>by simp only[List.mem_cons,List.not_mem_nil,or_false]at ha;subst ha;exact .inr (.inl ⟨_,rfl⟩)) ?_
 refine nz (P:=ew) (hq _ fun a ha=>by simp only[List.mem_cons,List.not_mem_nil,or_false]at ha;rcases ha with rfl|rfl|rfl<;>exact .inr (.inl ⟨_,rfl⟩)) ?_
 refine nz (P:=ew) (hq _ fun a ha=>by simp only[List.mem_cons,List.not_mem_nil,or_false]at ha;rcases ha with rfl|rfl|rfl<;>exact .inr (.inl ⟨_,rfl⟩)) ?_
 refine nz (P:=ew) (hq _ fun a ha=>by simp only[List.mem_cons,List.not_mem_nil,or_false]at ha;rcases ha with rfl|rfl|rfl<;>exact .inr (.inl ⟨_,rfl⟩)) ?_
 refine nz (P:=ew) (hq _ fun a ha=>by simp only[List.mem_cons,List.not_mem_nil,or_false]at ha;rcases ha with rfl|rfl|rfl|rfl<;>exact .inr (.inl ⟨_,rfl⟩)) ?_
 refine nz (P:=ew) (hq _ fun a ha=>by simp only[List.mem_cons,List.not_mem_nil,or_false]at ha;rcases ha with rfl|rfl|rfl|rfl<;>exact .inr (.inl ⟨_,rfl⟩)) ?_
 refine nz (P:=ew) (hq _ fun a ha=>by simp only[List.mem_cons,List.not_mem_nil,or_false]at ha;rcases ha with rfl|rfl|rfl|rfl|rfl|rfl<;>exact .inr (.inl ⟨_,rfl⟩)) ?_
 refine nz (P:=ew) (nz (P:=ew) hx (hq _ fun a ha=>by simp only[List.mem_cons,List.not_mem_nil,or_false]at ha;rcases ha with rfl|rfl<;>exact .inr (.inl ⟨_,rfl⟩))) ?_
 refine nz (P:=ew) (hq _ fun a ha=>by simp only[List.mem_cons,List.not_mem_nil,or_false]at ha;exact .inr (.inr ha)) ?_
 refine nz (P:=ew) (hq _ fun a ha=>by rcases List.mem_append.1 ha with h|h;exact .inl (List.mem_of_mem_take h);exact .inr (.inl ⟨_,List.mem_singleton.1 h⟩)) ?_
 refine nz (P:=ew) (hq _ fun a ha=>by rcases List.mem_append.1 ha with h|h;exact .inl (List.mem_of_mem_take (List.mem_of_mem_drop h));exact .inr (.inl ⟨_,List.mem_singleton.1 h⟩)) ?_
 exact bA
def Gd{name:Str}{s:List Int}{limit:Int}(hs:ew s)(hl:s.length<=100000):ew (dz name s limit).1:=by
 unfold dz
 split
 ·exact hs
 split
 ·exact hs
 split
 ·exact hs
 intro a ha
 rcases List.mem_append.1 ha with ha|ha
 ·exact hs a (List.mem_of_mem_take ha)
 exact Pk (fun b hb=>hs b (List.mem_of_mem_drop hb)) hl a ha
def GQ{name:Str}{s:List Int}{limit:Int}(hs:(s.length:Int)<=limit):((dz name s limit).1.length:Int)<=limit:=by
 unfold dz
 split
 ·exact hs
 split
 ·exact hs
 split
 ·exact hs
 rename_i h;simp only[List.length_append,List.length_take];omega
def Ho{v:VVm}{n:Int}{N:Nat}(g:uX N v):CF v (doS v n).1=v:=by
 by_cases h:n<23\/129<n
 ·unfold doS;rw[if_pos h];rfl
 by_cases h1:n<=38
 ·unfold doS;rw[if_neg h];simp only;rw[if_pos h1];rfl
 rw[aJ (by omega) (by omega)]
 unfold doR
 split
 ·rfl
 split
 ·rfl
 split
 ·rfl
 exact(K3 g (fun a ha=>g.d a (List.mem_of_mem_drop ha))).1.same
def w8{v v':VVm}{d:List Int}(R:yy v)(K:oG v v')(hd:(d.length:Int)<=v.conf.data):yy {v' with d:=d}:=by
 have s:=K.same
 unfold CF at s
 have e1:v'.conf=v.conf:=by rw[<-s]
 have e2:v'.dict=v.dict:=by rw[<-s]
 have e3:v'.f=v.f:=by rw[<-s]
 have e4:v'.hand=v.hand:=by rw[<-s]
 have e5:v'.r=v.r:=by rw[<-s]
 have h1:=K.here R.ju (by have:=R.jx;have:=R.len;omega)
 have h2:=K.free R.free0 R.free1
 have h3:=K.next R.next0 R.next1
 have hl:=K.mem.len
 have hl2:=R.len
 exact⟨by rw[e1];exact R.fV,K.mem.right R.mem,by rw[e2];exact R.dict,K.pic R.pic,by simp only[e1];rw[hl];exact hl2,h1.1,by simp only[e1];omega,by rw[e3];exact R.f,by rw[e4];exact R.hand,by simp only[e1];exact hd,by simp only[e1,e5];exact R.r,by rw[e3];exact R.fl,by simp only[e1,e2];exact R.dl,by simp only[e1];exact K.out R.out,K.req R.req,h2.1,h2.2,h3.1,h3.2,by rw[e4];exact R.handl⟩
def PI{v:VVm}{n:Int}{N:Nat}(g:uX N v):uX (N+2) (doS v n).1:=by
 have R:=(lB v).1 g.right
 have hc:=R.fV
 unfold dW at hc
 have hdl:=R.d
 have stay:uX (N+2) v:=⟨g.right,by have:=g.old;omega,g.d,g.ints⟩
 by_cases h:n<23\/129<n
 ·unfold doS;rw[if_pos h];exact stay
 by_cases h1:n<=38
 ·unfold doS;rw[if_neg h];simp only;rw[if_pos h1]
  refine⟨(lB _).2 (w8 R (.refl v) (GQ R.d)),by show v.mem.old.length<=_;have:=g.old;omega,Gd g.d (by omega),g.ints⟩
 rw[aJ (by omega) (by omega)]
 have K:=K3 (n:=n) (name:=aq.getD n.toNat []) g (x:=v.d.drop (v.d.length-bj n (aq.getD n.toNat []))) (fun a ha=>g.d a (List.mem_of_mem_drop ha))
 generalize bM v n (aq.getD n.toNat []) (v.d.drop (v.d.length-bj n (aq.getD n.toNat [])))=r at K ⊢
 unfold doR
 split
 ·exact stay
 split
 ·exact stay
 split
 ·exact stay
 rename_i q0 q1 q2
 have s:=K.1.same
 unfold CF at s
 refine⟨(lB _).2 (w8 R K.1 (by simp only[List.length_append,List.length_take];omega)),?_,fun a ha=>?_,?_⟩
 ·have:=K.1.mem.old;have:=g.old;show _<=_;simp only;omega
 ·rcases List.mem_append.1 ha with ha|ha
  ·exact g.d a (List.mem_of_mem_take ha)
  exact K.2 a ha
 have a1:r.1.arg=v.arg:=by have h:=congrArg VVm.arg K.1.same;exact h
 have a2:r.1.self=v.self:=by have h:=congrArg VVm.self K.1.same;exact h
 have a3:r.1.now=v.now:=by have h:=congrArg VVm.now K.1.same;exact h
 simp only[a1,a2,a3]
 exact g.ints
def Vs{v:VVm}{N:Nat}(g:uX N v)(hN:N<=900000):dn v:=by
 have R:=(lB v).1 g.right
 have hc:=R.fV
 unfold dW at hc
 have h1:=R.len
 have h2:=g.old
 have h3:=R.ju
 have h4:=R.jx
 have h5:=R.out
 have h6:=R.pic.1
 have h7:=R.req
 have h8:=R.handl
 have h9:=R.d
 exact⟨⟨by omega,by omega⟩,by omega,⟨by omega,by omega⟩,by omega,by omega,by omega,by omega,by omega,by omega,g.d,by unfold ab;omega⟩
structure VX (M:Nat) (v:VVm):Prop where
 b:v.mem.b.length<=65536
 old:v.mem.old.length<=M
 d:v.d.length<=300
 r:v.r.length<=300
 f:v.f.length<=300
 fd:ew v.d
 fr:ew v.r
 ff:∀x∈v.f,ab x.ip
 data:0<=v.conf.data/\v.conf.data<=256
 ret:0<=v.conf.ret/\v.conf.ret<=256
 la:ab v.last
structure KX (M:Nat) (k:PW):Prop where
 v:VX M k.r.vm
 ip:ab k.r.ip
 w:ab k.r.w
def VX.mem{M:Nat}{v:VVm}(h:VX M v)(hM:M<=1000000):cy v.mem:=⟨by have:=h.b;omega,by have:=h.old;omega⟩
def VX.up{M N:Nat}{v:VVm}(h:VX M v)(hM:M<=N):VX N v:=⟨h.b,by have:=h.old;omega,h.d,h.r,h.f,h.fd,h.fr,h.ff,h.data,h.ret,h.la⟩
def KX.up{M N:Nat}{k:PW}(h:KX M k)(hM:M<=N):KX N k:=⟨h.v.up hM,h.ip,h.w⟩
def KX.la{M:Nat}{k:PW}(h:KX M k):ab k.r.vm.last:=h.v.la
def FC{M:Nat}{v:VVm}(h:VX M v):ab v.conf.data/\ab v.conf.ret:=by
 have:=h.data;have:=h.ret;unfold ab;omega
def bt:ab 0:=by unfold ab;omega
def i9{a b:List Int}(h:ew a)(k:ew b):ew (a++b):=fun x hx=>by
 rcases List.mem_append.1 hx with hx|hx
 ·exact h x hx
 exact k x hx
def m6{a:List Int}(n:Nat)(h:ew a):ew (a.take n):=fun x hx=>h x (List.mem_of_mem_take hx)
def uJ{a:List Int}(h:ew a)(i:Nat):ab (a.getD i 0):=by
 rw[List.getD_eq_getElem?_getD]
 rcases e:a[i]? with _|x
 ·exact bt
 exact h x (List.mem_of_getElem? e)
def cR(n:Int):ab (W64 n):=by
 show ab (IntKind.i64.wrap n)
 rw[bB];exact ic n
def Gg(m:bf)(a:Int):ab (an m a).1:=by
 unfold an;split
 ·unfold Ik;exact ic _
 exact bt
section
variable {M : Nat} {v : VVm}
def UY(h:VX M v){n:Int}(hn:ab n):VX M (gD v n).1:=by
 unfold gD gn
 by_cases q:v.conf.data<=(v.d.length:Int)
 ·simp only[if_pos q];exact h
 simp only[if_neg q]
 exact⟨h.b,h.old,by have:=h.data;simp only[List.length_append,List.length_singleton];omega,h.r,h.f,i9 h.fd (cU hn),h.fr,h.ff,h.data,h.ret,h.la⟩
def Pc(h:VX M v){n:Int}(hn:ab n):VX M (ga v n).1:=by
 unfold ga
 by_cases q:v.conf.ret<=(v.r.length:Int)
 ·simp only[if_pos q];exact h
 simp only[if_neg q]
 exact⟨h.b,h.old,h.d,by have:=h.ret;simp only[List.length_append,List.length_singleton];omega,h.f,h.fd,i9 h.fr (cU hn),h.ff,h.data,h.ret,h.la⟩
def Ej(h:VX M v):VX M (dO v).2.1/\ab (dO v).1:=by
 unfold dO bk
 by_cases q:v.d.length=0
 ·simp only[if_pos q];exact⟨h,bt⟩
 simp only[if_neg q]
 exact⟨⟨h.b,h.old,by have:=h.d;simp only[List.length_take];omega,h.r,h.f,m6 _ h.fd,h.fr,h.ff,h.data,h.ret,h.la⟩,uJ h.fd _⟩
def Dr(h:VX M v):VX M (eS v).2.1/\ab (eS v).1:=by
 unfold eS
 by_cases q:v.r.length=0
 ·simp only[if_pos q];exact⟨h,bt⟩
 simp only[if_neg q]
 exact⟨⟨h.b,h.old,h.d,by have:=h.r;simp only[List.length_take];omega,h.f,h.fd,m6 _ h.fr,h.ff,h.data,h.ret,h.la⟩,uJ h.fr _⟩
def TQ(h:VX M v)(a n:Int):VX (M+1) (r6 v (aH v.mem a n).1):=by
 have k:=cM v.mem a n
 exact⟨by show(aH v.mem a n).1.b.length<=_;rw[k.len];exact h.b,by show(aH v.mem a n).1.old.length<=_;have:=k.old;have:=h.old;omega,h.d,h.r,h.f,h.fd,h.fr,h.ff,h.data,h.ret,h.la⟩
end
section
variable {M : Nat} {k : PW}
def ot(h:KX M k){v:VVm}(hv:VX M v)(e:Int):KX M (pOk k v e):=by
 unfold pOk
 split
 ·split
  ·exact⟨hv,h.ip,h.w⟩
  exact⟨h.v,h.ip,h.w⟩
 exact h
def uM(h:KX M k){n:Int}(hn:ab n):KX M (db k n):=ot h (UY h.v hn) _
def uE(h:KX M k){n:Int}(hn:ab n):KX M (iZ k n):=ot h (Pc h.v hn) _
def i4(h:KX M k):KX M (aY k).1/\ab (aY k).2 :=
 ⟨ot h (Ej h.v).1 _,by unfold aY;dsimp only;split;exact(Ej h.v).2;exact bt⟩
def iM(h:KX M k):KX M (fT k).1/\ab (fT k).2 :=
 ⟨ot h (Dr h.v).1 _,by unfold fT;dsimp only;split;exact(Dr h.v).2;exact bt⟩
def gK(h:KX M k)(a:Int):KX M (bq k a).1/\ab (bq k a).2:=⟨ot h h.v _,Gg _ _⟩
def vh(h:KX M k)(a n:Int):KX (M+1) (mi k a n):=ot (h.up (by omega)) (TQ h.v a n) _
def YA(h:KX M k){a:Int}(ha:ab a):KX M (wIp k a):=⟨h.v,ha,h.w⟩
def pR(h:KX M k)(n:Nat):KX M (cn k n).1/\ab (cn k n).2:=by
 unfold cn;split
 ·exact⟨ot h h.v _,bt⟩
 exact⟨h,uJ h.v.fr _⟩
def OD(h:KX M k)(h0:¬k.r.vm.f.length=0):KX M {k with r:={k.r with ip:=(k.r.vm.f.getD (k.r.vm.f.length-1) default).ip,vm:={k.r.vm with f:=k.r.vm.f.take (k.r.vm.f.length-1)}}} :=
 ⟨⟨h.v.b,h.v.old,h.v.d,h.v.r,by have:=h.v.f;simp only[List.length_take];omega,h.v.fd,h.v.fr,fun x hx=>h.v.ff x (List.mem_of_mem_take hx),h.v.data,h.v.ret,h.v.la⟩,
  h.v.ff _ (by rw[List.getD_eq_getElem?_getD,List.getElem?_eq_getElem (by omega)];exact List.getElem_mem _),h.w⟩
def U4(h:KX M k):KX (M+2) (mb k):=by
 unfold mb;split
 ·exact ot (h.up (by omega)) (h.v.up (by omega)) _
 exact vh (vh h _ _) _ _
def Fg(i l n:Int):ab (nH i l n).1:=cR _
end
open Go.RowKit
section
variable (a : Addr) (k : PW) {M : Nat} (h : KX M k) (hM : M <= 900000)
include h
theorem jQ(n:Int):∀(H:List Ob) (i:Nat),H[i]?=some (.cells (cPW a k) 197)->HC prog 163 (.ptr i 0::[i64 n]) H (.tup []) (H.set i (.cells (cPW a (db k n)) 197)):=by
 refine zM func163 fun B=>?_
 refine aa rfl ?_
 refine zy5 ?_
 refine zy2 ?_
 refine zc rfl func82 ((K7 k.r.vm n (by have:=h.v.d;omega) (FC h.v).1) _) ?_
 refine zy2 ?_
 refine zc rfl func161 ((qQ a k _ _) _ _ rfl) ?_
 refine Wn<|bg rfl rfl ?_ ?_
 ·rfl
 rfl
theorem lH(n:Int):∀(H:List Ob) (i:Nat),H[i]?=some (.cells (cPW a k) 197)->HC prog 162 (.ptr i 0::[i64 n]) H (.tup []) (H.set i (.cells (cPW a (iZ k n)) 197)):=by
 refine zM func162 fun B=>?_
 refine aa rfl ?_
 refine zy5 ?_
 refine zy2 ?_
 refine zc rfl func197 ((SU k.r.vm n (by have:=h.v.r;omega) (FC h.v).2) _) ?_
 refine zy2 ?_
 refine zc rfl func161 ((qQ a k _ _) _ _ rfl) ?_
 refine Wn<|bg rfl rfl ?_ ?_
 ·rfl
 rfl
theorem oC:∀(H:List Ob) (i:Nat),H[i]?=some (.cells (cPW a k) 197)->HC prog 206 (.ptr i 0::[]) H (i64 (aY k).2) (H.set i (.cells (cPW a (aY k).1) 197)):=by
 refine zM func206 fun B=>?_
 refine zu1 ?_
 refine zp5 ?_
 refine zc rfl func211 ((Rc k.r.vm (by have:=h.v.d;omega)) _) ?_
 refine zy5 ?_
 refine zs3 ?_
 refine Ws<|zp3 ?_
 refine zc rfl func161 ((qQ a k _ _) _ _ rfl) ?_
 refine zs1 ?_
 refine Wi rfl (fun hi1=>?_) (fun hi1=>?_)
 ·refine zu1 ?_
  refine Wq<|jU rfl rfl ?_ ?_
  ·exact congrArg i64 (by unfold aY;dsimp only;rw[if_neg (by simpa using hi1)])
  rfl
 refine Wj<|zu2 ?_
 refine Wq<|jU rfl rfl ?_ ?_
 ·exact congrArg i64 (by unfold aY;dsimp only;rw[if_pos (by simpa using hi1)])
 rfl
theorem qL:∀(H:List Ob) (i:Nat),H[i]?=some (.cells (cPW a k) 197)->HC prog 204 (.ptr i 0::[]) H (i64 (fT k).2) (H.set i (.cells (cPW a (fT k).1) 197)):=by
 refine zM func204 fun B=>?_
 refine zu1 ?_
 refine zp5 ?_
 refine zc rfl func254 ((Vh k.r.vm (by have:=h.v.r;omega)) _) ?_
 refine zy5 ?_
 refine zs3 ?_
 refine Ws<|zp3 ?_
 refine zc rfl func161 ((qQ a k _ _) _ _ rfl) ?_
 refine zs1 ?_
 refine Wi rfl (fun hi1=>?_) (fun hi1=>?_)
 ·refine zu1 ?_
  refine Wq<|jU rfl rfl ?_ ?_
  ·exact congrArg i64 (by unfold fT;dsimp only;rw[if_neg (by simpa using hi1)])
  rfl
 refine Wj<|zu2 ?_
 refine Wq<|jU rfl rfl ?_ ?_
 ·exact congrArg i64 (by unfold fT;dsimp only;rw[if_pos (by simpa using hi1)])
 rfl
theorem jL(at_:Int)(ha:ab at_):∀(H:List Ob) (i:Nat),H[i]?=some (.cells (cPW a k) 197)->HC prog 116 (.ptr i 0::[i64 at_]) H (i64 (bq k at_).2) (H.set i (.cells (cPW a (bq k at_).1) 197)):=by
 refine zM func116 fun B=>?_
 refine zu1 ?_
 refine zp5 ?_
 refine zy2 ?_
 refine zc rfl func39 ((fX k.r.vm.mem at_ (by have:=h.v.b;omega) ha) _) ?_
 refine zs5 ?_
 refine zp5 ?_
 refine zy2 ?_
 refine zc rfl func161 ((qQ a k _ _) _ _ rfl) ?_
 refine Wn<|zu2 ?_
 refine Wq<|jU rfl rfl ?_ ?_
 ·rfl
 rfl
theorem yf(at_ n:Int)(ha:ab at_)(hM2:M<=990000):∀(H:List Ob) (i:Nat),H[i]?=some (.cells (cPW a k) 197)->HC prog 253 (.ptr i 0::[i64 at_,i64 n]) H (.tup []) (H.set i (.cells (cPW a (mi k at_ n)) 197)):=by
 refine zM func253 fun B=>?_
 refine zp5 ?_
 refine zy3 ?_
 refine zc rfl func92 ((jm k.r.vm.mem at_ n (h.v.mem (by omega)) ha) _) ?_
 refine zy5 ?_
 refine zs1 ?_
 refine zp5 ?_
 refine zs2 ?_
 refine zu3 ?_
 refine aa rfl ?_
 refine zy3 ?_
 refine zc rfl func161 ((qQ a k (r6 k.r.vm (aH k.r.vm.mem at_ n).1) _) _ _ rfl) ?_
 refine Wn<|bg rfl rfl ?_ ?_
 ·rfl
 rfl
omit h in
theorem tW(xt:Int):∀(H:List Ob) (i:Nat),H[i]?=some (.cells (cPW a k) 197)->HC prog 198 (.ptr i 0::[i64 xt]) H (.tup []) (H.set i (.cells (cPW a (uP k xt)) 197)):=by
 refine zM func198 fun B=>?_
 refine aa rfl ?_
 refine zy5 ?_
 refine z1 ?_
 refine dh (zs:=cPW a ({k with r:={k.r with w:=xt}})) (lO tG rfl) rfl rfl rfl rfl rfl rfl rfl rfl rfl rfl rfl ?_
 refine zy3 ?_
 refine dh (zs:=cPW a (uP k xt)) (lO tG rfl) rfl rfl rfl rfl rfl rfl rfl rfl rfl rfl rfl ?_
 refine Wn<|bg rfl rfl ?_ ?_
 ·rfl
 rfl
theorem wS(n:Nat)(hn:n<=10):∀(H:List Ob) (i:Nat),H[i]?=some (.cells (cPW a k) 197)->HC prog 255 (.ptr i 0::[i64 (n:Int)]) H (i64 (cn k n).2) (H.set i (.cells (cPW a (cn k n).1) 197)):=by
 have hr:=h.v.r
 have w1:IntKind.i64.wrap (IntKind.i64.wrap ((k.r.vm.r.length:Int)-1)-(n:Int))=(k.r.vm.r.length:Int)-1-(n:Int):=by
  have w0:IntKind.i64.wrap ((k.r.vm.r.length:Int)-1)=(k.r.vm.r.length:Int)-1:=by((rw[bB];unfold wrap64;(try simp only[dnL]at *);omega))
  rw[w0];((rw[bB];unfold wrap64;(try simp only[dnL]at *);omega))
 refine zM func255 fun B=>?_
 refine zu1 ?_
 refine zp5 ?_
 refine zy5 ?_
 refine Wa 15 rfl (zI9 w1) ?_
 refine zs1 ?_
 refine Ws<|zu2 ?_
 refine Wi rfl (fun hi1=>?_) (fun hi1=>?_)
 ·have h0:k.r.vm.r.length<=n:=by(try simp only[dnL]at *);omega
  refine zp5 ?_
  refine z1 ?_
  refine zc rfl func161 ((qQ a k _ _) _ _ rfl) ?_
  refine Wn<|zu1 ?_
  refine Wq<|jU rfl rfl ?_ ?_
  ·rw[cn,if_pos h0];rfl
  rw[cn,if_pos h0]
 have h0:¬k.r.vm.r.length<=n:=by(try simp only[dnL]at *);omega
 have e0:(k.r.vm.r.length:Int)-1-(n:Int)=((k.r.vm.r.length-1-n:Nat):Int):=by omega
 refine Wj<|zp5 ?_
 refine zy2 ?_
 refine Wa 31 rfl (zI9 e0) ?_
 refine Wv tG rfl rfl rfl (by omega) (iN au 1 (fun _=>rfl) 0 (by omega)) ?_
 refine zs2 ?_
 refine Wq<|jU rfl rfl ?_ ?_
 ·rw[cn,if_neg h0];rfl
 rw[cn,if_neg h0]
theorem zz(b:Bool):∀(H:List Ob) (i:Nat),H[i]?=some (.cells (cPW a k) 197)->HC prog 205 (.ptr i 0::[boo b]) H (.tup []) (H.set i (.cells (cPW a (kE k b)) 197)):=by
 cases b with
 | true =>
  refine zM func205 fun B=>?_
  refine Ws<|zu1 ?_
  refine Wt rfl (by rfl) ?_
  refine zp5 ?_
  refine zy2 ?_
  refine zc rfl func116 ((jL a k h _ h.ip) _ _ rfl) ?_
  refine zy3 ?_
  refine dh (zs:=cPW a (kE k true)) (lO tG rfl) rfl rfl rfl rfl rfl rfl rfl rfl rfl rfl rfl ?_
  refine Wn<|Wq<|jU rfl rfl ?_ ?_
  ·rfl
  rfl
 | false =>
  refine zM func205 fun B=>?_
  refine Ws<|zu1 ?_
  refine Wf rfl (by rfl) ?_
  refine Wj<|aa rfl ?_
  refine zy5 ?_
  refine zy4 ?_
  refine dh (zs:=cPW a (kE k false)) (lO tG rfl) rfl rfl rfl rfl rfl rfl rfl rfl rfl rfl rfl ?_
  refine Wn<|bg rfl rfl ?_ ?_
  ·rfl
  rfl
theorem Rq(n:Int):∀(H:List Ob) (i:Nat),H[i]?=some (.cells (cPW a k) 197)->HC prog 207 (.ptr i 0::[i64 n]) H (.tup []) (H.set i (.cells (cPW a (oS k n)) 197)):=by
 have h1:=(pR h 1).1
 have h2:=(pR h1 0).1
 refine zM func207 fun B=>?_
 refine zp1 ?_
 refine zc rfl func255 ((wS a k h 1 (by decide)) _ _ rfl) ?_
 refine zs1 ?_
 refine zp1 ?_
 refine zc rfl func255 ((wS a _ h1 0 (by decide)) _ _ rfl) ?_
 refine zs1 ?_
 refine Ws<|zp3 ?_
 refine Wd rfl rfl (co (lO tG rfl) rfl rfl rfl rfl) ?_
 refine Wd rfl rfl (i3 rfl (by kernel_rfl) rfl (by exact sD _ _)) ?_
 refine Wn<|Wi rfl (fun hi1=>?_) (fun hi1=>?_)
 ·have q1:¬ia (cn (cn k 1).1 0).1.err=true:=by simpa using hi1
  refine Wq<|jU rfl rfl ?_ ?_
  ·rfl
  rw[oS,if_neg q1]
 have q1:ia (cn (cn k 1).1 0).1.err=true:=by simpa using hi1
 refine Wj<|zp3 ?_
 refine zc rfl func256 ((SG _ _ _) _) ?_
 refine zs5 ?_
 refine zp1 ?_
 refine zc rfl func204 ((qL a _ h2) _ _ rfl) ?_
 refine Wn<|Ws<|zu1 ?_
 refine Wi rfl (fun hi2=>?_) (fun hi2=>?_)
 ·have q2:(nH (cn (cn k 1).1 0).2 (cn k 1).2 n).2=true:=hi2
  refine aa rfl ?_
  refine z1 ?_
  refine zc rfl func204 ((qL a _ (iM h2).1) _ _ rfl) ?_
  refine Wn<|aa rfl ?_
  refine zy3 ?_
  refine zc rfl func205 ((zz a _ (by exact(iM (iM h2).1).1) _) _ _ rfl) ?_
  refine Wn<|bg rfl rfl ?_ ?_
  ·rfl
  (rw[oS,if_pos q1,if_pos q2])
 have q2:¬(nH (cn (cn k 1).1 0).2 (cn k 1).2 n).2=true:=by simpa using hi2
 refine aa rfl ?_
 refine zy2 ?_
 refine zc rfl func162 ((lH a _ (iM h2).1 _) _ _ rfl) ?_
 refine Wn<|aa rfl ?_
 refine zy3 ?_
 refine zc rfl func205 ((zz a _ (by exact uE (iM h2).1 (Fg _ _ _)) _) _ _ rfl) ?_
 refine Wn<|bg rfl rfl ?_ ?_
 ·rfl
 (rw[oS,if_pos q1,if_neg q2])
include hM in
theorem ag8:∀(H:List Ob) (i:Nat),H[i]?=some (.cells (cPW a k) 197)->HC prog 203 (.ptr i 0::[]) H (.tup []) (H.set i (.cells (cPW a (mb k)) 197)):=by
 have hM2:M<=990000:=by omega
 have hM3:M+1<=990000:=by omega
 refine zM func203 fun B=>?_
 refine zp5 ?_
 refine zs2 ?_
 refine zp5 ?_
 refine z1 ?_
 refine zc rfl func67 ((qh k.r.vm k.r.vm.last (by have:=h.v.b;omega) h.la) _) ?_
 refine zs5 ?_
 refine Ws<|zp3 ?_
 refine Wb 23 rfl (fun hg1=>?_) (fun hg1=>?_)
 ·refine z6 ?_
  refine z6 ?_
  refine zy2 ?_
  iterate 6 refine z6 ?_
  refine zs1 ?_
  refine Wt rfl rfl ?_
  refine zp5 ?_
  refine z1 ?_
  refine zc rfl func161 ((qQ a k _ _) _ _ rfl) ?_
  refine Wn<|Wq<|jU rfl rfl ?_ ?_
  ·rfl
  rw[mb,if_pos (by(try simp only[dnL]at *);omega)]
 refine zy4 ?_
 refine Wb 27 rfl (fun hg2=>?_) (fun hg2=>?_)
 ·refine z6 ?_
  iterate 5 refine z6 ?_
  refine zs1 ?_
  refine Wt rfl rfl ?_
  refine zp5 ?_
  refine z1 ?_
  refine zc rfl func161 ((qQ a k _ _) _ _ rfl) ?_
  refine Wn<|Wq<|jU rfl rfl ?_ ?_
  ·rfl
  rw[mb,if_pos (by(try simp only[dnL]at *);omega)]
 refine zy3 ?_
 refine Wb 30 rfl (fun hg3=>?_) (fun hg3=>?_)
 ·refine zs4 ?_
  refine Wi rfl (fun hi1=>?_) (fun hi1=>?_)
  ·refine zp5 ?_
   refine z1 ?_
   refine zc rfl func161 ((qQ a k _ _) _ _ rfl) ?_
   refine Wn<|Wq<|jU rfl rfl ?_ ?_
   ·rfl
   rw[mb,if_pos (by(try simp only[dnL]at *);omega)]
  refine Wj<|zp2 ?_
  refine zc rfl func253 ((yf a k h _ _ h.la hM2) _ _ rfl) ?_
  refine Wn<|aa rfl ?_
  refine zy5 ?_
  refine zy3 ?_
  refine zc rfl func253 ((yf a _ (vh h _ _) _ _ (cR _) hM3) _ _ rfl) ?_
  refine Wn<|bg rfl rfl ?_ ?_
  ·rfl
  rw[mb,if_neg (show ¬(k.r.vm.last=0\/(az k.r.vm k.r.vm.last).2≠0\/((az k.r.vm k.r.vm.last).1≠257/\(az k.r.vm k.r.vm.last).1≠259)) by(try simp only[dnL]at *);omega)]
 refine z6 ?_
 refine z6 ?_
 refine zs2 ?_
 refine Wf rfl rfl ?_
 refine Wj<|zp2 ?_
 refine zc rfl func253 ((yf a k h _ _ h.la hM2) _ _ rfl) ?_
 refine Wn<|aa rfl ?_
 refine zy5 ?_
 refine zy3 ?_
 refine zc rfl func253 ((yf a _ (vh h _ _) _ _ (cR _) hM3) _ _ rfl) ?_
 refine Wn<|bg rfl rfl ?_ ?_
 ·rfl
 rw[mb,if_neg (show ¬(k.r.vm.last=0\/(az k.r.vm k.r.vm.last).2≠0\/((az k.r.vm k.r.vm.last).1≠257/\(az k.r.vm k.r.vm.last).1≠259)) by(try simp only[dnL]at *);omega)]
end
end Go.Proofs.YtjcminooghmpeaaGreatDoor
