import Derived.Test.YtjcminooghmpeaaGreatDoorPk8
set_option linter.all false
set_option maxRecDepth 100000
set_option maxHeartbeats 40000000
open Go.Proofs.Tryz
namespace Go.Proofs.YtjcminooghmpeaaGreatDoor
open Go.RowKit
def Ds(v v':VVm):VVm:={v' with mem:=v.mem,here:=v.here,d:=v.d,out:=v.out,pic:=v.pic,req:=v.req,free:=v.free,next:=v.next}
structure ph (v v':VVm):Prop where
 same:Ds v v'=v
 dd:v'.d=v.d
 mem:dP v.mem v'.mem 2
 here:1368<=v.here->v.here<=v.mem.b.length->1368<=v'.here/\v'.here<=v.mem.b.length
 pic:eK v.pic->eK v'.pic
 out:v.out.length<=v.conf.out->v'.out.length<=v.conf.out
 req:v.req.length<=16->v'.req.length<=16
 free:0<=v.free->v.free<=64->0<=v'.free/\v'.free<=64
 next:0<=v.next->v.next<=4611686018427387904->0<=v'.next/\v'.next<=4611686018427387904
def ph.refl(v:VVm):ph v v:=⟨rfl,rfl,.refl _ _,fun a b=>⟨a,b⟩,id,id,id,fun a b=>⟨a,b⟩,fun a b=>⟨a,b⟩⟩
def N4{v:VVm}{m:bn}{k:Nat}(h:dP v.mem m k)(hk:k<=2):ph v (tb v m) :=
 ⟨rfl,rfl,h.up hk,fun a b=>⟨a,b⟩,id,id,id,fun a b=>⟨a,b⟩,fun a b=>⟨a,b⟩⟩
def qi{v:VVm}{p:d8}(h:eK v.pic->eK p):ph v (ut v p) :=
 ⟨rfl,rfl,.refl _ _,fun a b=>⟨a,b⟩,h,id,id,fun a b=>⟨a,b⟩,fun a b=>⟨a,b⟩⟩
def rC{v:VVm}{r:bn×Int×Int}(h:dP v.mem r.1 1)(hh:1368<=v.here->v.here<=v.mem.b.length->1368<=r.2.1/\r.2.1<=v.mem.b.length):ph v (fg v r).1 :=
 ⟨rfl,rfl,h.up (by omega),hh,id,id,id,fun a b=>⟨a,b⟩,fun a b=>⟨a,b⟩⟩
def Im(v:VVm)(r:Str×Int):ph v (dB v r).1:=by
 unfold dB i8
 split
 ·split
  ·exact .refl v
  rename_i h
  exact⟨rfl,rfl,.refl _ _,fun a b=>⟨a,b⟩,id,fun _=>by simp only[List.length_append];omega,id,fun a b=>⟨a,b⟩,fun a b=>⟨a,b⟩⟩
 exact .refl v
def Oh(v:VVm):ph v (xR v).1:=by
 unfold xR
 split
 ·exact⟨rfl,rfl,(kI _ _ _).up (by omega),fun a b=>⟨a,b⟩,fun _=>⟨by simp[ut],.inr rfl⟩,id,id,fun a b=>⟨a,b⟩,fun a b=>⟨a,b⟩⟩
 exact .refl v
def J0{n:Int}(h:ae n):W64 n=n:=by unfold W64;rw[bU];exact di n h
def Dg(v:VVm)(q:wi)(h:¬16<=(v.req.length:Int)):ph v (Ck v q) :=
 ⟨rfl,rfl,.refl _ _,fun a b=>⟨a,b⟩,id,id,fun _=>by simp only[Ck,List.length_append,List.length_singleton];omega,fun a b=>⟨a,b⟩,fun a b=>⟨a,b⟩⟩
def E5(v:VVm)(x:List Int):ph v (jI v x).1:=by
 unfold jI;split
 ·exact .refl v
 rename_i h;exact Dg v _ h
def K5(v:VVm)(x:List Int):ph v (j5 v x).1:=by
 unfold j5;split
 ·exact .refl v
 split
 ·exact .refl v
 rename_i h;exact Dg v _ h
def yA(k:Int)(v:VVm)(x:List Int):ph v (dA k v x).1:=by
 unfold dA;split
 ·exact .refl v
 split
 ·exact .refl v
 split
 ·exact .refl v
 rename_i h
 split
 ·exact .refl v
 rename_i hw
 refine⟨rfl,rfl,.refl _ _,fun a b=>⟨a,b⟩,id,id,fun _=>by simp only[Ck,List.length_append,List.length_singleton];omega,fun a b=>?_,fun a b=>?_⟩
 ·simp only
  rw[J0 (by unfold ae;omega)]
  have:v.free≠0:=fun h=>hw (.inl h)
  omega
 simp only
 rw[J0 (by unfold ae;omega)]
 have:v.next≠4611686018427387904:=fun h=>hw (.inr h)
 omega
def IK(v:VVm)(x:List Int):dP v.mem (se v x).1 1:=by
 unfold se;split
 ·exact cP _ _ _
 exact .refl _ _
def EO(v:VVm)(x:List Int):dP v.mem (oS v x).1 2:=by
 unfold oS;split
 ·exact(cP _ _ _).trans (cP _ _ _)
 exact(cP _ _ _).up (by omega)
def iW{v:VVm}{r:bn×Int}{k:Nat}(h:dP v.mem r.1 k)(hk:k<=2):ph v (dy v r).1:=N4 h hk
def gA(l:List Int):Prop:=∀a∈l,ae a
def bG:gA []:=fun a h=>by simp at h
def dj{a:Int}(h:ae a):gA [a]:=fun b hb=>by simp at hb;subst hb;exact h
def hZ{a b:Int}(h:ae a)(g:ae b):gA [a,b]:=fun c hc=>by simp at hc;rcases hc with rfl|rfl;exact h;exact g
def KF(v:VVm)(r:VVm×List Int×Int):Prop:=ph v r.1/\gA r.2.1
def wP{x:List Int}(h:gA x)(i:Nat):ae (xat x i):=XOk.fit (k:=0) ⟨Nat.zero_le _,h⟩ i
def ag{α:Type}{c:Prop}[Decidable c]{a r:α}{b:Option α}(h:(if c then some a else b)=some r):a=r\/b=some r:=by
 by_cases hc:c
 ·rw[if_pos hc]at h;exact .inl (Option.some.inj h)
 rw[if_neg hc]at h;exact .inr h
def oq{α:Type}{P:α->Prop}{c:Prop}[Decidable c]{a b:α}(h1:P a)(h2:P b):P (if c then a else b):=by
 by_cases hc:c
 ·rw[if_pos hc];exact h1
 rw[if_neg hc];exact h2
def JO{name:Str}{x:List Int}{r:List Int×Int}(hx:gA x)(h:rk name x=some r):gA r.1:=by
 have f:=wP hx
 unfold rk at h
 rcases ag h with rfl|h
 ·exact hZ (y4 (f 1)).2 (y4 (f 1)).1
 rcases ag h with rfl|h
 ·exact dj (ss (f 2)).1
 rcases ag h with rfl|h
 ·exact hZ (ss (f 2)).2 (ss (f 2)).1
 rcases ag h with rfl|h
 ·exact hZ (Hf _) (Hf _)
 rcases ag h with rfl|h
 ·exact hZ (Aq (f 0) (f 1)).1 (Aq (f 0) (f 1)).2
 rcases ag h with rfl|h
 ·exact hZ vJ.2 vJ.1
 rcases ag h with rfl|h
 ·exact hZ (Gm (f 2)).2 (Gm (f 2)).1
 rcases ag h with rfl|h
 ·exact hZ (ss (f 2)).2 (ss (f 2)).1
 rcases ag h with rfl|h
 ·exact hZ (f 0) (wW _)
 rcases ag h with rfl|h
 ·exact dj (wW _)
 rcases ag h with rfl|h
 ·exact dj (by unfold ae;omega)
 rcases ag h with rfl|h
 ·exact dj (by unfold ae;omega)
 rcases ag h with rfl|h
 ·exact dj (by unfold ae;omega)
 rcases ag h with rfl|h
 ·exact dj (by unfold ae;omega)
 rcases ag h with rfl|h
 ·exact dj (by unfold ae;omega)
 cases h
def ND{v:VVm}{name:Str}{x:List Int}{r:VVm×List Int×Int}(hx:gA x)(h:qH v name x=some r):KF v r:=by
 have f:=wP hx
 unfold qH at h
 rcases ag h with rfl|h
 ·exact⟨.refl v,dj (tS _ _)⟩
 rcases ag h with rfl|h
 ·exact⟨.refl v,dj (AD _ _)⟩
 rcases ag h with rfl|h
 ·exact⟨iW (cP _ _ _) (by omega),bG⟩
 rcases ag h with rfl|h
 ·exact⟨iW (kI _ _ _) (by omega),bG⟩
 rcases ag h with rfl|h
 ·exact⟨iW (IK _ _) (by omega),bG⟩
 rcases ag h with rfl|h
 ·unfold lu;split
  ·exact⟨.refl v,hZ (tS _ _) (tS _ _)⟩
  exact⟨.refl v,bG⟩
 rcases ag h with rfl|h
 ·exact⟨iW (EO _ _) (by omega),bG⟩
 rcases ag h with rfl|h
 ·exact⟨iW (Jb _ _ _ _) (by omega),bG⟩
 rcases ag h with rfl|h
 ·exact⟨iW (K6 _ _ _ _) (by omega),bG⟩
 rcases ag h with rfl|h
 ·exact⟨.refl v,hZ (qz _) (AD _ _)⟩
 rcases ag h with rfl|h
 ·exact⟨iW (cP _ _ _) (by omega),bG⟩
 rcases ag h with rfl|h
 ·exact⟨iW (cP _ _ _) (by omega),bG⟩
 rcases ag h with rfl|h
 ·unfold g8;split
  ·exact⟨iW (cP _ _ _) (by omega),bG⟩
  exact⟨.refl v,bG⟩
 rcases ag h with rfl|h
 ·unfold jk;split
  ·exact⟨iW (cP _ _ _) (by omega),bG⟩
  exact⟨.refl v,bG⟩
 cases h
def Kk{v:VVm}{x:List Int}(h0:1368<=v.here)(h1:v.here<=v.mem.b.length):1368<=(uM v x).2.1/\(uM v x).2.1<=v.mem.b.length:=by
 unfold uM mo
 simp only
 split<;>simp only<;>omega
def Sj{v:VVm}{name:Str}{x:List Int}{r:VVm×List Int×Int}(h:ve v name x=some r):KF v r:=by
 unfold ve at h
 rcases ag h with rfl|h
 ·exact⟨rC (.refl _ _) (fun a b=>Kk a b),bG⟩
 rcases ag h with rfl|h
 ·refine⟨rC ?_ ?_,bG⟩
  ·unfold cy;split
   ·exact ij _
   exact .refl _ _
  unfold cy;split
  ·exact fun a b=>iL _ a b
  exact fun a b=>⟨a,b⟩
 rcases ag h with rfl|h
 ·exact⟨rC (ij _) (fun a b=>iL _ a b),bG⟩
 rcases ag h with rfl|h
 ·exact⟨rC (ij _) (fun a b=>iL _ a b),bG⟩
 cases h
def Ra(v:VVm)(r:Str×Int):KF v (dB v r):=⟨Im v r,by unfold dB;split<;>exact bG⟩
def UM{v:VVm}{name:Str}{x:List Int}{r:VVm×List Int×Int}(hx:gA x)(hc : -100<=v.conf.mem/\v.conf.mem<=100000)(hp:v.pic.b.length<=1000000)(h:AU v name x=some r):KF v r:=by
 have f:=wP hx
 unfold AU at h
 rcases ag h with rfl|h
 ·exact⟨qi (fun _=>⟨by simp,.inl rfl⟩),bG⟩
 rcases ag h with rfl|h
 ·exact⟨qi (sW _ _ _),hZ (CY (f 0) (f 1)).1 (CY (f 0) (f 1)).2⟩
 rcases ag h with rfl|h
 ·exact⟨qi (N8 _ _ _),hZ jP jP⟩
 rcases ag h with rfl|h
 ·exact⟨qi (uN _),bG⟩
 rcases ag h with rfl|h
 ·exact⟨qi (Kq _),bG⟩
 rcases ag h with rfl|h
 ·refine⟨Oh v,?_⟩
  unfold xR;split
  ·have:=Ap v.pic
   exact hZ (qz _) (by unfold ae;omega)
  exact bG
 cases h
def ZK{v:VVm}{name:Str}{x:List Int}{r:VVm×List Int×Int}(hn:ae v.next)(h:AP v name x=some r):KF v r:=by
 unfold AP at h
 have ht:∀k,gA (dA k v x).2.1:=fun k=>by unfold dA;split;exact bG;split;exact bG;split;exact bG;split;exact bG;exact dj hn
 rcases ag h with rfl|h
 ·exact⟨K5 _ _,by unfold j5;split;exact bG;split<;>exact bG⟩
 rcases ag h with rfl|h
 ·exact⟨E5 _ _,by unfold jI;split<;>exact bG⟩
 rcases ag h with rfl|h
 ·exact⟨yA _ _ _,ht _⟩
 rcases ag h with rfl|h
 ·exact⟨yA _ _ _,ht _⟩
 cases h
def Xm{v:VVm}{name:Str}{x:List Int}(hh:ae v.here/\ae v.arg/\ae v.self/\ae v.now):KF v (Hy v name x):=by
 unfold Hy
 split
 ·exact⟨.refl v,dj hh.1⟩
 split
 ·exact⟨.refl v,dj hh.2.1⟩
 split
 ·exact⟨.refl v,dj hh.2.2.1⟩
 split
 ·exact⟨.refl v,dj hh.2.2.2⟩
 split
 ·unfold wo;split
  ·exact⟨.refl v,bG⟩
  exact⟨.refl v,dj (qz _)⟩
 exact⟨.refl v,bG⟩
structure wb (N:Nat) (v:VVm):Prop where
 right:FJ v=true
 old:v.mem.old.length<=N
 d:gA v.d
 ints:ae v.arg/\ae v.self/\ae v.now
structure zu (v:VVm):Prop where
 gE:eO v.conf
 mem:mj v.mem=true
 dict:iC v.dict=true
 pic:eK v.pic
 len:(v.mem.b.length:Int)=v.conf.mem
 jV:1368<=v.here
 jZ:v.here<=v.conf.mem
 f:v.f.all qE=true
 hand:v.hand.all FH=true
 d:(v.d.length:Int)<=v.conf.data
 r:(v.r.length:Int)<=v.conf.ret
 fl:v.f.length<=64
 dl:(v.dict.length:Int)<=v.conf.words
 out:(v.out.length:Int)<=v.conf.out
 req:v.req.length<=16
 free0:0<=v.free
 free1:v.free<=64
 next0:0<=v.next
 next1:v.next<=4611686018427387904
 handl:v.hand.length<=64
def l8(v:VVm):FJ v=true↔zu v:=by
 unfold FJ TW PC
 simp only[Bool.and_eq_true,decide_eq_true_eq]
 constructor
 ·rintro⟨⟨a1,a2,a3,a4,a5,a6,a7⟩,a8,a9,a10,a11,a12,a13,a14,a15,a16,a17,a18,a19,a20⟩
  exact⟨a1,a2,a3,a4,a5,a6,a7,a8,a9,a10,a11,a12,a13,a14,a15,a16,a17,a18,a19,a20⟩
 rintro⟨a1,a2,a3,a4,a5,a6,a7,a8,a9,a10,a11,a12,a13,a14,a15,a16,a17,a18,a19,a20⟩
 exact⟨⟨a1,a2,a3,a4,a5,a6,a7⟩,a8,a9,a10,a11,a12,a13,a14,a15,a16,a17,a18,a19,a20⟩
def LZ{v:VVm}{n:Int}{name:Str}{x:List Int}{N:Nat}(g:wb N v)(hx:gA x):KF v (bP v n name x):=by
 have R:=(l8 v).1 g.right
 have f:=wP hx
 have hm:=R.gE
 unfold eO at hm
 unfold bP
 split
 ·exact⟨.refl v,dj (PE _ (f 0) (f 1))⟩
 split
 ·exact⟨.refl v,dj (PO _ (f 0))⟩
 cases h1:rk name x with
 | some r=>exact⟨.refl v,JO hx h1⟩
 | none =>
  cases h2:qH v name x with
  | some r=>exact ND hx h2
  | none =>
   cases h3:ve v name x with
   | some r=>exact Sj h3
   | none =>
    cases h4:Gj v name x with
    | some r=>exact Ra v r
    | none =>
     cases h5:AU v name x with
     | some r=>exact UM hx (by omega) (by have:=R.pic.1;omega) h5
     | none =>
      cases h6:AP v name x with
      | some r=>exact ZK (by have:=R.next0;have:=R.next1;unfold ae;omega) h6
      | none=>exact Xm ⟨by have:=R.jV;have:=R.jZ;unfold ae;omega,g.ints⟩
def P6{name:Str}{x:List Int}{d:Nat}(hx:gA x)(hd:d<=100000):gA (zA name x d):=by
 have f:=wP hx
 have hq:∀l:List Int,(∀a∈l,a∈x\/(∃i,a=xat x i)\/a=d)->gA l:=fun l h a ha=>by
  rcases h a ha with h|⟨i,rfl⟩|rfl
  ·exact hx a h
  ·exact f i
  unfold ae;omega
 unfold zA
 refine oq (P:=gA) (hq _ fun a ha=>by simp only[List.mem_cons,List.not_mem_nil,or_false]at ha;rcases ha with rfl|rfl<;>exact .inr (.inl ⟨_,rfl⟩)) ?_
 refine oq (P:=gA) (hq _ fun a ha=>by simp only[List.mem_cons,List.not_mem_nil,or_false]at ha;rcases ha with rfl|rfl<;>exact .inr (.inl ⟨_,rfl⟩)) ?_
 refine oq (P:=gA) (hq _ fun a ha=>by simp only[List.mem_cons,List.not_mem_nil,or_false]at ha;rcases ha with rfl|rfl|rfl<;>exact .inr (.inl ⟨_,rfl⟩)) ?_
 refine oq (P:=gA) (hq _ fun a ha=>by simp only[List.mem_cons,List.not_mem_nil,or_false]at ha;subst ha;exact .inr (.inl ⟨_,rfl⟩)) ?_
 refine oq (P:=gA) (hq _ fun a ha=>by simp only[List.mem_cons,List.not_mem_nil,or_false]at ha;rcases ha with rfl|rfl|rfl<;>exact .inr (.inl ⟨_,rfl⟩)) ?_
 refine oq (P:=gA) (hq _ fun a ha=>by simp only[List.mem_cons,List.not_mem_nil,or_false]at ha;rcases ha with rfl|rfl|rfl<;>exact .inr (.inl ⟨_,rfl⟩)) ?_
 refine oq (P:=gA) (hq _ fun a ha=>by simp only[List.mem_cons,List.not_mem_nil,or_false]at ha;rcases ha with rfl|rfl|rfl<;>exact .inr (.inl ⟨_,rfl⟩)) ?_
 refine oq (P:=gA) (hq _ fun a ha=>by simp only[List.mem_cons,List.not_mem_nil,or_false]at ha;rcases ha with rfl|rfl|rfl|rfl<;>exact .inr (.inl ⟨_,rfl⟩)) ?_
 refine oq (P:=gA) (hq _ fun a ha=>by simp only[List.mem_cons,List.not_mem_nil,or_false]at ha;rcases ha with rfl|rfl|rfl|rfl<;>exact .inr (.inl ⟨_,rfl⟩)) ?_
 refine oq (P:=gA) (hq _ fun a ha=>by simp only[List.mem_cons,List.not_mem_nil,or_false]at ha;rcases ha with rfl|rfl|rfl|rfl|rfl|rfl<;>exact .inr (.inl ⟨_,rfl⟩)) ?_
 refine oq (P:=gA) (oq (P:=gA) hx (hq _ fun a ha=>by simp only[List.mem_cons,List.not_mem_nil,or_false]at ha;rcases ha with rfl|rfl<;>exact .inr (.inl ⟨_,rfl⟩))) ?_
 refine oq (P:=gA) (hq _ fun a ha=>by simp only[List.mem_cons,List.not_mem_nil,or_false]at ha;exact .inr (.inr ha)) ?_
 refine oq (P:=gA) (hq _ fun a ha=>by rcases List.mem_append.1 ha with h|h;exact .inl (List.mem_of_mem_take h);exact .inr (.inl ⟨_,List.mem_singleton.1 h⟩)) ?_
 refine oq (P:=gA) (hq _ fun a ha=>by rcases List.mem_append.1 ha with h|h;exact .inl (List.mem_of_mem_take (List.mem_of_mem_drop h));exact .inr (.inl ⟨_,List.mem_singleton.1 h⟩)) ?_
 exact bG
def G2{name:Str}{s:List Int}{limit:Int}(hs:gA s)(hl:s.length<=100000):gA (dQ name s limit).1:=by
 unfold dQ
 split
 ·exact hs
 split
 ·exact hs
 split
 ·exact hs
 intro a ha
 rcases List.mem_append.1 ha with ha|ha
 ·exact hs a (List.mem_of_mem_take ha)
 exact P6 (fun b hb=>hs b (List.mem_of_mem_drop hb)) hl a ha
def H8{name:Str}{s:List Int}{limit:Int}(hs:(s.length:Int)<=limit):((dQ name s limit).1.length:Int)<=limit:=by
 unfold dQ
 split
 ·exact hs
 split
 ·exact hs
 split
 ·exact hs
 rename_i h;simp only[List.length_append,List.length_take];omega
def IG{v:VVm}{n:Int}{N:Nat}(g:wb N v):Ds v (doS v n).1=v:=by
 by_cases h:n<23\/129<n
 ·unfold doS;rw[if_pos h];rfl
 by_cases h1:n<=38
 ·unfold doS;rw[if_neg h];simp only;rw[if_pos h1];rfl
 rw[aH (by omega) (by omega)]
 unfold doR
 split
 ·rfl
 split
 ·rfl
 split
 ·rfl
 exact(LZ g (fun a ha=>g.d a (List.mem_of_mem_drop ha))).1.same
def yc{v v':VVm}{d:List Int}(R:zu v)(K:ph v v')(hd:(d.length:Int)<=v.conf.data):zu {v' with d:=d}:=by
 have s:=K.same
 unfold Ds at s
 have e1:v'.conf=v.conf:=by rw[<-s]
 have e2:v'.dict=v.dict:=by rw[<-s]
 have e3:v'.f=v.f:=by rw[<-s]
 have e4:v'.hand=v.hand:=by rw[<-s]
 have e5:v'.r=v.r:=by rw[<-s]
 have h1:=K.here R.jV (by have:=R.jZ;have:=R.len;omega)
 have h2:=K.free R.free0 R.free1
 have h3:=K.next R.next0 R.next1
 have hl:=K.mem.len
 have hl2:=R.len
 exact⟨by rw[e1];exact R.gE,K.mem.right R.mem,by rw[e2];exact R.dict,K.pic R.pic,by simp only[e1];rw[hl];exact hl2,h1.1,by simp only[e1];omega,by rw[e3];exact R.f,by rw[e4];exact R.hand,by simp only[e1];exact hd,by simp only[e1,e5];exact R.r,by rw[e3];exact R.fl,by simp only[e1,e2];exact R.dl,by simp only[e1];exact K.out R.out,K.req R.req,h2.1,h2.2,h3.1,h3.2,by rw[e4];exact R.handl⟩
def Qr{v:VVm}{n:Int}{N:Nat}(g:wb N v):wb (N+2) (doS v n).1:=by
 have R:=(l8 v).1 g.right
 have hc:=R.gE
 unfold eO at hc
 have hdl:=R.d
 have stay:wb (N+2) v:=⟨g.right,by have:=g.old;omega,g.d,g.ints⟩
 by_cases h:n<23\/129<n
 ·unfold doS;rw[if_pos h];exact stay
 by_cases h1:n<=38
 ·unfold doS;rw[if_neg h];simp only;rw[if_pos h1]
  refine⟨(l8 _).2 (yc R (.refl v) (H8 R.d)),by show v.mem.old.length<=_;have:=g.old;omega,G2 g.d (by omega),g.ints⟩
 rw[aH (by omega) (by omega)]
 have K:=LZ (n:=n) (name:=ao.getD n.toNat []) g (x:=v.d.drop (v.d.length-bm n (ao.getD n.toNat []))) (fun a ha=>g.d a (List.mem_of_mem_drop ha))
 generalize bP v n (ao.getD n.toNat []) (v.d.drop (v.d.length-bm n (ao.getD n.toNat [])))=r at K ⊢
 unfold doR
 split
 ·exact stay
 split
 ·exact stay
 split
 ·exact stay
 rename_i q0 q1 q2
 have s:=K.1.same
 unfold Ds at s
 refine⟨(l8 _).2 (yc R K.1 (by simp only[List.length_append,List.length_take];omega)),?_,fun a ha=>?_,?_⟩
 ·have:=K.1.mem.old;have:=g.old;show _<=_;simp only;omega
 ·rcases List.mem_append.1 ha with ha|ha
  ·exact g.d a (List.mem_of_mem_take ha)
  exact K.2 a ha
 have a1:r.1.arg=v.arg:=by have h:=congrArg VVm.arg K.1.same;exact h
 have a2:r.1.self=v.self:=by have h:=congrArg VVm.self K.1.same;exact h
 have a3:r.1.now=v.now:=by have h:=congrArg VVm.now K.1.same;exact h
 simp only[a1,a2,a3]
 exact g.ints
def VZ{v:VVm}{N:Nat}(g:wb N v)(hN:N<=900000):dJ v:=by
 have R:=(l8 v).1 g.right
 have hc:=R.gE
 unfold eO at hc
 have h1:=R.len
 have h2:=g.old
 have h3:=R.jV
 have h4:=R.jZ
 have h5:=R.out
 have h6:=R.pic.1
 have h7:=R.req
 have h8:=R.handl
 have h9:=R.d
 exact⟨⟨by omega,by omega⟩,by omega,⟨by omega,by omega⟩,by omega,by omega,by omega,by omega,by omega,by omega,g.d,by unfold ae;omega⟩
structure VX (M:Nat) (v:VVm):Prop where
 b:v.mem.b.length<=65536
 old:v.mem.old.length<=M
 d:v.d.length<=300
 r:v.r.length<=300
 f:v.f.length<=300
 fd:gA v.d
 fr:gA v.r
 ff:∀x∈v.f,ae x.ip
 data:0<=v.conf.data/\v.conf.data<=256
 ret:0<=v.conf.ret/\v.conf.ret<=256
 la:ae v.last
structure KX (M:Nat) (k:PW):Prop where
 v:VX M k.r.vm
 ip:ae k.r.ip
 w:ae k.r.w
def VX.mem{M:Nat}{v:VVm}(h:VX M v)(hM:M<=1000000):da v.mem:=⟨by have:=h.b;omega,by have:=h.old;omega⟩
def VX.up{M N:Nat}{v:VVm}(h:VX M v)(hM:M<=N):VX N v:=⟨h.b,by have:=h.old;omega,h.d,h.r,h.f,h.fd,h.fr,h.ff,h.data,h.ret,h.la⟩
def KX.up{M N:Nat}{k:PW}(h:KX M k)(hM:M<=N):KX N k:=⟨h.v.up hM,h.ip,h.w⟩
def KX.la{M:Nat}{k:PW}(h:KX M k):ae k.r.vm.last:=h.v.la
def Gz{M:Nat}{v:VVm}(h:VX M v):ae v.conf.data/\ae v.conf.ret:=by
 have:=h.data;have:=h.ret;unfold ae;omega
def bI:ae 0:=by unfold ae;omega
def jr{a b:List Int}(h:gA a)(k:gA b):gA (a++b):=fun x hx=>by
 rcases List.mem_append.1 hx with hx|hx
 ·exact h x hx
 exact k x hx
def nU{a:List Int}(n:Nat)(h:gA a):gA (a.take n):=fun x hx=>h x (List.mem_of_mem_take hx)
def vN{a:List Int}(h:gA a)(i:Nat):ae (a.getD i 0):=by
 rw[List.getD_eq_getElem?_getD]
 rcases e:a[i]? with _|x
 ·exact bI
 exact h x (List.mem_of_getElem? e)
def cY(n:Int):ae (W64 n):=by
 show ae (IntKind.i64.wrap n)
 rw[bU];exact gS n
def G4(m:bn)(a:Int):ae (am m a).1:=by
 unfold am;split
 ·unfold Jk;exact gS _
 exact bI
section
variable {M : Nat} {v : VVm}
def Vw(h:VX M v){n:Int}(hn:ae n):VX M (fQ v n).1:=by
 unfold fQ gP
 by_cases q:v.conf.data<=(v.d.length:Int)
 ·simp only[if_pos q];exact h
 simp only[if_neg q]
 exact⟨h.b,h.old,by have:=h.data;simp only[List.length_append,List.length_singleton];omega,h.r,h.f,jr h.fd (dj hn),h.fr,h.ff,h.data,h.ret,h.la⟩
def PY(h:VX M v){n:Int}(hn:ae n):VX M (gK v n).1:=by
 unfold gK
 by_cases q:v.conf.ret<=(v.r.length:Int)
 ·simp only[if_pos q];exact h
 simp only[if_neg q]
 exact⟨h.b,h.old,h.d,by have:=h.ret;simp only[List.length_append,List.length_singleton];omega,h.f,h.fd,jr h.fr (dj hn),h.ff,h.data,h.ret,h.la⟩
def Fa(h:VX M v):VX M (eg v).2.1/\ae (eg v).1:=by
 unfold eg bo
 by_cases q:v.d.length=0
 ·simp only[if_pos q];exact⟨h,bI⟩
 simp only[if_neg q]
 exact⟨⟨h.b,h.old,by have:=h.d;simp only[List.length_take];omega,h.r,h.f,nU _ h.fd,h.fr,h.ff,h.data,h.ret,h.la⟩,vN h.fd _⟩
def Ed(h:VX M v):VX M (fv v).2.1/\ae (fv v).1:=by
 unfold fv
 by_cases q:v.r.length=0
 ·simp only[if_pos q];exact⟨h,bI⟩
 simp only[if_neg q]
 exact⟨⟨h.b,h.old,h.d,by have:=h.r;simp only[List.length_take];omega,h.f,h.fd,nU _ h.fr,h.ff,h.data,h.ret,h.la⟩,vN h.fr _⟩
def Us(h:VX M v)(a n:Int):VX (M+1) (tb v (ay v.mem a n).1):=by
 have k:=cP v.mem a n
 exact⟨by show(ay v.mem a n).1.b.length<=_;rw[k.len];exact h.b,by show(ay v.mem a n).1.old.length<=_;have:=k.old;have:=h.old;omega,h.d,h.r,h.f,h.fd,h.fr,h.ff,h.data,h.ret,h.la⟩
end
section
variable {M : Nat} {k : PW}
def oY(h:KX M k){v:VVm}(hv:VX M v)(e:Int):KX M (pOk k v e):=by
 unfold pOk
 split
 ·split
  ·exact⟨hv,h.ip,h.w⟩
  exact⟨h.v,h.ip,h.w⟩
 exact h
def vV(h:KX M k){n:Int}(hn:ae n):KX M (dr k n):=oY h (Vw h.v hn) _
def vI(h:KX M k){n:Int}(hn:ae n):KX M (jl k n):=oY h (PY h.v hn) _
def jo(h:KX M k):KX M (bc k).1/\ae (bc k).2 :=
 ⟨oY h (Fa h.v).1 _,by unfold bc;dsimp only;split;exact(Fa h.v).2;exact bI⟩
def ja(h:KX M k):KX M (gD k).1/\ae (gD k).2 :=
 ⟨oY h (Ed h.v).1 _,by unfold gD;dsimp only;split;exact(Ed h.v).2;exact bI⟩
def ib(h:KX M k)(a:Int):KX M (bx k a).1/\ae (bx k a).2:=⟨oY h h.v _,G4 _ _⟩
def wy(h:KX M k)(a n:Int):KX (M+1) (mW k a n):=oY (h.up (by omega)) (Us h.v a n) _
def Za(h:KX M k){a:Int}(ha:ae a):KX M (wIp k a):=⟨h.v,ha,h.w⟩
def qD(h:KX M k)(n:Nat):KX M (cq k n).1/\ae (cq k n).2:=by
 unfold cq;split
 ·exact⟨oY h h.v _,bI⟩
 exact⟨h,vN h.v.fr _⟩
def Po(h:KX M k)(h0:¬k.r.vm.f.length=0):KX M {k with r:={k.r with ip:=(k.r.vm.f.getD (k.r.vm.f.length-1) default).ip,vm:={k.r.vm with f:=k.r.vm.f.take (k.r.vm.f.length-1)}}} :=
 ⟨⟨h.v.b,h.v.old,h.v.d,h.v.r,by have:=h.v.f;simp only[List.length_take];omega,h.v.fd,h.v.fr,fun x hx=>h.v.ff x (List.mem_of_mem_take hx),h.v.data,h.v.ret,h.v.la⟩,
  h.v.ff _ (by rw[List.getD_eq_getElem?_getD,List.getElem?_eq_getElem (by omega)];exact List.getElem_mem _),h.w⟩
def VC(h:KX M k):KX (M+2) (mN k):=by
 unfold mN;split
 ·exact oY (h.up (by omega)) (h.v.up (by omega)) _
 exact wy (wy h _ _) _ _
def Gd(i l n:Int):ae (ox i l n).1:=cY _
end
open Go.RowKit
section
variable (a : Addr) (k : PW) {M : Nat} (h : KX M k) (hM : M <= 900000)
include h
theorem ke(n:Int):∀(H:List Ob) (i:Nat),H[i]?=some (.cells (cPW a k) 197)->HC prog 163 (.ptr i 0::[i64 n]) H (.tup []) (H.set i (.cells (cPW a (dr k n)) 197)):=by
 refine zM func163 fun B=>?_
 refine aa rfl ?_
 refine zy5 ?_
 refine zy2 ?_
 refine zc rfl func82 ((L3 k.r.vm n (by have:=h.v.d;omega) (Gz h.v).1) _) ?_
 refine zy2 ?_
 refine zc rfl func161 ((rM a k _ _) _ _ rfl) ?_
 refine Wn<|bj rfl rfl ?_ ?_
 ·rfl
 rfl
theorem mf(n:Int):∀(H:List Ob) (i:Nat),H[i]?=some (.cells (cPW a k) 197)->HC prog 162 (.ptr i 0::[i64 n]) H (.tup []) (H.set i (.cells (cPW a (jl k n)) 197)):=by
 refine zM func162 fun B=>?_
 refine aa rfl ?_
 refine zy5 ?_
 refine zy2 ?_
 refine zc rfl func197 ((Tv k.r.vm n (by have:=h.v.r;omega) (Gz h.v).2) _) ?_
 refine zy2 ?_
 refine zc rfl func161 ((rM a k _ _) _ _ rfl) ?_
 refine Wn<|bj rfl rfl ?_ ?_
 ·rfl
 rfl
theorem pc:∀(H:List Ob) (i:Nat),H[i]?=some (.cells (cPW a k) 197)->HC prog 206 (.ptr i 0::[]) H (i64 (bc k).2) (H.set i (.cells (cPW a (bc k).1) 197)):=by
 refine zM func206 fun B=>?_
 refine zu1 ?_
 refine zp5 ?_
 refine zc rfl func211 ((RL k.r.vm (by have:=h.v.d;omega)) _) ?_
 refine zy5 ?_
 refine zs3 ?_
 refine Ws<|zp3 ?_
 refine zc rfl func161 ((rM a k _ _) _ _ rfl) ?_
 refine zs1 ?_
 refine Wi rfl (fun hi1=>?_) (fun hi1=>?_)
 ·refine zu1 ?_
  refine Wq<|kj rfl rfl ?_ ?_
  ·exact congrArg i64 (by unfold bc;dsimp only;rw[if_neg (by simpa using hi1)])
  rfl
 refine Wj<|zu2 ?_
 refine Wq<|kj rfl rfl ?_ ?_
 ·exact congrArg i64 (by unfold bc;dsimp only;rw[if_pos (by simpa using hi1)])
 rfl
theorem rG:∀(H:List Ob) (i:Nat),H[i]?=some (.cells (cPW a k) 197)->HC prog 204 (.ptr i 0::[]) H (i64 (gD k).2) (H.set i (.cells (cPW a (gD k).1) 197)):=by
 refine zM func204 fun B=>?_
 refine zu1 ?_
 refine zp5 ?_
 refine zc rfl func254 ((VO k.r.vm (by have:=h.v.r;omega)) _) ?_
 refine zy5 ?_
 refine zs3 ?_
 refine Ws<|zp3 ?_
 refine zc rfl func161 ((rM a k _ _) _ _ rfl) ?_
 refine zs1 ?_
 refine Wi rfl (fun hi1=>?_) (fun hi1=>?_)
 ·refine zu1 ?_
  refine Wq<|kj rfl rfl ?_ ?_
  ·exact congrArg i64 (by unfold gD;dsimp only;rw[if_neg (by simpa using hi1)])
  rfl
 refine Wj<|zu2 ?_
 refine Wq<|kj rfl rfl ?_ ?_
 ·exact congrArg i64 (by unfold gD;dsimp only;rw[if_pos (by simpa using hi1)])
 rfl
theorem j7(at_:Int)(ha:ae at_):∀(H:List Ob) (i:Nat),H[i]?=some (.cells (cPW a k) 197)->HC prog 116 (.ptr i 0::[i64 at_]) H (i64 (bx k at_).2) (H.set i (.cells (cPW a (bx k at_).1) 197)):=by
 refine zM func116 fun B=>?_
 refine zu1 ?_
 refine zp5 ?_
 refine zy2 ?_
 refine zc rfl func39 ((gH k.r.vm.mem at_ (by have:=h.v.b;omega) ha) _) ?_
 refine zs5 ?_
 refine zp5 ?_
 refine zy2 ?_
 refine zc rfl func161 ((rM a k _ _) _ _ rfl) ?_
 refine Wn<|zu2 ?_
 refine Wq<|kj rfl rfl ?_ ?_
 ·rfl
 rfl
theorem zd(at_ n:Int)(ha:ae at_)(hM2:M<=990000):∀(H:List Ob) (i:Nat),H[i]?=some (.cells (cPW a k) 197)->HC prog 253 (.ptr i 0::[i64 at_,i64 n]) H (.tup []) (H.set i (.cells (cPW a (mW k at_ n)) 197)):=by
 refine zM func253 fun B=>?_
 refine zp5 ?_
 refine zy3 ?_
 refine zc rfl func92 ((jG k.r.vm.mem at_ n (h.v.mem (by omega)) ha) _) ?_
 refine zy5 ?_
 refine zs1 ?_
 refine zp5 ?_
 refine zs2 ?_
 refine zu3 ?_
 refine aa rfl ?_
 refine zy3 ?_
 refine zc rfl func161 ((rM a k (tb k.r.vm (ay k.r.vm.mem at_ n).1) _) _ _ rfl) ?_
 refine Wn<|bj rfl rfl ?_ ?_
 ·rfl
 rfl
omit h in
theorem u6(xt:Int):∀(H:List Ob) (i:Nat),H[i]?=some (.cells (cPW a k) 197)->HC prog 198 (.ptr i 0::[i64 xt]) H (.tup []) (H.set i (.cells (cPW a (vX k xt)) 197)):=by
 refine zM func198 fun B=>?_
 refine aa rfl ?_
 refine zy5 ?_
 refine z1 ?_
 refine dw (zs:=cPW a ({k with r:={k.r with w:=xt}})) (lO tG rfl) rfl rfl rfl rfl rfl rfl rfl rfl rfl rfl rfl ?_
 refine zy3 ?_
 refine dw (zs:=cPW a (vX k xt)) (lO tG rfl) rfl rfl rfl rfl rfl rfl rfl rfl rfl rfl rfl ?_
 refine Wn<|bj rfl rfl ?_ ?_
 ·rfl
 rfl
theorem xP(n:Nat)(hn:n<=10):∀(H:List Ob) (i:Nat),H[i]?=some (.cells (cPW a k) 197)->HC prog 255 (.ptr i 0::[i64 (n:Int)]) H (i64 (cq k n).2) (H.set i (.cells (cPW a (cq k n).1) 197)):=by
 have hr:=h.v.r
 have w1:IntKind.i64.wrap (IntKind.i64.wrap ((k.r.vm.r.length:Int)-1)-(n:Int))=(k.r.vm.r.length:Int)-1-(n:Int):=by
  have w0:IntKind.i64.wrap ((k.r.vm.r.length:Int)-1)=(k.r.vm.r.length:Int)-1:=by((rw[bU];unfold wrap64;(try simp only[dnL]at *);omega))
  rw[w0];((rw[bU];unfold wrap64;(try simp only[dnL]at *);omega))
 refine zM func255 fun B=>?_
 refine zu1 ?_
 refine zp5 ?_
 refine zy5 ?_
 refine Wa 15 rfl (congrArg (fun z=>PV.val (Value.int .i64 z)) w1) ?_
 refine zs1 ?_
 refine Ws<|zu2 ?_
 refine Wi rfl (fun hi1=>?_) (fun hi1=>?_)
 ·have h0:k.r.vm.r.length<=n:=by(try simp only[dnL]at *);omega
  refine zp5 ?_
  refine z1 ?_
  refine zc rfl func161 ((rM a k _ _) _ _ rfl) ?_
  refine Wn<|zu1 ?_
  refine Wq<|kj rfl rfl ?_ ?_
  ·rw[cq,if_pos h0];rfl
  rw[cq,if_pos h0]
 have h0:¬k.r.vm.r.length<=n:=by(try simp only[dnL]at *);omega
 have e0:(k.r.vm.r.length:Int)-1-(n:Int)=((k.r.vm.r.length-1-n:Nat):Int):=by omega
 refine Wj<|zp5 ?_
 refine zy2 ?_
 refine Wa 31 rfl (congrArg (fun z=>PV.val (Value.int .i64 z)) e0) ?_
 refine Wv tG rfl rfl rfl (by omega) (iN ap 1 (fun _=>rfl) 0 (by omega)) ?_
 refine zs2 ?_
 refine Wq<|kj rfl rfl ?_ ?_
 ·rw[cq,if_neg h0];rfl
 rw[cq,if_neg h0]
theorem AC(b:Bool):∀(H:List Ob) (i:Nat),H[i]?=some (.cells (cPW a k) 197)->HC prog 205 (.ptr i 0::[boo b]) H (.tup []) (H.set i (.cells (cPW a (lq k b)) 197)):=by
 cases b with
 | true =>
  refine zM func205 fun B=>?_
  refine Ws<|zu1 ?_
  refine Wt rfl (by rfl) ?_
  refine zp5 ?_
  refine zy2 ?_
  refine zc rfl func116 ((j7 a k h _ h.ip) _ _ rfl) ?_
  refine zy3 ?_
  refine dw (zs:=cPW a (lq k true)) (lO tG rfl) rfl rfl rfl rfl rfl rfl rfl rfl rfl rfl rfl ?_
  refine Wn<|Wq<|kj rfl rfl ?_ ?_
  ·rfl
  rfl
 | false =>
  refine zM func205 fun B=>?_
  refine Ws<|zu1 ?_
  refine Wf rfl (by rfl) ?_
  refine Wj<|aa rfl ?_
  refine zy5 ?_
  refine zy4 ?_
  refine dw (zs:=cPW a (lq k false)) (lO tG rfl) rfl rfl rfl rfl rfl rfl rfl rfl rfl rfl rfl ?_
  refine Wn<|bj rfl rfl ?_ ?_
  ·rfl
  rfl
theorem RX(n:Int):∀(H:List Ob) (i:Nat),H[i]?=some (.cells (cPW a k) 197)->HC prog 207 (.ptr i 0::[i64 n]) H (.tup []) (H.set i (.cells (cPW a (py k n)) 197)):=by
 have h1:=(qD h 1).1
 have h2:=(qD h1 0).1
 refine zM func207 fun B=>?_
 refine zp1 ?_
 refine zc rfl func255 ((xP a k h 1 (by decide)) _ _ rfl) ?_
 refine zs1 ?_
 refine zp1 ?_
 refine zc rfl func255 ((xP a _ h1 0 (by decide)) _ _ rfl) ?_
 refine zs1 ?_
 refine Ws<|zp3 ?_
 refine Wd rfl rfl (bD (lO tG rfl) rfl rfl rfl rfl) ?_
 refine Wd rfl rfl (jn rfl (by kernel_rfl) rfl (by exact tN _ _)) ?_
 refine Wn<|Wi rfl (fun hi1=>?_) (fun hi1=>?_)
 ·have q1:¬iz (cq (cq k 1).1 0).1.err=true:=by simpa using hi1
  refine Wq<|kj rfl rfl ?_ ?_
  ·rfl
  rw[py,if_neg q1]
 have q1:iz (cq (cq k 1).1 0).1.err=true:=by simpa using hi1
 refine Wj<|zp3 ?_
 refine zc rfl func256 ((Tj _ _ _) _) ?_
 refine zs5 ?_
 refine zp1 ?_
 refine zc rfl func204 ((rG a _ h2) _ _ rfl) ?_
 refine Wn<|Ws<|zu1 ?_
 refine Wi rfl (fun hi2=>?_) (fun hi2=>?_)
 ·have q2:(ox (cq (cq k 1).1 0).2 (cq k 1).2 n).2=true:=hi2
  refine aa rfl ?_
  refine z1 ?_
  refine zc rfl func204 ((rG a _ (ja h2).1) _ _ rfl) ?_
  refine Wn<|aa rfl ?_
  refine zy3 ?_
  refine zc rfl func205 ((AC a _ (by exact(ja (ja h2).1).1) _) _ _ rfl) ?_
  refine Wn<|bj rfl rfl ?_ ?_
  ·rfl
  (rw[py,if_pos q1,if_pos q2])
 have q2:¬(ox (cq (cq k 1).1 0).2 (cq k 1).2 n).2=true:=by simpa using hi2
 refine aa rfl ?_
 refine zy2 ?_
 refine zc rfl func162 ((mf a _ (ja h2).1 _) _ _ rfl) ?_
 refine Wn<|aa rfl ?_
 refine zy3 ?_
 refine zc rfl func205 ((AC a _ (by exact vI (ja h2).1 (Gd _ _ _)) _) _ _ rfl) ?_
 refine Wn<|bj rfl rfl ?_ ?_
 ·rfl
 (rw[py,if_pos q1,if_neg q2])
include hM in
theorem ak0:∀(H:List Ob) (i:Nat),H[i]?=some (.cells (cPW a k) 197)->HC prog 203 (.ptr i 0::[]) H (.tup []) (H.set i (.cells (cPW a (mN k)) 197)):=by
 have hM2:M<=990000:=by omega
 have hM3:M+1<=990000:=by omega
 refine zM func203 fun B=>?_
 refine zp5 ?_
 refine zs2 ?_
 refine zp5 ?_
 refine z1 ?_
 refine zc rfl func67 ((qW k.r.vm k.r.vm.last (by have:=h.v.b;omega) h.la) _) ?_
 refine zs5 ?_
 refine Ws<|zp3 ?_
 refine Wb 23 rfl (fun hg1=>?_) (fun hg1=>?_)
 ·refine z6 ?_
  refine z6 ?_
  refine zy2 ?_
  iterate 6 refine z6 ?_
  refine zs1 ?_
  refine Wt rfl rfl ?_
  refine zp5 ?_
  refine z1 ?_
  refine zc rfl func161 ((rM a k _ _) _ _ rfl) ?_
  refine Wn<|Wq<|kj rfl rfl ?_ ?_
  ·rfl
  rw[mN,if_pos (by(try simp only[dnL]at *);omega)]
 refine zy4 ?_
 refine Wb 27 rfl (fun hg2=>?_) (fun hg2=>?_)
 ·refine z6 ?_
  iterate 5 refine z6 ?_
  refine zs1 ?_
  refine Wt rfl rfl ?_
  refine zp5 ?_
  refine z1 ?_
  refine zc rfl func161 ((rM a k _ _) _ _ rfl) ?_
  refine Wn<|Wq<|kj rfl rfl ?_ ?_
  ·rfl
  rw[mN,if_pos (by(try simp only[dnL]at *);omega)]
 refine zy3 ?_
 refine Wb 30 rfl (fun hg3=>?_) (fun hg3=>?_)
 ·refine zs4 ?_
  refine Wi rfl (fun hi1=>?_) (fun hi1=>?_)
  ·refine zp5 ?_
   refine z1 ?_
   refine zc rfl func161 ((rM a k _ _) _ _ rfl) ?_
   refine Wn<|Wq<|kj rfl rfl ?_ ?_
   ·rfl
   rw[mN,if_pos (by(try simp only[dnL]at *);omega)]
  refine Wj<|zp2 ?_
  refine zc rfl func253 ((zd a k h _ _ h.la hM2) _ _ rfl) ?_
  refine Wn<|aa rfl ?_
  refine zy5 ?_
  refine zy3 ?_
  refine zc rfl func253 ((zd a _ (wy h _ _) _ _ (cY _) hM3) _ _ rfl) ?_
  refine Wn<|bj rfl rfl ?_ ?_
  ·rfl
  rw[mN,if_neg (show ¬(k.r.vm.last=0\/(av k.r.vm k.r.vm.last).2≠0\/((av k.r.vm k.r.vm.last).1≠257/\(av k.r.vm k.r.vm.last).1≠259)) by(try simp only[dnL]at *);omega)]
 refine z6 ?_
 refine z6 ?_
 refine zs2 ?_
 refine Wf rfl rfl ?_
 refine Wj<|zp2 ?_
 refine zc rfl func253 ((zd a k h _ _ h.la hM2) _ _ rfl) ?_
 refine Wn<|aa rfl ?_
 refine zy5 ?_
 refine zy3 ?_
 refine zc rfl func253 ((zd a _ (wy h _ _) _ _ (cY _) hM3) _ _ rfl) ?_
 refine Wn<|bj rfl rfl ?_ ?_
 ·rfl
 rw[mN,if_neg (show ¬(k.r.vm.last=0\/(av k.r.vm k.r.vm.last).2≠0\/((av k.r.vm k.r.vm.last).1≠257/\(av k.r.vm k.r.vm.last).1≠259)) by(try simp only[dnL]at *);omega)]
end
open Go.RowKit
def ad0(a:Addr)(k:PW){k':PW}(h:k'.r=k.r){e:TypeId}{H:List Ob}:Rk (.cells (cPW a k) e::H) ((Ob.cells (cPW a k) e::H).set 0 (.cells (cPW a k') e)):=fun xs e h1=>by
 simp only[List.getElem?_cons_zero,Option.some.injEq,Ob.cells.injEq]at h1
 obtain⟨rfl,rfl⟩:=h1
 refine⟨_,rfl,?_⟩
 have hl:∀r:bJ,(tu r).length=27:=fun r=>rfl
 unfold cPW
 rw[List.take_left' (hl _),List.take_left' (hl _),h]
def fr1(x:jt):PV.seq 1 [i64 x.d,i64 x.r,i64 x.ip] .clip=.seq (List.length [x]) (List.flatMap jv [x]) .clip:=rfl
section
variable (a : Addr) (k : PW) {M : Nat} (h : KX M k) (hM : M <= 900000)
include h
theorem NE(b:Int)(hb:ae b):∀(H:List Ob) (i:Nat),H[i]?=some (.cells (cPW a k) 197)->HC prog 164 (.ptr i 0::[i64 b]) H (.tup []) (H.set i (.cells (cPW a (fJ k b)) 197)):=by
 have f1:=ib h b
 have f2:=ib f1.1 (W64 (b+8))
 refine zM func164 fun B=>?_
 refine zp2 ?_
 refine zc rfl func116 ((j7 a k h b hb) _ _ rfl) ?_
 refine zy3 ?_
 refine zc rfl func116 ((j7 a _ f1.1 _ (cY _)) _ _ rfl) ?_
 refine zs2 ?_
 refine Ws<|zp3 ?_
 refine Wd rfl rfl (bD (lO tG rfl) rfl rfl rfl rfl) ?_
 refine Wd rfl rfl (aW rfl (by kernel_rfl) rfl (by exact tN _ _)) ?_
 refine z1 ?_
 refine Wb 19 rfl (fun hg1=>?_) (fun hg1=>?_)
 ·refine zy3 ?_
  refine Wb 22 rfl (fun hg2=>?_) (fun hg2=>?_)
  ·refine z6 ?_
   iterate 2 refine z6 ?_
   refine zs2 ?_
   refine Wt rfl rfl ?_
   refine aa rfl ?_
   refine zy5 ?_
   refine z1 ?_
   refine zc rfl func161 ((rM a _ _ _) _ _ rfl) ?_
   refine Wn<|zp5 ?_
   refine z1 ?_
   refine zc rfl func116 ((j7 a _ (by exact oY f2.1 f2.1.v _) _ (cY _)) _ _ rfl) ?_
   refine zs1 ?_
   refine zu2 ?_
   refine Wi rfl (fun hi1=>?_) (fun hi1=>?_)
   ·refine aa rfl ?_
    refine zy2 ?_
    refine zc rfl func198 ((u6 a _ _) _ _ rfl) ?_
    refine Wn<|bj rfl rfl ?_ ?_
    ·rfl
    exact congrArg (cPW a) (by unfold fJ;dsimp only;(simp only[hg1,hg2,Bool.true_and,Bool.true_or,if_true]);(rw[if_neg (by simpa using hi1)]))
   refine Wj<|bj rfl rfl ?_ ?_
   ·rfl
   exact congrArg (cPW a) (by unfold fJ;dsimp only;(simp only[hg1,hg2,Bool.true_and,Bool.true_or,if_true]);(rw[if_pos (by simpa using hi1)]))
  refine zs5 ?_
  refine Wi rfl (fun hi2=>?_) (fun hi2=>?_)
  ·refine aa rfl ?_
   refine zy5 ?_
   refine z1 ?_
   refine zc rfl func161 ((rM a _ _ _) _ _ rfl) ?_
   refine Wn<|zp5 ?_
   refine z1 ?_
   refine zc rfl func116 ((j7 a _ (by exact oY f2.1 f2.1.v _) _ (cY _)) _ _ rfl) ?_
   refine zs1 ?_
   refine zu2 ?_
   refine Wi rfl (fun hi1=>?_) (fun hi1=>?_)
   ·refine aa rfl ?_
    refine zy2 ?_
    refine zc rfl func198 ((u6 a _ _) _ _ rfl) ?_
    refine Wn<|bj rfl rfl ?_ ?_
    ·rfl
    exact congrArg (cPW a) (by unfold fJ;dsimp only;(simp only[hg1,hg2,hi2,Bool.true_and,Bool.false_or,if_true,Bool.false_eq_true,if_false]);(rw[if_neg (by simpa using hi1)]))
   refine Wj<|bj rfl rfl ?_ ?_
   ·rfl
   exact congrArg (cPW a) (by unfold fJ;dsimp only;(simp only[hg1,hg2,hi2,Bool.true_and,Bool.false_or,if_true,Bool.false_eq_true,if_false]);(rw[if_pos (by simpa using hi1)]))
  refine Wj<|zp5 ?_
  refine z1 ?_
  refine zc rfl func116 ((j7 a _ (by exact f2.1) _ (cY _)) _ _ rfl) ?_
  refine zs1 ?_
  refine zu2 ?_
  refine Wi rfl (fun hi1=>?_) (fun hi1=>?_)
  ·refine aa rfl ?_
   refine zy2 ?_
   refine zc rfl func198 ((u6 a _ _) _ _ rfl) ?_
   refine Wn<|bj rfl rfl ?_ ?_
   ·rfl
   exact congrArg (cPW a) (by unfold fJ;dsimp only;(simp only[hg1,hg2,hi2,Bool.true_and,Bool.false_or,if_true,Bool.false_eq_true,if_false]);(rw[if_neg (by simpa using hi1)]))
  refine Wj<|bj rfl rfl ?_ ?_
  ·rfl
  exact congrArg (cPW a) (by unfold fJ;dsimp only;(simp only[hg1,hg2,hi2,Bool.true_and,Bool.false_or,if_true,Bool.false_eq_true,if_false]);(rw[if_pos (by simpa using hi1)]))
 refine z6 ?_
 iterate 6 refine z6 ?_
 refine zs1 ?_
 refine Wf rfl rfl ?_
 refine Wj<|zp5 ?_
 refine z1 ?_
 refine zc rfl func116 ((j7 a _ (by exact f2.1) _ (cY _)) _ _ rfl) ?_
 refine zs1 ?_
 refine zu2 ?_
 refine Wi rfl (fun hi1=>?_) (fun hi1=>?_)
 ·refine aa rfl ?_
  refine zy2 ?_
  refine zc rfl func198 ((u6 a _ _) _ _ rfl) ?_
  refine Wn<|bj rfl rfl ?_ ?_
  ·rfl
  exact congrArg (cPW a) (by unfold fJ;dsimp only;(simp only[hg1,Bool.false_and,Bool.false_eq_true,if_false]);(rw[if_neg (by simpa using hi1)]))
 refine Wj<|bj rfl rfl ?_ ?_
 ·rfl
 exact congrArg (cPW a) (by unfold fJ;dsimp only;(simp only[hg1,Bool.false_and,Bool.false_eq_true,if_false]);(rw[if_pos (by simpa using hi1)]))
include hM in
theorem ZB(name:Str):∀(H:List Ob) (i:Nat),H[i]?=some (.cells (cPW a k) 197)->HC prog 208 (.ptr i 0::[str name]) H (.tup []) (H.set i (.cells (cPW a (G7 k name)) 197)):=by
 have hf:=h.v.f
 have hf2:=(jo h).1.v.f
 have hf3:=(oY (jo h).1 (jo h).1.v (-5)).v.f
 have w1:IntKind.i64.wrap ((k.r.vm.f.length:Int)-1)=(k.r.vm.f.length:Int)-1:=by((rw[bU];unfold wrap64;(try simp only[dnL]at *);omega))
 refine zM func208 fun B=>?_
 refine zu1 ?_
 refine Wl<|zp1 ?_
 refine zq 17 ?_
 refine zs1 ?_
 refine Wi rfl (fun hi1=>?_) (fun hi1=>?_)
 ·obtain rfl:=oT hi1
  refine zp5 ?_
  refine zs3 ?_
  refine Ws<|zu2 ?_
  refine Wi rfl (fun hi2=>?_) (fun hi2=>?_)
  ·have h0:k.r.vm.f.length=0:=by(try simp only[dnL]at *);omega
   refine zp5 ?_
   refine z1 ?_
   refine zc rfl func161 ((rM a k _ _) _ _ rfl) ?_
   refine Wn<|Wq<|kj rfl rfl ?_ ?_
   ·rfl
   show cPW a _=cPW a (lm k);rw[lm,if_pos h0]
  have h0:¬k.r.vm.f.length=0:=by(try simp only[dnL]at *);omega
  have e0:(k.r.vm.f.length:Int)-1=((k.r.vm.f.length-1:Nat):Int):=by omega
  refine Wj<|zp5 ?_
  refine zy4 ?_
  refine Wa 42 rfl (congrArg (fun z=>PV.val (Value.int .i64 z)) (w1.trans e0)) ?_
  refine Wv tG rfl rfl rfl (by omega) (iN jv 3 (fun _=>rfl) default (by omega)) ?_
  refine zy5 ?_
  refine dw (zs:=cPW a ({k with r:={k.r with ip:=(k.r.vm.f.getD (k.r.vm.f.length-1) default).ip}})) (lO tG rfl) rfl rfl rfl rfl rfl rfl rfl rfl rfl rfl rfl ?_
  refine Wn<|zp5 ?_
  refine zy4 ?_
  refine Wa 57 rfl (congrArg (fun z=>PV.val (Value.int .i64 z)) (w1.trans e0)) ?_
  refine z2 ?_ (q:=(by(simp_all;done)))
  refine Wa 58 rfl (cM jv 3 (fun _=>rfl) (by(simp only[dnL]at *;omega))) ?_
  refine zy4 ?_
  refine dw (zs:=cPW a ({k with r:={k.r with ip:=(k.r.vm.f.getD (k.r.vm.f.length-1) default).ip,vm:={k.r.vm with f:=k.r.vm.f.take (k.r.vm.f.length-1)}}})) (lO tG rfl) rfl rfl rfl rfl rfl rfl rfl rfl rfl rfl rfl ?_
  refine Wn<|aa rfl ?_
  refine z1 ?_
  refine zc rfl func163 ((ke a {k with r:={k.r with ip:=(k.r.vm.f.getD (k.r.vm.f.length-1) default).ip,vm:={k.r.vm with f:=k.r.vm.f.take (k.r.vm.f.length-1)}}} (Po h h0) 0) _ _ rfl) ?_
  refine Wn<|bj rfl rfl ?_ ?_
  ·rfl
  (show cPW a _=cPW a (lm k);rw[lm,if_neg h0])
 refine zp1 ?_
 refine zq 66 ?_
 refine zs1 ?_
 refine Wi rfl (fun hi3=>?_) (fun hi3=>?_)
 ·obtain rfl:=oT hi3
  refine Ws<|ax [0,0,0,0,0,1,5,0,0,0,0,4,0,0,0] [0,1,2,3,4,7,8,9,10,11,12,5,6,13,14] mG rfl (by kernel_rfl) ?_
  iterate 9 refine z3 ?_
  refine SN (lO tG rfl) rfl rfl rfl rfl rfl rfl rfl rfl rfl ?_
  refine z3 ?_
  refine z5 ?_
  refine Sw rfl rfl rfl rfl (dC rfl func116 rfl rfl ((j7 a k h _ h.ip) _ _ rfl)) (ad0 a k (zb)) ?_
  iterate 2 refine z3 ?_
  refine aQ ?_
  refine zp5 ?_
  refine zy3 ?_
  refine zc rfl func257 ((zZ _ _ _ ((ib h k.r.ip).1.v.mem (by omega)) (cY _) (ib h k.r.ip).2) _) ?_
  refine zs5 ?_
  refine zp5 ?_
  refine zy2 ?_
  refine zc rfl func161 ((rM a _ _ _) _ _ rfl) ?_
  refine Wn<|zp2 ?_
  refine zc rfl func163 ((ke a _ (oY (ib h _).1 (ib h _).1.v _) _) _ _ rfl) ?_
  refine Wn<|zp2 ?_
  refine zc rfl func163 ((ke a _ (vV (oY (ib h _).1 (ib h _).1.v _) (cY _)) _) _ _ rfl) ?_
  refine Wn<|aa rfl ?_
  refine zy4 ?_
  refine zc rfl func244 ((Ln _ _ (cY _)) _) ?_
  refine zy5 ?_
  refine z1 ?_
  refine dw (zs:=cPW a (Jr k)) (lO tG rfl) rfl rfl rfl rfl rfl rfl rfl rfl rfl rfl rfl ?_
  refine Wn<|bj rfl rfl ?_ ?_
  ·rfl
  rfl
 refine zp1 ?_
 refine zq 118 ?_
 refine zs1 ?_
 refine Wi rfl (fun hi4=>?_) (fun hi4=>?_)
 ·obtain rfl:=oT hi4
  refine aa rfl ?_
  refine zy2 ?_
  refine zc rfl func206 ((pc a k h) _ _ rfl) ?_
  refine zc rfl func198 ((u6 a _ _) _ _ rfl) ?_
  refine Wn<|bj rfl rfl ?_ ?_
  ·rfl
  rfl
 refine zp1 ?_
 refine zq 124 ?_
 refine zs1 ?_
 refine Wi rfl (fun hi5=>?_) (fun hi5=>?_)
 ·obtain rfl:=oT hi5
  refine zp1 ?_
  refine zc rfl func206 ((pc a k h) _ _ rfl) ?_
  refine zs1 ?_
  refine Ws<|zp5 ?_
  refine zs3 ?_
  refine Wi rfl (fun hi6=>?_) (fun hi6=>?_)
  ·refine aa rfl ?_
   refine zy5 ?_
   refine z1 ?_
   refine zc rfl func161 ((rM a _ _ _) _ _ rfl) ?_
   refine Wn<|Ws<|ax [0,0,0,0,0,0,1,0,0,0,0,0,0,1,0,0,0,0,0,0,1,0,0,0,0,0,1,0,0,0,0,0,0,0,3] [0,1,2,3,4,5,6,7,8,9,10,11,12,13,14,15,16,17,18,19,20,21,22,23,24,25,26,27,28,29,30,31,32,33,34] mG rfl (by kernel_rfl) ?_
   iterate 6 refine z3 ?_
   refine z5 ?_
   refine Xc rfl rfl rfl rfl (fun _=>dC rfl func258 rfl rfl ((ya _ (by(have:=(jo h).1.v.f;omega))) _)) ?_
   iterate 5 refine z3 ?_
   refine z5 ?_
   iterate 6 refine z3 ?_
   refine z5 ?_
   iterate 5 refine z3 ?_
   refine z5 ?_
   iterate 2 refine z3 ?_
   refine Xa 170 rfl (fr1 ⟨_,_,_⟩) ?_
   refine im rfl rfl rfl rfl (fun _=>co (lO tG rfl) rfl (lO tG rfl) (lO tG rfl) rfl rfl (by exact⟨_,rfl⟩) (by exact⟨rfl,rfl,al _ 3 (fun _=>rfl) _,bF _ (fun _=>rfl) _⟩) (by exact al _ 3 (fun _=>rfl) _) (by((simp_all;omega))) (by((simp_all;omega))) (by exact fW (bv (fun x=>by simp) _) (bv (fun x=>by simp) _))) ?_
   refine Xa 171 rfl (cz jv) ?_
   iterate 4 refine z3 ?_
   refine mD rfl rfl rfl rfl (bO (lO tG rfl) rfl rfl rfl rfl rfl rfl rfl) ?_
   refine aQ ?_
   refine zp4 ?_
   refine dw (zs:=cPW a (wFr (pOk (bc k).1 (bc k).1.r.vm (-5)))) (lO tG rfl) rfl rfl rfl rfl rfl rfl rfl rfl rfl rfl rfl ?_
   refine Wn<|aa rfl ?_
   refine zy2 ?_
   refine zc rfl func198 ((u6 a _ _) _ _ rfl) ?_
   refine Wn<|bj rfl rfl ?_ ?_
   ·rfl
   (show cPW a _=cPW a (oJ k);rw[oJ,if_pos (oT hi6)])
  refine Wj<|Ws<|ax [0,0,0,0,0,0,1,0,0,0,0,0,0,1,0,0,0,0,0,0,1,0,0,0,0,0,1,0,0,0,0,0,0,0,3] [0,1,2,3,4,5,6,7,8,9,10,11,12,13,14,15,16,17,18,19,20,21,22,23,24,25,26,27,28,29,30,31,32,33,34] mG rfl (by kernel_rfl) ?_
  iterate 6 refine z3 ?_
  refine z5 ?_
  refine Xc rfl rfl rfl rfl (fun _=>dC rfl func258 rfl rfl ((ya _ (by(have:=(jo h).1.v.f;omega))) _)) ?_
  iterate 5 refine z3 ?_
  refine z5 ?_
  iterate 6 refine z3 ?_
  refine z5 ?_
  iterate 5 refine z3 ?_
  refine z5 ?_
  iterate 2 refine z3 ?_
  refine Xa 170 rfl (fr1 ⟨_,_,_⟩) ?_
  refine im rfl rfl rfl rfl (fun _=>co (lO tG rfl) rfl (lO tG rfl) (lO tG rfl) rfl rfl (by exact⟨_,rfl⟩) (by exact⟨rfl,rfl,al _ 3 (fun _=>rfl) _,bF _ (fun _=>rfl) _⟩) (by exact al _ 3 (fun _=>rfl) _) (by((simp_all;omega))) (by((simp_all;omega))) (by exact fW (bv (fun x=>by simp) _) (bv (fun x=>by simp) _))) ?_
  refine Xa 171 rfl (cz jv) ?_
  iterate 4 refine z3 ?_
  refine mD rfl rfl rfl rfl (bO (lO tG rfl) rfl rfl rfl rfl rfl rfl rfl) ?_
  refine aQ ?_
  refine zp4 ?_
  refine dw (zs:=cPW a (wFr (bc k).1)) (lO tG rfl) rfl rfl rfl rfl rfl rfl rfl rfl rfl rfl rfl ?_
  refine Wn<|aa rfl ?_
  refine zy2 ?_
  refine zc rfl func198 ((u6 a _ _) _ _ rfl) ?_
  refine Wn<|bj rfl rfl ?_ ?_
  ·rfl
  (show cPW a _=cPW a (oJ k);rw[oJ,if_neg (oF hi6)])
 refine zp1 ?_
 refine zq 184 ?_
 refine zs1 ?_
 refine Wi rfl (fun hi7=>?_) (fun hi7=>?_)
 ·obtain rfl:=oT hi7
  refine zp1 ?_
  refine zc rfl func206 ((pc a k h) _ _ rfl) ?_
  refine zs1 ?_
  refine aa rfl ?_
  refine zy5 ?_
  refine zy2 ?_
  refine zc rfl func161 ((rM a _ _ _) _ _ rfl) ?_
  refine Wn<|bj rfl rfl ?_ ?_
  ·rfl
  rfl
 refine zp1 ?_
 refine zq 196 ?_
 refine zs1 ?_
 refine Wi rfl (fun hi8=>?_) (fun hi8=>?_)
 ·obtain rfl:=oT hi8
  refine aa rfl ?_
  refine zy2 ?_
  refine zc rfl func255 ((xP a k h 0 (by decide)) _ _ rfl) ?_
  refine zc rfl func163 ((ke a _ (qD h _).1 _) _ _ rfl) ?_
  refine Wn<|bj rfl rfl ?_ ?_
  ·rfl
  rfl
 refine zp1 ?_
 refine zq 202 ?_
 refine zs1 ?_
 refine Wi rfl (fun hi9=>?_) (fun hi9=>?_)
 ·obtain rfl:=oT hi9
  refine aa rfl ?_
  refine zy2 ?_
  refine zc rfl func255 ((xP a k h 2 (by decide)) _ _ rfl) ?_
  refine zc rfl func163 ((ke a _ (qD h _).1 _) _ _ rfl) ?_
  refine Wn<|bj rfl rfl ?_ ?_
  ·rfl
  rfl
 refine zp1 ?_
 refine zq 208 ?_
 refine zs1 ?_
 refine Wi rfl (fun hi10=>?_) (fun hi10=>?_)
 ·obtain rfl:=oT hi10
  refine zp1 ?_
  refine zc rfl func255 ((xP a k h 1 (by decide)) _ _ rfl) ?_
  refine Wn<|zp1 ?_
  refine zc rfl func204 ((rG a _ (qD h _).1) _ _ rfl) ?_
  refine Wn<|aa rfl ?_
  refine z1 ?_
  refine zc rfl func204 ((rG a _ (ja (qD h _).1).1) _ _ rfl) ?_
  refine Wn<|bj rfl rfl ?_ ?_
  ·rfl
  rfl
 refine zp1 ?_
 refine zq 216 ?_
 refine zs1 ?_
 refine Wi rfl (fun hi11=>?_) (fun hi11=>?_)
 ·obtain rfl:=oT hi11
  refine aa rfl ?_
  refine zy2 ?_
  refine zc rfl func206 ((pc a k h) _ _ rfl) ?_
  refine zc rfl func162 ((mf a _ (jo h).1 _) _ _ rfl) ?_
  refine Wn<|bj rfl rfl ?_ ?_
  ·rfl
  rfl
 refine zp1 ?_
 refine zq 222 ?_
 refine zs1 ?_
 refine Wi rfl (fun hi12=>?_) (fun hi12=>?_)
 ·obtain rfl:=oT hi12
  refine aa rfl ?_
  refine zy2 ?_
  refine zc rfl func204 ((rG a k h) _ _ rfl) ?_
  refine zc rfl func163 ((ke a _ (ja h).1 _) _ _ rfl) ?_
  refine Wn<|bj rfl rfl ?_ ?_
  ·rfl
  rfl
 refine zp1 ?_
 refine zq 228 ?_
 refine zs1 ?_
 refine Wi rfl (fun hi13=>?_) (fun hi13=>?_)
 ·obtain rfl:=oT hi13
  refine aa rfl ?_
  refine zy2 ?_
  refine zc rfl func255 ((xP a k h 0 (by decide)) _ _ rfl) ?_
  refine zc rfl func163 ((ke a _ (qD h _).1 _) _ _ rfl) ?_
  refine Wn<|bj rfl rfl ?_ ?_
  ·rfl
  rfl
 refine zp1 ?_
 refine zq 234 ?_
 refine zs1 ?_
 refine Wi rfl (fun hi14=>?_) (fun hi14=>?_)
 ·obtain rfl:=oT hi14
  refine zp1 ?_
  refine zc rfl func206 ((pc a k h) _ _ rfl) ?_
  refine z1 ?_
  refine zc rfl func206 ((pc a _ (jo h).1) _ _ rfl) ?_
  refine zs2 ?_
  refine zp2 ?_
  refine zc rfl func162 ((mf a _ (jo (jo h).1).1 _) _ _ rfl) ?_
  refine Wn<|aa rfl ?_
  refine zy2 ?_
  refine zc rfl func162 ((mf a _ (vI (jo (jo h).1).1 (jo (jo h).1).2) _) _ _ rfl) ?_
  refine Wn<|bj rfl rfl ?_ ?_
  ·rfl
  rfl
 refine zp1 ?_
 refine zq 246 ?_
 refine zs1 ?_
 refine Wi rfl (fun hi15=>?_) (fun hi15=>?_)
 ·obtain rfl:=oT hi15
  refine zp1 ?_
  refine zc rfl func204 ((rG a k h) _ _ rfl) ?_
  refine z1 ?_
  refine zc rfl func204 ((rG a _ (ja h).1) _ _ rfl) ?_
  refine zs2 ?_
  refine zp2 ?_
  refine zc rfl func163 ((ke a _ (ja (ja h).1).1 _) _ _ rfl) ?_
  refine Wn<|aa rfl ?_
  refine zy2 ?_
  refine zc rfl func163 ((ke a _ (vV (ja (ja h).1).1 (ja (ja h).1).2) _) _ _ rfl) ?_
  refine Wn<|bj rfl rfl ?_ ?_
  ·rfl
  rfl
 refine Wj<|bj rfl rfl ?_ ?_
 ·rfl
 (rw[G7,if_neg (oF hi1),if_neg (oF hi3),if_neg (oF hi4),if_neg (oF hi5),if_neg (oF hi7),if_neg (oF hi8),if_neg (oF hi9),if_neg (oF hi10),if_neg (oF hi11),if_neg (oF hi12),if_neg (oF hi13),if_neg (oF hi14),if_neg (oF hi15)])
end
open Go.RowKit
def etV:Value:=.iface 221 (.agg #[.pointer (some ⟨5,87,none⟩)])
def hJ(a:Addr):List Ob:=[.glob 1 (haltV a),.glob 0 etV]
def gj(a:Addr):∀o∈hJ a,∃g u,o=.glob g u:=fun o h=>by
 unfold hJ at h
 simp at h
 rcases h with h|h<;>exact⟨_,_,h⟩
def cp{a:Addr}{H:List Ob}(i j:Nat)(h1:H[i]?=some (.glob 1 (haltV a)))(h2:H[j]?=some (.glob 0 etV)):∀o∈hJ a,∃k:Nat,H[k]?=some o:=fun o h=>by
 unfold hJ at h
 simp at h
 rcases h with h|h
 ·subst h;exact⟨i,h1⟩
 subst h;exact⟨j,h2⟩
section
variable (a : Addr) (k : PW) {M : Nat} (h : KX M k) (hM : M <= 900000)
include h hM
def Ni(name:Str):∀(H:List Ob) (i:Nat),H[i]?=some (.cells (cPW a k) 197)->(∀o∈hJ a,∃k:Nat,H[k]?=some o)->HC prog 167 (.ptr i 0::[str name]) H (.tup []) (H.set i (.cells (cPW a (mF k name)) 197)):=by
 have p1:=jo h
 have p2:=jo p1.1
 have u1:=vV p2.1 p2.2
 have u2:=vV u1 p1.2
 have u3:=Za u2 (cY ((dr (dr (bc (bc k).1).1 (bc (bc k).1).2) (bc k).2).r.ip+8))
 have v1:=jo u3
 have v2:=jo v1.1
 refine lR (gj a) tG (rs:=[]) func167 rfl rfl rfl (by simp) (by simp) (by simp) (by simp) (fun B=>?_)
 refine zu1 ?_
 refine Wl<|Ws<|Wl<|Ws<|Wl<|Ws<|Wl<|Ws<|Wl<|Ws<|Wl<|Ws<|Wl<|Ws<|Wl<|Ws<|Wl<|Ws<|Wl<|Ws<|Wl<|Ws<|Wl ?_
 iterate 2 refine Ws ?_
 refine zp1 ?_
 refine zq 10 ?_
 refine zs1 ?_
 refine Wi rfl (fun hi1=>?_) (fun hi1=>?_)
 ·obtain rfl:=oT hi1
  refine bi ?_
  refine aa rfl ?_
  refine z1 ?_
  refine zc rfl func203 ((ak0 a k h hM) _ _ rfl) ?_
  refine Wn<|zp2 ?_
  refine zc rfl func204 ((rG a _ (by exact VC h)) _ _ rfl) ?_
  refine zy3 ?_
  refine dw (zs:=cPW a (ti (mN k))) (lO tG rfl) rfl rfl rfl rfl rfl rfl rfl rfl rfl rfl rfl ?_
  refine Wn<|bi ?_
  refine bj rfl rfl ?_ ?_
  ·rfl
  rfl
 refine Wj<|Ws<|zp1 ?_
 refine zq 12 ?_
 refine zs1 ?_
 refine Wi rfl (fun hi2=>?_) (fun hi2=>?_)
 ·obtain rfl:=oT hi2
  refine bi ?_
  refine zp2 ?_
  refine zc rfl func204 ((rG a _ (by exact h)) _ _ rfl) ?_
  refine zy3 ?_
  refine dw (zs:=cPW a (ti k)) (lO tG rfl) rfl rfl rfl rfl rfl rfl rfl rfl rfl rfl rfl ?_
  refine Wn<|bi ?_
  refine bj rfl rfl ?_ ?_
  ·rfl
  rfl
 refine Wj<|Ws<|zp1 ?_
 refine zq 14 ?_
 refine zs1 ?_
 refine Wi rfl (fun hi3=>?_) (fun hi3=>?_)
 ·obtain rfl:=oT hi3
  refine bi ?_
  refine Ws<|zp5 ?_
  refine zy2 ?_
  refine zc rfl func116 ((j7 a k h _ h.ip) _ _ rfl) ?_
  refine zc rfl func163 ((ke a _ (ib h _).1 _) _ _ rfl) ?_
  refine Wn<|aa rfl ?_
  refine zy5 ?_
  refine zy4 ?_
  refine dw (zs:=cPW a (OB k)) (lO tG rfl) rfl rfl rfl rfl rfl rfl rfl rfl rfl rfl rfl ?_
  refine Wn<|bi ?_
  refine bj rfl rfl ?_ ?_
  ·rfl
  rfl
 refine Wj<|Ws<|zp1 ?_
 refine zq 16 ?_
 refine zs1 ?_
 refine Wi rfl (fun hi4=>?_) (fun hi4=>?_)
 ·obtain rfl:=oT hi4
  refine bi ?_
  refine zp1 ?_
  refine zc rfl func205 ((AC a k h true) _ _ rfl) ?_
  refine Wn<|bi ?_
  refine bj rfl rfl ?_ ?_
  ·rfl
  rfl
 refine Wj<|Ws<|zp1 ?_
 refine zq 18 ?_
 refine zs1 ?_
 refine Wi rfl (fun hi5=>?_) (fun hi5=>?_)
 ·obtain rfl:=oT hi5
  refine bi ?_
  refine zp2 ?_
  refine zc rfl func206 ((pc a k h) _ _ rfl) ?_
  refine z1 ?_
  refine zc rfl func205 ((AC a _ p1.1 _) _ _ rfl) ?_
  refine Wn<|bi ?_
  refine bj rfl rfl ?_ ?_
  ·rfl
  rfl
 refine Wj<|Ws<|zp1 ?_
 refine zq 20 ?_
 refine zs1 ?_
 refine Wi rfl (fun hi6=>?_) (fun hi6=>?_)
 ·obtain rfl:=oT hi6
  refine bi ?_
  refine Ws<|zp1 ?_
  refine zc rfl func206 ((pc a k h) _ _ rfl) ?_
  refine z1 ?_
  refine zc rfl func206 ((pc a _ p1.1) _ _ rfl) ?_
  refine zs2 ?_
  refine zu3 ?_
  refine Wi rfl (fun hi7=>?_) (fun hi7=>?_)
  ·have q7:(bc k).2=(bc (bc k).1).2:=by(try simp only[dnL]at *);exact hi7
   refine zp1 ?_
   refine zc rfl func205 ((AC a _ p2.1 true) _ _ rfl) ?_
   refine Wn<|Wq<|kj rfl rfl ?_ ?_
   ·rfl
   show cPW a _=cPW a (As k);rw[As,if_pos q7]
  have q7:¬(bc k).2=(bc (bc k).1).2:=by(try simp only[dnL]at *);exact hi7
  refine zp2 ?_
  refine zc rfl func163 ((ke a _ p2.1 _) _ _ rfl) ?_
  refine Wn<|aa rfl ?_
  refine zy2 ?_
  refine zc rfl func163 ((ke a _ u1 _) _ _ rfl) ?_
  refine Wn<|aa rfl ?_
  refine zy5 ?_
  refine zy4 ?_
  refine dw (zs:=cPW a (wIp (dr (dr (bc (bc k).1).1 (bc (bc k).1).2) (bc k).2) (W64 ((dr (dr (bc (bc k).1).1 (bc (bc k).1).2) (bc k).2).r.ip+8)))) (lO tG rfl) rfl rfl rfl rfl rfl rfl rfl rfl rfl rfl rfl ?_
  refine Wn<|Ws<|zp1 ?_
  refine zc rfl func206 ((pc a _ (by exact u3)) _ _ rfl) ?_
  refine z1 ?_
  refine zc rfl func206 ((pc a _ (by exact v1.1)) _ _ rfl) ?_
  refine zs2 ?_
  refine zp2 ?_
  refine zc rfl func162 ((mf a _ (by exact v2.1) _) _ _ rfl) ?_
  refine Wn<|aa rfl ?_
  refine zy2 ?_
  refine zc rfl func162 ((mf a _ (by exact vI v2.1 v2.2) _) _ _ rfl) ?_
  refine Wn<|bi ?_
  refine bj rfl rfl ?_ ?_
  ·rfl
  (show cPW a _=cPW a (As k);rw[As,if_neg q7];rfl)
 refine Wj<|Ws<|zp1 ?_
 refine zq 22 ?_
 refine zs1 ?_
 refine Wi rfl (fun hi8=>?_) (fun hi8=>?_)
 ·obtain rfl:=oT hi8
  refine bi ?_
  refine Ws<|zp1 ?_
  refine zc rfl func206 ((pc a _ (by exact h)) _ _ rfl) ?_
  refine z1 ?_
  refine zc rfl func206 ((pc a _ (by exact p1.1)) _ _ rfl) ?_
  refine zs2 ?_
  refine zp2 ?_
  refine zc rfl func162 ((mf a _ (by exact p2.1) _) _ _ rfl) ?_
  refine Wn<|aa rfl ?_
  refine zy2 ?_
  refine zc rfl func162 ((mf a _ (by exact vI p2.1 p2.2) _) _ _ rfl) ?_
  refine Wn<|bi ?_
  refine bj rfl rfl ?_ ?_
  ·rfl
  rfl
 refine Wj<|Ws<|zp1 ?_
 refine zq 24 ?_
 refine zs1 ?_
 refine Wi rfl (fun hi9=>?_) (fun hi9=>?_)
 ·obtain rfl:=oT hi9
  refine bi ?_
  refine zp1 ?_
  refine zc rfl func207 ((RX a k h 1) _ _ rfl) ?_
  refine Wn<|bi ?_
  refine bj rfl rfl ?_ ?_
  ·rfl
  rfl
 refine Wj<|Ws<|zp1 ?_
 refine zq 26 ?_
 refine zs1 ?_
 refine Wi rfl (fun hi10=>?_) (fun hi10=>?_)
 ·obtain rfl:=oT hi10
  refine bi ?_
  refine zp2 ?_
  refine zc rfl func206 ((pc a k h) _ _ rfl) ?_
  refine zc rfl func207 ((RX a _ p1.1 _) _ _ rfl) ?_
  refine Wn<|bi ?_
  refine bj rfl rfl ?_ ?_
  ·rfl
  rfl
 refine Wj<|zp1 ?_
 refine zq 28 ?_
 refine zs1 ?_
 refine Wi rfl (fun hi11=>?_) (fun hi11=>?_)
 ·obtain rfl:=oT hi11
  refine bi ?_
  refine zp1 ?_
  refine Wd rfl rfl (AE (j:=1) (lO tG rfl) rfl rfl rfl) ?_
  refine zy2 ?_
  refine dw (zs:=cPW a (XU k .halt)) (lO tG rfl) rfl rfl rfl rfl rfl rfl rfl rfl rfl rfl rfl ?_
  refine Wn<|bi ?_
  refine aV rfl rfl ?_ ?_
  ·rfl
  rfl
 refine Wj<|bi ?_
 refine zp2 ?_
 refine zc rfl func208 ((ZB a k h hM name) _ _ rfl) ?_
 refine Wn<|bi ?_
 refine bj rfl rfl ?_ ?_
 ·rfl
 (rw[mF,if_neg (oF hi1),if_neg (oF hi2),if_neg (oF hi3),if_neg (oF hi4),if_neg (oF hi5),if_neg (oF hi6),if_neg (oF hi8),if_neg (oF hi9),if_neg (oF hi10),if_neg (oF hi11)])
end
def aa2{k:PW}{e:Int}:(pOk k k.r.vm e).r=k.r:=by unfold pOk;cases k.err<;>dsimp only;split<;>rfl
section
variable (a : Addr) (k : PW) {M : Nat} (h : KX M k) (hM : M <= 900000) (hv : dJ k.r.vm)
include h hM hv
def ZZ(xt:Int)(hx:ae xt):∀(H:List Ob) (i:Nat),H[i]?=some (.cells (cPW a k) 197)->(∀o∈hJ a,∃k:Nat,H[k]?=some o)->HC prog 117 (.ptr i 0::[i64 xt]) H (.tup []) (H.set i (.cells (cPW a (kr k xt)) 197)):=by
 have h1:=oY h h.v (av k.r.vm xt).2
 have hN:=xH
 have hv1:dJ (pOk k k.r.vm (av k.r.vm xt).2).r.vm:=by rw[aa2];exact hv
 refine lR (gj a) tG (rs:=[]) func117 rfl rfl rfl (by simp) (by simp) (by simp) (by simp) (fun B=>?_)
 refine zp5 ?_
 refine z1 ?_
 refine zc rfl func67 ((qW k.r.vm xt (by have:=h.v.b;omega) hx) _) ?_
 refine zs5 ?_
 refine Ws<|zp5 ?_
 refine zy2 ?_
 refine zc rfl func161 ((rM a k _ _) _ _ rfl) ?_
 refine zs1 ?_
 refine Wi rfl (fun hi1=>?_) (fun hi1=>?_)
 ·have q1:¬iz (pOk k k.r.vm (av k.r.vm xt).2).err=true:=by simpa using hi1
  refine Wq<|kj rfl rfl ?_ ?_
  ·rfl
  unfold kr;rw[if_neg q1]
 have q1:iz (pOk k k.r.vm (av k.r.vm xt).2).err=true:=by simpa using hi1
 have hk:=FO (io (il.1 q1)).2
 unfold gi at hk
 refine Wj<|Wl<|zu3 ?_
 refine Wi rfl (fun hi2=>?_) (fun hi2=>?_)
 ·have q2:300<=(av k.r.vm xt).1:=oT hi2
  refine aa rfl ?_
  refine zy5 ?_
  refine z1 ?_
  refine zc rfl func161 ((rM a _ _ _) _ _ rfl) ?_
  refine Wn<|bj rfl rfl ?_ ?_
  ·rfl
  unfold kr;rw[if_pos q1];rw[if_pos q2]
 have q2:¬300<=(av k.r.vm xt).1:=oF hi2
 refine zu3 ?_
 refine Wi rfl (fun hi3=>?_) (fun hi3=>?_)
 ·have q3:(av k.r.vm xt).1=256:=by simpa using hi3
  refine zp5 ?_
  refine z1 ?_
  refine zc rfl func162 ((mf a _ h1 _) _ _ rfl) ?_
  refine Wn<|aa rfl ?_
  refine zy5 ?_
  refine z1 ?_
  refine dw (zs:=cPW a (wIp (jl (pOk k k.r.vm (av k.r.vm xt).2) (pOk k k.r.vm (av k.r.vm xt).2).r.ip) (W64 (xt+8)))) (lO tG rfl) rfl rfl rfl rfl rfl rfl rfl rfl rfl rfl rfl ?_
  refine Wn<|bj rfl rfl ?_ ?_
  ·rfl
  unfold kr;rw[if_pos q1];rw[if_neg q2,if_pos q3]
 have q3:¬(av k.r.vm xt).1=256:=by simpa using hi3
 refine zu3 ?_
 refine Wi rfl (fun hi4=>?_) (fun hi4=>?_)
 ·have q4:(av k.r.vm xt).1=257:=by simpa using hi4
  refine aa rfl ?_
  refine zy3 ?_
  refine zc rfl func163 ((ke a _ h1 _) _ _ rfl) ?_
  refine Wn<|bj rfl rfl ?_ ?_
  ·rfl
  unfold kr;rw[if_pos q1];rw[if_neg q2,if_neg q3,if_pos q4]
 have q4:¬(av k.r.vm xt).1=257:=by simpa using hi4
 refine zu3 ?_
 refine Wi rfl (fun hi5=>?_) (fun hi5=>?_)
 ·have q5:(av k.r.vm xt).1=258:=by simpa using hi5
  refine aa rfl ?_
  refine zy4 ?_
  refine zc rfl func116 ((j7 a _ h1 _ (cY _)) _ _ rfl) ?_
  refine zc rfl func163 ((ke a _ (ib h1 _).1 _) _ _ rfl) ?_
  refine Wn<|bj rfl rfl ?_ ?_
  ·rfl
  unfold kr;rw[if_pos q1];rw[if_neg q2,if_neg q3,if_neg q4,if_pos q5]
 have q5:¬(av k.r.vm xt).1=258:=by simpa using hi5
 refine zu3 ?_
 refine Wi rfl (fun hi6=>?_) (fun hi6=>?_)
 ·have q6:(av k.r.vm xt).1=259:=by simpa using hi6
  refine zp3 ?_
  refine zc rfl func116 ((j7 a _ h1 _ (cY _)) _ _ rfl) ?_
  refine zs1 ?_
  refine zp3 ?_
  refine zc rfl func163 ((ke a _ (ib h1 _).1 _) _ _ rfl) ?_
  refine Wn<|zp5 ?_
  refine z1 ?_
  refine zc rfl func162 ((mf a _ (vV (ib h1 _).1 (cY _)) _) _ _ rfl) ?_
  refine Wn<|aa rfl ?_
  refine zy5 ?_
  refine dw (zs:=cPW a (wIp (jl (dr (bx (pOk k k.r.vm (av k.r.vm xt).2) (W64 (xt+8))).1 (W64 (xt+16))) (dr (bx (pOk k k.r.vm (av k.r.vm xt).2) (W64 (xt+8))).1 (W64 (xt+16))).r.ip) (bx (pOk k k.r.vm (av k.r.vm xt).2) (W64 (xt+8))).2)) (lO tG rfl) rfl rfl rfl rfl rfl rfl rfl rfl rfl rfl rfl ?_
  refine Wn<|bj rfl rfl ?_ ?_
  ·rfl
  unfold kr;rw[if_pos q1];rw[if_neg q2,if_neg q3,if_neg q4,if_neg q5,if_pos q6]
 have q6:¬(av k.r.vm xt).1=259:=by simpa using hi6
 refine zu3 ?_
 refine Wi rfl (fun hi7=>?_) (fun hi7=>?_)
 ·have q7:(av k.r.vm xt).1=260:=by simpa using hi7
  refine aa rfl ?_
  refine zy3 ?_
  refine zc rfl func164 ((NE a _ h1 _ (cY _)) _ _ rfl) ?_
  refine Wn<|bj rfl rfl ?_ ?_
  ·rfl
  unfold kr;rw[if_pos q1];rw[if_neg q2,if_neg q3,if_neg q4,if_neg q5,if_neg q6,if_pos q7]
 have q7:¬(av k.r.vm xt).1=260:=by simpa using hi7
 refine zp1 ?_
 refine zc rfl func165 ((tU _) _) ?_
 refine zs1 ?_
 refine Wi rfl (fun hi8=>?_) (fun hi8=>?_)
 ·have q8:23<=(av k.r.vm xt).1/\(av k.r.vm xt).1<=129:=oT hi8
  refine aa rfl ?_
  refine zy5 ?_
  refine zy2 ?_
  refine zc rfl func166 ((WG _ hv1 _) _) ?_
  refine zy2 ?_
  refine zc rfl func161 ((rM a _ _ _) _ _ rfl) ?_
  refine Wn<|bj rfl rfl ?_ ?_
  ·rfl
  unfold kr;rw[if_pos q1];rw[if_neg q2,if_neg q3,if_neg q4,if_neg q5,if_neg q6,if_neg q7,if_pos q8]
 have q8:¬(23<=(av k.r.vm xt).1/\(av k.r.vm xt).1<=129):=oF hi8
 refine aa rfl ?_
 refine z1 ?_
 refine zc rfl func98 ((oo) _) ?_
 refine z1 ?_
 refine Wv tG rfl rfl rfl (by(try simp only[dnL]at *);omega) (iR gR 1 (fun _=>rfl) [] (by omega)) ?_
 refine z1 ?_
 refine zc rfl func167 (Ni a _ h1 hM _ _ _ rfl (cp 1 2 rfl rfl)) ?_
 refine Wn<|bj rfl rfl ?_ ?_
 ·rfl
 unfold kr;rw[if_pos q1];rw[if_neg q2,if_neg q3,if_neg q4,if_neg q5,if_neg q6,if_neg q7,if_neg q8]
end
open Go.RowKit
def Cd(e:Int):Prop:=-300<=e/\e<=0
def ai6{e:Int}(h:Cd e):ae e:=by unfold Cd at h;unfold ae;omega
def aD8(n:Nat)(h:n<=300):Cd (-(n:Int)):=by unfold Cd;omega
def cd0:Cd 0:=by unfold Cd;omega
section
variable {α β γ : Type} {c : Prop} [Decidable c]
def DT{a b:Int}(ha:Cd a)(hb:Cd b):Cd (if c then a else b):=by split<;>assumption
def dv{a b:α×Int}(ha:Cd a.2)(hb:Cd b.2):Cd (if c then a else b).2:=by split<;>assumption
def cF{a b:α×β×Int}(ha:Cd a.2.2)(hb:Cd b.2.2):Cd (if c then a else b).2.2:=by split<;>assumption
def Lc{a b:α×β×γ×Int}(ha:Cd a.2.2.2)(hb:Cd b.2.2.2):Cd (if c then a else b).2.2.2:=by split<;>assumption
end
def iO(n:Nat)(h:Nat.ble n 300=true):Cd (-(n:Int)):=aD8 n (Nat.le_of_ble_eq_true h)
def ST(a b:Int):Cd (nG a b).2.2:=by unfold nG;exact cF (iO 10 rfl) cd0
def Vp(a b c:Int):Cd (iH a b c).2.2:=by unfold iH;exact cF (iO 10 rfl) (cF (iO 11 rfl) cd0)
def Wu(a b c:Int):Cd (lD a b c).2.2:=by unfold lD;exact cF (iO 10 rfl) (cF cd0 (iO 11 rfl))
def Fz(a b c:Int):Cd (jL a b c).2.2:=by unfold jL;exact cF (iO 10 rfl) (cF cd0 (iO 11 rfl))
def al5(name:Str)(a b:Int):Cd (mi name a b).2.2:=by
 unfold mi
 rcases op2 name with _|o
 ·exact cd0
 cases o<;>first|exact ST a b|exact cd0
def O6{name:Str}{x:List Int}{r:List Int×Int}(h:rk name x=some r):Cd r.2:=by
 unfold rk at h
 rcases ag h with rfl|h
 ·exact ST _ _
 rcases ag h with rfl|h
 ·exact Fz _ _ _
 rcases ag h with rfl|h
 ·exact Fz _ _ _
 rcases ag h with rfl|h
 ·exact cd0
 rcases ag h with rfl|h
 ·exact cd0
 rcases ag h with rfl|h
 ·exact Vp _ _ _
 rcases ag h with rfl|h
 ·exact Wu _ _ _
 rcases ag h with rfl|h
 ·exact Fz _ _ _
 iterate 7
  rcases ag h with rfl|h
  exact cd0
 cases h
def Mf(m:bn)(a:Int):Cd (cV m a):=by unfold cV;exact DT (DT cd0 (iO 23 rfl)) (iO 9 rfl)
def qy(m:bn)(a:Int):Cd (am m a).2:=by unfold am;exact dv cd0 (Mf _ _)
def Cy(m:bn)(a:Int):Cd (ea m a).2:=by unfold ea;exact dv cd0 (iO 9 rfl)
def sP(m:bn)(a:Int)(b:List UInt8):Cd (cn m a b).2:=by unfold cn;exact dv (dv cd0 cd0) (iO 9 rfl)
def mH(m:bn)(a n:Int):Cd (ay m a n).2:=by unfold ay;exact dv (sP _ _ _) (Mf _ _)
def LL(m:bn)(a n:Int):Cd (dU m a n).2:=by unfold dU;exact dv cd0 (iO 9 rfl)
def Dl(v:VVm)(s b:Int):Cd (ko v s b):=by unfold ko;exact DT (DT (iO 24 rfl) cd0) (qy _ _)
def Nk{v:VVm}{name:Str}{x:List Int}{r:VVm×List Int×Int}(h:qH v name x=some r):Cd r.2.2:=by
 unfold qH at h
 rcases ag h with rfl|h
 ·exact qy _ _
 rcases ag h with rfl|h
 ·exact Cy _ _
 rcases ag h with rfl|h
 ·exact mH _ _ _
 rcases ag h with rfl|h
 ·exact sP _ _ _
 rcases ag h with rfl|h
 ·unfold dy se;exact dv (mH _ _ _) (qy _ _)
 rcases ag h with rfl|h
 ·unfold lu;exact cF (qy _ _) (qy _ _)
 rcases ag h with rfl|h
 ·unfold dy oS;exact dv (mH _ _ _) (mH _ _ _)
 rcases ag h with rfl|h
 ·unfold dy nB;exact dv (sP _ _ _) (iO 9 rfl)
 rcases ag h with rfl|h
 ·unfold dy ny;exact dv (sP _ _ _) (LL _ _ _)
 rcases ag h with rfl|h
 ·exact Cy _ _
 rcases ag h with rfl|h
 ·exact mH _ _ _
 rcases ag h with rfl|h
 ·exact mH _ _ _
 rcases ag h with rfl|h
 ·unfold g8;exact cF (mH _ _ _) (Dl _ _ _)
 rcases ag h with rfl|h
 ·unfold jk;exact cF (mH _ _ _) (Dl _ _ _)
 cases h
def Kj(m:bn)(a:Int)(b:List UInt8):Cd (dg m a b).2.2:=by unfold dg;exact cF (iO 8 rfl) cd0
def QS{v:VVm}{name:Str}{x:List Int}{r:VVm×List Int×Int}(h:ve v name x=some r):Cd r.2.2:=by
 unfold ve at h
 rcases ag h with rfl|h
 ·unfold fg uM mo;exact dv (iO 8 rfl) cd0
 rcases ag h with rfl|h
 ·unfold fg cy;exact cF (Kj _ _ _) (iO 23 rfl)
 rcases ag h with rfl|h
 ·exact Kj _ _ _
 rcases ag h with rfl|h
 ·exact Kj _ _ _
 cases h
def PK{v:VVm}{name:Str}{x:List Int}{r:Str×Int}(h:Gj v name x=some r):Cd r.2:=by
 unfold Gj at h
 iterate 4
  rcases ag h with rfl|h
  exact cd0
 rcases ag h with rfl|h
 ·exact LL _ _ _
 rcases ag h with rfl|h
 ·unfold sa dh;exact dv cd0 (iO 24 rfl)
 rcases ag h with rfl|h
 ·unfold sa dN;exact dv cd0 (iO 24 rfl)
 cases h
def UL(v:VVm){r:Str×Int}(h:Cd r.2):Cd (dB v r).2.2:=by
 unfold dB i8;exact cF (dv (iO 260 rfl) cd0) h
def EQ(p:d8)(c:Int):Cd (gX p c).2:=by unfold gX;exact dv cd0 (iO 17 rfl)
def AB(p:d8)(a b c:Int):Cd (aJ p a b c).2.2.2:=by unfold aJ;exact Lc (iO 24 rfl) (Lc cd0 (EQ _ _))
def L2:∀(n:Nat) (q:d8) (lo hi base:Int),Cd (rF n q lo hi base).2
 | 0,q,lo,hi,base=>AB _ _ _ _
 | n+1,q,lo,hi,base=>by unfold rF;exact dv (AB _ _ _ _) (dv cd0 (L2 n _ _ _ _))
def Wg{v:VVm}{name:Str}{x:List Int}{r:VVm×List Int×Int}(h:AU v name x=some r):Cd r.2.2:=by
 unfold AU at h
 rcases ag h with rfl|h
 ·exact cd0
 rcases ag h with rfl|h
 ·exact AB _ _ _ _
 rcases ag h with rfl|h
 ·unfold gh uU Pn rT;exact dv cd0 (L2 _ _ _ _ _)
 rcases ag h with rfl|h
 ·exact EQ _ _
 rcases ag h with rfl|h
 ·unfold gg oZ;exact dv cd0 (EQ _ _)
 rcases ag h with rfl|h
 ·unfold xR lJ;exact cF (sP _ _ _) (dv cd0 (iO 17 rfl))
 cases h
def Hv(k:Int)(v:VVm)(x:List Int):Cd (dA k v x).2.2:=by
 unfold dA;exact cF (iO 259 rfl) (cF (iO 24 rfl) (cF (iO 257 rfl) (cF (iO 258 rfl) cd0)))
def af8{v:VVm}{name:Str}{x:List Int}{r:VVm×List Int×Int}(h:AP v name x=some r):Cd r.2.2:=by
 unfold AP at h
 rcases ag h with rfl|h
 ·unfold j5;exact cF (iO 259 rfl) (cF (iO 257 rfl) cd0)
 rcases ag h with rfl|h
 ·unfold jI;exact cF (iO 257 rfl) cd0
 rcases ag h with rfl|h
 ·exact Hv _ _ _
 rcases ag h with rfl|h
 ·exact Hv _ _ _
 cases h
def WY(v:VVm)(a:Int):Cd (av v a).2:=by unfold av;exact dv (dv cd0 (iO 9 rfl)) (qy _ _)
def XK(v:VVm)(name:Str)(x:List Int):Cd (Hy v name x).2.2:=by
 unfold Hy
 refine cF cd0 (cF cd0 (cF cd0 (cF cd0 (cF ?_ (iO 1 rfl)))))
 unfold wo;exact cF (iO 31 rfl) (WY _ _)
def Yk(v:VVm)(n:Int)(name:Str)(x:List Int):Cd (bP v n name x).2.2:=by
 unfold bP
 refine cF (al5 _ _ _) (cF cd0 ?_)
 rcases e0:rk name x with _|r
 rotate_left
 ·exact O6 e0
 rcases e1:qH v name x with _|r
 rotate_left
 ·exact Nk e1
 rcases e2:ve v name x with _|r
 rotate_left
 ·exact QS e2
 rcases e3:Gj v name x with _|r
 rotate_left
 ·exact UL v (PK e3)
 rcases e4:AU v name x with _|r
 rotate_left
 ·exact Wg e4
 rcases e5:AP v name x with _|r
 rotate_left
 ·exact af8 e5
 exact XK v name x
def ar0(v:VVm)(n:Int):Cd (doS v n).2:=by
 unfold doS
 refine dv (iO 24 rfl) ?_
 dsimp only
 refine dv ?_ (dv (iO 4 rfl) (dv (Yk _ _ _ _) (dv (iO 3 rfl) cd0)))
 unfold dQ
 exact cF cd0 (cF (iO 4 rfl) (cF (iO 3 rfl) cd0))
open Go.RowKit
def eV{P:Program}{B:Nat->Nat->Prop}{n:Nat}{all:Array Oper}{l:List Oper}{T:Nat->PV}{H H':List Ob}{K:(Nat->PV)->List Ob->Prop}(i:Nat){ob ob':Ob}(hi:H[i]?=some ob)(e:ob=ob')(hH:nfH (H.set i ob')=some H')(h1:WO P B n all l T H' K):WO P B n all l T H K:=by
 rw[s9 hH]at h1
 subst e
 have:H.set i ob=H:=by
  apply List.ext_getElem?
  intro j
  rw[List.getElem?_set]
  split
  ·rename_i h;subst h;split
   ·exact hi.symm
   rename_i h2;rw[List.getElem?_eq_none (by omega)]
  rfl
 rwa [this]at h1
def YM:List Str:=[[73],[74],[85,78,76,79,79,80],[62,82],[82,62],[82,64],[50,62,82],[50,82,62]]
def aA6:List Str:=[[46,34],[40],[92],[91]]
def YW:List Str:=[[59],[68,79,69,83,62],[91,39,93],[91,67,72,65,82,93],[76,73,84,69,82,65,76],[80,79,83,84,80,79,78,69],[82,69,67,85,82,83,69],[73,70],[69,76,83,69],[84,72,69,78],[66,69,71,73,78],[87,72,73,76,69],[82,69,80,69,65,84],[85,78,84,73,76],[65,71,65,73,78],[68,79],[63,68,79],[76,79,79,80],[43,76,79,79,80],[76,69,65,86,69],[83,34],[69,88,73,84]]
def inS(l:List Str)(s:Str):Bool:=l.any (fun x=>decide (x=s))
def Kl(l:List Str)(s:Str)(hl:l.length<=1000000):ab prog 88 [sq gR l,str s] (boo (inS l s)):=by
 refine zY func88 fun B=>?_
 refine zu1 ?_
 refine Ws<|zu1 ?_
 refine Wl ?_
 show W _ _ _ _ _ _ _
 refine gz (fun(k:Nat)=>[(0,sq gR l),(1,str s),(5,i64 k)]) (fun(k:Nat)=>[]) (fun(k:Nat)=>[]) (fun(k:Nat)=>k<=l.length/\(l.take k).all (fun x=>!decide (x=s))=true) (fun(k:Nat)=>l.length-k) (0) (by simp) [] ?_ ?_
 ·exact fM
 intro k hk
 refine Ws<|zu4 ?_
 refine Wi rfl (fun hi1=>?_) (fun hi1=>?_)
 ·have hlt:k<l.length:=by have:=oT hi1;omega
  refine Wj<|Ws<|Wl<|zp2 ?_
  refine Wv tG rfl rfl rfl (by omega) (iN gR 1 (fun _=>rfl) [] (by omega)) ?_
  refine zy3 ?_
  refine zq 17 ?_
  refine Wn<|Wi rfl (fun hi2=>?_) (fun hi2=>?_)
  ·have hy:inS l s=true:=by unfold inS;rw[List.any_eq_true];exact⟨_,S1 [] hlt,hi2⟩
   refine zu1 ?_
   refine zR ?_
   rw[hy];rfl
  refine Wj<|aa rfl ?_
  refine zs3 ?_
  exact⟨k+1,[],(by exact⟨by omega,T0 [] hlt hk.2 (by rw[hi2];rfl)⟩),(by omega),fM⟩
 have hge:l.length<=k:=by have:=oF hi1;omega
 have hn:inS l s=false:=by have h1:=hk.2;rw[px _ k hge]at h1;unfold inS;rw[List.any_eq_false];intro x hx;have:=List.all_eq_true.1 h1 x hx;simpa using this
 refine bi ?_
 refine zu1 ?_
 refine zR ?_
 rw[hn];rfl
def vx(name:Str)(i:Nat):Int:=if i<12 then 6 else if inS YM name then 4 else if inS aA6 name then 1 else if inS YW name then 5 else 0
def Ct(name:Str)(i:Nat):ab prog 49 [str name,i64 i] (i64 (vx name i)):=by
 refine zY func49 fun B=>?_
 refine zu1 ?_
 refine Ws<|zu2 ?_
 refine Wi rfl (fun hi1=>?_) (fun hi1=>?_)
 ·have h0:i<12:=by have:=oT hi1;omega
  refine zu1 ?_
  refine zR ?_
  rw[vx,if_pos h0];rfl
 have h0:¬i<12:=by have:=oF hi1;omega
 refine Wj<|zp1 ?_
 refine Wa 10 rfl (bsL gR [_,_,_,_,_,_,_,_] rfl rfl) ?_
 refine z1 ?_
 refine zc rfl func88 ((Kl YM name (by decide)) _) ?_
 refine zs1 ?_
 refine Ws<|zu1 ?_
 refine Wi rfl (fun hi2=>?_) (fun hi2=>?_)
 ·refine zu1 ?_
  refine zR ?_
  rw[vx,if_neg h0,if_pos hi2];rfl
 refine Wj<|zp1 ?_
 refine Wa 14 rfl (bsL gR [_,_,_,_] rfl rfl) ?_
 refine z1 ?_
 refine zc rfl func88 ((Kl aA6 name (by decide)) _) ?_
 refine zs1 ?_
 refine Ws<|zu1 ?_
 refine Wi rfl (fun hi3=>?_) (fun hi3=>?_)
 ·refine zu1 ?_
  refine zR ?_
  rw[vx,if_neg h0,if_neg (by rw[hi2];simp),if_pos hi3];rfl
 refine Wj<|zp1 ?_
 refine Wa 18 rfl (bsL gR [_,_,_,_,_,_,_,_,_,_,_,_,_,_,_,_,_,_,_,_,_,_] rfl rfl) ?_
 refine z1 ?_
 refine zc rfl func88 ((Kl YW name (by decide)) _) ?_
 refine zs1 ?_
 refine Ws<|zu1 ?_
 refine Wi rfl (fun hi4=>?_) (fun hi4=>?_)
 ·refine zu1 ?_
  refine zR ?_
  rw[vx,if_neg h0,if_neg (by rw[hi2];simp),if_neg (by rw[hi3];simp),if_pos hi4];rfl
 refine Wj<|zu1 ?_
 refine zR ?_
 rw[vx,if_neg h0,if_neg (by rw[hi2];simp),if_neg (by rw[hi3];simp),if_neg (by rw[hi4];simp)];rfl
def Jj:ab prog 47 [] (sqc gR ao):=by
 refine bz tG (rs:=[.tmp 0]) func47 rfl rfl rfl (by simp;done) (by exact lA DF _) (fun B=>?_)
 refine zu1 ?_
 refine zp1 ?_
 refine Wa 1 rfl (bsL gR [_,_,_,_,_,_,_,_,_,_,_,_,_,_,_,_,_,_,_,_,_,_,_,_,_,_,_,_,_,_,_,_,_,_,_,_,_,_,_,_,_,_,_,_,_,_,_,_,_,_,_,_,_,_,_,_,_,_,_,_,_,_,_,_,_,_,_,_,_,_,_,_,_,_,_,_,_,_,_,_,_,_,_,_,_,_,_,_,_,_,_,_,_,_,_,_,_,_,_,_,_,_,_,_,_,_,_,_,_,_,_,_,_,_,_,_,_,_,_,_,_,_,_,_,_,_,_,_,_,_] rfl rfl) ?_
 refine zs1 ?_
 refine Wq ?_
 exact ow rfl rfl
def pk:List Str:=ao++cv
def QZ:pk.length=167:=by unfold pk;rw[List.length_append,lI,iF]
def yI(i:Nat):Nat:=if 130<=i then 170+i else i
def yL(b:List UInt8)(a n:Nat):List UInt8:=(b.set a (UInt8.ofNat (n%256))).set (a+1) (UInt8.ofNat (n/256))
def G9(b:List UInt8)(i:Nat):List UInt8 :=
 let b1:=yL b (32+8*i) (yI i)
 let b2:=if pk.getD i []=[40,104,97,108,116,41]then yL b1 16 (32+8*i)else b1
 if pk.getD i []=[40,99,97,117,103,104,116,41]then yL b2 24 (32+8*i)else b2
def qe(M:Nat):Nat->List UInt8
 | 0=>(List.replicate M 0).set 0 10
 | k+1=>G9 (qe M k) k
def vR(i:Nat):aS:=⟨pk.getD i [],((32+8*i:Nat):Int),vx (pk.getD i []) i⟩
def ig(k:Nat):List aS:=(List.range k).map vR
@[simp] theorem qw (k : Nat) : (ig k).length = k := by simp [ig]
def Pl(k:Nat):ig (k+1)=ig k++[vR k]:=by unfold ig;rw[List.range_succ,List.map_append];rfl
def Ux(b:List UInt8)(a n:Nat):(yL b a n).length=b.length:=by simp[yL]
def Ns(b:List UInt8)(i:Nat):(G9 b i).length=b.length:=by
 unfold G9
 simp only
 split<;>split<;>simp[Ux]
def v6(M k:Nat):(qe M k).length=M:=by
 induction k with
 | zero=>simp[qe]
 | succ k ih=>rw[qe,Ns,ih]
def GY(c:oc):VVm:={conf:=c,mem:=⟨qe c.mem.toNat 167,[]⟩,here:=1368,d:=[],r:=[],f:=[],dict:=ig 167,last:=0,out:=[],pic:=⟨[],false⟩,req:=[],free:=0,next:=0,arg:=0,self:=0,now:=0,hand:=[]}
def vmZ:List PV:=[i64 0,i64 0,i64 0,i64 0,i64 0,.seq 0 [] .clip,.seq 0 [] .clip,i64 0,.seq 0 [] .clip,.seq 0 [] .clip,.seq 0 [] .clip,.seq 0 [] .clip,i64 0,.seq 0 [] .clip,.seq 0 [] .clip,boo false,.seq 0 [] .clip,i64 0,i64 0,i64 0,i64 0,i64 0,.seq 0 [] .clip]
@[simp] theorem aD7 {n : Nat} : qT n vmZ := nR (by simp [vmZ])
def Y0(n:Nat)(h:n<256):((UInt8.ofNat n).toNat:Int)=n:=by rw[UInt8.toNat_ofNat'];omega
def sr(n:Nat):PV.val (Value.int .u8 (IntKind.u8.wrap ((n:Int).tmod 256)))=.val (.int .u8 ((UInt8.ofNat (n%256)).toNat:Int)):=by
 rw[Y0 _ (by omega),Int.tmod_eq_emod_of_nonneg (by omega)]
 simp only[PV.val.injEq,Value.int.injEq,true_and]
 rw[IntKind.wrap_u8];omega
def th(n:Nat)(h:n<65536):PV.val (Value.int .u8 (IntKind.u8.wrap (IntKind.i64.wrap ((n:Int).tdiv 256))))=.val (.int .u8 ((UInt8.ofNat (n/256)).toNat:Int)):=by
 rw[Y0 _ (by omega),Int.tdiv_eq_ediv_of_nonneg (by omega)]
 simp only[PV.val.injEq,Value.int.injEq,true_and]
 rw[bU,IntKind.wrap_u8];unfold wrap64;omega
def dS{b:List UInt8}{i:Int}{n:Nat}{x:UInt8}(hi:i=n)(hn:n<b.length):cD (b.flatMap aL) (0+i.toNat*1) [.val (.int .u8 (x.toNat:Int))]=(b.set n x).flatMap aL:=by
 subst hi
 rw[Int.toNat_natCast,Nat.mul_one,Nat.zero_add]
 exact yn hn x
def X3{M:Nat}{d:TD}{e:TypeId}(hd:d.zero=aL 0):Ob.cells (fT M d) e=.cells ((List.replicate M (0:UInt8)).flatMap aL) e:=by
 unfold fT
 rw[hd,List.flatMap_replicate]
def sC:oc:=⟨2048,32,32,200,500⟩
def ae1(d:List Int):VVm:={GY sC with d:=d}
def ac3{n:Int}(h:(Lit.int .i64 n).wf=true):ae n:=ad2 h
def am6{w:World}{v:Value}(h:YV w 3 v):∃n,ae n/\Rep (c0 w) (i64 n) v:=by
 obtain⟨n,rfl,h2⟩:=O9 underlying3 h
 exact⟨n,ac3 h2,by unfold i64;exact aq _ _⟩
structure bf (N:Nat) (v:VVm):Prop where
 right:zu v
 old:v.mem.old.length<=N
 fd:gA v.d
 fr:gA v.r
 ff:∀x∈v.f,ae x.ip
 ints:ae v.arg/\ae v.self/\ae v.now
 la:ae v.last
structure gV (N:Nat) (r:bJ):Prop where
 m:bf N r.vm
 ip:ae r.ip
 w:ae r.w
def bf.v{N:Nat}{v:VVm}(g:bf N v):wb N v:=⟨(l8 v).2 g.right,g.old,g.fd,g.ints⟩
def bf.up{N M:Nat}{v:VVm}(g:bf N v)(h:N<=M):bf M v:=⟨g.right,by have:=g.old;omega,g.fd,g.fr,g.ff,g.ints,g.la⟩
def gV.up{N M:Nat}{r:bJ}(g:gV N r)(h:N<=M):gV M r:=⟨g.m.up h,g.ip,g.w⟩
def bf.x{N:Nat}{v:VVm}(g:bf N v):VX N v:=by
 have R:=g.right
 have hc:=R.gE
 unfold eO at hc
 have h1:=R.len
 have h2:=R.d
 have h3:=R.r
 have h4:=R.fl
 exact⟨by omega,g.old,by omega,by omega,by omega,g.fd,g.fr,g.ff,by omega,by omega,g.la⟩
section
variable {N : Nat} {v : VVm}
def S8(g:bf N v){d:List Int}(hd:(d.length:Int)<=v.conf.data)(hf:gA d):bf N {v with d:=d}:=by
 have R:=g.right
 exact⟨⟨R.gE,R.mem,R.dict,R.pic,R.len,R.jV,R.jZ,R.f,R.hand,hd,R.r,R.fl,R.dl,R.out,R.req,R.free0,R.free1,R.next0,R.next1,R.handl⟩,g.old,hf,g.fr,g.ff,g.ints,g.la⟩
def Q8(g:bf N v){r:List Int}(hd:(r.length:Int)<=v.conf.ret)(hf:gA r):bf N {v with r:=r}:=by
 have R:=g.right
 exact⟨⟨R.gE,R.mem,R.dict,R.pic,R.len,R.jV,R.jZ,R.f,R.hand,R.d,hd,R.fl,R.dl,R.out,R.req,R.free0,R.free1,R.next0,R.next1,R.handl⟩,g.old,g.fd,hf,g.ff,g.ints,g.la⟩
def Rz(g:bf N v){f:List jt}(h1:f.all qE=true)(h2:f.length<=64)(h3:∀x∈f,ae x.ip):bf N {v with f:=f}:=by
 have R:=g.right
 exact⟨⟨R.gE,R.mem,R.dict,R.pic,R.len,R.jV,R.jZ,h1,R.hand,R.d,R.r,h2,R.dl,R.out,R.req,R.free0,R.free1,R.next0,R.next1,R.handl⟩,g.old,g.fd,g.fr,h3,g.ints,g.la⟩
def QC(g:bf N v){m:bn}(k:dP v.mem m 1):bf (N+1) (tb v m):=by
 have R:=g.right
 refine⟨⟨R.gE,k.right R.mem,R.dict,R.pic,?_,R.jV,R.jZ,R.f,R.hand,R.d,R.r,R.fl,R.dl,R.out,R.req,R.free0,R.free1,R.next0,R.next1,R.handl⟩,?_,g.fd,g.fr,g.ff,g.ints,g.la⟩
 ·show(m.b.length:Int)=v.conf.mem;rw[k.len];exact R.len
 show m.old.length<=N+1;have:=k.old;have:=g.old;omega
end
def KG(N:Nat)(k:PW):Prop:=match k.err with
 | .ok=>gV N k.r
 | .bad e=>ae e
 | .halt=>False
def KF2(N:Nat)(k:PW):Prop:=match k.err with
 | .bad e=>ae e
 | _=>gV N k.r
section
variable {N : Nat} {k : PW}
def KG.ok(g:KG N k)(h:k.err=.ok):gV N k.r:=by unfold KG at g;rw[h]at g;exact g
def YD(h:k.err=.ok)(g:gV N k.r):KG N k:=by unfold KG;rw[h];exact g
def DK{M:Nat}(g:KG N k)(h:N<=M):KG M k:=by
 unfold KG at g ⊢
 cases q:k.err with
 | ok=>rw[q]at g;exact g.up h
 | bad c=>rw[q]at g;exact g
 | halt=>rw[q]at g;exact g.elim
def yw(g:KG N k){v:VVm}{e:Int}{M:Nat}(hM:N<=M)(he:ae e)(hv:k.err=.ok->e=0->bf M v):KG M (pOk k v e):=by
 unfold pOk
 cases q:k.err with
 | ok =>
  dsimp only
  by_cases h:e=0
  ·rw[if_pos h];exact YD rfl ⟨hv q h,(g.ok q).ip,(g.ok q).w⟩
  rw[if_neg h];exact he
 | bad c=>exact DK g hM
 | halt=>exact DK g hM
def oC(n:Nat)(h:n<=300):ae (-(n:Int)):=by unfold ae;omega
def jF(g:KG N k){n:Int}(hn:k.err=.ok->ae n):KG N (dr k n):=by
 refine yw g (Nat.le_refl _) ?_ (fun q h0=>?_)
 ·unfold fQ gP;split;exact oC 3 (by omega);exact bI
 have m:=(g.ok q).m
 have h:=h0
 unfold fQ gP at h ⊢
 by_cases c:k.r.vm.conf.data<=(k.r.vm.d.length:Int)
 ·rw[if_pos c]at h;cases h
 rw[if_neg c];exact S8 m (by simp only[List.length_append,List.length_singleton];omega) (jr m.fd (dj (hn q)))
def ql(g:KG N k){n:Int}(hn:k.err=.ok->ae n):KG N (jl k n):=by
 refine yw g (Nat.le_refl _) ?_ (fun q h0=>?_)
 ·unfold gK;split;exact oC 5 (by omega);exact bI
 have m:=(g.ok q).m
 have h:=h0
 unfold gK at h ⊢
 by_cases c:k.r.vm.conf.ret<=(k.r.vm.r.length:Int)
 ·rw[if_pos c]at h;cases h
 rw[if_neg c];exact Q8 m (by simp only[List.length_append,List.length_singleton];omega) (jr m.fr (dj (hn q)))
def jT(g:KG N k):KG N (bc k).1/\ae (bc k).2:=by
 refine⟨yw g (Nat.le_refl _) ?_ (fun q h0=>?_),?_⟩
 ·unfold eg bo;split;exact oC 4 (by omega);exact bI
 ·have m:=(g.ok q).m
  unfold eg bo
  split
  ·exact m
  exact S8 m (by have:=m.right.d;simp only[List.length_take];omega) (nU _ m.fd)
 unfold bc;dsimp only;split
 ·rename_i q
  exact(Fa ((g.ok (io (il.1 q)).1).m.x)).2
 exact bI
def jf(g:KG N k):KG N (gD k).1/\ae (gD k).2:=by
 refine⟨yw g (Nat.le_refl _) ?_ (fun q h0=>?_),?_⟩
 ·unfold fv;split;exact oC 6 (by omega);exact bI
 ·have m:=(g.ok q).m
  unfold fv
  split
  ·exact m
  exact Q8 m (by have:=m.right.r;simp only[List.length_take];omega) (nU _ m.fr)
 unfold gD;dsimp only;split
 ·rename_i q
  exact(Ed ((g.ok (io (il.1 q)).1).m.x)).2
 exact bI
def uE(m:bn)(a:Int):ae (cV m a):=by
 unfold cV;split
 ·split;exact bI;exact oC 23 (by omega)
 exact oC 9 (by omega)
def iP(g:KG N k)(a:Int):KG N (bx k a).1/\ae (bx k a).2:=by
 refine⟨yw g (Nat.le_refl _) ?_ (fun q _=>(g.ok q).m),G4 _ _⟩
 unfold am;split;exact bI;exact uE _ _
def Ih(g:KG N k)(a n:Int):KG (N+1) (mW k a n):=by
 refine yw g (by omega) ?_ (fun q _=>QC (g.ok q).m (cP _ _ _))
 unfold ay cn;split
 ·split
  ·split<;>exact bI
  exact oC 9 (by omega)
 exact uE _ _
def nq(g:KG N k){e:Int}(he:ae e):KG N (pOk k k.r.vm e):=yw g (Nat.le_refl _) he (fun q _=>(g.ok q).m)
def wh(g:KG N k){a:Int}(ha:k.err=.ok->ae a):KG N (wIp k a):=by
 unfold KG at g ⊢
 unfold wIp;dsimp only
 cases q:k.err with
 | ok=>rw[q]at g;exact⟨g.m,ha q,g.w⟩
 | bad c=>rw[q]at g;exact g
 | halt=>rw[q]at g;exact g.elim
def E7(g:KG N k){a:Int}(ha:k.err=.ok->ae a):KG N (vX k a):=by
 unfold KG at g ⊢
 unfold vX;dsimp only
 cases q:k.err with
 | ok=>rw[q]at g;exact⟨g.m,g.ip,ha q⟩
 | bad c=>rw[q]at g;exact g
 | halt=>rw[q]at g;exact g.elim
def Ei(g:KG N k)(n:Nat):KG N (cq k n).1/\(k.err=.ok->ae (cq k n).2):=by
 unfold cq;split
 ·exact⟨nq g (oC 6 (by omega)),fun _=>bI⟩
 exact⟨g,fun q=>vN (g.ok q).m.fr _⟩
def GZ(g:KG N k):KF2 N k:=by
 unfold KG at g;unfold KF2
 cases q:k.err with
 | ok=>rw[q]at g;exact g
 | bad c=>rw[q]at g;exact g
 | halt=>rw[q]at g;exact g.elim
def sU{c:Prop}[Decidable c]{a b:PW}(h1:KG N a)(h2:KG N b):KG N (if c then a else b):=by split<;>assumption
def dZ{c:Prop}[Decidable c]{a b:PW}(h1:KF2 N a)(h2:KF2 N b):KF2 N (if c then a else b):=by split<;>assumption
def zf(g:KG N k)(b:Bool):KG N (lq k b):=by
 unfold lq
 exact sU (wh (iP g _).1 (fun _=>(iP g _).2)) (wh g (fun _=>cY _))
def MB(g:KG N k):KG N (ti k):=wh (jf g).1 (fun _=>(jf g).2)
def ZH(g:KG N k):KG N (OB k):=wh (jF (iP g _).1 (fun _=>(iP g _).2)) (fun _=>cY _)
def J8(g:KG N k):KG N (AZ k):=ql (ql (jT (jT g).1).1 (fun _=>(jT (jT g).1).2)) (fun _=>(jT g).2)
def Yt(g:KG N k):KG N (tc k):=jF (jF (jf (jf g).1).1 (fun _=>(jf (jf g).1).2)) (fun _=>(jf g).2)
def Zm(g:KG N k):KG N (As k):=by
 have a:=jT g
 have b:=jT a.1
 unfold As
 exact sU (zf b.1 _) (J8 (wh (jF (jF b.1 (fun _=>b.2)) (fun _=>a.2)) (fun _=>cY _)))
def LB(g:KG N k)(n:Int):KG N (py k n):=by
 have a:=Ei g 1
 have b:=Ei a.1 0
 unfold py
 exact sU (zf (sU (jf (jf b.1).1).1 (ql (jf b.1).1 (fun _=>Gd _ _ _))) _) b.1
def Vk(g:KG N k):KG (N+2) (ti (mN k)):=by
 unfold mN
 exact MB (sU (DK (nq g (oC 31 (by omega))) (by omega)) (Ih (Ih g _ _) _ _))
def Ng(g:KG N k):KG N (lm k):=by
 unfold lm
 split
 ·exact nq g (oC 6 (by omega))
 rename_i h0
 refine jF ?_ (fun _=>bI)
 unfold KG at g ⊢
 dsimp only
 cases q:k.err with
 | ok =>
  rw[q]at g
  refine⟨Rz g.m ?_ (by have:=g.m.right.fl;simp only[List.length_take];omega) (fun x hx=>g.m.ff x (List.mem_of_mem_take hx)),?_,g.w⟩
  ·exact List.all_eq_true.2 fun x hx=>List.all_eq_true.1 g.m.right.f x (List.mem_of_mem_take hx)
  exact g.m.ff _ (by rw[List.getD_eq_getElem?_getD,List.getElem?_eq_getElem (by omega)];exact List.getElem_mem _)
 | bad c=>rw[q]at g;exact g
 | halt=>rw[q]at g;exact g.elim
def al3{a:Int}(h:ae a):ae (wI [65,76,73,71,78,69,68] a).1:=by
 show ae (if a%8=0 then a else wrap64 (a-a%8+8))
 split
 ·exact h
 exact gS _
def al2(g:KG N k):KG N (Jr k):=by
 have f:=iP g k.r.ip
 unfold Jr
 refine wh (jF (jF (nq f.1 ?_) (fun _=>cY _)) (fun _=>f.2)) (fun _=>al3 (cY _))
 unfold dU;split;exact bI;exact oC 9 (by omega)
def Q4(g:KG N k):KG N (oJ k):=by
 have a:=jT g
 unfold oJ wFr
 refine E7 ?_ (fun _=>a.2)
 split
 ·rename_i h0
  have b:=nq a.1 (e:=-5) (oC 5 (by omega))
  have hb:(pOk (bc k).1 (bc k).1.r.vm (-5)).err≠.ok:=fun q=>by have:=(io q).2;omega
  unfold KG at b ⊢
  dsimp only
  cases q:(pOk (bc k).1 (bc k).1.r.vm (-5)).err with
  | ok=>exact absurd q hb
  | bad c=>rw[q]at b;exact b
  | halt=>rw[q]at b;exact b.elim
 rename_i h0
 have b:=a.1
 unfold KG at b ⊢
 dsimp only
 cases q:(bc k).1.err with
 | ok =>
  rw[q]at b
  have R:=b.m.right
  have hc:=R.gE
  unfold eO at hc
  have h1:=R.d
  have h2:=R.r
  refine⟨Rz b.m ?_ (by simp only[List.length_append,List.length_singleton];omega) (fun x hx=>?_),(by unfold ae;dsimp only;omega),b.w⟩
  ·rw[List.all_append,R.f]
   simp only[List.all_cons,List.all_nil,Bool.and_true,Bool.true_and]
   unfold qE
   simp only[decide_eq_true_eq,Bool.and_eq_true]
   omega
  rcases List.mem_append.1 hx with hx|hx
  ·exact b.m.ff x hx
  simp only[List.mem_singleton]at hx;subst hx;exact b.ip
 | bad c=>rw[q]at b;exact b
 | halt=>rw[q]at b;exact b.elim
def Jl(g:KG N k)(b:Int):KG N (fJ k b):=by
 have x:=iP g b
 have y:=iP x.1 (W64 (b+8))
 unfold fJ
 dsimp only
 have z:=fun(c:Bool)=>iP (sU (c:=c=true) (nq y.1 (e:=-24) (oC 24 (by omega))) y.1) (W64 (W64 (b+16)+W64 (8*(bx k b).2)))
 exact sU (z _).1 (E7 (z _).1 (fun _=>(z _).2))
def UG(g:KG N k):KG N (pOk (bc k).1 (bc k).1.r.vm (bc k).2):=nq (jT g).1 (jT g).2
def Jy(g:KG N k)(h0:k.err=.ok)(name:Str):KF2 (N+2) (mF k name):=by
 have u:=fun {a:PW} (q:KG N a)=>GZ (DK q (by omega:N<=N+2))
 unfold mF G7
 refine dZ (GZ (Vk g)) (dZ (u (MB g)) (dZ (u (ZH g)) (dZ (u (zf g _)) (dZ (u (zf (jT g).1 _)) (dZ (u (Zm g)) (dZ (u (J8 g)) (dZ (u (LB g 1)) (dZ (u (LB (jT g).1 _)) (dZ ?_ ?_)))))))))
 ·have b:=(g.ok h0).up (by omega:N<=N+2);exact⟨b.m,b.ip,b.w⟩
 refine dZ (u (Ng g)) (dZ (u (al2 g)) (dZ (u (E7 (jT g).1 (fun _=>(jT g).2))) (dZ (u (Q4 g)) (dZ (u (UG g)) ?_))))
 have d:=fun n=>Ei g n
 have dp:=fun n=>u (jF (d n).1 (fun q=>(d n).2 (yY q)))
 exact dZ (dp 0) (dZ (dp 2) (dZ (u (jf (jf (d 1).1).1).1) (dZ (u (ql (jT g).1 (fun _=>(jT g).2))) (dZ (u (jF (jf g).1 (fun _=>(jf g).2))) (dZ (dp 0) (dZ (u (J8 g)) (dZ (u (Yt g)) (u g))))))))
end
def ON{v:VVm}{n:Int}{N:Nat}(g:bf N v):bf (N+2) (doS v n).1:=by
 have q:=Qr (n:=n) g.v
 have s:=IG (n:=n) g.v
 unfold Ds at s
 have e1:(doS v n).1.r=v.r:=by have q:=congrArg VVm.r s;exact q
 have e2:(doS v n).1.f=v.f:=by have q:=congrArg VVm.f s;exact q
 have e3:(doS v n).1.last=v.last:=by have q:=congrArg VVm.last s;exact q
 exact⟨(l8 _).1 q.right,q.old,q.d,by rw[e1];exact g.fr,by rw[e2];exact g.ff,q.ints,by rw[e3];exact g.la⟩
def Xq{k:PW}{N:Nat}(g:KG N k)(h0:k.err=.ok){xt:Int}(hx:ae xt):KF2 (N+2) (kr k xt):=by
 have u:=fun {a:PW} (q:KG N a)=>GZ (DK q (by omega:N<=N+2))
 have fk:ae (av k.r.vm xt).2:=by
  unfold av;split
  ·split;exact bI;exact oC 9 (by omega)
  unfold am;split;exact bI;exact uE _ _
 have g1:=nq g fk
 unfold kr
 dsimp only
 by_cases c:iz (pOk k k.r.vm (av k.r.vm xt).2).err=true
 ·rw[if_pos c]
  have o1:=il.1 c
  have gr:=g1.ok o1
  refine dZ (u (nq g1 (oC 14 (by omega)))) (dZ (u (wh (ql g1 (fun q=>gr.ip)) (fun _=>cY _))) (dZ (u (jF g1 (fun _=>cY _))) (dZ (u (jF (iP g1 _).1 (fun _=>(iP g1 _).2))) (dZ ?_ (dZ (u (Jl g1 _)) (dZ ?_ (Jy g1 o1 _)))))))
  ·have f:=iP g1 (W64 (xt+8))
   have p:=jF f.1 (n:=W64 (xt+16)) (fun _=>cY _)
   exact u (wh (ql p (fun q=>(p.ok q).ip)) (fun _=>f.2))
  exact GZ (yw g1 (by omega) (ai6 (ar0 _ _)) (fun q _=>ON gr.m))
 rw[if_neg c];exact u g1
def UZ{r:bJ}{N:Nat}(g:gV N r):KG N (cd r).1/\ae (cd r).2:=by
 have b:KG N (gF r):=YD rfl ⟨g.m,g.ip,bI⟩
 have f:=iP b r.ip
 unfold cd
 split
 ·exact⟨b,g.w⟩
 exact⟨sU (wh f.1 (fun _=>cY _)) f.1,f.2⟩
def lW(s:List Int)(n:Nat):(lc s n).length=n:=by unfold lc;simp only[List.length_append,List.length_take,List.length_replicate];omega
def DB{s:List Int}(h:gA s)(n:Nat):gA (lc s n):=jr (nU _ h) (fun x hx=>by rw[List.eq_of_mem_replicate hx];exact bI)
def xS{r:bJ}{N:Nat}(g:gV N r){e:Int}(he:ae e):gV N (ct r e).1:=by
 unfold ct
 split
 ·exact g
 rename_i h0
 dsimp only
 have R:=g.m.right
 have hc:=R.gE
 unfold eO at hc
 have hm:r.vm.f.getD (r.vm.f.length-1) default∈r.vm.f:=by rw[List.getD_eq_getElem?_getD,List.getElem?_eq_getElem (by omega)];exact List.getElem_mem _
 have hf:=List.all_eq_true.1 R.f _ hm
 unfold qE at hf
 simp only[decide_eq_true_eq,Bool.and_eq_true]at hf
 generalize r.vm.f.getD (r.vm.f.length-1) default=F at *
 have a1:=Rz g.m (f:=r.vm.f.take (r.vm.f.length-1)) (List.all_eq_true.2 fun x hx=>List.all_eq_true.1 R.f x (List.mem_of_mem_take hx)) (by have:=R.fl;simp only[List.length_take];omega) (fun x hx=>g.m.ff x (List.mem_of_mem_take hx))
 have a2:=S8 a1 (d:=lc r.vm.d (min F.d (r.vm.conf.data-1)).toNat++[e]) (by show _<=r.vm.conf.data;simp only[List.length_append,List.length_singleton,lW];omega) (jr (DB g.m.fd _) (dj he))
 have a3:=Q8 a2 (r:=lc r.vm.r (min F.r r.vm.conf.ret).toNat) (by show _<=r.vm.conf.ret;rw[lW];omega) (DB g.m.fr _)
 exact⟨a3,g.m.ff F hm,g.w⟩
def NQ{r:bJ}{N:Nat}(g:gV N r):gV (N+2) (s7 r).1:=by
 unfold s7
 split
 ·exact g.up (by omega)
 have t:=UZ g
 have tr:=(we r).2
 have tg:KF2 (N+2) (iG r):=by
  unfold iG
  by_cases c:iz (cd r).1.err=true
  ·rw[if_pos c];exact Xq t.1 (il.1 c) t.2
  rw[if_neg c];exact GZ (DK t.1 (by omega))
 have wg:gV N (cd r).1.r:=by
  rw[tr]
  refine⟨g.m,?_,bI⟩
  have e:(yq r).1.ip=(cd r).1.r.ip:=by rw[tr]
  rw[e]
  unfold cd
  split
  ·exact g.ip
  dsimp only
  split
  ·exact cY _
  rw[zb];exact g.ip
 unfold KF2 at tg
 cases q:(iG r).err with
 | ok=>rw[q]at tg;exact tg
 | halt=>rw[q]at tg;exact tg
 | bad c=>rw[q]at tg;exact(xS wg tg).up (by omega)
open Go.RowKit
def Ke:yM->Bool
 | .halt=>true
 | _=>false
def I9{c:Cx}{t:TypeId}{x z:Value}{y:PV}{v:Value}(h:Rep c (.ifc t (.agg [.val x,y])) v)(hy:∀u,Rep c y u->u=z):v=.iface t (.agg #[x,z]):=by
 unfold Rep at h
 obtain⟨u,rfl,h⟩:=h
 unfold Rep at h
 obtain⟨vs,rfl,h⟩:=h
 match vs,h with
 | [],h=>have:=au.length h;simp at this
 | [_],h=>have:=au.length h;simp at this
 | [p,q],h =>
  have h1:=(aj.1 h).1
  have h2:=hy _ (aj.1 (aj.1 h).2).1
  unfold Rep at h1
  rw[h1,h2]
 | _::_::_::_,h=>have:=au.length h;simp at this
def y6{c:Cx}{t:TypeId}{x v:Value}(h:Rep c (.ifc t (.agg [.val x])) v):v=.iface t (.agg #[x]):=by
 unfold Rep at h
 obtain⟨u,rfl,h⟩:=h
 unfold Rep at h
 obtain⟨vs,rfl,h⟩:=h
 match vs,h with
 | [],h=>have:=au.length h;simp at this
 | [p],h =>
  have h1:=(aj.1 h).1
  unfold Rep at h1
  rw[h1]
 | _::_::_,h=>have:=au.length h;simp at this
def vL{c:Cx}{x y:PV}{vs:List Value}{a b:Value}(h:au c [x,y] vs)(hx:∀u,Rep c x u->u=a)(hy:∀u,Rep c y u->u=b):vs=[a,b]:=by
 match vs,h with
 | [],h=>have:=au.length h;simp at this
 | [_],h=>have:=au.length h;simp at this
 | [p,q],h=>rw[hx _ (aj.1 h).1,hy _ (aj.1 (aj.1 h).2).1]
 | _::_::_::_,h=>have:=au.length h;simp at this
def Bw{c:Cx}{x v:Value}(h:Rep c (.val x) v):v=x:=by unfold Rep at h;exact h
def aG2(a:Addr)(xt:Int)(e:yM)(he:iz e=false):ab prog 118 [.ifc 199 (.agg [i64 xt,B5 a e]),.val (haltV a)] (boo (Ke e)):=by
 cases e with
 | ok=>cases he
 | bad k=>exact sI (l:=[atV xt (Wh k),haltV a]) (v:=.bool false) (fun c vs h=>vL h (fun u hu=>I9 hu (fun _ hq=>y6 hq)) (fun u hu=>Bw hu)) (fun c=>aq _ _) (ZS a xt k)
 | halt=>exact sI (l:=[atV xt (haltV a),haltV a]) (v:=.bool true) (fun c vs h=>vL h (fun u hu=>I9 hu (fun _ hq=>Bw hq)) (fun u hu=>Bw hu)) (fun c=>aq _ _) (ak1 a xt)
def aD3(xt k:Int){x0:PV}(H:List Ob)(i j:Nat)(hi:H[i]?=some (.cells [x0] 201))(hj:H[j]?=some (.glob 0 etV)):
  HC prog 83 [.ifc 199 (.agg [i64 xt,.ifc 201 (.agg [i64 k])]),.ifc 203 (.ptr i 0)] H (boo true) (H.set i (.cells [i64 k] 201)):=by
 intro B σ w vs s hv
 obtain⟨b,vs0,fr,hb,hw,hfr,p,q,rfl,hp⟩:=s.holds i _ hi
 simp only[cx]at hb hw
 match p,hp with
 | [],hp=>have:=au.length hp;simp at this
 | _::_::_,hp=>have:=au.length hp;simp at this
 | [old],hp =>
 have hvs:vs=[atV xt (Wh k),.iface 203 (.pointer (some ⟨b,0,none⟩))]:=vL hv (fun u hu=>I9 hu (fun _ hq=>y6 hq)) (fun u hu=>by
  unfold Rep at hu
  obtain⟨z,rfl,hz⟩:=hu
  unfold Rep at hz
  obtain⟨_,b2,h2,rfl⟩:=hz
  simp only[cx]at h2
  rw[hb]at h2;cases h2;rfl)
 subst hvs
 obtain⟨hg,_⟩:=s.holds j _ hj
 have ht0:w.cell? ⟨b,0,none⟩=some old:=by rw[fc hw];rfl
 have hf0:w.frozen? ⟨b,0,none⟩=false:=by
  rcases hfr with rfl|hz
  ·simp[World.frozen?,hw]
  obtain⟨lo,hi'⟩:=fr
  simp only[World.frozen?,hw,Bool.and_eq_false_iff,decide_eq_false_iff_not]
  simp only[List.length_append,List.length_cons]at hz
  exact .inl (by omega)
 refine Calls.mono (af3 xt k ⟨b,0,none⟩ old w hg ht0 hf0) ?_
 rintro e w' ⟨rfl,w1,g,rfl⟩
 obtain⟨s1,st1⟩:=gc s g
 have hw1:w1.heap[b]?=some (Obj.cells (old::q).toArray 201 fr):=(g.block b (Array.getElem?_eq_some_iff.1 hw).1).trans hw
 obtain⟨s2,st2⟩:=lK s1 (ys:=[i64 k]) (us:=.int .i64 k::q) hi hb hw1 hfr rfl ⟨[.int .i64 k],q,rfl,aj.2 ⟨aq _ _,az.2 rfl⟩⟩
 have e1:w1.setCell ⟨b,0,none⟩ (.int .i64 k)=w1.setRow b (Value.int .i64 k::q).toArray:=by
  rw[setCell_eq_setRow w1 b 0 _ _ _ _ hw1];simp
 rw[e1]
 exact⟨.bool true,σ,rfl,aq _ _,s2,st1.trans st2⟩
def Km(n:Nat){d:TD}(hz:d.zero=[i64 0]):fT n d=(List.replicate n (0:Int)).flatMap ap:=by
 unfold fT
 rw[hz]
 induction n with
 | zero=>rfl
 | succ n ih=>rw[List.replicate_succ,List.replicate_succ,List.flatten_cons,List.flatMap_cons,ih];rfl
def oN(l:List Int):l.flatMap ap=l.map i64:=by
 induction l with
 | nil=>rfl
 | cons x l ih=>rw[List.flatMap_cons,ih];rfl
def yE(s:List Int)(n:Nat){d:TD}(hs:d.size=1)(hz:d.zero=[i64 0]):cD (fT n d) 0 ((s.flatMap ap).take (min s.length n*d.size))=(lc s n).flatMap ap:=by
 rw[Km n hz,oN,oN,oN,hs,Nat.mul_one]
 unfold cD lc
 rw[List.take_zero,List.nil_append,Nat.zero_add,<-List.map_take,List.length_map,List.length_take,<-List.map_drop,List.map_append,List.drop_replicate]
 congr 2
 ·rcases Nat.le_total s.length n with h|h
  ·rw[Nat.min_eq_left h,List.take_of_length_le (Nat.le_refl _),List.take_of_length_le h]
  rw[Nat.min_eq_right h]
 congr 1;omega
def MV(s:List Int)(n:Nat):PV.seq n (((lc s n).flatMap ap).take n) .clip=sqc ap (lc s n):=by
 have h:=lW s n
 rw[oN,<-List.map_take,List.take_of_length_le (by omega),<-oN]
 unfold sqc;rw[h]
def si(s:List Int)(n:Nat)(hs:s.length<=1000000)(hn:n<=1000000):ab prog 169 [sq ap s,i64 (n:Int)] (sqc ap (lc s n)):=by
 refine zY func169 fun B=>?_
 refine zu1 ?_
 refine zp1 ?_
 refine z2 ?_ (q:=(by(simp_all;omega)))
 refine zs1 ?_
 refine zp2 ?_
 refine Wd rfl rfl (nN (lO tG rfl) rfl (lO tG rfl) rfl rfl rfl rfl (al _ 1 (fun _=>rfl) _) (bF _ (fun _=>rfl) _) (by rw[mL _ _ rfl];simp)) ?_
 refine jM (H':=[.cells ((lc s n).flatMap ap) 3]) (by refine congrArg (fun z=>[Ob.cells z 3]) (yE s n ?_ ?_).symm<;>rfl) ?_
 refine Wn<|zp1 ?_
 refine AS 11 0 n n rfl rfl (by rw[oN,List.length_map,lW];exact Nat.le_refl _) ?_
 refine Wa 11 rfl (MV s n) ?_
 refine zs1 ?_
 refine Wq ?_
 exact ow rfl rfl
def y8(r:bJ)(b:Bool):PV:=iA (xy r) (boo b)
@[simp] theorem Vb (r : bJ) (b : Bool) : aU (y8 r b) := by simp [y8]
def Fq(r:bJ)(e:Int)(N:Nat)(g:bf N r.vm):ab prog 119 [xy r,i64 e] (y8 (ct r e).1 (decide (r.vm.f.length≠0))):=by
 have R:=g.right
 have hc:=R.gE
 unfold eO at hc
 have hfl:=R.fl
 have hd:=R.d
 have hr:=R.r
 by_cases h0:r.vm.f.length=0
 ·have e1:(ct r e).1=r:=by unfold ct;rw[if_pos h0]
  rw[e1]
  refine zY func119 fun B=>?_
  refine zu3 ?_
  refine zu5 ?_
  refine Ws<|zu2 ?_
  refine Wt rfl (by(try simp only[dnL]at *);omega) ?_
  refine zu3 ?_
  refine zR ?_
  exact congrArg (y8 r) (decide_eq_false (fun q=>q h0)).symm
 have hm:r.vm.f.getD (r.vm.f.length-1) default∈r.vm.f:=by rw[List.getD_eq_getElem?_getD,List.getElem?_eq_getElem (by omega)];exact List.getElem_mem _
 have hf:=List.all_eq_true.1 R.f _ hm
 unfold qE at hf
 simp only[decide_eq_true_eq,Bool.and_eq_true]at hf
 have e1:ct r e=({r with vm:={r.vm with f:=r.vm.f.take (r.vm.f.length-1),d:=lc r.vm.d (min (r.vm.f.getD (r.vm.f.length-1) default).d (r.vm.conf.data-1)).toNat++[e],r:=lc r.vm.r (min (r.vm.f.getD (r.vm.f.length-1) default).r r.vm.conf.ret).toNat},ip:=(r.vm.f.getD (r.vm.f.length-1) default).ip},0):=by
  unfold ct;rw[if_neg h0]
 rw[e1]
 have w0:IntKind.i64.wrap ((r.vm.f.length:Int)-1)=((r.vm.f.length-1:Nat):Int):=by((rw[bU];unfold wrap64;(try simp only[dnL]at *);omega))
 have w1:IntKind.i64.wrap (r.vm.conf.data-1)=r.vm.conf.data-1:=by((rw[bU];unfold wrap64;(try simp only[dnL]at *);omega))
 have w2:(if r.vm.conf.data-1<(r.vm.f.getD (r.vm.f.length-1) default).d then r.vm.conf.data-1 else(r.vm.f.getD (r.vm.f.length-1) default).d)=((min (r.vm.f.getD (r.vm.f.length-1) default).d (r.vm.conf.data-1)).toNat:Int):=by split<;>omega
 have w3:(if r.vm.conf.ret<(r.vm.f.getD (r.vm.f.length-1) default).r then r.vm.conf.ret else(r.vm.f.getD (r.vm.f.length-1) default).r)=((min (r.vm.f.getD (r.vm.f.length-1) default).r r.vm.conf.ret).toNat:Int):=by split<;>omega
 have hdl:=lW r.vm.d (min (r.vm.f.getD (r.vm.f.length-1) default).d (r.vm.conf.data-1)).toNat
 refine zY func119 fun B=>?_
 refine zu3 ?_
 refine zu5 ?_
 refine Ws<|zu2 ?_
 refine Wf rfl (by(try simp only[dnL]at *);omega) ?_
 refine Wj<|zp5 ?_
 refine Wa 19 rfl (congrArg (fun z=>PV.val (Value.int .i64 z)) w0) ?_
 refine Wv tG rfl rfl rfl (by omega) (iN jv 3 (fun _=>rfl) default (by omega)) ?_
 refine zs3 ?_
 refine zp5 ?_
 refine Wa 26 rfl (congrArg (fun z=>PV.val (Value.int .i64 z)) w0) ?_
 refine z2 ?_ (q:=(by(simp_all;done)))
 refine Wa 27 rfl (cM jv 3 (fun _=>rfl) (by omega)) ?_
 refine zs3 ?_
 refine zp5 ?_
 refine zy5 ?_
 refine Wa 39 rfl (congrArg (fun z=>PV.val (Value.int .i64 z)) w1) ?_
 refine z1 ?_
 refine Wa 40 rfl (congrArg (fun z=>PV.val (Value.int .i64 z)) w2) ?_
 refine zc rfl func169 ((si r.vm.d (min (r.vm.f.getD (r.vm.f.length-1) default).d (r.vm.conf.data-1)).toNat (by omega) (by omega)) _) ?_
 refine zy2 ?_
 refine Wa 43 rfl (bsL ap [_] rfl rfl) ?_
 refine Wd rfl rfl (ce (lO tG rfl) rfl (lO tG rfl) (lO tG rfl) rfl rfl (by exact⟨_,rfl⟩) (by exact⟨rfl,rfl,al _ 1 (fun _=>rfl) _,bF _ (fun _=>rfl) _⟩) (by exact al _ 1 (fun _=>rfl) _) (by((simp_all;omega))) (by((simp_all;omega)))) ?_
 refine Wa 44 rfl (cz ap) ?_
 refine zs3 ?_
 refine zp5 ?_
 refine zy5 ?_
 refine Wa 56 rfl (congrArg (fun z=>PV.val (Value.int .i64 z)) w3) ?_
 refine zc rfl func169 ((si r.vm.r (min (r.vm.f.getD (r.vm.f.length-1) default).r r.vm.conf.ret).toNat (by omega) (by omega)) _) ?_
 refine zs3 ?_
 refine zu4 ?_
 refine zu3 ?_
 refine zR ?_
 rw[decide_eq_true h0];rfl
def Mb(r:bJ×Bool×Int):PV:=kg (xy r.1) (boo r.2.1) (i64 r.2.2)
@[simp] theorem ac5 (r : bJ × Bool × Int) : aU (Mb r) := by simp [Mb]
def S9{r:bJ}(h:r.dof=true):cd r=(gF r,r.w):=by unfold cd;rw[if_pos h]
def Xx{r:bJ}(h:¬r.dof=true)(k:iz (bx (gF r) r.ip).1.err=true):cd r=(wIp (bx (gF r) r.ip).1 (W64 ((bx (gF r) r.ip).1.r.ip+8)),(bx (gF r) r.ip).2):=by unfold cd;rw[if_neg h,if_pos k]
def VM{r:bJ}(h:¬r.dof=true)(k:¬iz (bx (gF r) r.ip).1.err=true):cd r=((bx (gF r) r.ip).1,(bx (gF r) r.ip).2):=by unfold cd;rw[if_neg h,if_neg k]
def Ua{r:bJ}(k:iz (cd r).1.err=true):iG r=kr (cd r).1 (cd r).2:=by unfold iG;rw[if_pos k]
def X7{r:bJ}(k:¬iz (cd r).1.err=true):iG r=(cd r).1:=by unfold iG;rw[if_neg k]
def Vr{r:bJ}{N:Nat}(g:gV N r):KX N (cd r).1/\ae (cd r).2:=by
 have b:KX N (gF r):=⟨g.m.x,g.ip,bI⟩
 have f:=ib b r.ip
 unfold cd
 split
 ·exact⟨b,g.w⟩
 refine⟨?_,f.2⟩
 dsimp only
 split
 ·exact Za f.1 (cY _)
 exact f.1
def V7{e:yM}(h:Ke e=true):e=.halt:=by cases e<;>first|rfl|cases h
def ae2{e:yM}(h:iz e=false)(k:Ke e=false):∃c,e=.bad c:=by
 cases e with
 | ok=>cases h
 | bad c=>exact⟨c,rfl⟩
 | halt=>cases k
def Ti{r:bJ}{c:Int}(h:r.vm.f.length≠0):(ct r c).2=0:=by unfold ct;rw[if_neg h]
def RT{r:bJ}{c:Int}(h:r.vm.f.length=0):ct r c=(r,c):=by unfold ct;rw[if_pos h]
def Ik:List PV:=[PV.val (Value.int IntKind.i64 0),PV.val (Value.int IntKind.i64 0),PV.val (Value.int IntKind.i64 0),PV.val (Value.int IntKind.i64 0),PV.val (Value.int IntKind.i64 0),PV.seq 0 [] SK.clip,PV.seq 0 [] SK.clip,PV.val (Value.int IntKind.i64 0),PV.seq 0 [] SK.clip,PV.seq 0 [] SK.clip,PV.seq 0 [] SK.clip,PV.seq 0 [] SK.clip,PV.val (Value.int IntKind.i64 0),PV.seq 0 [] SK.clip,PV.seq 0 [] SK.clip,PV.val (Value.bool false),PV.seq 0 [] SK.clip,PV.val (Value.int IntKind.i64 0),PV.val (Value.int IntKind.i64 0),PV.val (Value.int IntKind.i64 0),PV.val (Value.int IntKind.i64 0),PV.val (Value.int IntKind.i64 0),PV.seq 0 [] SK.clip,PV.val (Value.int IntKind.i64 0),PV.val (Value.int IntKind.i64 0),PV.val (Value.bool false),PV.val (Value.int IntKind.i64 0)]
@[simp] theorem ao8 : aw Ik := by simp [Ik, aw, aU]
def JM(a:Addr)(r:bJ)(N:Nat)(g:gV N r)(hN:N<=800000)(hfu:ae r.fuel):∀(H:List Ob),(∀o∈hJ a,∃k:Nat,H[k]?=some o)->HC prog 87 [xy r] H (Mb (s7 r)) H:=by
 have kb:KX N (gF r):=⟨g.m.x,g.ip,bI⟩
 have kt:=Vr g
 have hvt:(cd r).1.r.vm=r.vm:=by rw[(we r).2]
 have hvo:dJ (cd r).1.r.vm:=by rw[hvt];exact VZ g.m.v (by omega)
 have gw:bf N (cd r).1.r.vm:=by rw[hvt];exact g.m
 refine it (gj a) tG (rs:=[.cell 2 145,.tmp 3,.tmp 4]) func87 rfl rfl rfl (by simp) (by simp) (fun B=>?_)
 refine zu4 ?_
 refine Ws<|zu3 ?_
 refine Wi rfl (fun hi1=>?_) (fun hi1=>?_)
 ·have q1:r.fuel<1:=oT hi1
  refine zu4 ?_
  refine zR ?_
  unfold s7;rw[if_pos q1];rfl
 have q1:¬r.fuel<1:=oF hi1
 refine Wj<|zu4 ?_
 refine zp5 ?_
 refine zs2 ?_
 refine zu3 ?_
 refine zp5 ?_
 refine dw (zs:=cPW a (gF r)) (lO tG rfl) rfl rfl rfl rfl rfl rfl rfl rfl rfl rfl rfl ?_
 refine Wn<|Rj [(1,.ptr 2 0),(2,.ptr 3 0),(5,.ptr 4 0),(6,i64 (cd r).2)] [.glob 1 (haltV a),.glob 0 etV,.cells (tu r) 145,.cells Ik 145,.cells (cPW a (cd r).1) 197] [] ?_ ?_
 ·refine zu3 ?_
  refine Wi rfl (fun hi2=>?_) (fun hi2=>?_)
  ·have q2:¬r.dof=true:=by simpa using hi2
   refine zp3 ?_
   refine zc rfl func116 ((j7 a (gF r) kb r.ip g.ip) _ _ rfl) ?_
   refine zs1 ?_
   refine zp1 ?_
   refine Wd rfl rfl (bD (lO tG rfl) rfl rfl rfl rfl) ?_
   refine Wd rfl rfl (aW rfl (by kernel_rfl) rfl (by exact tN _ _)) ?_
   refine Wn<|Wi rfl (fun hi3=>?_) (fun hi3=>?_)
   ·have q3:iz (bx (gF r) r.ip).1.err=true:=hi3
    have hT:=Xx q2 q3
    refine aa rfl ?_
    refine zy5 ?_
    refine z1 ?_
    refine dw (zs:=cPW a (cd r).1) (lO tG rfl) rfl rfl rfl rfl rfl rfl rfl (by rw[hT];rfl) rfl rfl rfl ?_
    refine Wn ?_
    exact⟨[],(fM (sub:=by repeat (first|exact gl|refine eW (by first|exact cQ rfl|exact cQ (congrArg i64 (by rw[hT]))) ?_)))⟩
   have q3:¬iz (bx (gF r) r.ip).1.err=true:=by simpa using hi3
   have hT:=VM q2 q3
   refine ah0 (H':=[.glob 1 (haltV a),.glob 0 etV,.cells (tu r) 145,.cells Ik 145,.cells (cPW a (cd r).1) 197]) (by rw[hT];rfl) ?_
   refine Wj ?_
   exact⟨[],(fM (sub:=by repeat (first|exact gl|refine eW (by first|exact cQ rfl|exact cQ (congrArg i64 (by rw[hT]))) ?_)))⟩
  have q2:r.dof=true:=by simpa using hi2
  have hT:=S9 q2
  refine ah0 (H':=[.glob 1 (haltV a),.glob 0 etV,.cells (tu r) 145,.cells Ik 145,.cells (cPW a (cd r).1) 197]) (by rw[hT];rfl) ?_
  refine Wj ?_
  exact⟨[],(fM (sub:=by repeat (first|exact gl|refine eW (by first|exact cQ rfl|exact cQ (congrArg i64 (by rw[hT]))) ?_)))⟩
 refine zu4 ?_
 refine Rj [(1,.ptr 2 0),(2,.ptr 3 0),(5,.ptr 4 0),(6,i64 (cd r).2),(7,.ptr 5 0)] [.glob 1 (haltV a),.glob 0 etV,.cells (tu r) 145,.cells Ik 145,.cells (cPW a (iG r)) 197,.cells (tu (cd r).1.r) 145] [] ?_ ?_
 ·refine zp1 ?_
  refine Wd rfl rfl (bD (lO tG rfl) rfl rfl rfl rfl) ?_
  refine Wd rfl rfl (aW rfl (by kernel_rfl) rfl (by exact tN _ _)) ?_
  refine Wn<|Wi rfl (fun hi4=>?_) (fun hi4=>?_)
  ·have q4:iz (cd r).1.err=true:=hi4
   refine aa rfl ?_
   refine z1 ?_
   refine zc rfl func117 (ZZ a (cd r).1 kt.1 (by omega) hvo (cd r).2 kt.2 _ _ rfl (cp 0 1 rfl rfl)) ?_
   refine jM (H':=[.glob 1 (haltV a),.glob 0 etV,.cells (tu r) 145,.cells Ik 145,.cells (cPW a (iG r)) 197,.cells (tu (cd r).1.r) 145]) (by rw[Ua q4];rfl) ?_
   refine Wn ?_
   exact⟨[],fM⟩
  have q4:¬iz (cd r).1.err=true:=by simpa using hi4
  refine ah0 (H':=[.glob 1 (haltV a),.glob 0 etV,.cells (tu r) 145,.cells Ik 145,.cells (cPW a (iG r)) 197,.cells (tu (cd r).1.r) 145]) (by rw[X7 q4];rfl) ?_
  refine Wj ?_
  exact⟨[],fM⟩
 refine Ws<|zp1 ?_
 refine Wd rfl rfl (bD (lO tG rfl) rfl rfl rfl rfl) ?_
 refine Wd rfl rfl (jn rfl (by kernel_rfl) rfl (by exact tN _ _)) ?_
 refine Wn<|Wi rfl (fun hi5=>?_) (fun hi5=>?_)
 ·have q5:iz (iG r).err=false:=by simpa using hi5
  refine aa rfl ?_
  refine zy2 ?_
  refine Wd rfl rfl (bD (lO tG rfl) rfl rfl rfl rfl) ?_
  refine Wd rfl rfl (o8 (out:=[i64 (cd r).2,B5 a (iG r).err]) (lO tG rfl) rfl rfl (by clear q5;generalize (iG r).err=e0;cases e0<;>rfl)) ?_
  refine Wd rfl rfl (qk rfl (by kernel_rfl) rfl) ?_
  refine z1 ?_
  refine dw (zs:=tu (iG r).r++[.ifc 199 (.agg [i64 (cd r).2,B5 a (iG r).err])]) (lO tG rfl) rfl rfl rfl rfl rfl rfl rfl rfl rfl rfl rfl ?_
  refine Wn<|zu1 ?_
  refine Ws<|Wl<|zp2 ?_
  refine Wd rfl rfl (aW rfl (by kernel_rfl) rfl (by rfl)) ?_
  refine zs1 ?_
  refine Wf rfl (by rfl) ?_
  refine zp2 ?_
  refine Wd rfl rfl (AE (j:=0) (lO tG rfl) rfl rfl rfl) ?_
  refine zc rfl func118 ((aG2 a (cd r).2 (iG r).err q5) _) ?_
  refine zs1 ?_
  refine Wi rfl (fun hi7=>?_) (fun hi7=>?_)
  ·have q7:=V7 hi7
   refine zu5 ?_
   refine zR ?_
   unfold s7;rw[if_neg q1,q7];rfl
  obtain⟨c,hc⟩:=ae2 q5 hi7
  refine zp2 ?_
  refine Wa 76 rfl ((congrArg (fun z=>PV.ifc 199 (.agg [i64 (cd r).2,z])) (show B5 a (iG r).err=.ifc 201 (.agg [i64 c]) by rw[hc];rfl))) ?_
  refine Wd rfl rfl (qk rfl (by kernel_rfl) rfl) ?_
  refine zc rfl func83 (aD3 (cd r).2 c _ 6 1 rfl rfl) ?_
  refine zs2 ?_
  refine Wf rfl (by rfl) ?_
  refine Wj<|Ws<|zp3 ?_
  refine zc rfl func119 ((Fq (cd r).1.r c N gw) _) ?_
  refine zy5 ?_
  refine zs1 ?_
  refine zu1 ?_
  refine Wi rfl (fun hi9=>?_) (fun hi9=>?_)
  ·refine zu4 ?_
   refine zR ?_
   unfold s7;rw[if_neg q1,hc];exact congrArg (fun z=>kg (xy (ct (cd r).1.r c).1) (boo false) (i64 z)) (Ti (oT hi9)).symm
  refine Wj<|Ws<|V.ax [14,0,16,11,0,0] [0,1,2,3,4,5] mG rfl (by kernel_rfl) ?_
  refine V.Gw 5 rfl rfl rfl rfl rfl (fun H2 h2=>bD (lO tG rfl) rfl rfl h2 rfl) ?_
  refine V.z3 ?_
  refine V.Gw 6 rfl rfl rfl rfl rfl (fun H2 h2=>bD (lO tG rfl) rfl rfl h2 rfl) ?_
  refine V.SA 3 tG rfl rfl rfl rfl rfl trivial rfl ?_
  iterate 2 refine V.z3 ?_
  refine V.aQ ?_
  refine zR ?_
  unfold s7;rw[if_neg q1,hc];dsimp only;rw[RT (Decidable.of_not_not (oF hi9))];rfl
 have q5:iz (iG r).err=true:=by simpa using hi5
 refine Wj<|zu1 ?_
 refine Ws<|Wl<|zp1 ?_
 refine Wd rfl rfl (bD (lO tG rfl) rfl rfl rfl rfl) ?_
 refine Wd rfl rfl (aW rfl (by kernel_rfl) rfl (by exact tN _ _)) ?_
 refine zs1 ?_
 refine Wt rfl (by omega) ?_
 refine zu5 ?_
 refine zR ?_
 unfold s7;rw[if_neg q1,il.1 q5];rfl
def Jn(v:VVm):ab prog 112 [eVm v] (eVm (zC v)):=by
 refine zY func112 fun B=>?_
 refine zu2 ?_
 refine zu4 ?_
 refine zu2 ?_
 refine zR ?_
 rfl
def GT(v:VVm)(xt fuel:Int):ab prog 84 [eVm v,i64 xt,i64 fuel] (xy (AA v xt fuel)):=by
 refine zY func84 fun B=>?_
 refine zu2 ?_
 refine zp1 ?_
 refine zc rfl func112 ((Jn v) _) ?_
 refine zs4 ?_
 refine zR ?_
 rfl
def Gu(a:Addr)(r:bJ)(N:Nat)(g:gV N r)(hN:N<=800000)(hfu:ae r.fuel):∀(H:List Ob),(∀o∈hJ a,∃k:Nat,H[k]?=some o)->HC prog 87 [xy r] H (Mb (bT r)) H:=by
 rw[<-ES r g.m.right.d]
 exact JM a r N g hN hfu
def uD{r:bJ}{N:Nat}(g:gV N r):gV (N+2) (bT r).1:=by rw[<-ES r g.m.right.d];exact NQ g
def rE(r:bJ)(c:Int):(ct r c).1.fuel=r.fuel:=by unfold ct;split<;>rfl
def xe{r:bJ}(hd:(r.vm.d.length:Int)<=r.vm.conf.data)(h:¬r.fuel<1):(bT r).1.fuel=W64 (r.fuel-1):=by
 rw[<-ES r hd]
 unfold s7
 rw[if_neg h]
 have e1:(cd r).1.r.fuel=W64 (r.fuel-1):=by rw[(we r).2]
 have e2:(iG r).r.fuel=W64 (r.fuel-1):=by unfold iG;exact bw (by rw[Dt,e1]) e1
 cases (iG r).err with
 | ok=>exact e2
 | halt=>exact e2
 | bad c=>show(ct _ c).1.fuel=_;rw[rE,e1]
def xI{r:bJ}(h:r.fuel<1):bT r=(r,false,-256):=by unfold bT;rw[if_pos h]
def RW{n:Int}(h1:1<=n)(h2:n<=300000):W64 (n-1)=n-1:=by
 show IntKind.i64.wrap (n-1)=n-1
 rw[bU];unfold wrap64;omega
def PQ{n:Nat}{r:bJ}(h:(bT r).2.1=true\/(bT r).2.2≠0):yu (n+1) r=(zC (bT r).1.vm,(bT r).1.fuel,(bT r).2.2):=by
 show(if _ then _ else _)=_;rw[if_pos h]
def MQ{n:Nat}{r:bJ}(h:¬((bT r).2.1=true\/(bT r).2.2≠0)):yu (n+1) r=yu n (bT r).1:=by
 show(if _ then _ else _)=_;rw[if_neg h]
structure DP (R:VVm×Int×Int) (s:Nat×bJ):Prop where
 run:yu s.1 s.2=R
 f0:0<=s.2.fuel
 f1:s.2.fuel<(s.1:Int)
 g:gV (700000-2*s.1) s.2
 n:s.1<=300001
def DP.fit{R:VVm×Int×Int}{s:Nat×bJ}(h:DP R s):ae s.2.fuel:=by have:=h.f0;have:=h.f1;have:=h.n;unfold ae;omega
def DP.pos{R:VVm×Int×Int}{s:Nat×bJ}(h:DP R s):∃n,s.1=n+1:=⟨s.1-1,by have:=h.f0;have:=h.f1;omega⟩
def DP.out{R:VVm×Int×Int}{s:Nat×bJ}(h:DP R s)(k:(bT s.2).2.1=true\/(bT s.2).2.2≠0):(zC (bT s.2).1.vm,(bT s.2).1.fuel,(bT s.2).2.2)=R:=by
 obtain⟨n,hn⟩:=h.pos
 rw[<-h.run,hn,PQ k]
def DP.next{R:VVm×Int×Int}{s:Nat×bJ}(h:DP R s)(k:¬((bT s.2).2.1=true\/(bT s.2).2.2≠0)):DP R (s.1-1,(bT s.2).1)/\s.1-1<s.1:=by
 obtain⟨n,hn⟩:=h.pos
 have hr:=h.run
 have f0:=h.f0
 have f1:=h.f1
 have hN:=h.n
 have hf:¬s.2.fuel<1:=fun q=>k (by rw[xI q];exact .inr (show(-256:Int)≠0 by decide))
 have hw:=xe h.g.m.right.d hf
 rw[RW (by omega) (by omega)]at hw
 refine⟨⟨?_,?_,?_,?_,?_⟩,by omega⟩
 ·show yu (s.1-1) _=R
  rw[hn,MQ k]at hr
  rw[hn];exact hr
 ·show 0<=(bT s.2).1.fuel;omega
 ·show(bT s.2).1.fuel<((s.1-1:Nat):Int);omega
 ·exact(uD h.g).up (by show _<=700000-2*(s.1-1);omega)
 show s.1-1<=300001;omega
def Bi{v:VVm}{N:Nat}(g:bf N v){xt fuel:Int}(hx:ae xt):gV N (AA v xt fuel):=by
 have hc:=g.right.gE
 unfold eO at hc
 have a:=Q8 g (r:=[]) (by show(0:Int)<=_;omega) bG
 have b:=Rz a (f:=[]) rfl (Nat.zero_le _) (fun x hx=>by cases hx)
 exact⟨b,by unfold ae;show -9223372036854775808<=(16:Int)/\(16:Int)<=9223372036854775807;omega,hx⟩
end Go.Proofs.YtjcminooghmpeaaGreatDoor
