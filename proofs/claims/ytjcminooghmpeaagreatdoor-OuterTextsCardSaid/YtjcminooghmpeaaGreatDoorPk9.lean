import Derived.Test.YtjcminooghmpeaaGreatDoorPk8
set_option linter.all false
set_option maxRecDepth 100000
set_option maxHeartbeats 40000000
open Go.Proofs.Tryz
namespace Go.Proofs.YtjcminooghmpeaaGreatDoor
open Go.RowKit
def CU(v v':VVm):VVm:={v' with mem:=v.mem,here:=v.here,d:=v.d,out:=v.out,pic:=v.pic,req:=v.req,free:=v.free,next:=v.next}
structure oW (v v':VVm):Prop where
 same:CU v v'=v
 dd:v'.d=v.d
 mem:dH v.mem v'.mem 2
 here:1368<=v.here->v.here<=v.mem.b.length->1368<=v'.here/\v'.here<=v.mem.b.length
 pic:d8 v.pic->d8 v'.pic
 out:v.out.length<=v.conf.out->v'.out.length<=v.conf.out
 req:v.req.length<=16->v'.req.length<=16
 free:0<=v.free->v.free<=64->0<=v'.free/\v'.free<=64
 next:0<=v.next->v.next<=4611686018427387904->0<=v'.next/\v'.next<=4611686018427387904
theorem oW.refl(v:VVm):oW v v:=⟨rfl,rfl,.refl _ _,fun a b=>⟨a,b⟩,id,id,id,fun a b=>⟨a,b⟩,fun a b=>⟨a,b⟩⟩
theorem Nl{v:VVm}{m:bj}{k:Nat}(h:dH v.mem m k)(hk:k<=2):oW v (sK v m) :=
 ⟨rfl,rfl,h.up hk,fun a b=>⟨a,b⟩,id,id,id,fun a b=>⟨a,b⟩,fun a b=>⟨a,b⟩⟩
theorem pJ{v:VVm}{p:dS}(h:d8 v.pic->d8 p):oW v (tV v p) :=
 ⟨rfl,rfl,.refl _ _,fun a b=>⟨a,b⟩,h,id,id,fun a b=>⟨a,b⟩,fun a b=>⟨a,b⟩⟩
theorem rk{v:VVm}{r:bj×Int×Int}(h:dH v.mem r.1 1)(hh:1368<=v.here->v.here<=v.mem.b.length->1368<=r.2.1/\r.2.1<=v.mem.b.length):oW v (eJ v r).1 :=
 ⟨rfl,rfl,h.up (by omega),hh,id,id,id,fun a b=>⟨a,b⟩,fun a b=>⟨a,b⟩⟩
theorem Ho(v:VVm)(r:Str×Int):oW v (dy v r).1:=by
 unfold dy iI
 split
 ·split
  ·exact .refl v
  rename_i h
  exact⟨rfl,rfl,.refl _ _,fun a b=>⟨a,b⟩,id,fun _=>by simp only[List.length_append];omega,id,fun a b=>⟨a,b⟩,fun a b=>⟨a,b⟩⟩
 exact .refl v
theorem NA(v:VVm):oW v (xv v).1:=by
 unfold xv
 split
 ·exact⟨rfl,rfl,(kf _ _ _).up (by omega),fun a b=>⟨a,b⟩,fun _=>⟨by simp[tV],.inr rfl⟩,id,id,fun a b=>⟨a,b⟩,fun a b=>⟨a,b⟩⟩
 exact .refl v
theorem Ji{n:Int}(h:ae n):W64 n=n:=by unfold W64;rw[bS];exact dc n h
theorem CH(v:VVm)(q:vG)(h:¬16<=(v.req.length:Int)):oW v (BS v q) :=
 ⟨rfl,rfl,.refl _ _,fun a b=>⟨a,b⟩,id,id,fun _=>by simp only[BS,List.length_append,List.length_singleton];omega,fun a b=>⟨a,b⟩,fun a b=>⟨a,b⟩⟩
theorem Ew(v:VVm)(x:List Int):oW v (jr v x).1:=by
 unfold jr;split
 ·exact .refl v
 rename_i h;exact CH v _ h
theorem Kj(v:VVm)(x:List Int):oW v (jO v x).1:=by
 unfold jO;split
 ·exact .refl v
 split
 ·exact .refl v
 rename_i h;exact CH v _ h
theorem xY(k:Int)(v:VVm)(x:List Int):oW v (dw k v x).1:=by
 unfold dw;split
 ·exact .refl v
 split
 ·exact .refl v
 split
 ·exact .refl v
 rename_i h
 split
 ·exact .refl v
 rename_i hw
 refine⟨rfl,rfl,.refl _ _,fun a b=>⟨a,b⟩,id,id,fun _=>by simp only[BS,List.length_append,List.length_singleton];omega,fun a b=>?_,fun a b=>?_⟩
 ·simp only
  rw[Ji (by unfold ae;omega)]
  have:v.free≠0:=fun h=>hw (.inl h)
  omega
 simp only
 rw[Ji (by unfold ae;omega)]
 have:v.next≠4611686018427387904:=fun h=>hw (.inr h)
 omega
theorem H6(v:VVm)(x:List Int):dH v.mem (rO v x).1 1:=by
 unfold rO;split
 ·exact cM _ _ _
 exact .refl _ _
theorem Eg(v:VVm)(x:List Int):dH v.mem (oG v x).1 2:=by
 unfold oG;split
 ·exact(cM _ _ _).trans (cM _ _ _)
 exact(cM _ _ _).up (by omega)
theorem iD{v:VVm}{r:bj×Int}{k:Nat}(h:dH v.mem r.1 k)(hk:k<=2):oW v (du v r).1:=Nl h hk
def fY(l:List Int):Prop:=∀a∈l,ae a
theorem bE:fY []:=fun a h=>by simp at h
theorem dg{a:Int}(h:ae a):fY [a]:=fun b hb=>by simp at hb;subst hb;exact h
theorem gM{a b:Int}(h:ae a)(g:ae b):fY [a,b]:=fun c hc=>by simp at hc;rcases hc with rfl|rfl;exact h;exact g
def KF(v:VVm)(r:VVm×List Int×Int):Prop:=oW v r.1/\fY r.2.1
theorem wn{x:List Int}(h:fY x)(i:Nat):ae (xat x i):=XOk.fit (k:=0) ⟨Nat.zero_le _,h⟩ i
theorem ag{α:Type}{c:Prop}[Decidable c]{a r:α}{b:Option α}(h:(if c then some a else b)=some r):a=r\/b=some r:=by
 by_cases hc:c
 ·rw[if_pos hc]at h;exact .inl (Option.some.inj h)
 rw[if_neg hc]at h;exact .inr h
theorem nV{α:Type}{P:α->Prop}{c:Prop}[Decidable c]{a b:α}(h1:P a)(h2:P b):P (if c then a else b):=by
 by_cases hc:c
 ·rw[if_pos hc];exact h1
 rw[if_neg hc];exact h2
theorem I6{name:Str}{x:List Int}{r:List Int×Int}(hx:fY x)(h:qR name x=some r):fY r.1:=by
 have f:=wn hx
 unfold qR at h
 rcases ag h with rfl|h
 ·exact gM (yC (f 1)).2 (yC (f 1)).1
 rcases ag h with rfl|h
 ·exact dg (rY (f 2)).1
 rcases ag h with rfl|h
 ·exact gM (rY (f 2)).2 (rY (f 2)).1
 rcases ag h with rfl|h
 ·exact gM (GG _) (GG _)
 rcases ag h with rfl|h
 ·exact gM (zN (f 0) (f 1)).1 (zN (f 0) (f 1)).2
 rcases ag h with rfl|h
 ·exact gM vk.2 vk.1
 rcases ag h with rfl|h
 ·exact gM (FJ (f 2)).2 (FJ (f 2)).1
 rcases ag h with rfl|h
 ·exact gM (rY (f 2)).2 (rY (f 2)).1
 rcases ag h with rfl|h
 ·exact gM (f 0) (wz _)
 rcases ag h with rfl|h
 ·exact dg (wz _)
 rcases ag h with rfl|h
 ·exact dg (by unfold ae;omega)
 rcases ag h with rfl|h
 ·exact dg (by unfold ae;omega)
 rcases ag h with rfl|h
 ·exact dg (by unfold ae;omega)
 rcases ag h with rfl|h
 ·exact dg (by unfold ae;omega)
 rcases ag h with rfl|h
 ·exact dg (by unfold ae;omega)
 cases h
theorem MU{v:VVm}{name:Str}{x:List Int}{r:VVm×List Int×Int}(hx:fY x)(h:qs v name x=some r):KF v r:=by
 have f:=wn hx
 unfold qs at h
 rcases ag h with rfl|h
 ·exact⟨.refl v,dg (tq _ _)⟩
 rcases ag h with rfl|h
 ·exact⟨.refl v,dg (Ab _ _)⟩
 rcases ag h with rfl|h
 ·exact⟨iD (cM _ _ _) (by omega),bE⟩
 rcases ag h with rfl|h
 ·exact⟨iD (kf _ _ _) (by omega),bE⟩
 rcases ag h with rfl|h
 ·exact⟨iD (H6 _ _) (by omega),bE⟩
 rcases ag h with rfl|h
 ·unfold kM;split
  ·exact⟨.refl v,gM (tq _ _) (tq _ _)⟩
  exact⟨.refl v,bE⟩
 rcases ag h with rfl|h
 ·exact⟨iD (Eg _ _) (by omega),bE⟩
 rcases ag h with rfl|h
 ·exact⟨iD (Iu _ _ _ _) (by omega),bE⟩
 rcases ag h with rfl|h
 ·exact⟨iD (Kk _ _ _ _) (by omega),bE⟩
 rcases ag h with rfl|h
 ·exact⟨.refl v,gM (qk _) (Ab _ _)⟩
 rcases ag h with rfl|h
 ·exact⟨iD (cM _ _ _) (by omega),bE⟩
 rcases ag h with rfl|h
 ·exact⟨iD (cM _ _ _) (by omega),bE⟩
 rcases ag h with rfl|h
 ·unfold gH;split
  ·exact⟨iD (cM _ _ _) (by omega),bE⟩
  exact⟨.refl v,bE⟩
 rcases ag h with rfl|h
 ·unfold iY;split
  ·exact⟨iD (cM _ _ _) (by omega),bE⟩
  exact⟨.refl v,bE⟩
 cases h
theorem JB{v:VVm}{x:List Int}(h0:1368<=v.here)(h1:v.here<=v.mem.b.length):1368<=(ui v x).2.1/\(ui v x).2.1<=v.mem.b.length:=by
 unfold ui l7
 simp only
 split<;>simp only<;>omega
theorem RA{v:VVm}{name:Str}{x:List Int}{r:VVm×List Int×Int}(h:uJ v name x=some r):KF v r:=by
 unfold uJ at h
 rcases ag h with rfl|h
 ·exact⟨rk (.refl _ _) (fun a b=>JB a b),bE⟩
 rcases ag h with rfl|h
 ·refine⟨rk ?_ ?_,bE⟩
  ·unfold cv;split
   ·exact gS _
   exact .refl _ _
  unfold cv;split
  ·exact fun a b=>iu _ a b
  exact fun a b=>⟨a,b⟩
 rcases ag h with rfl|h
 ·exact⟨rk (gS _) (fun a b=>iu _ a b),bE⟩
 rcases ag h with rfl|h
 ·exact⟨rk (gS _) (fun a b=>iu _ a b),bE⟩
 cases h
theorem Qv(v:VVm)(r:Str×Int):KF v (dy v r):=⟨Ho v r,by unfold dy;split<;>exact bE⟩
theorem T8{v:VVm}{name:Str}{x:List Int}{r:VVm×List Int×Int}(hx:fY x)(hc : -100<=v.conf.mem/\v.conf.mem<=100000)(hp:v.pic.b.length<=1000000)(h:Ar v name x=some r):KF v r:=by
 have f:=wn hx
 unfold Ar at h
 rcases ag h with rfl|h
 ·exact⟨pJ (fun _=>⟨by simp,.inl rfl⟩),bE⟩
 rcases ag h with rfl|h
 ·exact⟨pJ (sx _ _ _),gM (Cq (f 0) (f 1)).1 (Cq (f 0) (f 1)).2⟩
 rcases ag h with rfl|h
 ·exact⟨pJ (Nq _ _ _),gM jA jA⟩
 rcases ag h with rfl|h
 ·exact⟨pJ (uj _),bE⟩
 rcases ag h with rfl|h
 ·exact⟨pJ (JH _),bE⟩
 rcases ag h with rfl|h
 ·refine⟨NA v,?_⟩
  unfold xv;split
  ·have:=zL v.pic
   exact gM (qk _) (by unfold ae;omega)
  exact bE
 cases h
theorem Y0{v:VVm}{name:Str}{x:List Int}{r:VVm×List Int×Int}(hn:ae v.next)(h:Am v name x=some r):KF v r:=by
 unfold Am at h
 have ht:∀k,fY (dw k v x).2.1:=fun k=>by unfold dw;split;exact bE;split;exact bE;split;exact bE;split;exact bE;exact dg hn
 rcases ag h with rfl|h
 ·exact⟨Kj _ _,by unfold jO;split;exact bE;split<;>exact bE⟩
 rcases ag h with rfl|h
 ·exact⟨Ew _ _,by unfold jr;split<;>exact bE⟩
 rcases ag h with rfl|h
 ·exact⟨xY _ _ _,ht _⟩
 rcases ag h with rfl|h
 ·exact⟨xY _ _ _,ht _⟩
 cases h
theorem Wh{v:VVm}{name:Str}{x:List Int}(hh:ae v.here/\ae v.arg/\ae v.self/\ae v.now):KF v (GV v name x):=by
 unfold GV
 split
 ·exact⟨.refl v,dg hh.1⟩
 split
 ·exact⟨.refl v,dg hh.2.1⟩
 split
 ·exact⟨.refl v,dg hh.2.2.1⟩
 split
 ·exact⟨.refl v,dg hh.2.2.2⟩
 split
 ·unfold vJ;split
  ·exact⟨.refl v,bE⟩
  exact⟨.refl v,dg (qk _)⟩
 exact⟨.refl v,bE⟩
structure vD (N:Nat) (v:VVm):Prop where
 right:Fc v=true
 old:v.mem.old.length<=N
 d:fY v.d
 ints:ae v.arg/\ae v.self/\ae v.now
structure yX (v:VVm):Prop where
 gd:d9 v.conf
 mem:lV v.mem=true
 dict:ig v.dict=true
 pic:d8 v.pic
 len:(v.mem.b.length:Int)=v.conf.mem
 jG:1368<=v.here
 jK:v.here<=v.conf.mem
 f:v.f.all qp=true
 hand:v.hand.all Fa=true
 d:(v.d.length:Int)<=v.conf.data
 r:(v.r.length:Int)<=v.conf.ret
 fl:v.f.length<=64
 dl:(v.dict.length:Int)<=v.conf.words
 out:(v.out.length:Int)<=v.conf.out
 req:v.req.length<=16
 free0:0<=v.free
 free1:v.free<=64
 next0:0<=v.next
 next1:v.next<=4611686018427387904
 handl:v.hand.length<=64
theorem lK(v:VVm):Fc v=true↔yX v:=by
 unfold Fc Th OX
 simp only[Bool.and_eq_true,decide_eq_true_eq]
 constructor
 ·rintro⟨⟨a1,a2,a3,a4,a5,a6,a7⟩,a8,a9,a10,a11,a12,a13,a14,a15,a16,a17,a18,a19,a20⟩
  exact⟨a1,a2,a3,a4,a5,a6,a7,a8,a9,a10,a11,a12,a13,a14,a15,a16,a17,a18,a19,a20⟩
 rintro⟨a1,a2,a3,a4,a5,a6,a7,a8,a9,a10,a11,a12,a13,a14,a15,a16,a17,a18,a19,a20⟩
 exact⟨⟨a1,a2,a3,a4,a5,a6,a7⟩,a8,a9,a10,a11,a12,a13,a14,a15,a16,a17,a18,a19,a20⟩
theorem Lg{v:VVm}{n:Int}{name:Str}{x:List Int}{N:Nat}(g:vD N v)(hx:fY x):KF v (bM v n name x):=by
 have R:=(lK v).1 g.right
 have f:=wn hx
 have hm:=R.gd
 unfold d9 at hm
 unfold bM
 split
 ·exact⟨.refl v,dg (OZ _ (f 0) (f 1))⟩
 split
 ·exact⟨.refl v,dg (O9 _ (f 0))⟩
 cases h1:qR name x with
 | some r=>exact⟨.refl v,I6 hx h1⟩
 | none =>
  cases h2:qs v name x with
  | some r=>exact MU hx h2
  | none =>
   cases h3:uJ v name x with
   | some r=>exact RA h3
   | none =>
    cases h4:FG v name x with
    | some r=>exact Qv v r
    | none =>
     cases h5:Ar v name x with
     | some r=>exact T8 hx (by omega) (by have:=R.pic.1;omega) h5
     | none =>
      cases h6:Am v name x with
      | some r=>exact Y0 (by have:=R.next0;have:=R.next1;unfold ae;omega) h6
      | none=>exact Wh ⟨by have:=R.jG;have:=R.jK;unfold ae;omega,g.ints⟩
theorem Pm{name:Str}{x:List Int}{d:Nat}(hx:fY x)(hd:d<=100000):fY (y4 name x d):=by
 have f:=wn hx
 have hq:∀l:List Int,(∀a∈l,a∈x\/(∃i,a=xat x i)\/a=d)->fY l:=fun l h a ha=>by
  rcases h a ha with h|⟨i,rfl⟩|rfl
  ·exact hx a h
  ·exact f i
  unfold ae;omega
 unfold y4
 refine nV (P:=fY) (hq _ fun a ha=>by simp only[List.mem_cons,List.not_mem_nil,or_false]at ha;rcases ha with rfl|rfl<;>exact .inr (.inl ⟨_,rfl⟩)) ?_
 refine nV (P:=fY) (hq _ fun a ha=>by simp only[List.mem_cons,List.not_mem_nil,or_false]at ha;rcases ha with rfl|rfl<;>exact .inr (.inl ⟨_,rfl⟩)) ?_
 refine nV (P:=fY) (hq _ fun a ha=>by simp only[List.mem_cons,List.not_mem_nil,or_false]at ha;rcases ha with rfl|rfl|rfl<;>exact .inr (.inl ⟨_,rfl⟩)) ?_
 refine nV (P:=fY) (hq _ fun a ha=>by simp only[List.mem_cons,List.not_mem_nil,or_false]at ha;subst ha;exact .inr (.inl ⟨_,rfl⟩)) ?_
 refine nV (P:=fY) (hq _ fun a ha=>by simp only[List.mem_cons,List.not_mem_nil,or_false]at ha;rcases ha with rfl|rfl|rfl<;>exact .inr (.inl ⟨_,rfl⟩)) ?_
 refine nV (P:=fY) (hq _ fun a ha=>by simp only[List.mem_cons,List.not_mem_nil,or_false]at ha;rcases ha with rfl|rfl|rfl<;>exact .inr (.inl ⟨_,rfl⟩)) ?_
 refine nV (P:=fY) (hq _ fun a ha=>by simp only[List.mem_cons,List.not_mem_nil,or_false]at ha;rcases ha with rfl|rfl|rfl<;>exact .inr (.inl ⟨_,rfl⟩)) ?_
 refine nV (P:=fY) (hq _ fun a ha=>by simp only[List.mem_cons,List.not_mem_nil,or_false]at ha;rcases ha with rfl|rfl|rfl|rfl<;>exact .inr (.inl ⟨_,rfl⟩)) ?_
 refine nV (P:=fY) (hq _ fun a ha=>by simp only[List.mem_cons,List.not_mem_nil,or_false]at ha;rcases ha with rfl|rfl|rfl|rfl<;>exact .inr (.inl ⟨_,rfl⟩)) ?_
 refine nV (P:=fY) (hq _ fun a ha=>by simp only[List.mem_cons,List.not_mem_nil,or_false]at ha;rcases ha with rfl|rfl|rfl|rfl|rfl|rfl<;>exact .inr (.inl ⟨_,rfl⟩)) ?_
 refine nV (P:=fY) (nV (P:=fY) hx (hq _ fun a ha=>by simp only[List.mem_cons,List.not_mem_nil,or_false]at ha;rcases ha with rfl|rfl<;>exact .inr (.inl ⟨_,rfl⟩))) ?_
 refine nV (P:=fY) (hq _ fun a ha=>by simp only[List.mem_cons,List.not_mem_nil,or_false]at ha;exact .inr (.inr ha)) ?_
 refine nV (P:=fY) (hq _ fun a ha=>by rcases List.mem_append.1 ha with h|h;exact .inl (List.mem_of_mem_take h);exact .inr (.inl ⟨_,List.mem_singleton.1 h⟩)) ?_
 refine nV (P:=fY) (hq _ fun a ha=>by rcases List.mem_append.1 ha with h|h;exact .inl (List.mem_of_mem_take (List.mem_of_mem_drop h));exact .inr (.inl ⟨_,List.mem_singleton.1 h⟩)) ?_
 exact bE
theorem Gv{name:Str}{s:List Int}{limit:Int}(hs:fY s)(hl:s.length<=100000):fY (dJ name s limit).1:=by
 unfold dJ
 split
 ·exact hs
 split
 ·exact hs
 split
 ·exact hs
 intro a ha
 rcases List.mem_append.1 ha with ha|ha
 ·exact hs a (List.mem_of_mem_take ha)
 exact Pm (fun b hb=>hs b (List.mem_of_mem_drop hb)) hl a ha
theorem G9{name:Str}{s:List Int}{limit:Int}(hs:(s.length:Int)<=limit):((dJ name s limit).1.length:Int)<=limit:=by
 unfold dJ
 split
 ·exact hs
 split
 ·exact hs
 split
 ·exact hs
 rename_i h;simp only[List.length_append,List.length_take];omega
theorem HO{v:VVm}{n:Int}{N:Nat}(g:vD N v):CU v (doS v n).1=v:=by
 by_cases h:n<23\/129<n
 ·unfold doS;rw[if_pos h];rfl
 by_cases h1:n<=38
 ·unfold doS;rw[if_neg h];simp only;rw[if_pos h1];rfl
 rw[aH (by omega) (by omega)]
 unfold doR
 split
 ·rfl
 split
 ·rfl
 split
 ·rfl
 exact(Lg g (fun a ha=>g.d a (List.mem_of_mem_drop ha))).1.same
theorem xG{v v':VVm}{d:List Int}(R:yX v)(K:oW v v')(hd:(d.length:Int)<=v.conf.data):yX {v' with d:=d}:=by
 have s:=K.same
 unfold CU at s
 have e1:v'.conf=v.conf:=by rw[<-s]
 have e2:v'.dict=v.dict:=by rw[<-s]
 have e3:v'.f=v.f:=by rw[<-s]
 have e4:v'.hand=v.hand:=by rw[<-s]
 have e5:v'.r=v.r:=by rw[<-s]
 have h1:=K.here R.jG (by have:=R.jK;have:=R.len;omega)
 have h2:=K.free R.free0 R.free1
 have h3:=K.next R.next0 R.next1
 have hl:=K.mem.len
 have hl2:=R.len
 exact⟨by rw[e1];exact R.gd,K.mem.right R.mem,by rw[e2];exact R.dict,K.pic R.pic,by simp only[e1];rw[hl];exact hl2,h1.1,by simp only[e1];omega,by rw[e3];exact R.f,by rw[e4];exact R.hand,by simp only[e1];exact hd,by simp only[e1,e5];exact R.r,by rw[e3];exact R.fl,by simp only[e1,e2];exact R.dl,by simp only[e1];exact K.out R.out,K.req R.req,h2.1,h2.2,h3.1,h3.2,by rw[e4];exact R.handl⟩
theorem PI{v:VVm}{n:Int}{N:Nat}(g:vD N v):vD (N+2) (doS v n).1:=by
 have R:=(lK v).1 g.right
 have hc:=R.gd
 unfold d9 at hc
 have hdl:=R.d
 have stay:vD (N+2) v:=⟨g.right,by have:=g.old;omega,g.d,g.ints⟩
 by_cases h:n<23\/129<n
 ·unfold doS;rw[if_pos h];exact stay
 by_cases h1:n<=38
 ·unfold doS;rw[if_neg h];simp only;rw[if_pos h1]
  refine⟨(lK _).2 (xG R (.refl v) (G9 R.d)),by show v.mem.old.length<=_;have:=g.old;omega,Gv g.d (by omega),g.ints⟩
 rw[aH (by omega) (by omega)]
 have K:=Lg (n:=n) (name:=ao.getD n.toNat []) g (x:=v.d.drop (v.d.length-bi n (ao.getD n.toNat []))) (fun a ha=>g.d a (List.mem_of_mem_drop ha))
 generalize bM v n (ao.getD n.toNat []) (v.d.drop (v.d.length-bi n (ao.getD n.toNat [])))=r at K ⊢
 unfold doR
 split
 ·exact stay
 split
 ·exact stay
 split
 ·exact stay
 rename_i q0 q1 q2
 have s:=K.1.same
 unfold CU at s
 refine⟨(lK _).2 (xG R K.1 (by simp only[List.length_append,List.length_take];omega)),?_,fun a ha=>?_,?_⟩
 ·have:=K.1.mem.old;have:=g.old;show _<=_;simp only;omega
 ·rcases List.mem_append.1 ha with ha|ha
  ·exact g.d a (List.mem_of_mem_take ha)
  exact K.2 a ha
 have a1:r.1.arg=v.arg:=by have h:=congrArg VVm.arg K.1.same;exact h
 have a2:r.1.self=v.self:=by have h:=congrArg VVm.self K.1.same;exact h
 have a3:r.1.now=v.now:=by have h:=congrArg VVm.now K.1.same;exact h
 simp only[a1,a2,a3]
 exact g.ints
theorem Vi{v:VVm}{N:Nat}(g:vD N v)(hN:N<=900000):dA v:=by
 have R:=(lK v).1 g.right
 have hc:=R.gd
 unfold d9 at hc
 have h1:=R.len
 have h2:=g.old
 have h3:=R.jG
 have h4:=R.jK
 have h5:=R.out
 have h6:=R.pic.1
 have h7:=R.req
 have h8:=R.handl
 have h9:=R.d
 exact⟨⟨by omega,by omega⟩,by omega,⟨by omega,by omega⟩,by omega,by omega,by omega,by omega,by omega,by omega,g.d,by unfold ae;omega⟩
structure VX (M:Nat) (v:VVm):Prop where
 b:v.mem.b.length<=65536
 old:v.mem.old.length<=M
 d:v.d.length<=300
 r:v.r.length<=300
 f:v.f.length<=300
 fd:fY v.d
 fr:fY v.r
 ff:∀x∈v.f,ae x.ip
 data:0<=v.conf.data/\v.conf.data<=256
 ret:0<=v.conf.ret/\v.conf.ret<=256
 la:ae v.last
structure KX (M:Nat) (k:PW):Prop where
 v:VX M k.r.vm
 ip:ae k.r.ip
 w:ae k.r.w
theorem VX.mem{M:Nat}{v:VVm}(h:VX M v)(hM:M<=1000000):cZ v.mem:=⟨by have:=h.b;omega,by have:=h.old;omega⟩
theorem VX.up{M N:Nat}{v:VVm}(h:VX M v)(hM:M<=N):VX N v:=⟨h.b,by have:=h.old;omega,h.d,h.r,h.f,h.fd,h.fr,h.ff,h.data,h.ret,h.la⟩
theorem KX.up{M N:Nat}{k:PW}(h:KX M k)(hM:M<=N):KX N k:=⟨h.v.up hM,h.ip,h.w⟩
theorem KX.la{M:Nat}{k:PW}(h:KX M k):ae k.r.vm.last:=h.v.la
theorem FY{M:Nat}{v:VVm}(h:VX M v):ae v.conf.data/\ae v.conf.ret:=by
 have:=h.data;have:=h.ret;unfold ae;omega
theorem bG:ae 0:=by unfold ae;omega
theorem ja{a b:List Int}(h:fY a)(k:fY b):fY (a++b):=fun x hx=>by
 rcases List.mem_append.1 hx with hx|hx
 ·exact h x hx
 exact k x hx
theorem nD{a:List Int}(n:Nat)(h:fY a):fY (a.take n):=fun x hx=>h x (List.mem_of_mem_take hx)
theorem vp{a:List Int}(h:fY a)(i:Nat):ae (a.getD i 0):=by
 rw[List.getD_eq_getElem?_getD]
 rcases e:a[i]? with _|x
 ·exact bG
 exact h x (List.mem_of_getElem? e)
theorem cX(n:Int):ae (W64 n):=by
 show ae (IntKind.i64.wrap n)
 rw[bS];exact ii n
theorem Gx(m:bj)(a:Int):ae (am m a).1:=by
 unfold am;split
 ·unfold ID;exact ii _
 exact bG
section
variable {M : Nat} {v : VVm}
theorem UQ(h:VX M v){n:Int}(hn:ae n):VX M (gJ v n).1:=by
 unfold gJ gD
 by_cases q:v.conf.data<=(v.d.length:Int)
 ·simp only[if_pos q];exact h
 simp only[if_neg q]
 exact⟨h.b,h.old,by have:=h.data;simp only[List.length_append,List.length_singleton];omega,h.r,h.f,ja h.fd (dg hn),h.fr,h.ff,h.data,h.ret,h.la⟩
theorem Pf(h:VX M v){n:Int}(hn:ae n):VX M (gm v n).1:=by
 unfold gm
 by_cases q:v.conf.ret<=(v.r.length:Int)
 ·simp only[if_pos q];exact h
 simp only[if_neg q]
 exact⟨h.b,h.old,h.d,by have:=h.ret;simp only[List.length_append,List.length_singleton];omega,h.f,h.fd,ja h.fr (dg hn),h.ff,h.data,h.ret,h.la⟩
theorem EB(h:VX M v):VX M (dV v).2.1/\ae (dV v).1:=by
 unfold dV bk
 by_cases q:v.d.length=0
 ·simp only[if_pos q];exact⟨h,bG⟩
 simp only[if_neg q]
 exact⟨⟨h.b,h.old,by have:=h.d;simp only[List.length_take];omega,h.r,h.f,nD _ h.fd,h.fr,h.ff,h.data,h.ret,h.la⟩,vp h.fd _⟩
theorem DE(h:VX M v):VX M (eU v).2.1/\ae (eU v).1:=by
 unfold eU
 by_cases q:v.r.length=0
 ·simp only[if_pos q];exact⟨h,bG⟩
 simp only[if_neg q]
 exact⟨⟨h.b,h.old,h.d,by have:=h.r;simp only[List.length_take];omega,h.f,h.fd,nD _ h.fr,h.ff,h.data,h.ret,h.la⟩,vp h.fr _⟩
theorem TL(h:VX M v)(a n:Int):VX (M+1) (sK v (aF v.mem a n).1):=by
 have k:=cM v.mem a n
 exact⟨by show(aF v.mem a n).1.b.length<=_;rw[k.len];exact h.b,by show(aF v.mem a n).1.old.length<=_;have:=k.old;have:=h.old;omega,h.d,h.r,h.f,h.fd,h.fr,h.ff,h.data,h.ret,h.la⟩
end
section
variable {M : Nat} {k : PW}
theorem oL(h:KX M k){v:VVm}(hv:VX M v)(e:Int):KX M (pOk k v e):=by
 unfold pOk
 split
 ·split
  ·exact⟨hv,h.ip,h.w⟩
  exact⟨h.v,h.ip,h.w⟩
 exact h
theorem vu(h:KX M k){n:Int}(hn:ae n):KX M (dm k n):=oL h (UQ h.v hn) _
theorem vj(h:KX M k){n:Int}(hn:ae n):KX M (iZ k n):=oL h (Pf h.v hn) _
theorem i8(h:KX M k):KX M (aZ k).1/\ae (aZ k).2 :=
 ⟨oL h (EB h.v).1 _,by unfold aZ;dsimp only;split;exact(EB h.v).2;exact bG⟩
theorem iK(h:KX M k):KX M (gc k).1/\ae (gc k).2 :=
 ⟨oL h (DE h.v).1 _,by unfold gc;dsimp only;split;exact(DE h.v).2;exact bG⟩
theorem gP(h:KX M k)(a:Int):KX M (bv k a).1/\ae (bv k a).2:=⟨oL h h.v _,Gx _ _⟩
theorem vP(h:KX M k)(a n:Int):KX (M+1) (mB k a n):=oL (h.up (by omega)) (TL h.v a n) _
theorem Yo(h:KX M k){a:Int}(ha:ae a):KX M (wIp k a):=⟨h.v,ha,h.w⟩
theorem qn(h:KX M k)(n:Nat):KX M (co k n).1/\ae (co k n).2:=by
 unfold co;split
 ·exact⟨oL h h.v _,bG⟩
 exact⟨h,vp h.v.fr _⟩
theorem OI(h:KX M k)(h0:¬k.r.vm.f.length=0):KX M {k with r:={k.r with ip:=(k.r.vm.f.getD (k.r.vm.f.length-1) default).ip,vm:={k.r.vm with f:=k.r.vm.f.take (k.r.vm.f.length-1)}}} :=
 ⟨⟨h.v.b,h.v.old,h.v.d,h.v.r,by have:=h.v.f;simp only[List.length_take];omega,h.v.fd,h.v.fr,fun x hx=>h.v.ff x (List.mem_of_mem_take hx),h.v.data,h.v.ret,h.v.la⟩,
  h.v.ff _ (by rw[List.getD_eq_getElem?_getD,List.getElem?_eq_getElem (by omega)];exact List.getElem_mem _),h.w⟩
theorem UW(h:KX M k):KX (M+2) (mm k):=by
 unfold mm;split
 ·exact oL (h.up (by omega)) (h.v.up (by omega)) _
 exact vP (vP h _ _) _ _
theorem FA(i l n:Int):ae (oa i l n).1:=cX _
end
open Go.RowKit
section
variable (a : Addr) (k : PW) {M : Nat} (h : KX M k) (hM : M <= 900000)
include h
theorem jU(n:Int):∀(H:List Ob) (i:Nat),H[i]?=some (.cells (cPW a k) 197)->HC prog 163 (.ptr i 0::[i64 n]) H (.tup []) (H.set i (.cells (cPW a (dm k n)) 197)):=by
 refine zM func163 fun B=>?_
 refine aa rfl ?_
 refine zy5 ?_
 refine zy2 ?_
 refine zc rfl func82 ((Lk k.r.vm n (by have:=h.v.d;omega) (FY h.v).1) _) ?_
 refine zy2 ?_
 refine zc rfl func161 ((rx a k _ _) _ _ rfl) ?_
 refine Wn<|bg rfl rfl ?_ ?_
 ·rfl
 rfl
theorem lS(n:Int):∀(H:List Ob) (i:Nat),H[i]?=some (.cells (cPW a k) 197)->HC prog 162 (.ptr i 0::[i64 n]) H (.tup []) (H.set i (.cells (cPW a (iZ k n)) 197)):=by
 refine zM func162 fun B=>?_
 refine aa rfl ?_
 refine zy5 ?_
 refine zy2 ?_
 refine zc rfl func197 ((SL k.r.vm n (by have:=h.v.r;omega) (FY h.v).2) _) ?_
 refine zy2 ?_
 refine zc rfl func161 ((rx a k _ _) _ _ rfl) ?_
 refine Wn<|bg rfl rfl ?_ ?_
 ·rfl
 rfl
theorem oS:∀(H:List Ob) (i:Nat),H[i]?=some (.cells (cPW a k) 197)->HC prog 206 (.ptr i 0::[]) H (i64 (aZ k).2) (H.set i (.cells (cPW a (aZ k).1) 197)):=by
 refine zM func206 fun B=>?_
 refine zu1 ?_
 refine zp5 ?_
 refine zc rfl func211 ((Q6 k.r.vm (by have:=h.v.d;omega)) _) ?_
 refine zy5 ?_
 refine zs3 ?_
 refine Ws<|zp3 ?_
 refine zc rfl func161 ((rx a k _ _) _ _ rfl) ?_
 refine zs1 ?_
 refine Wi rfl (fun hi1=>?_) (fun hi1=>?_)
 ·refine zu1 ?_
  refine Wq<|jZ rfl rfl ?_ ?_
  ·exact congrArg i64 (by unfold aZ;dsimp only;rw[if_neg (by simpa using hi1)])
  rfl
 refine Wj<|zu2 ?_
 refine Wq<|jZ rfl rfl ?_ ?_
 ·exact congrArg i64 (by unfold aZ;dsimp only;rw[if_pos (by simpa using hi1)])
 rfl
theorem ro:∀(H:List Ob) (i:Nat),H[i]?=some (.cells (cPW a k) 197)->HC prog 204 (.ptr i 0::[]) H (i64 (gc k).2) (H.set i (.cells (cPW a (gc k).1) 197)):=by
 refine zM func204 fun B=>?_
 refine zu1 ?_
 refine zp5 ?_
 refine zc rfl func254 ((U8 k.r.vm (by have:=h.v.r;omega)) _) ?_
 refine zy5 ?_
 refine zs3 ?_
 refine Ws<|zp3 ?_
 refine zc rfl func161 ((rx a k _ _) _ _ rfl) ?_
 refine zs1 ?_
 refine Wi rfl (fun hi1=>?_) (fun hi1=>?_)
 ·refine zu1 ?_
  refine Wq<|jZ rfl rfl ?_ ?_
  ·exact congrArg i64 (by unfold gc;dsimp only;rw[if_neg (by simpa using hi1)])
  rfl
 refine Wj<|zu2 ?_
 refine Wq<|jZ rfl rfl ?_ ?_
 ·exact congrArg i64 (by unfold gc;dsimp only;rw[if_pos (by simpa using hi1)])
 rfl
theorem jQ(at_:Int)(ha:ae at_):∀(H:List Ob) (i:Nat),H[i]?=some (.cells (cPW a k) 197)->HC prog 116 (.ptr i 0::[i64 at_]) H (i64 (bv k at_).2) (H.set i (.cells (cPW a (bv k at_).1) 197)):=by
 refine zM func116 fun B=>?_
 refine zu1 ?_
 refine zp5 ?_
 refine zy2 ?_
 refine zc rfl func39 ((gi k.r.vm.mem at_ (by have:=h.v.b;omega) ha) _) ?_
 refine zs5 ?_
 refine zp5 ?_
 refine zy2 ?_
 refine zc rfl func161 ((rx a k _ _) _ _ rfl) ?_
 refine Wn<|zu2 ?_
 refine Wq<|jZ rfl rfl ?_ ?_
 ·rfl
 rfl
theorem yK(at_ n:Int)(ha:ae at_)(hM2:M<=990000):∀(H:List Ob) (i:Nat),H[i]?=some (.cells (cPW a k) 197)->HC prog 253 (.ptr i 0::[i64 at_,i64 n]) H (.tup []) (H.set i (.cells (cPW a (mB k at_ n)) 197)):=by
 refine zM func253 fun B=>?_
 refine zp5 ?_
 refine zy3 ?_
 refine zc rfl func92 ((jp k.r.vm.mem at_ n (h.v.mem (by omega)) ha) _) ?_
 refine zy5 ?_
 refine zs1 ?_
 refine zp5 ?_
 refine zs2 ?_
 refine zu3 ?_
 refine aa rfl ?_
 refine zy3 ?_
 refine zc rfl func161 ((rx a k (sK k.r.vm (aF k.r.vm.mem at_ n).1) _) _ _ rfl) ?_
 refine Wn<|bg rfl rfl ?_ ?_
 ·rfl
 rfl
omit h in
theorem uE(xt:Int):∀(H:List Ob) (i:Nat),H[i]?=some (.cells (cPW a k) 197)->HC prog 198 (.ptr i 0::[i64 xt]) H (.tup []) (H.set i (.cells (cPW a (vw k xt)) 197)):=by
 refine zM func198 fun B=>?_
 refine aa rfl ?_
 refine zy5 ?_
 refine z1 ?_
 refine dt (zs:=cPW a ({k with r:={k.r with w:=xt}})) (lO tG rfl) rfl rfl rfl rfl rfl rfl rfl rfl rfl rfl rfl ?_
 refine zy3 ?_
 refine dt (zs:=cPW a (vw k xt)) (lO tG rfl) rfl rfl rfl rfl rfl rfl rfl rfl rfl rfl rfl ?_
 refine Wn<|bg rfl rfl ?_ ?_
 ·rfl
 rfl
theorem xr(n:Nat)(hn:n<=10):∀(H:List Ob) (i:Nat),H[i]?=some (.cells (cPW a k) 197)->HC prog 255 (.ptr i 0::[i64 (n:Int)]) H (i64 (co k n).2) (H.set i (.cells (cPW a (co k n).1) 197)):=by
 have hr:=h.v.r
 have w1:IntKind.i64.wrap (IntKind.i64.wrap ((k.r.vm.r.length:Int)-1)-(n:Int))=(k.r.vm.r.length:Int)-1-(n:Int):=by
  have w0:IntKind.i64.wrap ((k.r.vm.r.length:Int)-1)=(k.r.vm.r.length:Int)-1:=by((rw[bS];unfold wrap64;(try simp only[dnL]at *);omega))
  rw[w0];((rw[bS];unfold wrap64;(try simp only[dnL]at *);omega))
 refine zM func255 fun B=>?_
 refine zu1 ?_
 refine zp5 ?_
 refine zy5 ?_
 refine Wa 15 rfl (congrArg (fun z=>PV.val (Value.int .i64 z)) w1) ?_
 refine zs1 ?_
 refine Ws<|zu2 ?_
 refine Wi rfl (fun hi1=>?_) (fun hi1=>?_)
 ·have h0:k.r.vm.r.length<=n:=by(try simp only[dnL]at *);omega
  refine zp5 ?_
  refine z1 ?_
  refine zc rfl func161 ((rx a k _ _) _ _ rfl) ?_
  refine Wn<|zu1 ?_
  refine Wq<|jZ rfl rfl ?_ ?_
  ·rw[co,if_pos h0];rfl
  rw[co,if_pos h0]
 have h0:¬k.r.vm.r.length<=n:=by(try simp only[dnL]at *);omega
 have e0:(k.r.vm.r.length:Int)-1-(n:Int)=((k.r.vm.r.length-1-n:Nat):Int):=by omega
 refine Wj<|zp5 ?_
 refine zy2 ?_
 refine Wa 31 rfl (congrArg (fun z=>PV.val (Value.int .i64 z)) e0) ?_
 refine Wv tG rfl rfl rfl (by omega) (iN ap 1 (fun _=>rfl) 0 (by omega)) ?_
 refine zs2 ?_
 refine Wq<|jZ rfl rfl ?_ ?_
 ·rw[co,if_neg h0];rfl
 rw[co,if_neg h0]
theorem Aa(b:Bool):∀(H:List Ob) (i:Nat),H[i]?=some (.cells (cPW a k) 197)->HC prog 205 (.ptr i 0::[boo b]) H (.tup []) (H.set i (.cells (cPW a (kJ k b)) 197)):=by
 cases b with
 | true =>
  refine zM func205 fun B=>?_
  refine Ws<|zu1 ?_
  refine Wt rfl (by rfl) ?_
  refine zp5 ?_
  refine zy2 ?_
  refine zc rfl func116 ((jQ a k h _ h.ip) _ _ rfl) ?_
  refine zy3 ?_
  refine dt (zs:=cPW a (kJ k true)) (lO tG rfl) rfl rfl rfl rfl rfl rfl rfl rfl rfl rfl rfl ?_
  refine Wn<|Wq<|jZ rfl rfl ?_ ?_
  ·rfl
  rfl
 | false =>
  refine zM func205 fun B=>?_
  refine Ws<|zu1 ?_
  refine Wf rfl (by rfl) ?_
  refine Wj<|aa rfl ?_
  refine zy5 ?_
  refine zy4 ?_
  refine dt (zs:=cPW a (kJ k false)) (lO tG rfl) rfl rfl rfl rfl rfl rfl rfl rfl rfl rfl rfl ?_
  refine Wn<|bg rfl rfl ?_ ?_
  ·rfl
  rfl
theorem Rj(n:Int):∀(H:List Ob) (i:Nat),H[i]?=some (.cells (cPW a k) 197)->HC prog 207 (.ptr i 0::[i64 n]) H (.tup []) (H.set i (.cells (cPW a (pg k n)) 197)):=by
 have h1:=(qn h 1).1
 have h2:=(qn h1 0).1
 refine zM func207 fun B=>?_
 refine zp1 ?_
 refine zc rfl func255 ((xr a k h 1 (by decide)) _ _ rfl) ?_
 refine zs1 ?_
 refine zp1 ?_
 refine zc rfl func255 ((xr a _ h1 0 (by decide)) _ _ rfl) ?_
 refine zs1 ?_
 refine Ws<|zp3 ?_
 refine Wd rfl rfl (bB (lO tG rfl) rfl rfl rfl rfl) ?_
 refine Wd rfl rfl (i6 rfl (by kernel_rfl) rfl (by exact tj _ _)) ?_
 refine Wn<|Wi rfl (fun hi1=>?_) (fun hi1=>?_)
 ·have q1:¬ib (co (co k 1).1 0).1.err=true:=by simpa using hi1
  refine Wq<|jZ rfl rfl ?_ ?_
  ·rfl
  rw[pg,if_neg q1]
 have q1:ib (co (co k 1).1 0).1.err=true:=by simpa using hi1
 refine Wj<|zp3 ?_
 refine zc rfl func256 ((Sz _ _ _) _) ?_
 refine zs5 ?_
 refine zp1 ?_
 refine zc rfl func204 ((ro a _ h2) _ _ rfl) ?_
 refine Wn<|Ws<|zu1 ?_
 refine Wi rfl (fun hi2=>?_) (fun hi2=>?_)
 ·have q2:(oa (co (co k 1).1 0).2 (co k 1).2 n).2=true:=hi2
  refine aa rfl ?_
  refine z1 ?_
  refine zc rfl func204 ((ro a _ (iK h2).1) _ _ rfl) ?_
  refine Wn<|aa rfl ?_
  refine zy3 ?_
  refine zc rfl func205 ((Aa a _ (by exact(iK (iK h2).1).1) _) _ _ rfl) ?_
  refine Wn<|bg rfl rfl ?_ ?_
  ·rfl
  (rw[pg,if_pos q1,if_pos q2])
 have q2:¬(oa (co (co k 1).1 0).2 (co k 1).2 n).2=true:=by simpa using hi2
 refine aa rfl ?_
 refine zy2 ?_
 refine zc rfl func162 ((lS a _ (iK h2).1 _) _ _ rfl) ?_
 refine Wn<|aa rfl ?_
 refine zy3 ?_
 refine zc rfl func205 ((Aa a _ (by exact vj (iK h2).1 (FA _ _ _)) _) _ _ rfl) ?_
 refine Wn<|bg rfl rfl ?_ ?_
 ·rfl
 (rw[pg,if_pos q1,if_neg q2])
include hM in
theorem af1:∀(H:List Ob) (i:Nat),H[i]?=some (.cells (cPW a k) 197)->HC prog 203 (.ptr i 0::[]) H (.tup []) (H.set i (.cells (cPW a (mm k)) 197)):=by
 have hM2:M<=990000:=by omega
 have hM3:M+1<=990000:=by omega
 refine zM func203 fun B=>?_
 refine zp5 ?_
 refine zs2 ?_
 refine zp5 ?_
 refine z1 ?_
 refine zc rfl func67 ((qI k.r.vm k.r.vm.last (by have:=h.v.b;omega) h.la) _) ?_
 refine zs5 ?_
 refine Ws<|zp3 ?_
 refine Wb 23 rfl (fun hg1=>?_) (fun hg1=>?_)
 ·refine z6 ?_
  refine z6 ?_
  refine zy2 ?_
  iterate 6 refine z6 ?_
  refine zs1 ?_
  refine Wt rfl rfl ?_
  refine zp5 ?_
  refine z1 ?_
  refine zc rfl func161 ((rx a k _ _) _ _ rfl) ?_
  refine Wn<|Wq<|jZ rfl rfl ?_ ?_
  ·rfl
  rw[mm,if_pos (by(try simp only[dnL]at *);omega)]
 refine zy4 ?_
 refine Wb 27 rfl (fun hg2=>?_) (fun hg2=>?_)
 ·refine z6 ?_
  iterate 5 refine z6 ?_
  refine zs1 ?_
  refine Wt rfl rfl ?_
  refine zp5 ?_
  refine z1 ?_
  refine zc rfl func161 ((rx a k _ _) _ _ rfl) ?_
  refine Wn<|Wq<|jZ rfl rfl ?_ ?_
  ·rfl
  rw[mm,if_pos (by(try simp only[dnL]at *);omega)]
 refine zy3 ?_
 refine Wb 30 rfl (fun hg3=>?_) (fun hg3=>?_)
 ·refine zs4 ?_
  refine Wi rfl (fun hi1=>?_) (fun hi1=>?_)
  ·refine zp5 ?_
   refine z1 ?_
   refine zc rfl func161 ((rx a k _ _) _ _ rfl) ?_
   refine Wn<|Wq<|jZ rfl rfl ?_ ?_
   ·rfl
   rw[mm,if_pos (by(try simp only[dnL]at *);omega)]
  refine Wj<|zp2 ?_
  refine zc rfl func253 ((yK a k h _ _ h.la hM2) _ _ rfl) ?_
  refine Wn<|aa rfl ?_
  refine zy5 ?_
  refine zy3 ?_
  refine zc rfl func253 ((yK a _ (vP h _ _) _ _ (cX _) hM3) _ _ rfl) ?_
  refine Wn<|bg rfl rfl ?_ ?_
  ·rfl
  rw[mm,if_neg (show ¬(k.r.vm.last=0\/(av k.r.vm k.r.vm.last).2≠0\/((av k.r.vm k.r.vm.last).1≠257/\(av k.r.vm k.r.vm.last).1≠259)) by(try simp only[dnL]at *);omega)]
 refine z6 ?_
 refine z6 ?_
 refine zs2 ?_
 refine Wf rfl rfl ?_
 refine Wj<|zp2 ?_
 refine zc rfl func253 ((yK a k h _ _ h.la hM2) _ _ rfl) ?_
 refine Wn<|aa rfl ?_
 refine zy5 ?_
 refine zy3 ?_
 refine zc rfl func253 ((yK a _ (vP h _ _) _ _ (cX _) hM3) _ _ rfl) ?_
 refine Wn<|bg rfl rfl ?_ ?_
 ·rfl
 rw[mm,if_neg (show ¬(k.r.vm.last=0\/(av k.r.vm k.r.vm.last).2≠0\/((av k.r.vm k.r.vm.last).1≠257/\(av k.r.vm k.r.vm.last).1≠259)) by(try simp only[dnL]at *);omega)]
end
open Go.RowKit
theorem ZT(a:Addr)(k:PW){k':PW}(h:k'.r=k.r){e:TypeId}{H:List Ob}:Rk (.cells (cPW a k) e::H) ((Ob.cells (cPW a k) e::H).set 0 (.cells (cPW a k') e)):=fun xs e h1=>by
 simp only[List.getElem?_cons_zero,Option.some.injEq,Ob.cells.injEq]at h1
 obtain⟨rfl,rfl⟩:=h1
 refine⟨_,rfl,?_⟩
 have hl:∀r:bH,(sZ r).length=27:=fun r=>rfl
 unfold cPW
 rw[List.take_left' (hl _),List.take_left' (hl _),h]
theorem fr1(x:jc):PV.seq 1 [i64 x.d,i64 x.r,i64 x.ip] .clip=.seq (List.length [x]) (List.flatMap je [x]) .clip:=rfl
section
variable (a : Addr) (k : PW) {M : Nat} (h : KX M k) (hM : M <= 900000)
include h
theorem MV(b:Int)(hb:ae b):∀(H:List Ob) (i:Nat),H[i]?=some (.cells (cPW a k) 197)->HC prog 164 (.ptr i 0::[i64 b]) H (.tup []) (H.set i (.cells (cPW a (fa k b)) 197)):=by
 have f1:=gP h b
 have f2:=gP f1.1 (W64 (b+8))
 refine zM func164 fun B=>?_
 refine zp2 ?_
 refine zc rfl func116 ((jQ a k h b hb) _ _ rfl) ?_
 refine zy3 ?_
 refine zc rfl func116 ((jQ a _ f1.1 _ (cX _)) _ _ rfl) ?_
 refine zs2 ?_
 refine Ws<|zp3 ?_
 refine Wd rfl rfl (bB (lO tG rfl) rfl rfl rfl rfl) ?_
 refine Wd rfl rfl (aV rfl (by kernel_rfl) rfl (by exact tj _ _)) ?_
 refine z1 ?_
 refine Wb 19 rfl (fun hg1=>?_) (fun hg1=>?_)
 ·refine zy3 ?_
  refine Wb 22 rfl (fun hg2=>?_) (fun hg2=>?_)
  ·refine z6 ?_
   iterate 2 refine z6 ?_
   refine zs2 ?_
   refine Wt rfl rfl ?_
   refine aa rfl ?_
   refine zy5 ?_
   refine z1 ?_
   refine zc rfl func161 ((rx a _ _ _) _ _ rfl) ?_
   refine Wn<|zp5 ?_
   refine z1 ?_
   refine zc rfl func116 ((jQ a _ (by exact oL f2.1 f2.1.v _) _ (cX _)) _ _ rfl) ?_
   refine zs1 ?_
   refine zu2 ?_
   refine Wi rfl (fun hi1=>?_) (fun hi1=>?_)
   ·refine aa rfl ?_
    refine zy2 ?_
    refine zc rfl func198 ((uE a _ _) _ _ rfl) ?_
    refine Wn<|bg rfl rfl ?_ ?_
    ·rfl
    exact congrArg (cPW a) (by unfold fa;dsimp only;(simp only[hg1,hg2,Bool.true_and,Bool.true_or,if_true]);(rw[if_neg (by simpa using hi1)]))
   refine Wj<|bg rfl rfl ?_ ?_
   ·rfl
   exact congrArg (cPW a) (by unfold fa;dsimp only;(simp only[hg1,hg2,Bool.true_and,Bool.true_or,if_true]);(rw[if_pos (by simpa using hi1)]))
  refine zs5 ?_
  refine Wi rfl (fun hi2=>?_) (fun hi2=>?_)
  ·refine aa rfl ?_
   refine zy5 ?_
   refine z1 ?_
   refine zc rfl func161 ((rx a _ _ _) _ _ rfl) ?_
   refine Wn<|zp5 ?_
   refine z1 ?_
   refine zc rfl func116 ((jQ a _ (by exact oL f2.1 f2.1.v _) _ (cX _)) _ _ rfl) ?_
   refine zs1 ?_
   refine zu2 ?_
   refine Wi rfl (fun hi1=>?_) (fun hi1=>?_)
   ·refine aa rfl ?_
    refine zy2 ?_
    refine zc rfl func198 ((uE a _ _) _ _ rfl) ?_
    refine Wn<|bg rfl rfl ?_ ?_
    ·rfl
    exact congrArg (cPW a) (by unfold fa;dsimp only;(simp only[hg1,hg2,hi2,Bool.true_and,Bool.false_or,if_true,Bool.false_eq_true,if_false]);(rw[if_neg (by simpa using hi1)]))
   refine Wj<|bg rfl rfl ?_ ?_
   ·rfl
   exact congrArg (cPW a) (by unfold fa;dsimp only;(simp only[hg1,hg2,hi2,Bool.true_and,Bool.false_or,if_true,Bool.false_eq_true,if_false]);(rw[if_pos (by simpa using hi1)]))
  refine Wj<|zp5 ?_
  refine z1 ?_
  refine zc rfl func116 ((jQ a _ (by exact f2.1) _ (cX _)) _ _ rfl) ?_
  refine zs1 ?_
  refine zu2 ?_
  refine Wi rfl (fun hi1=>?_) (fun hi1=>?_)
  ·refine aa rfl ?_
   refine zy2 ?_
   refine zc rfl func198 ((uE a _ _) _ _ rfl) ?_
   refine Wn<|bg rfl rfl ?_ ?_
   ·rfl
   exact congrArg (cPW a) (by unfold fa;dsimp only;(simp only[hg1,hg2,hi2,Bool.true_and,Bool.false_or,if_true,Bool.false_eq_true,if_false]);(rw[if_neg (by simpa using hi1)]))
  refine Wj<|bg rfl rfl ?_ ?_
  ·rfl
  exact congrArg (cPW a) (by unfold fa;dsimp only;(simp only[hg1,hg2,hi2,Bool.true_and,Bool.false_or,if_true,Bool.false_eq_true,if_false]);(rw[if_pos (by simpa using hi1)]))
 refine z6 ?_
 iterate 6 refine z6 ?_
 refine zs1 ?_
 refine Wf rfl rfl ?_
 refine Wj<|zp5 ?_
 refine z1 ?_
 refine zc rfl func116 ((jQ a _ (by exact f2.1) _ (cX _)) _ _ rfl) ?_
 refine zs1 ?_
 refine zu2 ?_
 refine Wi rfl (fun hi1=>?_) (fun hi1=>?_)
 ·refine aa rfl ?_
  refine zy2 ?_
  refine zc rfl func198 ((uE a _ _) _ _ rfl) ?_
  refine Wn<|bg rfl rfl ?_ ?_
  ·rfl
  exact congrArg (cPW a) (by unfold fa;dsimp only;(simp only[hg1,Bool.false_and,Bool.false_eq_true,if_false]);(rw[if_neg (by simpa using hi1)]))
 refine Wj<|bg rfl rfl ?_ ?_
 ·rfl
 exact congrArg (cPW a) (by unfold fa;dsimp only;(simp only[hg1,Bool.false_and,Bool.false_eq_true,if_false]);(rw[if_pos (by simpa using hi1)]))
include hM in
theorem YQ(name:Str):∀(H:List Ob) (i:Nat),H[i]?=some (.cells (cPW a k) 197)->HC prog 208 (.ptr i 0::[str name]) H (.tup []) (H.set i (.cells (cPW a (GA k name)) 197)):=by
 have hf:=h.v.f
 have hf2:=(i8 h).1.v.f
 have hf3:=(oL (i8 h).1 (i8 h).1.v (-5)).v.f
 have w1:IntKind.i64.wrap ((k.r.vm.f.length:Int)-1)=(k.r.vm.f.length:Int)-1:=by((rw[bS];unfold wrap64;(try simp only[dnL]at *);omega))
 refine zM func208 fun B=>?_
 refine zu1 ?_
 refine Wl<|zp1 ?_
 refine zq 17 ?_
 refine zs1 ?_
 refine Wi rfl (fun hi1=>?_) (fun hi1=>?_)
 ·obtain rfl:=oT hi1
  refine zp5 ?_
  refine zs3 ?_
  refine Ws<|zu2 ?_
  refine Wi rfl (fun hi2=>?_) (fun hi2=>?_)
  ·have h0:k.r.vm.f.length=0:=by(try simp only[dnL]at *);omega
   refine zp5 ?_
   refine z1 ?_
   refine zc rfl func161 ((rx a k _ _) _ _ rfl) ?_
   refine Wn<|Wq<|jZ rfl rfl ?_ ?_
   ·rfl
   show cPW a _=cPW a (kI k);rw[kI,if_pos h0]
  have h0:¬k.r.vm.f.length=0:=by(try simp only[dnL]at *);omega
  have e0:(k.r.vm.f.length:Int)-1=((k.r.vm.f.length-1:Nat):Int):=by omega
  refine Wj<|zp5 ?_
  refine zy4 ?_
  refine Wa 42 rfl (congrArg (fun z=>PV.val (Value.int .i64 z)) (w1.trans e0)) ?_
  refine Wv tG rfl rfl rfl (by omega) (iN je 3 (fun _=>rfl) default (by omega)) ?_
  refine zy5 ?_
  refine dt (zs:=cPW a ({k with r:={k.r with ip:=(k.r.vm.f.getD (k.r.vm.f.length-1) default).ip}})) (lO tG rfl) rfl rfl rfl rfl rfl rfl rfl rfl rfl rfl rfl ?_
  refine Wn<|zp5 ?_
  refine zy4 ?_
  refine Wa 57 rfl (congrArg (fun z=>PV.val (Value.int .i64 z)) (w1.trans e0)) ?_
  refine z2 ?_ (q:=(by(simp_all;done)))
  refine Wa 58 rfl (cK je 3 (fun _=>rfl) (by(simp only[dnL]at *;omega))) ?_
  refine zy4 ?_
  refine dt (zs:=cPW a ({k with r:={k.r with ip:=(k.r.vm.f.getD (k.r.vm.f.length-1) default).ip,vm:={k.r.vm with f:=k.r.vm.f.take (k.r.vm.f.length-1)}}})) (lO tG rfl) rfl rfl rfl rfl rfl rfl rfl rfl rfl rfl rfl ?_
  refine Wn<|aa rfl ?_
  refine z1 ?_
  refine zc rfl func163 ((jU a {k with r:={k.r with ip:=(k.r.vm.f.getD (k.r.vm.f.length-1) default).ip,vm:={k.r.vm with f:=k.r.vm.f.take (k.r.vm.f.length-1)}}} (OI h h0) 0) _ _ rfl) ?_
  refine Wn<|bg rfl rfl ?_ ?_
  ·rfl
  (show cPW a _=cPW a (kI k);rw[kI,if_neg h0])
 refine zp1 ?_
 refine zq 66 ?_
 refine zs1 ?_
 refine Wi rfl (fun hi3=>?_) (fun hi3=>?_)
 ·obtain rfl:=oT hi3
  refine Ws<|az [0,0,0,0,0,1,5,0,0,0,0,4,0,0,0] [0,1,2,3,4,7,8,9,10,11,12,5,6,13,14] mG rfl (by kernel_rfl) ?_
  iterate 9 refine z3 ?_
  refine R4 (lO tG rfl) rfl rfl rfl rfl rfl rfl rfl rfl rfl ?_
  refine z3 ?_
  refine z5 ?_
  refine RK rfl rfl rfl rfl (dC rfl func116 rfl rfl ((jQ a k h _ h.ip) _ _ rfl)) (ZT a k (yJ)) ?_
  iterate 2 refine z3 ?_
  refine aP ?_
  refine zp5 ?_
  refine zy3 ?_
  refine zc rfl func257 ((zo _ _ _ ((gP h k.r.ip).1.v.mem (by omega)) (cX _) (gP h k.r.ip).2) _) ?_
  refine zs5 ?_
  refine zp5 ?_
  refine zy2 ?_
  refine zc rfl func161 ((rx a _ _ _) _ _ rfl) ?_
  refine Wn<|zp2 ?_
  refine zc rfl func163 ((jU a _ (oL (gP h _).1 (gP h _).1.v _) _) _ _ rfl) ?_
  refine Wn<|zp2 ?_
  refine zc rfl func163 ((jU a _ (vu (oL (gP h _).1 (gP h _).1.v _) (cX _)) _) _ _ rfl) ?_
  refine Wn<|aa rfl ?_
  refine zy4 ?_
  refine zc rfl func244 ((KB _ _ (cX _)) _) ?_
  refine zy5 ?_
  refine z1 ?_
  refine dt (zs:=cPW a (IK k)) (lO tG rfl) rfl rfl rfl rfl rfl rfl rfl rfl rfl rfl rfl ?_
  refine Wn<|bg rfl rfl ?_ ?_
  ·rfl
  rfl
 refine zp1 ?_
 refine zq 118 ?_
 refine zs1 ?_
 refine Wi rfl (fun hi4=>?_) (fun hi4=>?_)
 ·obtain rfl:=oT hi4
  refine aa rfl ?_
  refine zy2 ?_
  refine zc rfl func206 ((oS a k h) _ _ rfl) ?_
  refine zc rfl func198 ((uE a _ _) _ _ rfl) ?_
  refine Wn<|bg rfl rfl ?_ ?_
  ·rfl
  rfl
 refine zp1 ?_
 refine zq 124 ?_
 refine zs1 ?_
 refine Wi rfl (fun hi5=>?_) (fun hi5=>?_)
 ·obtain rfl:=oT hi5
  refine zp1 ?_
  refine zc rfl func206 ((oS a k h) _ _ rfl) ?_
  refine zs1 ?_
  refine Ws<|zp5 ?_
  refine zs3 ?_
  refine Wi rfl (fun hi6=>?_) (fun hi6=>?_)
  ·refine aa rfl ?_
   refine zy5 ?_
   refine z1 ?_
   refine zc rfl func161 ((rx a _ _ _) _ _ rfl) ?_
   refine Wn<|Ws<|az [0,0,0,0,0,0,1,0,0,0,0,0,0,1,0,0,0,0,0,0,1,0,0,0,0,0,1,0,0,0,0,0,0,0,3] [0,1,2,3,4,5,6,7,8,9,10,11,12,13,14,15,16,17,18,19,20,21,22,23,24,25,26,27,28,29,30,31,32,33,34] mG rfl (by kernel_rfl) ?_
   iterate 6 refine z3 ?_
   refine z5 ?_
   refine Xc rfl rfl rfl rfl (fun _=>dC rfl func258 rfl rfl ((xE _ (by(have:=(i8 h).1.v.f;omega))) _)) ?_
   iterate 5 refine z3 ?_
   refine z5 ?_
   iterate 6 refine z3 ?_
   refine z5 ?_
   iterate 5 refine z3 ?_
   refine z5 ?_
   iterate 2 refine z3 ?_
   refine Xa 170 rfl (fr1 ⟨_,_,_⟩) ?_
   refine gW rfl rfl rfl rfl (fun _=>cg (lO tG rfl) rfl (lO tG rfl) (lO tG rfl) rfl rfl (by exact⟨_,rfl⟩) (by exact⟨rfl,rfl,al _ 3 (fun _=>rfl) _,bD _ (fun _=>rfl) _⟩) (by exact al _ 3 (fun _=>rfl) _) (by((simp_all;omega))) (by((simp_all;omega))) (by exact fy (bt (fun x=>by simp) _) (bt (fun x=>by simp) _))) ?_
   refine Xa 171 rfl (cw je) ?_
   iterate 4 refine z3 ?_
   refine me rfl rfl rfl rfl (bL (lO tG rfl) rfl rfl rfl rfl rfl rfl rfl) ?_
   refine aP ?_
   refine zp4 ?_
   refine dt (zs:=cPW a (wFr (pOk (aZ k).1 (aZ k).1.r.vm (-5)))) (lO tG rfl) rfl rfl rfl rfl rfl rfl rfl rfl rfl rfl rfl ?_
   refine Wn<|aa rfl ?_
   refine zy2 ?_
   refine zc rfl func198 ((uE a _ _) _ _ rfl) ?_
   refine Wn<|bg rfl rfl ?_ ?_
   ·rfl
   (show cPW a _=cPW a (ou k);rw[ou,if_pos (oT hi6)])
  refine Wj<|Ws<|az [0,0,0,0,0,0,1,0,0,0,0,0,0,1,0,0,0,0,0,0,1,0,0,0,0,0,1,0,0,0,0,0,0,0,3] [0,1,2,3,4,5,6,7,8,9,10,11,12,13,14,15,16,17,18,19,20,21,22,23,24,25,26,27,28,29,30,31,32,33,34] mG rfl (by kernel_rfl) ?_
  iterate 6 refine z3 ?_
  refine z5 ?_
  refine Xc rfl rfl rfl rfl (fun _=>dC rfl func258 rfl rfl ((xE _ (by(have:=(i8 h).1.v.f;omega))) _)) ?_
  iterate 5 refine z3 ?_
  refine z5 ?_
  iterate 6 refine z3 ?_
  refine z5 ?_
  iterate 5 refine z3 ?_
  refine z5 ?_
  iterate 2 refine z3 ?_
  refine Xa 170 rfl (fr1 ⟨_,_,_⟩) ?_
  refine gW rfl rfl rfl rfl (fun _=>cg (lO tG rfl) rfl (lO tG rfl) (lO tG rfl) rfl rfl (by exact⟨_,rfl⟩) (by exact⟨rfl,rfl,al _ 3 (fun _=>rfl) _,bD _ (fun _=>rfl) _⟩) (by exact al _ 3 (fun _=>rfl) _) (by((simp_all;omega))) (by((simp_all;omega))) (by exact fy (bt (fun x=>by simp) _) (bt (fun x=>by simp) _))) ?_
  refine Xa 171 rfl (cw je) ?_
  iterate 4 refine z3 ?_
  refine me rfl rfl rfl rfl (bL (lO tG rfl) rfl rfl rfl rfl rfl rfl rfl) ?_
  refine aP ?_
  refine zp4 ?_
  refine dt (zs:=cPW a (wFr (aZ k).1)) (lO tG rfl) rfl rfl rfl rfl rfl rfl rfl rfl rfl rfl rfl ?_
  refine Wn<|aa rfl ?_
  refine zy2 ?_
  refine zc rfl func198 ((uE a _ _) _ _ rfl) ?_
  refine Wn<|bg rfl rfl ?_ ?_
  ·rfl
  (show cPW a _=cPW a (ou k);rw[ou,if_neg (oF hi6)])
 refine zp1 ?_
 refine zq 184 ?_
 refine zs1 ?_
 refine Wi rfl (fun hi7=>?_) (fun hi7=>?_)
 ·obtain rfl:=oT hi7
  refine zp1 ?_
  refine zc rfl func206 ((oS a k h) _ _ rfl) ?_
  refine zs1 ?_
  refine aa rfl ?_
  refine zy5 ?_
  refine zy2 ?_
  refine zc rfl func161 ((rx a _ _ _) _ _ rfl) ?_
  refine Wn<|bg rfl rfl ?_ ?_
  ·rfl
  rfl
 refine zp1 ?_
 refine zq 196 ?_
 refine zs1 ?_
 refine Wi rfl (fun hi8=>?_) (fun hi8=>?_)
 ·obtain rfl:=oT hi8
  refine aa rfl ?_
  refine zy2 ?_
  refine zc rfl func255 ((xr a k h 0 (by decide)) _ _ rfl) ?_
  refine zc rfl func163 ((jU a _ (qn h _).1 _) _ _ rfl) ?_
  refine Wn<|bg rfl rfl ?_ ?_
  ·rfl
  rfl
 refine zp1 ?_
 refine zq 202 ?_
 refine zs1 ?_
 refine Wi rfl (fun hi9=>?_) (fun hi9=>?_)
 ·obtain rfl:=oT hi9
  refine aa rfl ?_
  refine zy2 ?_
  refine zc rfl func255 ((xr a k h 2 (by decide)) _ _ rfl) ?_
  refine zc rfl func163 ((jU a _ (qn h _).1 _) _ _ rfl) ?_
  refine Wn<|bg rfl rfl ?_ ?_
  ·rfl
  rfl
 refine zp1 ?_
 refine zq 208 ?_
 refine zs1 ?_
 refine Wi rfl (fun hi10=>?_) (fun hi10=>?_)
 ·obtain rfl:=oT hi10
  refine zp1 ?_
  refine zc rfl func255 ((xr a k h 1 (by decide)) _ _ rfl) ?_
  refine Wn<|zp1 ?_
  refine zc rfl func204 ((ro a _ (qn h _).1) _ _ rfl) ?_
  refine Wn<|aa rfl ?_
  refine z1 ?_
  refine zc rfl func204 ((ro a _ (iK (qn h _).1).1) _ _ rfl) ?_
  refine Wn<|bg rfl rfl ?_ ?_
  ·rfl
  rfl
 refine zp1 ?_
 refine zq 216 ?_
 refine zs1 ?_
 refine Wi rfl (fun hi11=>?_) (fun hi11=>?_)
 ·obtain rfl:=oT hi11
  refine aa rfl ?_
  refine zy2 ?_
  refine zc rfl func206 ((oS a k h) _ _ rfl) ?_
  refine zc rfl func162 ((lS a _ (i8 h).1 _) _ _ rfl) ?_
  refine Wn<|bg rfl rfl ?_ ?_
  ·rfl
  rfl
 refine zp1 ?_
 refine zq 222 ?_
 refine zs1 ?_
 refine Wi rfl (fun hi12=>?_) (fun hi12=>?_)
 ·obtain rfl:=oT hi12
  refine aa rfl ?_
  refine zy2 ?_
  refine zc rfl func204 ((ro a k h) _ _ rfl) ?_
  refine zc rfl func163 ((jU a _ (iK h).1 _) _ _ rfl) ?_
  refine Wn<|bg rfl rfl ?_ ?_
  ·rfl
  rfl
 refine zp1 ?_
 refine zq 228 ?_
 refine zs1 ?_
 refine Wi rfl (fun hi13=>?_) (fun hi13=>?_)
 ·obtain rfl:=oT hi13
  refine aa rfl ?_
  refine zy2 ?_
  refine zc rfl func255 ((xr a k h 0 (by decide)) _ _ rfl) ?_
  refine zc rfl func163 ((jU a _ (qn h _).1 _) _ _ rfl) ?_
  refine Wn<|bg rfl rfl ?_ ?_
  ·rfl
  rfl
 refine zp1 ?_
 refine zq 234 ?_
 refine zs1 ?_
 refine Wi rfl (fun hi14=>?_) (fun hi14=>?_)
 ·obtain rfl:=oT hi14
  refine zp1 ?_
  refine zc rfl func206 ((oS a k h) _ _ rfl) ?_
  refine z1 ?_
  refine zc rfl func206 ((oS a _ (i8 h).1) _ _ rfl) ?_
  refine zs2 ?_
  refine zp2 ?_
  refine zc rfl func162 ((lS a _ (i8 (i8 h).1).1 _) _ _ rfl) ?_
  refine Wn<|aa rfl ?_
  refine zy2 ?_
  refine zc rfl func162 ((lS a _ (vj (i8 (i8 h).1).1 (i8 (i8 h).1).2) _) _ _ rfl) ?_
  refine Wn<|bg rfl rfl ?_ ?_
  ·rfl
  rfl
 refine zp1 ?_
 refine zq 246 ?_
 refine zs1 ?_
 refine Wi rfl (fun hi15=>?_) (fun hi15=>?_)
 ·obtain rfl:=oT hi15
  refine zp1 ?_
  refine zc rfl func204 ((ro a k h) _ _ rfl) ?_
  refine z1 ?_
  refine zc rfl func204 ((ro a _ (iK h).1) _ _ rfl) ?_
  refine zs2 ?_
  refine zp2 ?_
  refine zc rfl func163 ((jU a _ (iK (iK h).1).1 _) _ _ rfl) ?_
  refine Wn<|aa rfl ?_
  refine zy2 ?_
  refine zc rfl func163 ((jU a _ (vu (iK (iK h).1).1 (iK (iK h).1).2) _) _ _ rfl) ?_
  refine Wn<|bg rfl rfl ?_ ?_
  ·rfl
  rfl
 refine Wj<|bg rfl rfl ?_ ?_
 ·rfl
 (rw[GA,if_neg (oF hi1),if_neg (oF hi3),if_neg (oF hi4),if_neg (oF hi5),if_neg (oF hi7),if_neg (oF hi8),if_neg (oF hi9),if_neg (oF hi10),if_neg (oF hi11),if_neg (oF hi12),if_neg (oF hi13),if_neg (oF hi14),if_neg (oF hi15)])
end
open Go.RowKit
def etV:Value:=.iface 221 (.agg #[.pointer (some ⟨5,87,none⟩)])
def gK(a:Addr):List Ob:=[.glob 1 (haltV a),.glob 0 etV]
theorem fM(a:Addr):∀o∈gK a,∃g u,o=.glob g u:=fun o h=>by
 unfold gK at h
 simp at h
 rcases h with h|h<;>exact⟨_,_,h⟩
theorem cn{a:Addr}{H:List Ob}(i j:Nat)(h1:H[i]?=some (.glob 1 (haltV a)))(h2:H[j]?=some (.glob 0 etV)):∀o∈gK a,∃k:Nat,H[k]?=some o:=fun o h=>by
 unfold gK at h
 simp at h
 rcases h with h|h
 ·subst h;exact⟨i,h1⟩
 subst h;exact⟨j,h2⟩
section
variable (a : Addr) (k : PW) {M : Nat} (h : KX M k) (hM : M <= 900000)
include h hM
theorem MD(name:Str):∀(H:List Ob) (i:Nat),H[i]?=some (.cells (cPW a k) 197)->(∀o∈gK a,∃k:Nat,H[k]?=some o)->HC prog 167 (.ptr i 0::[str name]) H (.tup []) (H.set i (.cells (cPW a (mf k name)) 197)):=by
 have p1:=i8 h
 have p2:=i8 p1.1
 have u1:=vu p2.1 p2.2
 have u2:=vu u1 p1.2
 have u3:=Yo u2 (cX ((dm (dm (aZ (aZ k).1).1 (aZ (aZ k).1).2) (aZ k).2).r.ip+8))
 have v1:=i8 u3
 have v2:=i8 v1.1
 refine lB (fM a) tG (rs:=[]) func167 rfl rfl rfl (by simp) (by simp) (by simp) (by simp) (fun B=>?_)
 refine zu1 ?_
 refine Wl<|Ws<|Wl<|Ws<|Wl<|Ws<|Wl<|Ws<|Wl<|Ws<|Wl<|Ws<|Wl<|Ws<|Wl<|Ws<|Wl<|Ws<|Wl<|Ws<|Wl<|Ws<|Wl ?_
 iterate 2 refine Ws ?_
 refine zp1 ?_
 refine zq 10 ?_
 refine zs1 ?_
 refine Wi rfl (fun hi1=>?_) (fun hi1=>?_)
 ·obtain rfl:=oT hi1
  refine bf ?_
  refine aa rfl ?_
  refine z1 ?_
  refine zc rfl func203 ((af1 a k h hM) _ _ rfl) ?_
  refine Wn<|zp2 ?_
  refine zc rfl func204 ((ro a _ (by exact UW h)) _ _ rfl) ?_
  refine zy3 ?_
  refine dt (zs:=cPW a (sP (mm k))) (lO tG rfl) rfl rfl rfl rfl rfl rfl rfl rfl rfl rfl rfl ?_
  refine Wn<|bf ?_
  refine bg rfl rfl ?_ ?_
  ·rfl
  rfl
 refine Wj<|Ws<|zp1 ?_
 refine zq 12 ?_
 refine zs1 ?_
 refine Wi rfl (fun hi2=>?_) (fun hi2=>?_)
 ·obtain rfl:=oT hi2
  refine bf ?_
  refine zp2 ?_
  refine zc rfl func204 ((ro a _ (by exact h)) _ _ rfl) ?_
  refine zy3 ?_
  refine dt (zs:=cPW a (sP k)) (lO tG rfl) rfl rfl rfl rfl rfl rfl rfl rfl rfl rfl rfl ?_
  refine Wn<|bf ?_
  refine bg rfl rfl ?_ ?_
  ·rfl
  rfl
 refine Wj<|Ws<|zp1 ?_
 refine zq 14 ?_
 refine zs1 ?_
 refine Wi rfl (fun hi3=>?_) (fun hi3=>?_)
 ·obtain rfl:=oT hi3
  refine bf ?_
  refine Ws<|zp5 ?_
  refine zy2 ?_
  refine zc rfl func116 ((jQ a k h _ h.ip) _ _ rfl) ?_
  refine zc rfl func163 ((jU a _ (gP h _).1 _) _ _ rfl) ?_
  refine Wn<|aa rfl ?_
  refine zy5 ?_
  refine zy4 ?_
  refine dt (zs:=cPW a (NS k)) (lO tG rfl) rfl rfl rfl rfl rfl rfl rfl rfl rfl rfl rfl ?_
  refine Wn<|bf ?_
  refine bg rfl rfl ?_ ?_
  ·rfl
  rfl
 refine Wj<|Ws<|zp1 ?_
 refine zq 16 ?_
 refine zs1 ?_
 refine Wi rfl (fun hi4=>?_) (fun hi4=>?_)
 ·obtain rfl:=oT hi4
  refine bf ?_
  refine zp1 ?_
  refine zc rfl func205 ((Aa a k h true) _ _ rfl) ?_
  refine Wn<|bf ?_
  refine bg rfl rfl ?_ ?_
  ·rfl
  rfl
 refine Wj<|Ws<|zp1 ?_
 refine zq 18 ?_
 refine zs1 ?_
 refine Wi rfl (fun hi5=>?_) (fun hi5=>?_)
 ·obtain rfl:=oT hi5
  refine bf ?_
  refine zp2 ?_
  refine zc rfl func206 ((oS a k h) _ _ rfl) ?_
  refine z1 ?_
  refine zc rfl func205 ((Aa a _ p1.1 _) _ _ rfl) ?_
  refine Wn<|bf ?_
  refine bg rfl rfl ?_ ?_
  ·rfl
  rfl
 refine Wj<|Ws<|zp1 ?_
 refine zq 20 ?_
 refine zs1 ?_
 refine Wi rfl (fun hi6=>?_) (fun hi6=>?_)
 ·obtain rfl:=oT hi6
  refine bf ?_
  refine Ws<|zp1 ?_
  refine zc rfl func206 ((oS a k h) _ _ rfl) ?_
  refine z1 ?_
  refine zc rfl func206 ((oS a _ p1.1) _ _ rfl) ?_
  refine zs2 ?_
  refine zu3 ?_
  refine Wi rfl (fun hi7=>?_) (fun hi7=>?_)
  ·have q7:(aZ k).2=(aZ (aZ k).1).2:=by(try simp only[dnL]at *);exact hi7
   refine zp1 ?_
   refine zc rfl func205 ((Aa a _ p2.1 true) _ _ rfl) ?_
   refine Wn<|Wq<|jZ rfl rfl ?_ ?_
   ·rfl
   show cPW a _=cPW a (zO k);rw[zO,if_pos q7]
  have q7:¬(aZ k).2=(aZ (aZ k).1).2:=by(try simp only[dnL]at *);exact hi7
  refine zp2 ?_
  refine zc rfl func163 ((jU a _ p2.1 _) _ _ rfl) ?_
  refine Wn<|aa rfl ?_
  refine zy2 ?_
  refine zc rfl func163 ((jU a _ u1 _) _ _ rfl) ?_
  refine Wn<|aa rfl ?_
  refine zy5 ?_
  refine zy4 ?_
  refine dt (zs:=cPW a (wIp (dm (dm (aZ (aZ k).1).1 (aZ (aZ k).1).2) (aZ k).2) (W64 ((dm (dm (aZ (aZ k).1).1 (aZ (aZ k).1).2) (aZ k).2).r.ip+8)))) (lO tG rfl) rfl rfl rfl rfl rfl rfl rfl rfl rfl rfl rfl ?_
  refine Wn<|Ws<|zp1 ?_
  refine zc rfl func206 ((oS a _ (by exact u3)) _ _ rfl) ?_
  refine z1 ?_
  refine zc rfl func206 ((oS a _ (by exact v1.1)) _ _ rfl) ?_
  refine zs2 ?_
  refine zp2 ?_
  refine zc rfl func162 ((lS a _ (by exact v2.1) _) _ _ rfl) ?_
  refine Wn<|aa rfl ?_
  refine zy2 ?_
  refine zc rfl func162 ((lS a _ (by exact vj v2.1 v2.2) _) _ _ rfl) ?_
  refine Wn<|bf ?_
  refine bg rfl rfl ?_ ?_
  ·rfl
  (show cPW a _=cPW a (zO k);rw[zO,if_neg q7];rfl)
 refine Wj<|Ws<|zp1 ?_
 refine zq 22 ?_
 refine zs1 ?_
 refine Wi rfl (fun hi8=>?_) (fun hi8=>?_)
 ·obtain rfl:=oT hi8
  refine bf ?_
  refine Ws<|zp1 ?_
  refine zc rfl func206 ((oS a _ (by exact h)) _ _ rfl) ?_
  refine z1 ?_
  refine zc rfl func206 ((oS a _ (by exact p1.1)) _ _ rfl) ?_
  refine zs2 ?_
  refine zp2 ?_
  refine zc rfl func162 ((lS a _ (by exact p2.1) _) _ _ rfl) ?_
  refine Wn<|aa rfl ?_
  refine zy2 ?_
  refine zc rfl func162 ((lS a _ (by exact vj p2.1 p2.2) _) _ _ rfl) ?_
  refine Wn<|bf ?_
  refine bg rfl rfl ?_ ?_
  ·rfl
  rfl
 refine Wj<|Ws<|zp1 ?_
 refine zq 24 ?_
 refine zs1 ?_
 refine Wi rfl (fun hi9=>?_) (fun hi9=>?_)
 ·obtain rfl:=oT hi9
  refine bf ?_
  refine zp1 ?_
  refine zc rfl func207 ((Rj a k h 1) _ _ rfl) ?_
  refine Wn<|bf ?_
  refine bg rfl rfl ?_ ?_
  ·rfl
  rfl
 refine Wj<|Ws<|zp1 ?_
 refine zq 26 ?_
 refine zs1 ?_
 refine Wi rfl (fun hi10=>?_) (fun hi10=>?_)
 ·obtain rfl:=oT hi10
  refine bf ?_
  refine zp2 ?_
  refine zc rfl func206 ((oS a k h) _ _ rfl) ?_
  refine zc rfl func207 ((Rj a _ p1.1 _) _ _ rfl) ?_
  refine Wn<|bf ?_
  refine bg rfl rfl ?_ ?_
  ·rfl
  rfl
 refine Wj<|zp1 ?_
 refine zq 28 ?_
 refine zs1 ?_
 refine Wi rfl (fun hi11=>?_) (fun hi11=>?_)
 ·obtain rfl:=oT hi11
  refine bf ?_
  refine zp1 ?_
  refine Wd rfl rfl (Ac (j:=1) (lO tG rfl) rfl rfl rfl) ?_
  refine zy2 ?_
  refine dt (zs:=cPW a (W4 k .halt)) (lO tG rfl) rfl rfl rfl rfl rfl rfl rfl rfl rfl rfl rfl ?_
  refine Wn<|bf ?_
  refine aU rfl rfl ?_ ?_
  ·rfl
  rfl
 refine Wj<|bf ?_
 refine zp2 ?_
 refine zc rfl func208 ((YQ a k h hM name) _ _ rfl) ?_
 refine Wn<|bf ?_
 refine bg rfl rfl ?_ ?_
 ·rfl
 (rw[mf,if_neg (oF hi1),if_neg (oF hi2),if_neg (oF hi3),if_neg (oF hi4),if_neg (oF hi5),if_neg (oF hi6),if_neg (oF hi8),if_neg (oF hi9),if_neg (oF hi10),if_neg (oF hi11)])
end
theorem Zq{k:PW}{e:Int}:(pOk k k.r.vm e).r=k.r:=by unfold pOk;cases k.err<;>dsimp only;split<;>rfl
section
variable (a : Addr) (k : PW) {M : Nat} (h : KX M k) (hM : M <= 900000) (hv : dA k.r.vm)
include h hM hv
theorem Ze(xt:Int)(hx:ae xt):∀(H:List Ob) (i:Nat),H[i]?=some (.cells (cPW a k) 197)->(∀o∈gK a,∃k:Nat,H[k]?=some o)->HC prog 117 (.ptr i 0::[i64 xt]) H (.tup []) (H.set i (.cells (cPW a (j3 k xt)) 197)):=by
 have h1:=oL h h.v (av k.r.vm xt).2
 have hN:=xi
 have hv1:dA (pOk k k.r.vm (av k.r.vm xt).2).r.vm:=by rw[Zq];exact hv
 refine lB (fM a) tG (rs:=[]) func117 rfl rfl rfl (by simp) (by simp) (by simp) (by simp) (fun B=>?_)
 refine zp5 ?_
 refine z1 ?_
 refine zc rfl func67 ((qI k.r.vm xt (by have:=h.v.b;omega) hx) _) ?_
 refine zs5 ?_
 refine Ws<|zp5 ?_
 refine zy2 ?_
 refine zc rfl func161 ((rx a k _ _) _ _ rfl) ?_
 refine zs1 ?_
 refine Wi rfl (fun hi1=>?_) (fun hi1=>?_)
 ·have q1:¬ib (pOk k k.r.vm (av k.r.vm xt).2).err=true:=by simpa using hi1
  refine Wq<|jZ rfl rfl ?_ ?_
  ·rfl
  unfold j3;rw[if_neg q1]
 have q1:ib (pOk k k.r.vm (av k.r.vm xt).2).err=true:=by simpa using hi1
 have hk:=Fh (gX (gV.1 q1)).2
 unfold eX at hk
 refine Wj<|Wl<|zu3 ?_
 refine Wi rfl (fun hi2=>?_) (fun hi2=>?_)
 ·have q2:300<=(av k.r.vm xt).1:=oT hi2
  refine aa rfl ?_
  refine zy5 ?_
  refine z1 ?_
  refine zc rfl func161 ((rx a _ _ _) _ _ rfl) ?_
  refine Wn<|bg rfl rfl ?_ ?_
  ·rfl
  unfold j3;rw[if_pos q1];rw[if_pos q2]
 have q2:¬300<=(av k.r.vm xt).1:=oF hi2
 refine zu3 ?_
 refine Wi rfl (fun hi3=>?_) (fun hi3=>?_)
 ·have q3:(av k.r.vm xt).1=256:=by simpa using hi3
  refine zp5 ?_
  refine z1 ?_
  refine zc rfl func162 ((lS a _ h1 _) _ _ rfl) ?_
  refine Wn<|aa rfl ?_
  refine zy5 ?_
  refine z1 ?_
  refine dt (zs:=cPW a (wIp (iZ (pOk k k.r.vm (av k.r.vm xt).2) (pOk k k.r.vm (av k.r.vm xt).2).r.ip) (W64 (xt+8)))) (lO tG rfl) rfl rfl rfl rfl rfl rfl rfl rfl rfl rfl rfl ?_
  refine Wn<|bg rfl rfl ?_ ?_
  ·rfl
  unfold j3;rw[if_pos q1];rw[if_neg q2,if_pos q3]
 have q3:¬(av k.r.vm xt).1=256:=by simpa using hi3
 refine zu3 ?_
 refine Wi rfl (fun hi4=>?_) (fun hi4=>?_)
 ·have q4:(av k.r.vm xt).1=257:=by simpa using hi4
  refine aa rfl ?_
  refine zy3 ?_
  refine zc rfl func163 ((jU a _ h1 _) _ _ rfl) ?_
  refine Wn<|bg rfl rfl ?_ ?_
  ·rfl
  unfold j3;rw[if_pos q1];rw[if_neg q2,if_neg q3,if_pos q4]
 have q4:¬(av k.r.vm xt).1=257:=by simpa using hi4
 refine zu3 ?_
 refine Wi rfl (fun hi5=>?_) (fun hi5=>?_)
 ·have q5:(av k.r.vm xt).1=258:=by simpa using hi5
  refine aa rfl ?_
  refine zy4 ?_
  refine zc rfl func116 ((jQ a _ h1 _ (cX _)) _ _ rfl) ?_
  refine zc rfl func163 ((jU a _ (gP h1 _).1 _) _ _ rfl) ?_
  refine Wn<|bg rfl rfl ?_ ?_
  ·rfl
  unfold j3;rw[if_pos q1];rw[if_neg q2,if_neg q3,if_neg q4,if_pos q5]
 have q5:¬(av k.r.vm xt).1=258:=by simpa using hi5
 refine zu3 ?_
 refine Wi rfl (fun hi6=>?_) (fun hi6=>?_)
 ·have q6:(av k.r.vm xt).1=259:=by simpa using hi6
  refine zp3 ?_
  refine zc rfl func116 ((jQ a _ h1 _ (cX _)) _ _ rfl) ?_
  refine zs1 ?_
  refine zp3 ?_
  refine zc rfl func163 ((jU a _ (gP h1 _).1 _) _ _ rfl) ?_
  refine Wn<|zp5 ?_
  refine z1 ?_
  refine zc rfl func162 ((lS a _ (vu (gP h1 _).1 (cX _)) _) _ _ rfl) ?_
  refine Wn<|aa rfl ?_
  refine zy5 ?_
  refine dt (zs:=cPW a (wIp (iZ (dm (bv (pOk k k.r.vm (av k.r.vm xt).2) (W64 (xt+8))).1 (W64 (xt+16))) (dm (bv (pOk k k.r.vm (av k.r.vm xt).2) (W64 (xt+8))).1 (W64 (xt+16))).r.ip) (bv (pOk k k.r.vm (av k.r.vm xt).2) (W64 (xt+8))).2)) (lO tG rfl) rfl rfl rfl rfl rfl rfl rfl rfl rfl rfl rfl ?_
  refine Wn<|bg rfl rfl ?_ ?_
  ·rfl
  unfold j3;rw[if_pos q1];rw[if_neg q2,if_neg q3,if_neg q4,if_neg q5,if_pos q6]
 have q6:¬(av k.r.vm xt).1=259:=by simpa using hi6
 refine zu3 ?_
 refine Wi rfl (fun hi7=>?_) (fun hi7=>?_)
 ·have q7:(av k.r.vm xt).1=260:=by simpa using hi7
  refine aa rfl ?_
  refine zy3 ?_
  refine zc rfl func164 ((MV a _ h1 _ (cX _)) _ _ rfl) ?_
  refine Wn<|bg rfl rfl ?_ ?_
  ·rfl
  unfold j3;rw[if_pos q1];rw[if_neg q2,if_neg q3,if_neg q4,if_neg q5,if_neg q6,if_pos q7]
 have q7:¬(av k.r.vm xt).1=260:=by simpa using hi7
 refine zp1 ?_
 refine zc rfl func165 ((tu _) _) ?_
 refine zs1 ?_
 refine Wi rfl (fun hi8=>?_) (fun hi8=>?_)
 ·have q8:23<=(av k.r.vm xt).1/\(av k.r.vm xt).1<=129:=oT hi8
  refine aa rfl ?_
  refine zy5 ?_
  refine zy2 ?_
  refine zc rfl func166 ((VE _ hv1 _) _) ?_
  refine zy2 ?_
  refine zc rfl func161 ((rx a _ _ _) _ _ rfl) ?_
  refine Wn<|bg rfl rfl ?_ ?_
  ·rfl
  unfold j3;rw[if_pos q1];rw[if_neg q2,if_neg q3,if_neg q4,if_neg q5,if_neg q6,if_neg q7,if_pos q8]
 have q8:¬(23<=(av k.r.vm xt).1/\(av k.r.vm xt).1<=129):=oF hi8
 refine aa rfl ?_
 refine z1 ?_
 refine zc rfl func98 ((nU) _) ?_
 refine z1 ?_
 refine Wv tG rfl rfl rfl (by(try simp only[dnL]at *);omega) (iR gy 1 (fun _=>rfl) [] (by omega)) ?_
 refine z1 ?_
 refine zc rfl func167 (MD a _ h1 hM _ _ _ rfl (cn 1 2 rfl rfl)) ?_
 refine Wn<|bg rfl rfl ?_ ?_
 ·rfl
 unfold j3;rw[if_pos q1];rw[if_neg q2,if_neg q3,if_neg q4,if_neg q5,if_neg q6,if_neg q7,if_neg q8]
end
open Go.RowKit
def Cd(e:Int):Prop:=-300<=e/\e<=0
theorem ad7{e:Int}(h:Cd e):ae e:=by unfold Cd at h;unfold ae;omega
theorem ay6(n:Nat)(h:n<=300):Cd (-(n:Int)):=by unfold Cd;omega
theorem cd0:Cd 0:=by unfold Cd;omega
section
variable {α β γ : Type} {c : Prop} [Decidable c]
theorem Dn{a b:Int}(ha:Cd a)(hb:Cd b):Cd (if c then a else b):=by split<;>assumption
theorem dr{a b:α×Int}(ha:Cd a.2)(hb:Cd b.2):Cd (if c then a else b).2:=by split<;>assumption
theorem cD{a b:α×β×Int}(ha:Cd a.2.2)(hb:Cd b.2.2):Cd (if c then a else b).2.2:=by split<;>assumption
theorem Kq{a b:α×β×γ×Int}(ha:Cd a.2.2.2)(hb:Cd b.2.2.2):Cd (if c then a else b).2.2.2:=by split<;>assumption
end
theorem iw(n:Nat)(h:Nat.ble n 300=true):Cd (-(n:Int)):=ay6 n (Nat.le_of_ble_eq_true h)
theorem R9(a b:Int):Cd (m9 a b).2.2:=by unfold m9;exact cD (iw 10 rfl) cd0
theorem UJ(a b c:Int):Cd (io a b c).2.2:=by unfold io;exact cD (iw 10 rfl) (cD (iw 11 rfl) cd0)
theorem Vv(a b c:Int):Cd (lc a b c).2.2:=by unfold lc;exact cD (iw 10 rfl) (cD cd0 (iw 11 rfl))
theorem E1(a b c:Int):Cd (jv a b c).2.2:=by unfold jv;exact cD (iw 10 rfl) (cD cd0 (iw 11 rfl))
theorem ag6(name:Str)(a b:Int):Cd (lU name a b).2.2:=by
 unfold lU
 rcases op2 name with _|o
 ·exact cd0
 cases o<;>first|exact R9 a b|exact cd0
theorem Oq{name:Str}{x:List Int}{r:List Int×Int}(h:qR name x=some r):Cd r.2:=by
 unfold qR at h
 rcases ag h with rfl|h
 ·exact R9 _ _
 rcases ag h with rfl|h
 ·exact E1 _ _ _
 rcases ag h with rfl|h
 ·exact E1 _ _ _
 rcases ag h with rfl|h
 ·exact cd0
 rcases ag h with rfl|h
 ·exact cd0
 rcases ag h with rfl|h
 ·exact UJ _ _ _
 rcases ag h with rfl|h
 ·exact Vv _ _ _
 rcases ag h with rfl|h
 ·exact E1 _ _ _
 iterate 7
  rcases ag h with rfl|h
  exact cd0
 cases h
theorem Lx(m:bj)(a:Int):Cd (cU m a):=by unfold cU;exact Dn (Dn cd0 (iw 23 rfl)) (iw 9 rfl)
theorem qj(m:bj)(a:Int):Cd (am m a).2:=by unfold am;exact dr cd0 (Lx _ _)
theorem B5(m:bj)(a:Int):Cd (dU m a).2:=by unfold dU;exact dr cd0 (iw 9 rfl)
theorem sn(m:bj)(a:Int)(b:List UInt8):Cd (ce m a b).2:=by unfold ce;exact dr (dr cd0 cd0) (iw 9 rfl)
theorem mg(m:bj)(a n:Int):Cd (aF m a n).2:=by unfold aF;exact dr (sn _ _ _) (Lx _ _)
theorem K2(m:bj)(a n:Int):Cd (dN m a n).2:=by unfold dN;exact dr cd0 (iw 9 rfl)
theorem CN(v:VVm)(s b:Int):Cd (j0 v s b):=by unfold j0;exact Dn (Dn (iw 24 rfl) cd0) (qj _ _)
theorem MF{v:VVm}{name:Str}{x:List Int}{r:VVm×List Int×Int}(h:qs v name x=some r):Cd r.2.2:=by
 unfold qs at h
 rcases ag h with rfl|h
 ·exact qj _ _
 rcases ag h with rfl|h
 ·exact B5 _ _
 rcases ag h with rfl|h
 ·exact mg _ _ _
 rcases ag h with rfl|h
 ·exact sn _ _ _
 rcases ag h with rfl|h
 ·unfold du rO;exact dr (mg _ _ _) (qj _ _)
 rcases ag h with rfl|h
 ·unfold kM;exact cD (qj _ _) (qj _ _)
 rcases ag h with rfl|h
 ·unfold du oG;exact dr (mg _ _ _) (mg _ _ _)
 rcases ag h with rfl|h
 ·unfold du m5;exact dr (sn _ _ _) (iw 9 rfl)
 rcases ag h with rfl|h
 ·unfold du m4;exact dr (sn _ _ _) (K2 _ _ _)
 rcases ag h with rfl|h
 ·exact B5 _ _
 rcases ag h with rfl|h
 ·exact mg _ _ _
 rcases ag h with rfl|h
 ·exact mg _ _ _
 rcases ag h with rfl|h
 ·unfold gH;exact cD (mg _ _ _) (CN _ _ _)
 rcases ag h with rfl|h
 ·unfold iY;exact cD (mg _ _ _) (CN _ _ _)
 cases h
theorem JA(m:bj)(a:Int)(b:List UInt8):Cd (da m a b).2.2:=by unfold da;exact cD (iw 8 rfl) cd0
theorem Qf{v:VVm}{name:Str}{x:List Int}{r:VVm×List Int×Int}(h:uJ v name x=some r):Cd r.2.2:=by
 unfold uJ at h
 rcases ag h with rfl|h
 ·unfold eJ ui l7;exact dr (iw 8 rfl) cd0
 rcases ag h with rfl|h
 ·unfold eJ cv;exact cD (JA _ _ _) (iw 23 rfl)
 rcases ag h with rfl|h
 ·exact JA _ _ _
 rcases ag h with rfl|h
 ·exact JA _ _ _
 cases h
theorem O4{v:VVm}{name:Str}{x:List Int}{r:Str×Int}(h:FG v name x=some r):Cd r.2:=by
 unfold FG at h
 iterate 4
  rcases ag h with rfl|h
  exact cd0
 rcases ag h with rfl|h
 ·exact K2 _ _ _
 rcases ag h with rfl|h
 ·unfold rJ iU;exact dr cd0 (iw 24 rfl)
 rcases ag h with rfl|h
 ·unfold rJ gF;exact dr cd0 (iw 24 rfl)
 cases h
theorem T7(v:VVm){r:Str×Int}(h:Cd r.2):Cd (dy v r).2.2:=by
 unfold dy iI;exact cD (dr (iw 260 rfl) cd0) h
theorem Ei(p:dS)(c:Int):Cd (gC p c).2:=by unfold gC;exact dr cd0 (iw 17 rfl)
theorem zZ(p:dS)(a b c:Int):Cd (aI p a b c).2.2.2:=by unfold aI;exact Kq (iw 24 rfl) (Kq cd0 (Ei _ _))
theorem Lj:∀(n:Nat) (q:dS) (lo hi base:Int),Cd (rn n q lo hi base).2
 | 0,q,lo,hi,base=>zZ _ _ _ _
 | n+1,q,lo,hi,base=>by unfold rn;exact dr (zZ _ _ _ _) (dr cd0 (Lj n _ _ _ _))
theorem Vs{v:VVm}{name:Str}{x:List Int}{r:VVm×List Int×Int}(h:Ar v name x=some r):Cd r.2.2:=by
 unfold Ar at h
 rcases ag h with rfl|h
 ·exact cd0
 rcases ag h with rfl|h
 ·exact zZ _ _ _ _
 rcases ag h with rfl|h
 ·unfold fL ut OH rD;exact dr cd0 (Lj _ _ _ _ _)
 rcases ag h with rfl|h
 ·exact Ei _ _
 rcases ag h with rfl|h
 ·unfold fJ oM;exact dr cd0 (Ei _ _)
 rcases ag h with rfl|h
 ·unfold xv lq;exact cD (sn _ _ _) (dr cd0 (iw 17 rfl))
 cases h
theorem GT(k:Int)(v:VVm)(x:List Int):Cd (dw k v x).2.2:=by
 unfold dw;exact cD (iw 259 rfl) (cD (iw 24 rfl) (cD (iw 257 rfl) (cD (iw 258 rfl) cd0)))
theorem ab0{v:VVm}{name:Str}{x:List Int}{r:VVm×List Int×Int}(h:Am v name x=some r):Cd r.2.2:=by
 unfold Am at h
 rcases ag h with rfl|h
 ·unfold jO;exact cD (iw 259 rfl) (cD (iw 257 rfl) cd0)
 rcases ag h with rfl|h
 ·unfold jr;exact cD (iw 257 rfl) cd0
 rcases ag h with rfl|h
 ·exact GT _ _ _
 rcases ag h with rfl|h
 ·exact GT _ _ _
 cases h
theorem VS(v:VVm)(a:Int):Cd (av v a).2:=by unfold av;exact dr (dr cd0 (iw 9 rfl)) (qj _ _)
theorem WT(v:VVm)(name:Str)(x:List Int):Cd (GV v name x).2.2:=by
 unfold GV
 refine cD cd0 (cD cd0 (cD cd0 (cD cd0 (cD ?_ (iw 1 rfl)))))
 unfold vJ;exact cD (iw 31 rfl) (VS _ _)
theorem Xy(v:VVm)(n:Int)(name:Str)(x:List Int):Cd (bM v n name x).2.2:=by
 unfold bM
 refine cD (ag6 _ _ _) (cD cd0 ?_)
 rcases e0:qR name x with _|r
 rotate_left
 ·exact Oq e0
 rcases e1:qs v name x with _|r
 rotate_left
 ·exact MF e1
 rcases e2:uJ v name x with _|r
 rotate_left
 ·exact Qf e2
 rcases e3:FG v name x with _|r
 rotate_left
 ·exact T7 v (O4 e3)
 rcases e4:Ar v name x with _|r
 rotate_left
 ·exact Vs e4
 rcases e5:Am v name x with _|r
 rotate_left
 ·exact ab0 e5
 exact WT v name x
theorem al9(v:VVm)(n:Int):Cd (doS v n).2:=by
 unfold doS
 refine dr (iw 24 rfl) ?_
 dsimp only
 refine dr ?_ (dr (iw 4 rfl) (dr (Xy _ _ _ _) (dr (iw 3 rfl) cd0)))
 unfold dJ
 exact cD cd0 (cD (iw 4 rfl) (cD (iw 3 rfl) cd0))
open Go.RowKit
theorem ei{P:Program}{B:Nat->Nat->Prop}{n:Nat}{all:Array Oper}{l:List Oper}{T:Nat->PV}{H H':List Ob}{K:(Nat->PV)->List Ob->Prop}(i:Nat){ob ob':Ob}(hi:H[i]?=some ob)(e:ob=ob')(hH:nfH (H.set i ob')=some H')(h1:WO P B n all l T H' K):WO P B n all l T H K:=by
 rw[sJ hH]at h1
 subst e
 have:H.set i ob=H:=by
  apply List.ext_getElem?
  intro j
  rw[List.getElem?_set]
  split
  ·rename_i h;subst h;split
   ·exact hi.symm
   rename_i h2;rw[List.getElem?_eq_none (by omega)]
  rfl
 rwa [this]at h1
def X4:List Str:=[[73],[74],[85,78,76,79,79,80],[62,82],[82,62],[82,64],[50,62,82],[50,82,62]]
def av5:List Str:=[[46,34],[40],[92],[91]]
def Ya:List Str:=[[59],[68,79,69,83,62],[91,39,93],[91,67,72,65,82,93],[76,73,84,69,82,65,76],[80,79,83,84,80,79,78,69],[82,69,67,85,82,83,69],[73,70],[69,76,83,69],[84,72,69,78],[66,69,71,73,78],[87,72,73,76,69],[82,69,80,69,65,84],[85,78,84,73,76],[65,71,65,73,78],[68,79],[63,68,79],[76,79,79,80],[43,76,79,79,80],[76,69,65,86,69],[83,34],[69,88,73,84]]
def inS(l:List Str)(s:Str):Bool:=l.any (fun x=>decide (x=s))
theorem JC(l:List Str)(s:Str)(hl:l.length<=1000000):ab prog 88 [sq gy l,str s] (boo (inS l s)):=by
 refine zY func88 fun B=>?_
 refine zu1 ?_
 refine Ws<|zu1 ?_
 refine Wl ?_
 show W _ _ _ _ _ _ _
 refine fX (fun(k:Nat)=>[(0,sq gy l),(1,str s),(5,i64 k)]) (fun(k:Nat)=>[]) (fun(k:Nat)=>[]) (fun(k:Nat)=>k<=l.length/\(l.take k).all (fun x=>!decide (x=s))=true) (fun(k:Nat)=>l.length-k) (0) (by simp) [] ?_ ?_
 ·exact fc
 intro k hk
 refine Ws<|zu4 ?_
 refine Wi rfl (fun hi1=>?_) (fun hi1=>?_)
 ·have hlt:k<l.length:=by have:=oT hi1;omega
  refine Wj<|Ws<|Wl<|zp2 ?_
  refine Wv tG rfl rfl rfl (by omega) (iN gy 1 (fun _=>rfl) [] (by omega)) ?_
  refine zy3 ?_
  refine zq 17 ?_
  refine Wn<|Wi rfl (fun hi2=>?_) (fun hi2=>?_)
  ·have hy:inS l s=true:=by unfold inS;rw[List.any_eq_true];exact⟨_,Sf [] hlt,hi2⟩
   refine zu1 ?_
   refine zR ?_
   rw[hy];rfl
  refine Wj<|aa rfl ?_
  refine zs3 ?_
  exact⟨k+1,[],(by exact⟨by omega,Tm [] hlt hk.2 (by rw[hi2];rfl)⟩),(by omega),fc⟩
 have hge:l.length<=k:=by have:=oF hi1;omega
 have hn:inS l s=false:=by have h1:=hk.2;rw[pd _ k hge]at h1;unfold inS;rw[List.any_eq_false];intro x hx;have:=List.all_eq_true.1 h1 x hx;simpa using this
 refine bf ?_
 refine zu1 ?_
 refine zR ?_
 rw[hn];rfl
def u6(name:Str)(i:Nat):Int:=if i<12 then 6 else if inS X4 name then 4 else if inS av5 name then 1 else if inS Ya name then 5 else 0
theorem B1(name:Str)(i:Nat):ab prog 49 [str name,i64 i] (i64 (u6 name i)):=by
 refine zY func49 fun B=>?_
 refine zu1 ?_
 refine Ws<|zu2 ?_
 refine Wi rfl (fun hi1=>?_) (fun hi1=>?_)
 ·have h0:i<12:=by have:=oT hi1;omega
  refine zu1 ?_
  refine zR ?_
  rw[u6,if_pos h0];rfl
 have h0:¬i<12:=by have:=oF hi1;omega
 refine Wj<|zp1 ?_
 refine Wa 10 rfl (bsL gy [_,_,_,_,_,_,_,_] rfl rfl) ?_
 refine z1 ?_
 refine zc rfl func88 ((JC X4 name (by decide)) _) ?_
 refine zs1 ?_
 refine Ws<|zu1 ?_
 refine Wi rfl (fun hi2=>?_) (fun hi2=>?_)
 ·refine zu1 ?_
  refine zR ?_
  rw[u6,if_neg h0,if_pos hi2];rfl
 refine Wj<|zp1 ?_
 refine Wa 14 rfl (bsL gy [_,_,_,_] rfl rfl) ?_
 refine z1 ?_
 refine zc rfl func88 ((JC av5 name (by decide)) _) ?_
 refine zs1 ?_
 refine Ws<|zu1 ?_
 refine Wi rfl (fun hi3=>?_) (fun hi3=>?_)
 ·refine zu1 ?_
  refine zR ?_
  rw[u6,if_neg h0,if_neg (by rw[hi2];simp),if_pos hi3];rfl
 refine Wj<|zp1 ?_
 refine Wa 18 rfl (bsL gy [_,_,_,_,_,_,_,_,_,_,_,_,_,_,_,_,_,_,_,_,_,_] rfl rfl) ?_
 refine z1 ?_
 refine zc rfl func88 ((JC Ya name (by decide)) _) ?_
 refine zs1 ?_
 refine Ws<|zu1 ?_
 refine Wi rfl (fun hi4=>?_) (fun hi4=>?_)
 ·refine zu1 ?_
  refine zR ?_
  rw[u6,if_neg h0,if_neg (by rw[hi2];simp),if_neg (by rw[hi3];simp),if_pos hi4];rfl
 refine Wj<|zu1 ?_
 refine zR ?_
 rw[u6,if_neg h0,if_neg (by rw[hi2];simp),if_neg (by rw[hi3];simp),if_neg (by rw[hi4];simp)];rfl
theorem IC:ab prog 47 [] (sqc gy ao):=by
 refine bw tG (rs:=[.tmp 0]) func47 rfl rfl rfl (by simp;done) (by exact kU Da _) (fun B=>?_)
 refine zu1 ?_
 refine zp1 ?_
 refine Wa 1 rfl (bsL gy [_,_,_,_,_,_,_,_,_,_,_,_,_,_,_,_,_,_,_,_,_,_,_,_,_,_,_,_,_,_,_,_,_,_,_,_,_,_,_,_,_,_,_,_,_,_,_,_,_,_,_,_,_,_,_,_,_,_,_,_,_,_,_,_,_,_,_,_,_,_,_,_,_,_,_,_,_,_,_,_,_,_,_,_,_,_,_,_,_,_,_,_,_,_,_,_,_,_,_,_,_,_,_,_,_,_,_,_,_,_,_,_,_,_,_,_,_,_,_,_,_,_,_,_,_,_,_,_,_,_] rfl rfl) ?_
 refine zs1 ?_
 refine Wq ?_
 exact nY rfl rfl
def lY:List Str:=ao++cq
theorem Qm:lY.length=167:=by unfold lY;rw[List.length_append,lm,il]
def tM(i:Nat):Nat:=if 130<=i then 170+i else i
def yh(b:List UInt8)(a n:Nat):List UInt8:=(b.set a (UInt8.ofNat (n%256))).set (a+1) (UInt8.ofNat (n/256))
def GC(b:List UInt8)(i:Nat):List UInt8 :=
 let b1:=yh b (32+8*i) (tM i)
 let b2:=if lY.getD i []=[40,104,97,108,116,41]then yh b1 16 (32+8*i)else b1
 if lY.getD i []=[40,99,97,117,103,104,116,41]then yh b2 24 (32+8*i)else b2
def pz(M:Nat):Nat->List UInt8
 | 0=>(List.replicate M 0).set 0 10
 | k+1=>GC (pz M k) k
def kZ(i:Nat):aR:=⟨lY.getD i [],((32+8*i:Nat):Int),u6 (lY.getD i []) i⟩
def gq(k:Nat):List aR:=(List.range k).map kZ
@[simp] theorem qi (k : Nat) : (gq k).length = k := by simp [gq]
theorem OF(k:Nat):gq (k+1)=gq k++[kZ k]:=by unfold gq;rw[List.range_succ,List.map_append];rfl
theorem TQ(b:List UInt8)(a n:Nat):(yh b a n).length=b.length:=by simp[yh]
theorem ML(b:List UInt8)(i:Nat):(GC b i).length=b.length:=by
 unfold GC
 simp only
 split<;>split<;>simp[TQ]
theorem vz(M k:Nat):(pz M k).length=M:=by
 induction k with
 | zero=>simp[pz]
 | succ k ih=>rw[pz,ML,ih]
def Gs(c:nL):VVm:={conf:=c,mem:=⟨pz c.mem.toNat 167,[]⟩,here:=1368,d:=[],r:=[],f:=[],dict:=gq 167,last:=0,out:=[],pic:=⟨[],false⟩,req:=[],free:=0,next:=0,arg:=0,self:=0,now:=0,hand:=[]}
def vmZ:List PV:=[i64 0,i64 0,i64 0,i64 0,i64 0,.seq 0 [] .clip,.seq 0 [] .clip,i64 0,.seq 0 [] .clip,.seq 0 [] .clip,.seq 0 [] .clip,.seq 0 [] .clip,i64 0,.seq 0 [] .clip,.seq 0 [] .clip,boo false,.seq 0 [] .clip,i64 0,i64 0,i64 0,i64 0,i64 0,.seq 0 [] .clip]
@[simp] theorem ay5 {n : Nat} : qG n vmZ := ny (by simp [vmZ])
theorem Ye(n:Nat)(h:n<256):((UInt8.ofNat n).toNat:Int)=n:=by rw[UInt8.toNat_ofNat'];omega
theorem rW(n:Nat):PV.val (Value.int .u8 (IntKind.u8.wrap ((n:Int).tmod 256)))=.val (.int .u8 ((UInt8.ofNat (n%256)).toNat:Int)):=by
 rw[Ye _ (by omega),Int.tmod_eq_emod_of_nonneg (by omega)]
 simp only[PV.val.injEq,Value.int.injEq,true_and]
 rw[IntKind.wrap_u8];omega
theorem sN(n:Nat)(h:n<65536):PV.val (Value.int .u8 (IntKind.u8.wrap (IntKind.i64.wrap ((n:Int).tdiv 256))))=.val (.int .u8 ((UInt8.ofNat (n/256)).toNat:Int)):=by
 rw[Ye _ (by omega),Int.tdiv_eq_ediv_of_nonneg (by omega)]
 simp only[PV.val.injEq,Value.int.injEq,true_and]
 rw[bS,IntKind.wrap_u8];unfold wrap64;omega
theorem dL{b:List UInt8}{i:Int}{n:Nat}{x:UInt8}(hi:i=n)(hn:n<b.length):cy (b.flatMap aK) (0+i.toNat*1) [.val (.int .u8 (x.toNat:Int))]=(b.set n x).flatMap aK:=by
 subst hi
 rw[Int.toNat_natCast,Nat.mul_one,Nat.zero_add]
 exact xN hn x
theorem Xg{M:Nat}{d:TD}{e:TypeId}(hd:d.zero=aK 0):Ob.cells (fq M d) e=.cells ((List.replicate M (0:UInt8)).flatMap aK) e:=by
 unfold fq
 rw[hd,List.flatMap_replicate]
def sC:nL:=⟨2048,32,32,200,500⟩
def Z3(d:List Int):VVm:={Gs sC with d:=d}
structure bb (N:Nat) (v:VVm):Prop where
 right:yX v
 old:v.mem.old.length<=N
 fd:fY v.d
 fr:fY v.r
 ff:∀x∈v.f,ae x.ip
 ints:ae v.arg/\ae v.self/\ae v.now
 la:ae v.last
structure gA (N:Nat) (r:bH):Prop where
 m:bb N r.vm
 ip:ae r.ip
 w:ae r.w
theorem bb.v{N:Nat}{v:VVm}(g:bb N v):vD N v:=⟨(lK v).2 g.right,g.old,g.fd,g.ints⟩
theorem bb.up{N M:Nat}{v:VVm}(g:bb N v)(h:N<=M):bb M v:=⟨g.right,by have:=g.old;omega,g.fd,g.fr,g.ff,g.ints,g.la⟩
theorem gA.up{N M:Nat}{r:bH}(g:gA N r)(h:N<=M):gA M r:=⟨g.m.up h,g.ip,g.w⟩
theorem bb.x{N:Nat}{v:VVm}(g:bb N v):VX N v:=by
 have R:=g.right
 have hc:=R.gd
 unfold d9 at hc
 have h1:=R.len
 have h2:=R.d
 have h3:=R.r
 have h4:=R.fl
 exact⟨by omega,g.old,by omega,by omega,by omega,g.fd,g.fr,g.ff,by omega,by omega,g.la⟩
section
variable {N : Nat} {v : VVm}
theorem Sn(g:bb N v){d:List Int}(hd:(d.length:Int)<=v.conf.data)(hf:fY d):bb N {v with d:=d}:=by
 have R:=g.right
 exact⟨⟨R.gd,R.mem,R.dict,R.pic,R.len,R.jG,R.jK,R.f,R.hand,hd,R.r,R.fl,R.dl,R.out,R.req,R.free0,R.free1,R.next0,R.next1,R.handl⟩,g.old,hf,g.fr,g.ff,g.ints,g.la⟩
theorem Qt(g:bb N v){r:List Int}(hd:(r.length:Int)<=v.conf.ret)(hf:fY r):bb N {v with r:=r}:=by
 have R:=g.right
 exact⟨⟨R.gd,R.mem,R.dict,R.pic,R.len,R.jG,R.jK,R.f,R.hand,R.d,hd,R.fl,R.dl,R.out,R.req,R.free0,R.free1,R.next0,R.next1,R.handl⟩,g.old,g.fd,hf,g.ff,g.ints,g.la⟩
theorem QR(g:bb N v){f:List jc}(h1:f.all qp=true)(h2:f.length<=64)(h3:∀x∈f,ae x.ip):bb N {v with f:=f}:=by
 have R:=g.right
 exact⟨⟨R.gd,R.mem,R.dict,R.pic,R.len,R.jG,R.jK,h1,R.hand,R.d,R.r,h2,R.dl,R.out,R.req,R.free0,R.free1,R.next0,R.next1,R.handl⟩,g.old,g.fd,g.fr,h3,g.ints,g.la⟩
theorem PY(g:bb N v){m:bj}(k:dH v.mem m 1):bb (N+1) (sK v m):=by
 have R:=g.right
 refine⟨⟨R.gd,k.right R.mem,R.dict,R.pic,?_,R.jG,R.jK,R.f,R.hand,R.d,R.r,R.fl,R.dl,R.out,R.req,R.free0,R.free1,R.next0,R.next1,R.handl⟩,?_,g.fd,g.fr,g.ff,g.ints,g.la⟩
 ·show(m.b.length:Int)=v.conf.mem;rw[k.len];exact R.len
 show m.old.length<=N+1;have:=k.old;have:=g.old;omega
end
def KG(N:Nat)(k:PW):Prop:=match k.err with
 | .ok=>gA N k.r
 | .bad e=>ae e
 | .halt=>False
def KF2(N:Nat)(k:PW):Prop:=match k.err with
 | .bad e=>ae e
 | _=>gA N k.r
section
variable {N : Nat} {k : PW}
theorem KG.ok(g:KG N k)(h:k.err=.ok):gA N k.r:=by unfold KG at g;rw[h]at g;exact g
theorem XV(h:k.err=.ok)(g:gA N k.r):KG N k:=by unfold KG;rw[h];exact g
theorem Df{M:Nat}(g:KG N k)(h:N<=M):KG M k:=by
 unfold KG at g ⊢
 cases q:k.err with
 | ok=>rw[q]at g;exact g.up h
 | bad c=>rw[q]at g;exact g
 | halt=>rw[q]at g;exact g.elim
theorem xV(g:KG N k){v:VVm}{e:Int}{M:Nat}(hM:N<=M)(he:ae e)(hv:k.err=.ok->e=0->bb M v):KG M (pOk k v e):=by
 unfold pOk
 cases q:k.err with
 | ok =>
  dsimp only
  by_cases h:e=0
  ·rw[if_pos h];exact XV rfl ⟨hv q h,(g.ok q).ip,(g.ok q).w⟩
  rw[if_neg h];exact he
 | bad c=>exact Df g hM
 | halt=>exact Df g hM
theorem og(n:Nat)(h:n<=300):ae (-(n:Int)):=by unfold ae;omega
theorem jo(g:KG N k){n:Int}(hn:k.err=.ok->ae n):KG N (dm k n):=by
 refine xV g (Nat.le_refl _) ?_ (fun q h0=>?_)
 ·unfold gJ gD;split;exact og 3 (by omega);exact bG
 have m:=(g.ok q).m
 have h:=h0
 unfold gJ gD at h ⊢
 by_cases c:k.r.vm.conf.data<=(k.r.vm.d.length:Int)
 ·rw[if_pos c]at h;cases h
 rw[if_neg c];exact Sn m (by simp only[List.length_append,List.length_singleton];omega) (ja m.fd (dg (hn q)))
theorem pT(g:KG N k){n:Int}(hn:k.err=.ok->ae n):KG N (iZ k n):=by
 refine xV g (Nat.le_refl _) ?_ (fun q h0=>?_)
 ·unfold gm;split;exact og 5 (by omega);exact bG
 have m:=(g.ok q).m
 have h:=h0
 unfold gm at h ⊢
 by_cases c:k.r.vm.conf.ret<=(k.r.vm.r.length:Int)
 ·rw[if_pos c]at h;cases h
 rw[if_neg c];exact Qt m (by simp only[List.length_append,List.length_singleton];omega) (ja m.fr (dg (hn q)))
theorem jE(g:KG N k):KG N (aZ k).1/\ae (aZ k).2:=by
 refine⟨xV g (Nat.le_refl _) ?_ (fun q h0=>?_),?_⟩
 ·unfold dV bk;split;exact og 4 (by omega);exact bG
 ·have m:=(g.ok q).m
  unfold dV bk
  split
  ·exact m
  exact Sn m (by have:=m.right.d;simp only[List.length_take];omega) (nD _ m.fd)
 unfold aZ;dsimp only;split
 ·rename_i q
  exact(EB ((g.ok (gX (gV.1 q)).1).m.x)).2
 exact bG
theorem iQ(g:KG N k):KG N (gc k).1/\ae (gc k).2:=by
 refine⟨xV g (Nat.le_refl _) ?_ (fun q h0=>?_),?_⟩
 ·unfold eU;split;exact og 6 (by omega);exact bG
 ·have m:=(g.ok q).m
  unfold eU
  split
  ·exact m
  exact Qt m (by have:=m.right.r;simp only[List.length_take];omega) (nD _ m.fr)
 unfold gc;dsimp only;split
 ·rename_i q
  exact(DE ((g.ok (gX (gV.1 q)).1).m.x)).2
 exact bG
theorem ud(m:bj)(a:Int):ae (cU m a):=by
 unfold cU;split
 ·split;exact bG;exact og 23 (by omega)
 exact og 9 (by omega)
theorem iy(g:KG N k)(a:Int):KG N (bv k a).1/\ae (bv k a).2:=by
 refine⟨xV g (Nat.le_refl _) ?_ (fun q _=>(g.ok q).m),Gx _ _⟩
 unfold am;split;exact bG;exact ud _ _
theorem Hl(g:KG N k)(a n:Int):KG (N+1) (mB k a n):=by
 refine xV g (by omega) ?_ (fun q _=>PY (g.ok q).m (cM _ _ _))
 unfold aF ce;split
 ·split
  ·split<;>exact bG
  exact og 9 (by omega)
 exact ud _ _
theorem mW(g:KG N k){e:Int}(he:ae e):KG N (pOk k k.r.vm e):=xV g (Nat.le_refl _) he (fun q _=>(g.ok q).m)
theorem vF(g:KG N k){a:Int}(ha:k.err=.ok->ae a):KG N (wIp k a):=by
 unfold KG at g ⊢
 unfold wIp;dsimp only
 cases q:k.err with
 | ok=>rw[q]at g;exact⟨g.m,ha q,g.w⟩
 | bad c=>rw[q]at g;exact g
 | halt=>rw[q]at g;exact g.elim
theorem Ey(g:KG N k){a:Int}(ha:k.err=.ok->ae a):KG N (vw k a):=by
 unfold KG at g ⊢
 unfold vw;dsimp only
 cases q:k.err with
 | ok=>rw[q]at g;exact⟨g.m,g.ip,ha q⟩
 | bad c=>rw[q]at g;exact g
 | halt=>rw[q]at g;exact g.elim
theorem DJ(g:KG N k)(n:Nat):KG N (co k n).1/\(k.err=.ok->ae (co k n).2):=by
 unfold co;split
 ·exact⟨mW g (og 6 (by omega)),fun _=>bG⟩
 exact⟨g,fun q=>vp (g.ok q).m.fr _⟩
theorem Gt(g:KG N k):KF2 N k:=by
 unfold KG at g;unfold KF2
 cases q:k.err with
 | ok=>rw[q]at g;exact g
 | bad c=>rw[q]at g;exact g
 | halt=>rw[q]at g;exact g.elim
theorem su{c:Prop}[Decidable c]{a b:PW}(h1:KG N a)(h2:KG N b):KG N (if c then a else b):=by split<;>assumption
theorem dQ{c:Prop}[Decidable c]{a b:PW}(h1:KF2 N a)(h2:KF2 N b):KF2 N (if c then a else b):=by split<;>assumption
theorem yL(g:KG N k)(b:Bool):KG N (kJ k b):=by
 unfold kJ
 exact su (vF (iy g _).1 (fun _=>(iy g _).2)) (vF g (fun _=>cX _))
theorem LX(g:KG N k):KG N (sP k):=vF (iQ g).1 (fun _=>(iQ g).2)
theorem YX(g:KG N k):KG N (NS k):=vF (jo (iy g _).1 (fun _=>(iy g _).2)) (fun _=>cX _)
theorem Jn(g:KG N k):KG N (Ax k):=pT (pT (jE (jE g).1).1 (fun _=>(jE (jE g).1).2)) (fun _=>(jE g).2)
theorem XH(g:KG N k):KG N (sL k):=jo (jo (iQ (iQ g).1).1 (fun _=>(iQ (iQ g).1).2)) (fun _=>(iQ g).2)
theorem YC(g:KG N k):KG N (zO k):=by
 have a:=jE g
 have b:=jE a.1
 unfold zO
 exact su (yL b.1 _) (Jn (vF (jo (jo b.1 (fun _=>b.2)) (fun _=>a.2)) (fun _=>cX _)))
theorem KR(g:KG N k)(n:Int):KG N (pg k n):=by
 have a:=DJ g 1
 have b:=DJ a.1 0
 unfold pg
 exact su (yL (su (iQ (iQ b.1).1).1 (pT (iQ b.1).1 (fun _=>FA _ _ _))) _) b.1
theorem UE(g:KG N k):KG (N+2) (sP (mm k)):=by
 unfold mm
 exact LX (su (Df (mW g (og 31 (by omega))) (by omega)) (Hl (Hl g _ _) _ _))
theorem MB(g:KG N k):KG N (kI k):=by
 unfold kI
 split
 ·exact mW g (og 6 (by omega))
 rename_i h0
 refine jo ?_ (fun _=>bG)
 unfold KG at g ⊢
 dsimp only
 cases q:k.err with
 | ok =>
  rw[q]at g
  refine⟨QR g.m ?_ (by have:=g.m.right.fl;simp only[List.length_take];omega) (fun x hx=>g.m.ff x (List.mem_of_mem_take hx)),?_,g.w⟩
  ·exact List.all_eq_true.2 fun x hx=>List.all_eq_true.1 g.m.right.f x (List.mem_of_mem_take hx)
  exact g.m.ff _ (by rw[List.getD_eq_getElem?_getD,List.getElem?_eq_getElem (by omega)];exact List.getElem_mem _)
 | bad c=>rw[q]at g;exact g
 | halt=>rw[q]at g;exact g.elim
theorem ag4{a:Int}(h:ae a):ae (v7 [65,76,73,71,78,69,68] a).1:=by
 show ae (if a%8=0 then a else wrap64 (a-a%8+8))
 split
 ·exact h
 exact ii _
theorem ag3(g:KG N k):KG N (IK k):=by
 have f:=iy g k.r.ip
 unfold IK
 refine vF (jo (jo (mW f.1 ?_) (fun _=>cX _)) (fun _=>f.2)) (fun _=>ag4 (cX _))
 unfold dN;split;exact bG;exact og 9 (by omega)
theorem Qo(g:KG N k):KG N (ou k):=by
 have a:=jE g
 unfold ou wFr
 refine Ey ?_ (fun _=>a.2)
 split
 ·rename_i h0
  have b:=mW a.1 (e:=-5) (og 5 (by omega))
  have hb:(pOk (aZ k).1 (aZ k).1.r.vm (-5)).err≠.ok:=fun q=>by have:=(gX q).2;omega
  unfold KG at b ⊢
  dsimp only
  cases q:(pOk (aZ k).1 (aZ k).1.r.vm (-5)).err with
  | ok=>exact absurd q hb
  | bad c=>rw[q]at b;exact b
  | halt=>rw[q]at b;exact b.elim
 rename_i h0
 have b:=a.1
 unfold KG at b ⊢
 dsimp only
 cases q:(aZ k).1.err with
 | ok =>
  rw[q]at b
  have R:=b.m.right
  have hc:=R.gd
  unfold d9 at hc
  have h1:=R.d
  have h2:=R.r
  refine⟨QR b.m ?_ (by simp only[List.length_append,List.length_singleton];omega) (fun x hx=>?_),(by unfold ae;dsimp only;omega),b.w⟩
  ·rw[List.all_append,R.f]
   simp only[List.all_cons,List.all_nil,Bool.and_true,Bool.true_and]
   unfold qp
   simp only[decide_eq_true_eq,Bool.and_eq_true]
   omega
  rcases List.mem_append.1 hx with hx|hx
  ·exact b.m.ff x hx
  simp only[List.mem_singleton]at hx;subst hx;exact b.ip
 | bad c=>rw[q]at b;exact b
 | halt=>rw[q]at b;exact b.elim
theorem IE(g:KG N k)(b:Int):KG N (fa k b):=by
 have x:=iy g b
 have y:=iy x.1 (W64 (b+8))
 unfold fa
 dsimp only
 have z:=fun(c:Bool)=>iy (su (c:=c=true) (mW y.1 (e:=-24) (og 24 (by omega))) y.1) (W64 (W64 (b+16)+W64 (8*(bv k b).2)))
 exact su (z _).1 (Ey (z _).1 (fun _=>(z _).2))
theorem TY(g:KG N k):KG N (pOk (aZ k).1 (aZ k).1.r.vm (aZ k).2):=mW (jE g).1 (jE g).2
theorem IP(g:KG N k)(h0:k.err=.ok)(name:Str):KF2 (N+2) (mf k name):=by
 have u:=fun {a:PW} (q:KG N a)=>Gt (Df q (by omega:N<=N+2))
 unfold mf GA
 refine dQ (Gt (UE g)) (dQ (u (LX g)) (dQ (u (YX g)) (dQ (u (yL g _)) (dQ (u (yL (jE g).1 _)) (dQ (u (YC g)) (dQ (u (Jn g)) (dQ (u (KR g 1)) (dQ (u (KR (jE g).1 _)) (dQ ?_ ?_)))))))))
 ·have b:=(g.ok h0).up (by omega:N<=N+2);exact⟨b.m,b.ip,b.w⟩
 refine dQ (u (MB g)) (dQ (u (ag3 g)) (dQ (u (Ey (jE g).1 (fun _=>(jE g).2))) (dQ (u (Qo g)) (dQ (u (TY g)) ?_))))
 have d:=fun n=>DJ g n
 have dp:=fun n=>u (jo (d n).1 (fun q=>(d n).2 (yy q)))
 exact dQ (dp 0) (dQ (dp 2) (dQ (u (iQ (iQ (d 1).1).1).1) (dQ (u (pT (jE g).1 (fun _=>(jE g).2))) (dQ (u (jo (iQ g).1 (fun _=>(iQ g).2))) (dQ (dp 0) (dQ (u (Jn g)) (dQ (u (XH g)) (u g))))))))
end
theorem N4{v:VVm}{n:Int}{N:Nat}(g:bb N v):bb (N+2) (doS v n).1:=by
 have q:=PI (n:=n) g.v
 have s:=HO (n:=n) g.v
 unfold CU at s
 have e1:(doS v n).1.r=v.r:=by have q:=congrArg VVm.r s;exact q
 have e2:(doS v n).1.f=v.f:=by have q:=congrArg VVm.f s;exact q
 have e3:(doS v n).1.last=v.last:=by have q:=congrArg VVm.last s;exact q
 exact⟨(lK _).1 q.right,q.old,q.d,by rw[e1];exact g.fr,by rw[e2];exact g.ff,q.ints,by rw[e3];exact g.la⟩
theorem Wx{k:PW}{N:Nat}(g:KG N k)(h0:k.err=.ok){xt:Int}(hx:ae xt):KF2 (N+2) (j3 k xt):=by
 have u:=fun {a:PW} (q:KG N a)=>Gt (Df q (by omega:N<=N+2))
 have fk:ae (av k.r.vm xt).2:=by
  unfold av;split
  ·split;exact bG;exact og 9 (by omega)
  unfold am;split;exact bG;exact ud _ _
 have g1:=mW g fk
 unfold j3
 dsimp only
 by_cases c:ib (pOk k k.r.vm (av k.r.vm xt).2).err=true
 ·rw[if_pos c]
  have o1:=gV.1 c
  have gr:=g1.ok o1
  refine dQ (u (mW g1 (og 14 (by omega)))) (dQ (u (vF (pT g1 (fun q=>gr.ip)) (fun _=>cX _))) (dQ (u (jo g1 (fun _=>cX _))) (dQ (u (jo (iy g1 _).1 (fun _=>(iy g1 _).2))) (dQ ?_ (dQ (u (IE g1 _)) (dQ ?_ (IP g1 o1 _)))))))
  ·have f:=iy g1 (W64 (xt+8))
   have p:=jo f.1 (n:=W64 (xt+16)) (fun _=>cX _)
   exact u (vF (pT p (fun q=>(p.ok q).ip)) (fun _=>f.2))
  exact Gt (xV g1 (by omega) (ad7 (al9 _ _)) (fun q _=>N4 gr.m))
 rw[if_neg c];exact u g1
theorem Uk{r:bH}{N:Nat}(g:gA N r):KG N (bZ r).1/\ae (bZ r).2:=by
 have b:KG N (gg r):=XV rfl ⟨g.m,g.ip,bG⟩
 have f:=iy b r.ip
 unfold bZ
 split
 ·exact⟨b,g.w⟩
 exact⟨su (vF f.1 (fun _=>cX _)) f.1,f.2⟩
theorem lG(s:List Int)(n:Nat):(ky s n).length=n:=by unfold ky;simp only[List.length_append,List.length_take,List.length_replicate];omega
theorem C6{s:List Int}(h:fY s)(n:Nat):fY (ky s n):=ja (nD _ h) (fun x hx=>by rw[List.eq_of_mem_replicate hx];exact bG)
theorem xw{r:bH}{N:Nat}(g:gA N r){e:Int}(he:ae e):gA N (cp r e).1:=by
 unfold cp
 split
 ·exact g
 rename_i h0
 dsimp only
 have R:=g.m.right
 have hc:=R.gd
 unfold d9 at hc
 have hm:r.vm.f.getD (r.vm.f.length-1) default∈r.vm.f:=by rw[List.getD_eq_getElem?_getD,List.getElem?_eq_getElem (by omega)];exact List.getElem_mem _
 have hf:=List.all_eq_true.1 R.f _ hm
 unfold qp at hf
 simp only[decide_eq_true_eq,Bool.and_eq_true]at hf
 generalize r.vm.f.getD (r.vm.f.length-1) default=F at *
 have a1:=QR g.m (f:=r.vm.f.take (r.vm.f.length-1)) (List.all_eq_true.2 fun x hx=>List.all_eq_true.1 R.f x (List.mem_of_mem_take hx)) (by have:=R.fl;simp only[List.length_take];omega) (fun x hx=>g.m.ff x (List.mem_of_mem_take hx))
 have a2:=Sn a1 (d:=ky r.vm.d (min F.d (r.vm.conf.data-1)).toNat++[e]) (by show _<=r.vm.conf.data;simp only[List.length_append,List.length_singleton,lG];omega) (ja (C6 g.m.fd _) (dg he))
 have a3:=Qt a2 (r:=ky r.vm.r (min F.r r.vm.conf.ret).toNat) (by show _<=r.vm.conf.ret;rw[lG];omega) (C6 g.m.fr _)
 exact⟨a3,g.m.ff F hm,g.w⟩
theorem M7{r:bH}{N:Nat}(g:gA N r):gA (N+2) (sH r).1:=by
 unfold sH
 split
 ·exact g.up (by omega)
 have t:=Uk g
 have tr:=(vE r).2
 have tg:KF2 (N+2) (im r):=by
  unfold im
  by_cases c:ib (bZ r).1.err=true
  ·rw[if_pos c];exact Wx t.1 (gV.1 c) t.2
  rw[if_neg c];exact Gt (Df t.1 (by omega))
 have wg:gA N (bZ r).1.r:=by
  rw[tr]
  refine⟨g.m,?_,bG⟩
  have e:(xQ r).1.ip=(bZ r).1.r.ip:=by rw[tr]
  rw[e]
  unfold bZ
  split
  ·exact g.ip
  dsimp only
  split
  ·exact cX _
  rw[yJ];exact g.ip
 unfold KF2 at tg
 cases q:(im r).err with
 | ok=>rw[q]at tg;exact tg
 | halt=>rw[q]at tg;exact tg
 | bad c=>rw[q]at tg;exact(xw wg tg).up (by omega)
open Go.RowKit
def Ju:yl->Bool
 | .halt=>true
 | _=>false
theorem Is{c:Cx}{t:TypeId}{x z:Value}{y:PV}{v:Value}(h:Rep c (.ifc t (.agg [.val x,y])) v)(hy:∀u,Rep c y u->u=z):v=.iface t (.agg #[x,z]):=by
 unfold Rep at h
 obtain⟨u,rfl,h⟩:=h
 unfold Rep at h
 obtain⟨vs,rfl,h⟩:=h
 match vs,h with
 | [],h=>have:=au.length h;simp at this
 | [_],h=>have:=au.length h;simp at this
 | [p,q],h =>
  have h1:=(aj.1 h).1
  have h2:=hy _ (aj.1 (aj.1 h).2).1
  unfold Rep at h1
  rw[h1,h2]
 | _::_::_::_,h=>have:=au.length h;simp at this
theorem yE{c:Cx}{t:TypeId}{x v:Value}(h:Rep c (.ifc t (.agg [.val x])) v):v=.iface t (.agg #[x]):=by
 unfold Rep at h
 obtain⟨u,rfl,h⟩:=h
 unfold Rep at h
 obtain⟨vs,rfl,h⟩:=h
 match vs,h with
 | [],h=>have:=au.length h;simp at this
 | [p],h =>
  have h1:=(aj.1 h).1
  unfold Rep at h1
  rw[h1]
 | _::_::_,h=>have:=au.length h;simp at this
theorem vn{c:Cx}{x y:PV}{vs:List Value}{a b:Value}(h:au c [x,y] vs)(hx:∀u,Rep c x u->u=a)(hy:∀u,Rep c y u->u=b):vs=[a,b]:=by
 match vs,h with
 | [],h=>have:=au.length h;simp at this
 | [_],h=>have:=au.length h;simp at this
 | [p,q],h=>rw[hx _ (aj.1 h).1,hy _ (aj.1 (aj.1 h).2).1]
 | _::_::_::_,h=>have:=au.length h;simp at this
theorem A0{c:Cx}{x v:Value}(h:Rep c (.val x) v):v=x:=by unfold Rep at h;exact h
theorem aB0(a:Addr)(xt:Int)(e:yl)(he:ib e=false):ab prog 118 [.ifc 199 (.agg [i64 xt,BE a e]),.val (haltV a)] (boo (Ju e)):=by
 cases e with
 | ok=>cases he
 | bad k=>exact si (l:=[atV xt (Vt k),haltV a]) (v:=.bool false) (fun c vs h=>vn h (fun u hu=>Is hu (fun _ hq=>yE hq)) (fun u hu=>A0 hu)) (fun c=>ar _ _) (Y7 a xt k)
 | halt=>exact si (l:=[atV xt (haltV a),haltV a]) (v:=.bool true) (fun c vs h=>vn h (fun u hu=>Is hu (fun _ hq=>A0 hq)) (fun u hu=>A0 hu)) (fun c=>ar _ _) (af2 a xt)
theorem ay1(xt k:Int){x0:PV}(H:List Ob)(i j:Nat)(hi:H[i]?=some (.cells [x0] 201))(hj:H[j]?=some (.glob 0 etV)):
  HC prog 83 [.ifc 199 (.agg [i64 xt,.ifc 201 (.agg [i64 k])]),.ifc 203 (.ptr i 0)] H (boo true) (H.set i (.cells [i64 k] 201)):=by
 intro B σ w vs s hv
 obtain⟨b,vs0,fr,hb,hw,hfr,p,q,rfl,hp⟩:=s.holds i _ hi
 simp only[cx]at hb hw
 match p,hp with
 | [],hp=>have:=au.length hp;simp at this
 | _::_::_,hp=>have:=au.length hp;simp at this
 | [old],hp =>
 have hvs:vs=[atV xt (Vt k),.iface 203 (.pointer (some ⟨b,0,none⟩))]:=vn hv (fun u hu=>Is hu (fun _ hq=>yE hq)) (fun u hu=>by
  unfold Rep at hu
  obtain⟨z,rfl,hz⟩:=hu
  unfold Rep at hz
  obtain⟨_,b2,h2,rfl⟩:=hz
  simp only[cx]at h2
  rw[hb]at h2;cases h2;rfl)
 subst hvs
 obtain⟨hg,_⟩:=s.holds j _ hj
 have ht0:w.cell? ⟨b,0,none⟩=some old:=by rw[eH hw];rfl
 have hf0:w.frozen? ⟨b,0,none⟩=false:=by
  rcases hfr with rfl|hz
  ·simp[World.frozen?,hw]
  obtain⟨lo,hi'⟩:=fr
  simp only[World.frozen?,hw,Bool.and_eq_false_iff,decide_eq_false_iff_not]
  simp only[List.length_append,List.length_cons]at hz
  exact .inl (by omega)
 refine Calls.mono (aa5 xt k ⟨b,0,none⟩ old w hg ht0 hf0) ?_
 rintro e w' ⟨rfl,w1,g,rfl⟩
 obtain⟨s1,st1⟩:=fH s g
 have hw1:w1.heap[b]?=some (Obj.cells (old::q).toArray 201 fr):=(g.block b (Array.getElem?_eq_some_iff.1 hw).1).trans hw
 obtain⟨s2,st2⟩:=lr s1 (ys:=[i64 k]) (us:=.int .i64 k::q) hi hb hw1 hfr rfl ⟨[.int .i64 k],q,rfl,aj.2 ⟨ar _ _,aG.2 rfl⟩⟩
 have e1:w1.setCell ⟨b,0,none⟩ (.int .i64 k)=w1.setRow b (Value.int .i64 k::q).toArray:=by
  rw[setCell_eq_setRow w1 b 0 _ _ _ _ hw1];simp
 rw[e1]
 exact⟨.bool true,σ,rfl,ar _ _,s2,st1.trans st2⟩
theorem JD(n:Nat){d:TD}(hz:d.zero=[i64 0]):fq n d=(List.replicate n (0:Int)).flatMap ap:=by
 unfold fq
 rw[hz]
 induction n with
 | zero=>rfl
 | succ n ih=>rw[List.replicate_succ,List.replicate_succ,List.flatten_cons,List.flatMap_cons,ih];rfl
theorem oz(l:List Int):l.flatMap ap=l.map i64:=by
 induction l with
 | nil=>rfl
 | cons x l ih=>rw[List.flatMap_cons,ih];rfl
theorem yc(s:List Int)(n:Nat){d:TD}(hs:d.size=1)(hz:d.zero=[i64 0]):cy (fq n d) 0 ((s.flatMap ap).take (min s.length n*d.size))=(ky s n).flatMap ap:=by
 rw[JD n hz,oz,oz,oz,hs,Nat.mul_one]
 unfold cy ky
 rw[List.take_zero,List.nil_append,Nat.zero_add,<-List.map_take,List.length_map,List.length_take,<-List.map_drop,List.map_append,List.drop_replicate]
 congr 2
 ·rcases Nat.le_total s.length n with h|h
  ·rw[Nat.min_eq_left h,List.take_of_length_le (Nat.le_refl _),List.take_of_length_le h]
  rw[Nat.min_eq_right h]
 congr 1;omega
theorem Mh(s:List Int)(n:Nat):PV.seq n (((ky s n).flatMap ap).take n) .clip=sqc ap (ky s n):=by
 have h:=lG s n
 rw[oz,<-List.map_take,List.take_of_length_le (by omega),<-oz]
 unfold sqc;rw[h]
theorem rQ(s:List Int)(n:Nat)(hs:s.length<=1000000)(hn:n<=1000000):ab prog 169 [sq ap s,i64 (n:Int)] (sqc ap (ky s n)):=by
 refine zY func169 fun B=>?_
 refine zu1 ?_
 refine zp1 ?_
 refine z2 ?_ (q:=(by(simp_all;omega)))
 refine zs1 ?_
 refine zp2 ?_
 refine Wd rfl rfl (nt (lO tG rfl) rfl (lO tG rfl) rfl rfl rfl rfl (al _ 1 (fun _=>rfl) _) (bD _ (fun _=>rfl) _) (by rw[mj _ _ rfl];simp)) ?_
 refine jx (H':=[.cells ((ky s n).flatMap ap) 3]) (by refine congrArg (fun z=>[Ob.cells z 3]) (yc s n ?_ ?_).symm<;>rfl) ?_
 refine Wn<|zp1 ?_
 refine Ap 11 0 n n rfl rfl (by rw[oz,List.length_map,lG];exact Nat.le_refl _) ?_
 refine Wa 11 rfl (Mh s n) ?_
 refine zs1 ?_
 refine Wq ?_
 exact nY rfl rfl
def yG(r:bH)(b:Bool):PV:=ic (w9 r) (boo b)
@[simp] theorem Uv (r : bH) (b : Bool) : aS (yG r b) := by simp [yG]
theorem ER(r:bH)(e:Int)(N:Nat)(g:bb N r.vm):ab prog 119 [w9 r,i64 e] (yG (cp r e).1 (decide (r.vm.f.length≠0))):=by
 have R:=g.right
 have hc:=R.gd
 unfold d9 at hc
 have hfl:=R.fl
 have hd:=R.d
 have hr:=R.r
 by_cases h0:r.vm.f.length=0
 ·have e1:(cp r e).1=r:=by unfold cp;rw[if_pos h0]
  rw[e1]
  refine zY func119 fun B=>?_
  refine zu3 ?_
  refine zu5 ?_
  refine Ws<|zu2 ?_
  refine Wt rfl (by(try simp only[dnL]at *);omega) ?_
  refine zu3 ?_
  refine zR ?_
  exact congrArg (yG r) (decide_eq_false (fun q=>q h0)).symm
 have hm:r.vm.f.getD (r.vm.f.length-1) default∈r.vm.f:=by rw[List.getD_eq_getElem?_getD,List.getElem?_eq_getElem (by omega)];exact List.getElem_mem _
 have hf:=List.all_eq_true.1 R.f _ hm
 unfold qp at hf
 simp only[decide_eq_true_eq,Bool.and_eq_true]at hf
 have e1:cp r e=({r with vm:={r.vm with f:=r.vm.f.take (r.vm.f.length-1),d:=ky r.vm.d (min (r.vm.f.getD (r.vm.f.length-1) default).d (r.vm.conf.data-1)).toNat++[e],r:=ky r.vm.r (min (r.vm.f.getD (r.vm.f.length-1) default).r r.vm.conf.ret).toNat},ip:=(r.vm.f.getD (r.vm.f.length-1) default).ip},0):=by
  unfold cp;rw[if_neg h0]
 rw[e1]
 have w0:IntKind.i64.wrap ((r.vm.f.length:Int)-1)=((r.vm.f.length-1:Nat):Int):=by((rw[bS];unfold wrap64;(try simp only[dnL]at *);omega))
 have w1:IntKind.i64.wrap (r.vm.conf.data-1)=r.vm.conf.data-1:=by((rw[bS];unfold wrap64;(try simp only[dnL]at *);omega))
 have w2:(if r.vm.conf.data-1<(r.vm.f.getD (r.vm.f.length-1) default).d then r.vm.conf.data-1 else(r.vm.f.getD (r.vm.f.length-1) default).d)=((min (r.vm.f.getD (r.vm.f.length-1) default).d (r.vm.conf.data-1)).toNat:Int):=by split<;>omega
 have w3:(if r.vm.conf.ret<(r.vm.f.getD (r.vm.f.length-1) default).r then r.vm.conf.ret else(r.vm.f.getD (r.vm.f.length-1) default).r)=((min (r.vm.f.getD (r.vm.f.length-1) default).r r.vm.conf.ret).toNat:Int):=by split<;>omega
 have hdl:=lG r.vm.d (min (r.vm.f.getD (r.vm.f.length-1) default).d (r.vm.conf.data-1)).toNat
 refine zY func119 fun B=>?_
 refine zu3 ?_
 refine zu5 ?_
 refine Ws<|zu2 ?_
 refine Wf rfl (by(try simp only[dnL]at *);omega) ?_
 refine Wj<|zp5 ?_
 refine Wa 19 rfl (congrArg (fun z=>PV.val (Value.int .i64 z)) w0) ?_
 refine Wv tG rfl rfl rfl (by omega) (iN je 3 (fun _=>rfl) default (by omega)) ?_
 refine zs3 ?_
 refine zp5 ?_
 refine Wa 26 rfl (congrArg (fun z=>PV.val (Value.int .i64 z)) w0) ?_
 refine z2 ?_ (q:=(by(simp_all;done)))
 refine Wa 27 rfl (cK je 3 (fun _=>rfl) (by omega)) ?_
 refine zs3 ?_
 refine zp5 ?_
 refine zy5 ?_
 refine Wa 39 rfl (congrArg (fun z=>PV.val (Value.int .i64 z)) w1) ?_
 refine z1 ?_
 refine Wa 40 rfl (congrArg (fun z=>PV.val (Value.int .i64 z)) w2) ?_
 refine zc rfl func169 ((rQ r.vm.d (min (r.vm.f.getD (r.vm.f.length-1) default).d (r.vm.conf.data-1)).toNat (by omega) (by omega)) _) ?_
 refine zy2 ?_
 refine Wa 43 rfl (bsL ap [_] rfl rfl) ?_
 refine Wd rfl rfl (cb (lO tG rfl) rfl (lO tG rfl) (lO tG rfl) rfl rfl (by exact⟨_,rfl⟩) (by exact⟨rfl,rfl,al _ 1 (fun _=>rfl) _,bD _ (fun _=>rfl) _⟩) (by exact al _ 1 (fun _=>rfl) _) (by((simp_all;omega))) (by((simp_all;omega)))) ?_
 refine Wa 44 rfl (cw ap) ?_
 refine zs3 ?_
 refine zp5 ?_
 refine zy5 ?_
 refine Wa 56 rfl (congrArg (fun z=>PV.val (Value.int .i64 z)) w3) ?_
 refine zc rfl func169 ((rQ r.vm.r (min (r.vm.f.getD (r.vm.f.length-1) default).r r.vm.conf.ret).toNat (by omega) (by omega)) _) ?_
 refine zs3 ?_
 refine zu4 ?_
 refine zu3 ?_
 refine zR ?_
 rw[decide_eq_true h0];rfl
def Lt(r:bH×Bool×Int):PV:=jW (w9 r.1) (boo r.2.1) (i64 r.2.2)
@[simp] theorem ZN (r : bH × Bool × Int) : aS (Lt r) := by simp [Lt]
theorem So{r:bH}(h:r.dof=true):bZ r=(gg r,r.w):=by unfold bZ;rw[if_pos h]
theorem WF{r:bH}(h:¬r.dof=true)(k:ib (bv (gg r) r.ip).1.err=true):bZ r=(wIp (bv (gg r) r.ip).1 (W64 ((bv (gg r) r.ip).1.r.ip+8)),(bv (gg r) r.ip).2):=by unfold bZ;rw[if_neg h,if_pos k]
theorem U6{r:bH}(h:¬r.dof=true)(k:¬ib (bv (gg r) r.ip).1.err=true):bZ r=((bv (gg r) r.ip).1,(bv (gg r) r.ip).2):=by unfold bZ;rw[if_neg h,if_neg k]
theorem Ts{r:bH}(k:ib (bZ r).1.err=true):im r=j3 (bZ r).1 (bZ r).2:=by unfold im;rw[if_pos k]
theorem Xl{r:bH}(k:¬ib (bZ r).1.err=true):im r=(bZ r).1:=by unfold im;rw[if_neg k]
theorem UL{r:bH}{N:Nat}(g:gA N r):KX N (bZ r).1/\ae (bZ r).2:=by
 have b:KX N (gg r):=⟨g.m.x,g.ip,bG⟩
 have f:=gP b r.ip
 unfold bZ
 split
 ·exact⟨b,g.w⟩
 refine⟨?_,f.2⟩
 dsimp only
 split
 ·exact Yo f.1 (cX _)
 exact f.1
theorem Vp{e:yl}(h:Ju e=true):e=.halt:=by cases e<;>first|rfl|cases h
theorem Z4{e:yl}(h:ib e=false)(k:Ju e=false):∃c,e=.bad c:=by
 cases e with
 | ok=>cases h
 | bad c=>exact⟨c,rfl⟩
 | halt=>cases k
theorem Sy{r:bH}{c:Int}(h:r.vm.f.length≠0):(cp r c).2=0:=by unfold cp;rw[if_neg h]
theorem Rg{r:bH}{c:Int}(h:r.vm.f.length=0):cp r c=(r,c):=by unfold cp;rw[if_pos h]
def Hn:List PV:=[PV.val (Value.int IntKind.i64 0),PV.val (Value.int IntKind.i64 0),PV.val (Value.int IntKind.i64 0),PV.val (Value.int IntKind.i64 0),PV.val (Value.int IntKind.i64 0),PV.seq 0 [] SK.clip,PV.seq 0 [] SK.clip,PV.val (Value.int IntKind.i64 0),PV.seq 0 [] SK.clip,PV.seq 0 [] SK.clip,PV.seq 0 [] SK.clip,PV.seq 0 [] SK.clip,PV.val (Value.int IntKind.i64 0),PV.seq 0 [] SK.clip,PV.seq 0 [] SK.clip,PV.val (Value.bool false),PV.seq 0 [] SK.clip,PV.val (Value.int IntKind.i64 0),PV.val (Value.int IntKind.i64 0),PV.val (Value.int IntKind.i64 0),PV.val (Value.int IntKind.i64 0),PV.val (Value.int IntKind.i64 0),PV.seq 0 [] SK.clip,PV.val (Value.int IntKind.i64 0),PV.val (Value.int IntKind.i64 0),PV.val (Value.bool false),PV.val (Value.int IntKind.i64 0)]
@[simp] theorem aj6 : ay Hn := by simp [Hn, ay, aS]
theorem I4(a:Addr)(r:bH)(N:Nat)(g:gA N r)(hN:N<=800000)(hfu:ae r.fuel):∀(H:List Ob),(∀o∈gK a,∃k:Nat,H[k]?=some o)->HC prog 87 [w9 r] H (Lt (sH r)) H:=by
 have kb:KX N (gg r):=⟨g.m.x,g.ip,bG⟩
 have kt:=UL g
 have hvt:(bZ r).1.r.vm=r.vm:=by rw[(vE r).2]
 have hvo:dA (bZ r).1.r.vm:=by rw[hvt];exact Vi g.m.v (by omega)
 have gw:bb N (bZ r).1.r.vm:=by rw[hvt];exact g.m
 refine g7 (fM a) tG (rs:=[.cell 2 145,.tmp 3,.tmp 4]) func87 rfl rfl rfl (by simp) (by simp) (fun B=>?_)
 refine zu4 ?_
 refine Ws<|zu3 ?_
 refine Wi rfl (fun hi1=>?_) (fun hi1=>?_)
 ·have q1:r.fuel<1:=oT hi1
  refine zu4 ?_
  refine zR ?_
  unfold sH;rw[if_pos q1];rfl
 have q1:¬r.fuel<1:=oF hi1
 refine Wj<|zu4 ?_
 refine zp5 ?_
 refine zs2 ?_
 refine zu3 ?_
 refine zp5 ?_
 refine dt (zs:=cPW a (gg r)) (lO tG rfl) rfl rfl rfl rfl rfl rfl rfl rfl rfl rfl rfl ?_
 refine Wn<|QC [(1,.ptr 2 0),(2,.ptr 3 0),(5,.ptr 4 0),(6,i64 (bZ r).2)] [.glob 1 (haltV a),.glob 0 etV,.cells (sZ r) 145,.cells Hn 145,.cells (cPW a (bZ r).1) 197] [] ?_ ?_
 ·refine zu3 ?_
  refine Wi rfl (fun hi2=>?_) (fun hi2=>?_)
  ·have q2:¬r.dof=true:=by simpa using hi2
   refine zp3 ?_
   refine zc rfl func116 ((jQ a (gg r) kb r.ip g.ip) _ _ rfl) ?_
   refine zs1 ?_
   refine zp1 ?_
   refine Wd rfl rfl (bB (lO tG rfl) rfl rfl rfl rfl) ?_
   refine Wd rfl rfl (aV rfl (by kernel_rfl) rfl (by exact tj _ _)) ?_
   refine Wn<|Wi rfl (fun hi3=>?_) (fun hi3=>?_)
   ·have q3:ib (bv (gg r) r.ip).1.err=true:=hi3
    have hT:=WF q2 q3
    refine aa rfl ?_
    refine zy5 ?_
    refine z1 ?_
    refine dt (zs:=cPW a (bZ r).1) (lO tG rfl) rfl rfl rfl rfl rfl rfl rfl (by rw[hT];rfl) rfl rfl rfl ?_
    refine Wn ?_
    exact⟨[],(fc (sub:=by repeat (first|exact fN|refine ew (by first|exact cP rfl|exact cP (congrArg i64 (by rw[hT]))) ?_)))⟩
   have q3:¬ib (bv (gg r) r.ip).1.err=true:=by simpa using hi3
   have hT:=U6 q2 q3
   refine ac1 (H':=[.glob 1 (haltV a),.glob 0 etV,.cells (sZ r) 145,.cells Hn 145,.cells (cPW a (bZ r).1) 197]) (by rw[hT];rfl) ?_
   refine Wj ?_
   exact⟨[],(fc (sub:=by repeat (first|exact fN|refine ew (by first|exact cP rfl|exact cP (congrArg i64 (by rw[hT]))) ?_)))⟩
  have q2:r.dof=true:=by simpa using hi2
  have hT:=So q2
  refine ac1 (H':=[.glob 1 (haltV a),.glob 0 etV,.cells (sZ r) 145,.cells Hn 145,.cells (cPW a (bZ r).1) 197]) (by rw[hT];rfl) ?_
  refine Wj ?_
  exact⟨[],(fc (sub:=by repeat (first|exact fN|refine ew (by first|exact cP rfl|exact cP (congrArg i64 (by rw[hT]))) ?_)))⟩
 refine zu4 ?_
 refine QC [(1,.ptr 2 0),(2,.ptr 3 0),(5,.ptr 4 0),(6,i64 (bZ r).2),(7,.ptr 5 0)] [.glob 1 (haltV a),.glob 0 etV,.cells (sZ r) 145,.cells Hn 145,.cells (cPW a (im r)) 197,.cells (sZ (bZ r).1.r) 145] [] ?_ ?_
 ·refine zp1 ?_
  refine Wd rfl rfl (bB (lO tG rfl) rfl rfl rfl rfl) ?_
  refine Wd rfl rfl (aV rfl (by kernel_rfl) rfl (by exact tj _ _)) ?_
  refine Wn<|Wi rfl (fun hi4=>?_) (fun hi4=>?_)
  ·have q4:ib (bZ r).1.err=true:=hi4
   refine aa rfl ?_
   refine z1 ?_
   refine zc rfl func117 (Ze a (bZ r).1 kt.1 (by omega) hvo (bZ r).2 kt.2 _ _ rfl (cn 0 1 rfl rfl)) ?_
   refine jx (H':=[.glob 1 (haltV a),.glob 0 etV,.cells (sZ r) 145,.cells Hn 145,.cells (cPW a (im r)) 197,.cells (sZ (bZ r).1.r) 145]) (by rw[Ts q4];rfl) ?_
   refine Wn ?_
   exact⟨[],fc⟩
  have q4:¬ib (bZ r).1.err=true:=by simpa using hi4
  refine ac1 (H':=[.glob 1 (haltV a),.glob 0 etV,.cells (sZ r) 145,.cells Hn 145,.cells (cPW a (im r)) 197,.cells (sZ (bZ r).1.r) 145]) (by rw[Xl q4];rfl) ?_
  refine Wj ?_
  exact⟨[],fc⟩
 refine Ws<|zp1 ?_
 refine Wd rfl rfl (bB (lO tG rfl) rfl rfl rfl rfl) ?_
 refine Wd rfl rfl (i6 rfl (by kernel_rfl) rfl (by exact tj _ _)) ?_
 refine Wn<|Wi rfl (fun hi5=>?_) (fun hi5=>?_)
 ·have q5:ib (im r).err=false:=by simpa using hi5
  refine aa rfl ?_
  refine zy2 ?_
  refine Wd rfl rfl (bB (lO tG rfl) rfl rfl rfl rfl) ?_
  refine Wd rfl rfl (oP (out:=[i64 (bZ r).2,BE a (im r).err]) (lO tG rfl) rfl rfl (by clear q5;generalize (im r).err=e0;cases e0<;>rfl)) ?_
  refine Wd rfl rfl (pR rfl (by kernel_rfl) rfl) ?_
  refine z1 ?_
  refine dt (zs:=sZ (im r).r++[.ifc 199 (.agg [i64 (bZ r).2,BE a (im r).err])]) (lO tG rfl) rfl rfl rfl rfl rfl rfl rfl rfl rfl rfl rfl ?_
  refine Wn<|zu1 ?_
  refine Ws<|Wl<|zp2 ?_
  refine Wd rfl rfl (aV rfl (by kernel_rfl) rfl (by rfl)) ?_
  refine zs1 ?_
  refine Wf rfl (by rfl) ?_
  refine zp2 ?_
  refine Wd rfl rfl (Ac (j:=0) (lO tG rfl) rfl rfl rfl) ?_
  refine zc rfl func118 ((aB0 a (bZ r).2 (im r).err q5) _) ?_
  refine zs1 ?_
  refine Wi rfl (fun hi7=>?_) (fun hi7=>?_)
  ·have q7:=Vp hi7
   refine zu5 ?_
   refine zR ?_
   unfold sH;rw[if_neg q1,q7];rfl
  obtain⟨c,hc⟩:=Z4 q5 hi7
  refine zp2 ?_
  refine Wa 76 rfl ((congrArg (fun z=>PV.ifc 199 (.agg [i64 (bZ r).2,z])) (show BE a (im r).err=.ifc 201 (.agg [i64 c]) by rw[hc];rfl))) ?_
  refine Wd rfl rfl (pR rfl (by kernel_rfl) rfl) ?_
  refine zc rfl func83 (ay1 (bZ r).2 c _ 6 1 rfl rfl) ?_
  refine zs2 ?_
  refine Wf rfl (by rfl) ?_
  refine Wj<|Ws<|zp3 ?_
  refine zc rfl func119 ((ER (bZ r).1.r c N gw) _) ?_
  refine zy5 ?_
  refine zs1 ?_
  refine zu1 ?_
  refine Wi rfl (fun hi9=>?_) (fun hi9=>?_)
  ·refine zu4 ?_
   refine zR ?_
   unfold sH;rw[if_neg q1,hc];exact congrArg (fun z=>jW (w9 (cp (bZ r).1.r c).1) (boo false) (i64 z)) (Sy (oT hi9)).symm
  refine Wj<|Ws<|V.az [14,0,16,11,0,0] [0,1,2,3,4,5] mG rfl (by kernel_rfl) ?_
  refine V.FT 5 rfl rfl rfl rfl rfl (fun H2 h2=>bB (lO tG rfl) rfl rfl h2 rfl) ?_
  refine V.z3 ?_
  refine V.FT 6 rfl rfl rfl rfl rfl (fun H2 h2=>bB (lO tG rfl) rfl rfl h2 rfl) ?_
  refine V.RO 3 tG rfl rfl rfl rfl rfl trivial rfl ?_
  iterate 2 refine V.z3 ?_
  refine V.aP ?_
  refine zR ?_
  unfold sH;rw[if_neg q1,hc];dsimp only;rw[Rg (Decidable.of_not_not (oF hi9))];rfl
 have q5:ib (im r).err=true:=by simpa using hi5
 refine Wj<|zu1 ?_
 refine Ws<|Wl<|zp1 ?_
 refine Wd rfl rfl (bB (lO tG rfl) rfl rfl rfl rfl) ?_
 refine Wd rfl rfl (aV rfl (by kernel_rfl) rfl (by exact tj _ _)) ?_
 refine zs1 ?_
 refine Wt rfl (by omega) ?_
 refine zu5 ?_
 refine zR ?_
 unfold sH;rw[if_neg q1,gV.1 q5];rfl
theorem IG(v:VVm):ab prog 112 [eVm v] (eVm (y6 v)):=by
 refine zY func112 fun B=>?_
 refine zu2 ?_
 refine zu4 ?_
 refine zu2 ?_
 refine zR ?_
 rfl
theorem Gm(v:VVm)(xt fuel:Int):ab prog 84 [eVm v,i64 xt,i64 fuel] (w9 (zX v xt fuel)):=by
 refine zY func84 fun B=>?_
 refine zu2 ?_
 refine zp1 ?_
 refine zc rfl func112 ((IG v) _) ?_
 refine zs4 ?_
 refine zR ?_
 rfl
theorem FR(a:Addr)(r:bH)(N:Nat)(g:gA N r)(hN:N<=800000)(hfu:ae r.fuel):∀(H:List Ob),(∀o∈gK a,∃k:Nat,H[k]?=some o)->HC prog 87 [w9 r] H (Lt (bR r)) H:=by
 rw[<-Ek r g.m.right.d]
 exact I4 a r N g hN hfu
theorem uc{r:bH}{N:Nat}(g:gA N r):gA (N+2) (bR r).1:=by rw[<-Ek r g.m.right.d];exact M7 g
theorem rm(r:bH)(c:Int):(cp r c).1.fuel=r.fuel:=by unfold cp;split<;>rfl
theorem wJ{r:bH}(hd:(r.vm.d.length:Int)<=r.vm.conf.data)(h:¬r.fuel<1):(bR r).1.fuel=W64 (r.fuel-1):=by
 rw[<-Ek r hd]
 unfold sH
 rw[if_neg h]
 have e1:(bZ r).1.r.fuel=W64 (r.fuel-1):=by rw[(vE r).2]
 have e2:(im r).r.fuel=W64 (r.fuel-1):=by unfold im;exact bu (by rw[CV,e1]) e1
 cases (im r).err with
 | ok=>exact e2
 | halt=>exact e2
 | bad c=>show(cp _ c).1.fuel=_;rw[rm,e1]
theorem xj{r:bH}(h:r.fuel<1):bR r=(r,false,-256):=by unfold bR;rw[if_pos h]
theorem Ri{n:Int}(h1:1<=n)(h2:n<=300000):W64 (n-1)=n-1:=by
 show IntKind.i64.wrap (n-1)=n-1
 rw[bS];unfold wrap64;omega
theorem Pb{n:Nat}{r:bH}(h:(bR r).2.1=true\/(bR r).2.2≠0):xS (n+1) r=(y6 (bR r).1.vm,(bR r).1.fuel,(bR r).2.2):=by
 show(if _ then _ else _)=_;rw[if_pos h]
theorem Md{n:Nat}{r:bH}(h:¬((bR r).2.1=true\/(bR r).2.2≠0)):xS (n+1) r=xS n (bR r).1:=by
 show(if _ then _ else _)=_;rw[if_neg h]
structure Dj (R:VVm×Int×Int) (s:Nat×bH):Prop where
 run:xS s.1 s.2=R
 f0:0<=s.2.fuel
 f1:s.2.fuel<(s.1:Int)
 g:gA (700000-2*s.1) s.2
 n:s.1<=300001
theorem Dj.fit{R:VVm×Int×Int}{s:Nat×bH}(h:Dj R s):ae s.2.fuel:=by have:=h.f0;have:=h.f1;have:=h.n;unfold ae;omega
theorem Dj.pos{R:VVm×Int×Int}{s:Nat×bH}(h:Dj R s):∃n,s.1=n+1:=⟨s.1-1,by have:=h.f0;have:=h.f1;omega⟩
theorem Dj.out{R:VVm×Int×Int}{s:Nat×bH}(h:Dj R s)(k:(bR s.2).2.1=true\/(bR s.2).2.2≠0):(y6 (bR s.2).1.vm,(bR s.2).1.fuel,(bR s.2).2.2)=R:=by
 obtain⟨n,hn⟩:=h.pos
 rw[<-h.run,hn,Pb k]
theorem Dj.next{R:VVm×Int×Int}{s:Nat×bH}(h:Dj R s)(k:¬((bR s.2).2.1=true\/(bR s.2).2.2≠0)):Dj R (s.1-1,(bR s.2).1)/\s.1-1<s.1:=by
 obtain⟨n,hn⟩:=h.pos
 have hr:=h.run
 have f0:=h.f0
 have f1:=h.f1
 have hN:=h.n
 have hf:¬s.2.fuel<1:=fun q=>k (by rw[xj q];exact .inr (show(-256:Int)≠0 by decide))
 have hw:=wJ h.g.m.right.d hf
 rw[Ri (by omega) (by omega)]at hw
 refine⟨⟨?_,?_,?_,?_,?_⟩,by omega⟩
 ·show xS (s.1-1) _=R
  rw[hn,Md k]at hr
  rw[hn];exact hr
 ·show 0<=(bR s.2).1.fuel;omega
 ·show(bR s.2).1.fuel<((s.1-1:Nat):Int);omega
 ·exact(uc h.g).up (by show _<=700000-2*(s.1-1);omega)
 show s.1-1<=300001;omega
theorem AM{v:VVm}{N:Nat}(g:bb N v){xt fuel:Int}(hx:ae xt):gA N (zX v xt fuel):=by
 have hc:=g.right.gd
 unfold d9 at hc
 have a:=Qt g (r:=[]) (by show(0:Int)<=_;omega) bE
 have b:=QR a (f:=[]) rfl (Nat.zero_le _) (fun x hx=>by cases hx)
 exact⟨b,by unfold ae;show -9223372036854775808<=(16:Int)/\(16:Int)<=9223372036854775807;omega,hx⟩
end Go.Proofs.YtjcminooghmpeaaGreatDoor
