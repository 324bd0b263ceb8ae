import Derived.LaidEql
import Derived.RowKitTokens
import Derived.Stop.Asserts
import Derived.Test.YtiibjcnedbncjaaGreatDoorPk8
set_option linter.unusedVariables false
set_option linter.unusedSimpArgs false
set_option maxRecDepth 100000
set_option maxHeartbeats 40000000
namespace Go.Proofs.YtiibjcnedbncjaaGreatDoor
open Go.RowKit
def AI(v v':VVm):VVm:={v' with mem:=v.mem,here:=v.here,d:=v.d,out:=v.out,pic:=v.pic,req:=v.req,free:=v.free,next:=v.next}
structure lk (v v':VVm):Prop where
 same:AI v v'=v
 dd:v'.d=v.d
 mem:eV v.mem v'.mem 2
 here:1368≤v.here→v.here≤v.mem.b.length→1368≤v'.here∧v'.here≤v.mem.b.length
 pic:cr v.pic→cr v'.pic
 out:v.out.length≤v.conf.out→v'.out.length≤v.conf.out
 req:v.req.length≤16→v'.req.length≤16
 free:0≤v.free→v.free≤64→0≤v'.free∧v'.free≤64
 next:0≤v.next→v.next≤4611686018427387904→0≤v'.next∧v'.next≤4611686018427387904
theorem lk.refl(v:VVm):lk v v:=⟨rfl,rfl,.refl _ _,fun a b=>⟨a,b⟩,id,id,id,fun a b=>⟨a,b⟩,fun a b=>⟨a,b⟩⟩
theorem EW{v:VVm}{m:aV}{k:Nat}(h:eV v.mem m k)(hk:k≤2):lk v (lf v m) :=
 ⟨rfl,rfl,h.up hk,fun a b=>⟨a,b⟩,id,id,id,fun a b=>⟨a,b⟩,fun a b=>⟨a,b⟩⟩
theorem lT{v:VVm}{p:ca}(h:cr v.pic→cr p):lk v (o8 v p) :=
 ⟨rfl,rfl,.refl _ _,fun a b=>⟨a,b⟩,h,id,id,fun a b=>⟨a,b⟩,fun a b=>⟨a,b⟩⟩
theorem mN{v:VVm}{r:aV×Int×Int}(h:eV v.mem r.1 1)(hh:1368≤v.here→v.here≤v.mem.b.length→1368≤r.2.1∧r.2.1≤v.mem.b.length):lk v (dB v r).1 :=
 ⟨rfl,rfl,h.up (by omega),hh,id,id,id,fun a b=>⟨a,b⟩,fun a b=>⟨a,b⟩⟩
theorem AB(v:VVm)(r:Str×Int):lk v (cZ v r).1:=by
 unfold cZ iY
 split
 ·split
  ·exact .refl v
  rename_i h
  exact⟨rfl,rfl,.refl _ _,fun a b=>⟨a,b⟩,id,fun _=>by simp only[List.length_append];omega,id,fun a b=>⟨a,b⟩,fun a b=>⟨a,b⟩⟩
 exact .refl v
theorem E8(v:VVm):lk v (nH v).1:=by
 unfold nH
 split
 ·exact⟨rfl,rfl,(iF _ _ _).up (by omega),fun a b=>⟨a,b⟩,fun _=>⟨by simp[o8],.inr rfl⟩,id,id,fun a b=>⟨a,b⟩,fun a b=>⟨a,b⟩⟩
 exact .refl v
theorem Bm{n:Int}(h:ae n):W64 n=n:=by unfold W64;rw[aK];exact bC n h
theorem xc(v:VVm)(q:fZ)(h:¬16≤(v.req.length:Int)):lk v (w6 v q) :=
 ⟨rfl,rfl,.refl _ _,fun a b=>⟨a,b⟩,id,id,fun _=>by simp only[w6,List.length_append,List.length_singleton];omega,fun a b=>⟨a,b⟩,fun a b=>⟨a,b⟩⟩
theorem xr(v:VVm)(x:List Int):lk v (em v x).1:=by
 unfold em;split
 ·exact .refl v
 rename_i h;exact xc v _ h
theorem Cq(v:VVm)(x:List Int):lk v (ex v x).1:=by
 unfold ex;split
 ·exact .refl v
 split
 ·exact .refl v
 rename_i h;exact xc v _ h
theorem sD(k:Int)(v:VVm)(x:List Int):lk v (bn k v x).1:=by
 unfold bn;split
 ·exact .refl v
 split
 ·exact .refl v
 split
 ·exact .refl v
 rename_i h
 split
 ·exact .refl v
 rename_i hw
 refine⟨rfl,rfl,.refl _ _,fun a b=>⟨a,b⟩,id,id,fun _=>by simp only[w6,List.length_append,List.length_singleton];omega,fun a b=>?_,fun a b=>?_⟩
 ·simp only
  rw[Bm (by unfold ae;omega)]
  have:v.free≠0:=fun h=>hw (.inl h)
  omega
 simp only
 rw[Bm (by unfold ae;omega)]
 have:v.next≠4611686018427387904:=fun h=>hw (.inr h)
 omega
theorem AK(v:VVm)(x:List Int):eV v.mem (kG v x).1 1:=by
 unfold kG;split
 ·exact cN _ _ _
 exact .refl _ _
theorem xR(v:VVm)(x:List Int):eV v.mem (jb v x).1 2:=by
 unfold jb;split
 ·exact(cN _ _ _).trans (cN _ _ _)
 exact(cN _ _ _).up (by omega)
theorem gk{v:VVm}{r:aV×Int}{k:Nat}(h:eV v.mem r.1 k)(hk:k≤2):lk v (cu v r).1:=EW h hk
def dU(l:List Int):Prop:=∀a∈l,ae a
theorem bz:dU []:=fun a h=>by simp at h
theorem cH{a:Int}(h:ae a):dU [a]:=fun b hb=>by simp at hb;subst hb;exact h
theorem fq{a b:Int}(h:ae a)(g:ae b):dU [a,b]:=fun c hc=>by simp at hc;rcases hc with rfl|rfl;exact h;exact g
def KF(v:VVm)(r:VVm×List Int×Int):Prop:=lk v r.1∧dU r.2.1
theorem qK{x:List Int}(h:dU x)(i:Nat):ae (xat x i):=XOk.fit (k:=0) ⟨Nat.zero_le _,h⟩ i
theorem ar{α:Type}{c:Prop}[Decidable c]{a r:α}{b:Option α}(h:(if c then some a else b)=some r):a=r∨b=some r:=by
 by_cases hc:c
 ·rw[if_pos hc]at h;exact .inl (Option.some.inj h)
 rw[if_neg hc]at h;exact .inr h
theorem kH{α:Type}{P:α→Prop}{c:Prop}[Decidable c]{a b:α}(h1:P a)(h2:P b):P (if c then a else b):=by
 by_cases hc:c
 ·rw[if_pos hc];exact h1
 rw[if_neg hc];exact h2
theorem Cu{name:Str}{x:List Int}{r:List Int×Int}(hx:dU x)(h:dn name x=some r):dU r.1:=by
 have f:=qK hx
 unfold dn at h
 rcases ar h with rfl|h
 ·exact fq (tn (f 1)).2 (tn (f 1)).1
 rcases ar h with rfl|h
 ·exact cH (nJ (f 2)).1
 rcases ar h with rfl|h
 ·exact fq (nJ (f 2)).2 (nJ (f 2)).1
 rcases ar h with rfl|h
 ·exact fq (zK _) (zK _)
 rcases ar h with rfl|h
 ·exact fq (uu (f 0) (f 1)).1 (uu (f 0) (f 1)).2
 rcases ar h with rfl|h
 ·exact fq qA.2 qA.1
 rcases ar h with rfl|h
 ·exact fq (Ap (f 2)).2 (Ap (f 2)).1
 rcases ar h with rfl|h
 ·exact fq (nJ (f 2)).2 (nJ (f 2)).1
 rcases ar h with rfl|h
 ·exact fq (f 0) (qe _)
 rcases ar h with rfl|h
 ·exact cH (qe _)
 rcases ar h with rfl|h
 ·exact cH (by unfold ae;omega)
 rcases ar h with rfl|h
 ·exact cH (by unfold ae;omega)
 rcases ar h with rfl|h
 ·exact cH (by unfold ae;omega)
 rcases ar h with rfl|h
 ·exact cH (by unfold ae;omega)
 rcases ar h with rfl|h
 ·exact cH (by unfold ae;omega)
 cases h
theorem FC{v:VVm}{name:Str}{x:List Int}{r:VVm×List Int×Int}(hx:dU x)(h:cM v name x=some r):KF v r:=by
 have f:=qK hx
 unfold cM at h
 rcases ar h with rfl|h
 ·exact⟨.refl v,cH (rQ _ _)⟩
 rcases ar h with rfl|h
 ·exact⟨.refl v,cH (ut _ _)⟩
 rcases ar h with rfl|h
 ·exact⟨gk (cN _ _ _) (by omega),bz⟩
 rcases ar h with rfl|h
 ·exact⟨gk (iF _ _ _) (by omega),bz⟩
 rcases ar h with rfl|h
 ·exact⟨gk (AK _ _) (by omega),bz⟩
 rcases ar h with rfl|h
 ·unfold fH;split
  ·exact⟨.refl v,fq (rQ _ _) (rQ _ _)⟩
  exact⟨.refl v,bz⟩
 rcases ar h with rfl|h
 ·exact⟨gk (xR _ _) (by omega),bz⟩
 rcases ar h with rfl|h
 ·exact⟨gk (CI _ _ _ _) (by omega),bz⟩
 rcases ar h with rfl|h
 ·exact⟨gk (B6 _ _ _ _) (by omega),bz⟩
 rcases ar h with rfl|h
 ·exact⟨.refl v,fq (gO _) (ut _ _)⟩
 rcases ar h with rfl|h
 ·exact⟨gk (cN _ _ _) (by omega),bz⟩
 rcases ar h with rfl|h
 ·exact⟨gk (cN _ _ _) (by omega),bz⟩
 rcases ar h with rfl|h
 ·unfold cU;split
  ·exact⟨gk (cN _ _ _) (by omega),bz⟩
  exact⟨.refl v,bz⟩
 rcases ar h with rfl|h
 ·unfold dG;split
  ·exact⟨gk (cN _ _ _) (by omega),bz⟩
  exact⟨.refl v,bz⟩
 cases h
theorem Bw{v:VVm}{x:List Int}(h0:1368≤v.here)(h1:v.here≤v.mem.b.length):1368≤(pj v x).2.1∧(pj v x).2.1≤v.mem.b.length:=by
 unfold pj cg
 simp only
 split<;>simp only<;>omega
theorem HH{v:VVm}{name:Str}{x:List Int}{r:VVm×List Int×Int}(h:fw v name x=some r):KF v r:=by
 unfold fw at h
 rcases ar h with rfl|h
 ·exact⟨mN (.refl _ _) (fun a b=>Bw a b),bz⟩
 rcases ar h with rfl|h
 ·refine⟨mN ?_ ?_,bz⟩
  ·unfold gf;split
   ·exact rE _
   exact .refl _ _
  unfold gf;split
  ·exact fun a b=>uq _ a b
  exact fun a b=>⟨a,b⟩
 rcases ar h with rfl|h
 ·exact⟨mN (rE _) (fun a b=>uq _ a b),bz⟩
 rcases ar h with rfl|h
 ·exact⟨mN (rE _) (fun a b=>uq _ a b),bz⟩
 cases h
theorem In(v:VVm)(r:Str×Int):KF v (cZ v r):=⟨AB v r,by unfold cZ;split<;>exact bz⟩
theorem Mh{v:VVm}{name:Str}{x:List Int}{r:VVm×List Int×Int}(hx:dU x)(hc : -100≤v.conf.mem∧v.conf.mem≤100000)(hp:v.pic.b.length≤1000000)(h:jm v name x=some r):KF v r:=by
 have f:=qK hx
 unfold jm at h
 rcases ar h with rfl|h
 ·exact⟨lT (fun _=>⟨by simp,.inl rfl⟩),bz⟩
 rcases ar h with rfl|h
 ·exact⟨lT (nS _ _ _),fq (wT (f 0) (f 1)).1 (wT (f 0) (f 1)).2⟩
 rcases ar h with rfl|h
 ·exact⟨lT (FG _ _ _),fq g8 g8⟩
 rcases ar h with rfl|h
 ·exact⟨lT (pR _),bz⟩
 rcases ar h with rfl|h
 ·exact⟨lT (Bv _),bz⟩
 rcases ar h with rfl|h
 ·refine⟨E8 v,?_⟩
  unfold nH;split
  ·have:=pE v.pic
   exact fq (gO _) (by unfold ae;omega)
  exact bz
 cases h
theorem Oi{v:VVm}{name:Str}{x:List Int}{r:VVm×List Int×Int}(hn:ae v.next)(h:iI v name x=some r):KF v r:=by
 unfold iI at h
 have ht:∀k,dU (bn k v x).2.1:=fun k=>by unfold bn;split;exact bz;split;exact bz;split;exact bz;split;exact bz;exact cH hn
 rcases ar h with rfl|h
 ·exact⟨Cq _ _,by unfold ex;split;exact bz;split<;>exact bz⟩
 rcases ar h with rfl|h
 ·exact⟨xr _ _,by unfold em;split<;>exact bz⟩
 rcases ar h with rfl|h
 ·exact⟨sD _ _ _,ht _⟩
 rcases ar h with rfl|h
 ·exact⟨sD _ _ _,ht _⟩
 cases h
theorem Mx{v:VVm}{name:Str}{x:List Int}(hh:ae v.here∧ae v.arg∧ae v.self∧ae v.now):KF v (ng v name x):=by
 unfold ng
 split
 ·exact⟨.refl v,cH hh.1⟩
 split
 ·exact⟨.refl v,cH hh.2.1⟩
 split
 ·exact⟨.refl v,cH hh.2.2.1⟩
 split
 ·exact⟨.refl v,cH hh.2.2.2⟩
 split
 ·unfold kz;split
  ·exact⟨.refl v,bz⟩
  exact⟨.refl v,cH (gO _)⟩
 exact⟨.refl v,bz⟩
structure sG (N:Nat) (v:VVm):Prop where
 right:dS v=true
 old:v.mem.old.length≤N
 d:dU v.d
 ints:ae v.arg∧ae v.self∧ae v.now
structure ru (v:VVm):Prop where
 fU:dV v.conf
 mem:fv v.mem=true
 dict:lw v.dict=true
 pic:cr v.pic
 len:(v.mem.b.length:Int)=v.conf.mem
 here0:1368≤v.here
 here1:v.here≤v.conf.mem
 f:v.f.all gv=true
 hand:v.hand.all rO=true
 d:(v.d.length:Int)≤v.conf.data
 r:(v.r.length:Int)≤v.conf.ret
 fl:v.f.length≤64
 dl:(v.dict.length:Int)≤v.conf.words
 out:(v.out.length:Int)≤v.conf.out
 req:v.req.length≤16
 free0:0≤v.free
 free1:v.free≤64
 next0:0≤v.next
 next1:v.next≤4611686018427387904
 handl:v.hand.length≤64
theorem iJ(v:VVm):dS v=true↔ru v:=by
 unfold dS ly iV
 simp only[Bool.and_eq_true,decide_eq_true_eq]
 constructor
 ·rintro⟨⟨a1,a2,a3,a4,a5,a6,a7⟩,a8,a9,a10,a11,a12,a13,a14,a15,a16,a17,a18,a19,a20⟩
  exact⟨a1,a2,a3,a4,a5,a6,a7,a8,a9,a10,a11,a12,a13,a14,a15,a16,a17,a18,a19,a20⟩
 rintro⟨a1,a2,a3,a4,a5,a6,a7,a8,a9,a10,a11,a12,a13,a14,a15,a16,a17,a18,a19,a20⟩
 exact⟨⟨a1,a2,a3,a4,a5,a6,a7⟩,a8,a9,a10,a11,a12,a13,a14,a15,a16,a17,a18,a19,a20⟩
theorem D9{v:VVm}{n:Int}{name:Str}{x:List Int}{N:Nat}(g:sG N v)(hx:dU x):KF v (aY v n name x):=by
 have R:=(iJ v).1 g.right
 have f:=qK hx
 have hm:=R.fU
 unfold dV at hm
 unfold aY
 split
 ·exact⟨.refl v,cH (IY _ (f 0) (f 1))⟩
 split
 ·exact⟨.refl v,cH (vh _ (f 0))⟩
 cases h1:dn name x with
 | some r=>exact⟨.refl v,Cu hx h1⟩
 | none =>
  cases h2:cM v name x with
  | some r=>exact FC hx h2
  | none =>
   cases h3:fw v name x with
   | some r=>exact HH h3
   | none =>
    cases h4:i8 v name x with
    | some r=>exact In v r
    | none =>
     cases h5:jm v name x with
     | some r=>exact Mh hx (by omega) (by have:=R.pic.1;omega) h5
     | none =>
      cases h6:iI v name x with
      | some r=>exact Oi (by have:=R.next0;have:=R.next1;unfold ae;omega) h6
      | none=>exact Mx ⟨by have:=R.here0;have:=R.here1;unfold ae;omega,g.ints⟩
theorem Ij{name:Str}{x:List Int}{d:Nat}(hx:dU x)(hd:d≤100000):dU (ky name x d):=by
 have f:=qK hx
 have hq:∀l:List Int,(∀a∈l,a∈x∨(∃i,a=xat x i)∨a=d)→dU l:=fun l h a ha=>by
  rcases h a ha with h|⟨i,rfl⟩|rfl
  ·exact hx a h
  ·exact f i
  unfold ae;omega
 unfold ky
 refine kH (P:=dU) (hq _ fun a ha=>by simp only[List.mem_cons,List.not_mem_nil,or_false]at ha;rcases ha with rfl|rfl<;>exact .inr (.inl ⟨_,rfl⟩)) ?_
 refine kH (P:=dU) (hq _ fun a ha=>by simp only[List.mem_cons,List.not_mem_nil,or_false]at ha;rcases ha with rfl|rfl<;>exact .inr (.inl ⟨_,rfl⟩)) ?_
 refine kH (P:=dU) (hq _ fun a ha=>by simp only[List.mem_cons,List.not_mem_nil,or_false]at ha;rcases ha with rfl|rfl|rfl<;>exact .inr (.inl ⟨_,rfl⟩)) ?_
 refine kH (P:=dU) (hq _ fun a ha=>by simp only[List.mem_cons,List.not_mem_nil,or_false]at ha;subst ha;exact .inr (.inl ⟨_,rfl⟩)) ?_
 refine kH (P:=dU) (hq _ fun a ha=>by simp only[List.mem_cons,List.not_mem_nil,or_false]at ha;rcases ha with rfl|rfl|rfl<;>exact .inr (.inl ⟨_,rfl⟩)) ?_
 refine kH (P:=dU) (hq _ fun a ha=>by simp only[List.mem_cons,List.not_mem_nil,or_false]at ha;rcases ha with rfl|rfl|rfl<;>exact .inr (.inl ⟨_,rfl⟩)) ?_
 refine kH (P:=dU) (hq _ fun a ha=>by simp only[List.mem_cons,List.not_mem_nil,or_false]at ha;rcases ha with rfl|rfl|rfl<;>exact .inr (.inl ⟨_,rfl⟩)) ?_
 refine kH (P:=dU) (hq _ fun a ha=>by simp only[List.mem_cons,List.not_mem_nil,or_false]at ha;rcases ha with rfl|rfl|rfl|rfl<;>exact .inr (.inl ⟨_,rfl⟩)) ?_
 refine kH (P:=dU) (hq _ fun a ha=>by simp only[List.mem_cons,List.not_mem_nil,or_false]at ha;rcases ha with rfl|rfl|rfl|rfl<;>exact .inr (.inl ⟨_,rfl⟩)) ?_
 refine kH (P:=dU) (hq _ fun a ha=>by simp only[List.mem_cons,List.not_mem_nil,or_false]at ha;rcases ha with rfl|rfl|rfl|rfl|rfl|rfl<;>exact .inr (.inl ⟨_,rfl⟩)) ?_
 refine kH (P:=dU) (kH (P:=dU) hx (hq _ fun a ha=>by simp only[List.mem_cons,List.not_mem_nil,or_false]at ha;rcases ha with rfl|rfl<;>exact .inr (.inl ⟨_,rfl⟩))) ?_
 refine kH (P:=dU) (hq _ fun a ha=>by simp only[List.mem_cons,List.not_mem_nil,or_false]at ha;exact .inr (.inr ha)) ?_
 refine kH (P:=dU) (hq _ fun a ha=>by rcases List.mem_append.1 ha with h|h;exact .inl (List.mem_of_mem_take h);exact .inr (.inl ⟨_,List.mem_singleton.1 h⟩)) ?_
 refine kH (P:=dU) (hq _ fun a ha=>by rcases List.mem_append.1 ha with h|h;exact .inl (List.mem_of_mem_take (List.mem_of_mem_drop h));exact .inr (.inl ⟨_,List.mem_singleton.1 h⟩)) ?_
 exact bz
theorem AF{name:Str}{s:List Int}{limit:Int}(hs:dU s)(hl:s.length≤100000):dU (bR name s limit).1:=by
 unfold bR
 split
 ·exact hs
 split
 ·exact hs
 split
 ·exact hs
 intro a ha
 rcases List.mem_append.1 ha with ha|ha
 ·exact hs a (List.mem_of_mem_take ha)
 exact Ij (fun b hb=>hs b (List.mem_of_mem_drop hb)) hl a ha
theorem AS{name:Str}{s:List Int}{limit:Int}(hs:(s.length:Int)≤limit):((bR name s limit).1.length:Int)≤limit:=by
 unfold bR
 split
 ·exact hs
 split
 ·exact hs
 split
 ·exact hs
 rename_i h;simp only[List.length_append,List.length_take];omega
theorem Kr{v:VVm}{n:Int}{N:Nat}(g:sG N v):AI v (doS v n).1=v:=by
 by_cases h:n<23∨129<n
 ·unfold doS;rw[if_pos h];rfl
 by_cases h1:n≤38
 ·unfold doS;rw[if_neg h];simp only;rw[if_pos h1];rfl
 rw[aE (by omega) (by omega)]
 unfold doR
 split
 ·rfl
 split
 ·rfl
 split
 ·rfl
 exact(D9 g (fun a ha=>g.d a (List.mem_of_mem_drop ha))).1.same
theorem sA{v v':VVm}{d:List Int}(R:ru v)(K:lk v v')(hd:(d.length:Int)≤v.conf.data):ru {v' with d:=d}:=by
 have s:=K.same
 unfold AI at s
 have e1:v'.conf=v.conf:=by rw[←s]
 have e2:v'.dict=v.dict:=by rw[←s]
 have e3:v'.f=v.f:=by rw[←s]
 have e4:v'.hand=v.hand:=by rw[←s]
 have e5:v'.r=v.r:=by rw[←s]
 have h1:=K.here R.here0 (by have:=R.here1;have:=R.len;omega)
 have h2:=K.free R.free0 R.free1
 have h3:=K.next R.next0 R.next1
 have hl:=K.mem.len
 have hl2:=R.len
 exact⟨by rw[e1];exact R.fU,K.mem.right R.mem,by rw[e2];exact R.dict,K.pic R.pic,by simp only[e1];rw[hl];exact hl2,h1.1,by simp only[e1];omega,by rw[e3];exact R.f,by rw[e4];exact R.hand,by simp only[e1];exact hd,by simp only[e1,e5];exact R.r,by rw[e3];exact R.fl,by simp only[e1,e2];exact R.dl,by simp only[e1];exact K.out R.out,K.req R.req,h2.1,h2.2,h3.1,h3.2,by rw[e4];exact R.handl⟩
theorem Ig{v:VVm}{n:Int}{N:Nat}(g:sG N v):sG (N+2) (doS v n).1:=by
 have R:=(iJ v).1 g.right
 have hc:=R.fU
 unfold dV at hc
 have hdl:=R.d
 have stay:sG (N+2) v:=⟨g.right,by have:=g.old;omega,g.d,g.ints⟩
 by_cases h:n<23∨129<n
 ·unfold doS;rw[if_pos h];exact stay
 by_cases h1:n≤38
 ·unfold doS;rw[if_neg h];simp only;rw[if_pos h1]
  refine⟨(iJ _).2 (sA R (.refl v) (AS R.d)),by show v.mem.old.length≤_;have:=g.old;omega,AF g.d (by omega),g.ints⟩
 rw[aE (by omega) (by omega)]
 have K:=D9 (n:=n) (name:=ao.getD n.toNat []) g (x:=v.d.drop (v.d.length-aU n (ao.getD n.toNat []))) (fun a ha=>g.d a (List.mem_of_mem_drop ha))
 generalize aY v n (ao.getD n.toNat []) (v.d.drop (v.d.length-aU n (ao.getD n.toNat [])))=r at K ⊢
 unfold doR
 split
 ·exact stay
 split
 ·exact stay
 split
 ·exact stay
 rename_i q0 q1 q2
 have s:=K.1.same
 unfold AI at s
 refine⟨(iJ _).2 (sA R K.1 (by simp only[List.length_append,List.length_take];omega)),?_,fun a ha=>?_,?_⟩
 ·have:=K.1.mem.old;have:=g.old;show _≤_;simp only;omega
 ·rcases List.mem_append.1 ha with ha|ha
  ·exact g.d a (List.mem_of_mem_take ha)
  exact K.2 a ha
 have a1:r.1.arg=v.arg:=by have h:=congrArg VVm.arg K.1.same;exact h
 have a2:r.1.self=v.self:=by have h:=congrArg VVm.self K.1.same;exact h
 have a3:r.1.now=v.now:=by have h:=congrArg VVm.now K.1.same;exact h
 simp only[a1,a2,a3]
 exact g.ints
theorem DN{v:VVm}{N:Nat}(g:sG N v)(hN:N≤900000):bX v:=by
 have R:=(iJ v).1 g.right
 have hc:=R.fU
 unfold dV at hc
 have h1:=R.len
 have h2:=g.old
 have h3:=R.here0
 have h4:=R.here1
 have h5:=R.out
 have h6:=R.pic.1
 have h7:=R.req
 have h8:=R.handl
 have h9:=R.d
 exact⟨⟨by omega,by omega⟩,by omega,⟨by omega,by omega⟩,by omega,by omega,by omega,by omega,by omega,by omega,g.d,by unfold ae;omega⟩
structure VX (M:Nat) (v:VVm):Prop where
 b:v.mem.b.length≤65536
 old:v.mem.old.length≤M
 d:v.d.length≤300
 r:v.r.length≤300
 f:v.f.length≤300
 fd:dU v.d
 fr:dU v.r
 ff:∀x∈v.f,ae x.ip
 data:0≤v.conf.data∧v.conf.data≤256
 ret:0≤v.conf.ret∧v.conf.ret≤256
 la:ae v.last
structure KX (M:Nat) (k:PW):Prop where
 v:VX M k.r.vm
 ip:ae k.r.ip
 w:ae k.r.w
theorem VX.mem{M:Nat}{v:VVm}(h:VX M v)(hM:M≤1000000):cb v.mem:=⟨by have:=h.b;omega,by have:=h.old;omega⟩
theorem VX.up{M N:Nat}{v:VVm}(h:VX M v)(hM:M≤N):VX N v:=⟨h.b,by have:=h.old;omega,h.d,h.r,h.f,h.fd,h.fr,h.ff,h.data,h.ret,h.la⟩
theorem KX.up{M N:Nat}{k:PW}(h:KX M k)(hM:M≤N):KX N k:=⟨h.v.up hM,h.ip,h.w⟩
theorem KX.la{M:Nat}{k:PW}(h:KX M k):ae k.r.vm.last:=h.v.la
theorem ui{M:Nat}{v:VVm}(h:VX M v):ae v.conf.data∧ae v.conf.ret:=by
 have:=h.data;have:=h.ret;unfold ae;omega
theorem bQ:ae 0:=by unfold ae;omega
theorem iL{a b:List Int}(h:dU a)(k:dU b):dU (a++b):=fun x hx=>by
 rcases List.mem_append.1 hx with hx|hx
 ·exact h x hx
 exact k x hx
theorem mm{a:List Int}(n:Nat)(h:dU a):dU (a.take n):=fun x hx=>h x (List.mem_of_mem_take hx)
theorem nB{a:List Int}(h:dU a)(i:Nat):ae (a.getD i 0):=by
 rw[List.getD_eq_getElem?_getD]
 rcases e:a[i]? with _|x
 ·exact bQ
 exact h x (List.mem_of_getElem? e)
theorem bl(n:Int):ae (W64 n):=by
 show ae (IntKind.i64.wrap n)
 rw[aK];exact gz n
theorem u5(m:aV)(a:Int):ae (au m a).1:=by
 unfold au;split
 ·unfold y8;exact gz _
 exact bQ
section
variable {M : Nat} {v : VVm}
theorem DL(h:VX M v){n:Int}(hn:ae n):VX M (it v n).1:=by
 unfold it eQ
 by_cases q:v.conf.data≤(v.d.length:Int)
 ·simp only[if_pos q];exact h
 simp only[if_neg q]
 exact⟨h.b,h.old,by have:=h.data;simp only[List.length_append,List.length_singleton];omega,h.r,h.f,iL h.fd (cH hn),h.fr,h.ff,h.data,h.ret,h.la⟩
theorem zS(h:VX M v){n:Int}(hn:ae n):VX M (gp v n).1:=by
 unfold gp
 by_cases q:v.conf.ret≤(v.r.length:Int)
 ·simp only[if_pos q];exact h
 simp only[if_neg q]
 exact⟨h.b,h.old,h.d,by have:=h.ret;simp only[List.length_append,List.length_singleton];omega,h.f,h.fd,iL h.fr (cH hn),h.ff,h.data,h.ret,h.la⟩
theorem vk(h:VX M v):VX M (iQ v).2.1∧ae (iQ v).1:=by
 unfold iQ ba
 by_cases q:v.d.length=0
 ·simp only[if_pos q];exact⟨h,bQ⟩
 simp only[if_neg q]
 exact⟨⟨h.b,h.old,by have:=h.d;simp only[List.length_take];omega,h.r,h.f,mm _ h.fd,h.fr,h.ff,h.data,h.ret,h.la⟩,nB h.fd _⟩
theorem rb(h:VX M v):VX M (eW v).2.1∧ae (eW v).1:=by
 unfold eW
 by_cases q:v.r.length=0
 ·simp only[if_pos q];exact⟨h,bQ⟩
 simp only[if_neg q]
 exact⟨⟨h.b,h.old,h.d,by have:=h.r;simp only[List.length_take];omega,h.f,h.fd,mm _ h.fr,h.ff,h.data,h.ret,h.la⟩,nB h.fr _⟩
theorem zl(h:VX M v)(a n:Int):VX (M+1) (lf v (aG v.mem a n).1):=by
 have k:=cN v.mem a n
 exact⟨by show(aG v.mem a n).1.b.length≤_;rw[k.len];exact h.b,by show(aG v.mem a n).1.old.length≤_;have:=k.old;have:=h.old;omega,h.d,h.r,h.f,h.fd,h.fr,h.ff,h.data,h.ret,h.la⟩
end
section
variable {M : Nat} {k : PW}
theorem lh(h:KX M k){v:VVm}(hv:VX M v)(e:Int):KX M (pOk k v e):=by
 unfold pOk
 split
 ·split
  ·exact⟨hv,h.ip,h.w⟩
  exact⟨h.v,h.ip,h.w⟩
 exact h
theorem qW(h:KX M k){n:Int}(hn:ae n):KX M (cA k n):=lh h (DL h.v hn) _
theorem qG(h:KX M k){n:Int}(hn:ae n):KX M (gB k n):=lh h (zS h.v hn) _
theorem gC(h:KX M k):KX M (aS k).1∧ae (aS k).2 :=
 ⟨lh h (vk h.v).1 _,by unfold aS;dsimp only;split;exact(vk h.v).2;exact bQ⟩
theorem gy(h:KX M k):KX M (ew k).1∧ae (ew k).2 :=
 ⟨lh h (rb h.v).1 _,by unfold ew;dsimp only;split;exact(rb h.v).2;exact bQ⟩
theorem fh(h:KX M k)(a:Int):KX M (be k a).1∧ae (be k a).2:=⟨lh h h.v _,u5 _ _⟩
theorem ql(h:KX M k)(a n:Int):KX (M+1) (jV k a n):=lh (h.up (by omega)) (zl h.v a n) _
theorem N7(h:KX M k){a:Int}(ha:ae a):KX M (wIp k a):=⟨h.v,ha,h.w⟩
theorem m9(h:KX M k)(n:Nat):KX M (bS k n).1∧ae (bS k n).2:=by
 unfold bS;split
 ·exact⟨lh h h.v _,bQ⟩
 exact⟨h,nB h.v.fr _⟩
theorem EP(h:KX M k)(h0:¬k.r.vm.f.length=0):KX M {k with r:={k.r with ip:=(k.r.vm.f.getD (k.r.vm.f.length-1) default).ip,vm:={k.r.vm with f:=k.r.vm.f.take (k.r.vm.f.length-1)}}} :=
 ⟨⟨h.v.b,h.v.old,h.v.d,h.v.r,by have:=h.v.f;simp only[List.length_take];omega,h.v.fd,h.v.fr,fun x hx=>h.v.ff x (List.mem_of_mem_take hx),h.v.data,h.v.ret,h.v.la⟩,
  h.v.ff _ (by rw[List.getD_eq_getElem?_getD,List.getElem?_eq_getElem (by omega)];exact List.getElem_mem _),h.w⟩
theorem LD(h:KX M k):KX (M+2) (jI k):=by
 unfold jI;split
 ·exact lh (h.up (by omega)) (h.v.up (by omega)) _
 exact ql (ql h _ _) _ _
theorem qH(i l n:Int):ae (dQ i l n).1:=bl _
end
open Go.RowKit
def oL(x:dE):List Value:=[.int .i64 x.d,.int .i64 x.r,.int .i64 x.ip]
theorem JW{x y:dE}(h:jJ (oL x) (oL y)=true):x=y:=by cases x;cases y;simp[oL,jJ,eqV]at h;simp[h]
theorem Bu(x:dE):jJ (oL x) (oL x)=true:=by simp[oL,jJ,eqV]
def rl(x:gX):List Value:=[.string ⟨x.name.toArray⟩,.int .i64 x.xt,.int .i64 x.flags]
theorem LW{x y:gX}(h:jJ (rl x) (rl y)=true):x=y:=by
 obtain⟨n1,x1,f1⟩:=x;obtain⟨n2,x2,f2⟩:=y
 simp only[rl,jJ,eqV,Bool.and_eq_true,oM,beq_iff_eq,ByteArray.mk.injEq]at h
 have h1:n1=n2:=by have q:=congrArg Array.toList h.1;exact q
 have h2:x1=x2:=h.2.1
 have h3:f1=f2:=h.2.2.1
 subst h1 h2 h3;rfl
theorem ET(x:gX):jJ (rl x) (rl x)=true:=by simp[rl,jJ,eqV,(oM _ _).2 rfl]
theorem C9(a b:List Int)(ha:a.length≤1000000)(hb:b.length≤1000000):ab Tryz.prog 75 [sq af a,sq af b] (boo (decide (a=b))):=by
 refine pW tG (rs:=[.tmp 4]) Tryz.func75 rfl rfl rfl (by simp) (by simp) (fun B=>?_)
 refine zu1 ?_
 refine Ws ?_
 refine zu5 ?_
 refine Wi rfl (fun hi1=>?_) (fun hi1=>?_)
 ·have hne:a≠b:=fun h=>by subst h;simp at hi1
  refine zu1 ?_
  refine zR ?_
  exact congrArg boo (decide_eq_false hne).symm
 have hl:a.length=b.length:=by(try simp only[dnL]at *);omega
 refine Wj ?_
 refine Ws ?_
 refine zu3 ?_
 refine Wl ?_
 show W _ _ _ _ _ _ _
 refine bG (fun(k:Nat)=>[(0,sq af a),(1,sq af b),(12,i64 a.length),(13,i64 k)]) (fun(k:Nat)=>[]) (fun(k:Nat)=>[]) (fun(k:Nat)=>k≤a.length∧a.take k=b.take k) (fun(k:Nat)=>a.length-k) (0) (by simp) [] ?_ ?_
 ·exact bu
 intro k hk
 refine zu1 ?_
 refine Ws ?_
 refine Wi rfl (fun hi2=>?_) (fun hi2=>?_)
 ·have hlt:k<a.length:=by have:=oT hi2;omega
  refine Wj ?_
  refine Ws ?_
  refine Wl ?_
  refine zu2 ?_
  refine Ws ?_
  refine ai [0,0,0,1,0,0,0,1,0] [0,1,2,3,4,5,6,7,8] mG rfl (by kernel_rfl) ?_
  iterate 2 refine z3 ?_
  refine Xi tG rfl rfl rfl rfl (fun _=>rfl) (by omega) (iN af 1 (fun _=>rfl) 0 (by omega)) ?_
  refine z5 ?_
  iterate 2 refine z3 ?_
  refine Xi tG rfl rfl rfl rfl (fun _=>rfl) (by omega) (iN af 1 (fun _=>rfl) 0 (by omega)) ?_
  refine z5 ?_
  refine z3 ?_
  refine ah ?_
  refine Wi rfl (fun hi3=>?_) (fun hi3=>?_)
  ·have hne:a≠b:=uD 0 (k:=k) (by simpa using hi3)
   refine zu1 ?_
   refine zR ?_
   exact congrArg boo (decide_eq_false hne).symm
  have he:a.getD k 0=b.getD k 0:=by simpa using hi3
  refine Wj ?_
  refine aa rfl ?_
  refine zs2 ?_
  exact⟨k+1,[],(by exact⟨by omega,eL 0 hl hlt hk.2 he⟩),(by omega),bu⟩
 have hge:a.length≤k:=by have:=oF hi2;omega
 refine aN ?_
 refine zu1 ?_
 refine zR ?_
 exact congrArg boo (decide_eq_true (by have h1:=hk.2;rw[bk a k hge,bk b k (by omega)]at h1;exact h1)).symm
theorem FM(a b:List dE)(ha:a.length≤1000000)(hb:b.length≤1000000):ab Tryz.prog 76 [sq bA a,sq bA b] (boo (decide (a=b))):=by
 refine pW tG (rs:=[.tmp 4]) Tryz.func76 rfl rfl rfl (by simp) (by simp) (fun B=>?_)
 refine zu1 ?_
 refine Ws ?_
 refine zu5 ?_
 refine Wi rfl (fun hi1=>?_) (fun hi1=>?_)
 ·have hne:a≠b:=fun h=>by subst h;simp at hi1
  refine zu1 ?_
  refine zR ?_
  exact congrArg boo (decide_eq_false hne).symm
 have hl:a.length=b.length:=by(try simp only[dnL]at *);omega
 refine Wj ?_
 refine Ws ?_
 refine zu3 ?_
 refine Wl ?_
 show W _ _ _ _ _ _ _
 refine bG (fun(k:Nat)=>[(0,sq bA a),(1,sq bA b),(12,i64 a.length),(13,i64 k)]) (fun(k:Nat)=>[]) (fun(k:Nat)=>[]) (fun(k:Nat)=>k≤a.length∧a.take k=b.take k) (fun(k:Nat)=>a.length-k) (0) (by simp) [] ?_ ?_
 ·exact bu
 intro k hk
 refine zu1 ?_
 refine Ws ?_
 refine Wi rfl (fun hi2=>?_) (fun hi2=>?_)
 ·have hlt:k<a.length:=by have:=oT hi2;omega
  refine Wj ?_
  refine Ws ?_
  refine Wl ?_
  refine zu2 ?_
  refine Ws ?_
  refine ai [0,0,0,1,0,0,0,1,0] [0,1,2,3,4,5,6,7,8] mG rfl (by kernel_rfl) ?_
  iterate 2 refine z3 ?_
  refine Xi tG rfl rfl rfl rfl (fun _=>rfl) (by omega) (iN bA 3 (fun _=>rfl) default (by omega)) ?_
  refine z5 ?_
  iterate 2 refine z3 ?_
  refine Xi tG rfl rfl rfl rfl (fun _=>rfl) (by omega) (iN bA 3 (fun _=>rfl) default (by omega)) ?_
  refine z5 ?_
  refine cI rfl rfl rfl rfl (fun _=>dM rfl rfl rfl rfl rfl (by kernel_rfl)) ?_
  refine ah ?_
  refine Wi rfl (fun hi3=>?_) (fun hi3=>?_)
  ·have hne:a≠b:=fun h=>by have h1:=g7 hi3;rw[h]at h1;exact absurd ((Bu _).symm.trans h1) (by simp)
   refine zu1 ?_
   refine zR ?_
   exact congrArg boo (decide_eq_false hne).symm
  have he:a.getD k default=b.getD k default:=JW (ig hi3)
  refine Wj ?_
  refine aa rfl ?_
  refine zs2 ?_
  exact⟨k+1,[],(by exact⟨by omega,eL default hl hlt hk.2 he⟩),(by omega),bu⟩
 have hge:a.length≤k:=by have:=oF hi2;omega
 refine aN ?_
 refine zu1 ?_
 refine zR ?_
 exact congrArg boo (decide_eq_true (by have h1:=hk.2;rw[bk a k hge,bk b k (by omega)]at h1;exact h1)).symm
theorem Lr(a b:List fZ)(ha:a.length≤1000000)(hb:b.length≤1000000):ab Tryz.prog 80 [sq ez a,sq ez b] (boo (decide (a=b))):=by
 refine pW tG (rs:=[.tmp 4]) Tryz.func80 rfl rfl rfl (by simp) (by simp) (fun B=>?_)
 refine zu1 ?_
 refine Ws ?_
 refine zu5 ?_
 refine Wi rfl (fun hi1=>?_) (fun hi1=>?_)
 ·have hne:a≠b:=fun h=>by subst h;simp at hi1
  refine zu1 ?_
  refine zR ?_
  exact congrArg boo (decide_eq_false hne).symm
 have hl:a.length=b.length:=by(try simp only[dnL]at *);omega
 refine Wj ?_
 refine Ws ?_
 refine zu3 ?_
 refine Wl ?_
 show W _ _ _ _ _ _ _
 refine bG (fun(k:Nat)=>[(0,sq ez a),(1,sq ez b),(12,i64 a.length),(13,i64 k)]) (fun(k:Nat)=>[]) (fun(k:Nat)=>[]) (fun(k:Nat)=>k≤a.length∧a.take k=b.take k) (fun(k:Nat)=>a.length-k) (0) (by simp) [] ?_ ?_
 ·exact bu
 intro k hk
 refine zu1 ?_
 refine Ws ?_
 refine Wi rfl (fun hi2=>?_) (fun hi2=>?_)
 ·have hlt:k<a.length:=by have:=oT hi2;omega
  refine Wj ?_
  refine Ws ?_
  refine Wl ?_
  refine zu2 ?_
  refine Ws ?_
  refine ai [0,0,0,1,0,0,0,1,0] [0,1,2,3,4,5,6,7,8] mG rfl (by kernel_rfl) ?_
  iterate 2 refine z3 ?_
  refine Xi tG rfl rfl rfl rfl (fun _=>rfl) (by omega) (iN ez 6 (fun _=>rfl) default (by omega)) ?_
  refine z5 ?_
  iterate 2 refine z3 ?_
  refine Xi tG rfl rfl rfl rfl (fun _=>rfl) (by omega) (iN ez 6 (fun _=>rfl) default (by omega)) ?_
  refine z5 ?_
  refine cI rfl rfl rfl rfl (fun _=>dM rfl rfl rfl rfl rfl (by kernel_rfl)) ?_
  refine ah ?_
  refine Wi rfl (fun hi3=>?_) (fun hi3=>?_)
  ·have hne:a≠b:=fun h=>by have h1:=g7 hi3;rw[h]at h1;exact absurd ((Af _).symm.trans h1) (by simp)
   refine zu1 ?_
   refine zR ?_
   exact congrArg boo (decide_eq_false hne).symm
  have he:a.getD k default=b.getD k default:=Hp (ig hi3)
  refine Wj ?_
  refine aa rfl ?_
  refine zs2 ?_
  exact⟨k+1,[],(by exact⟨by omega,eL default hl hlt hk.2 he⟩),(by omega),bu⟩
 have hge:a.length≤k:=by have:=oF hi2;omega
 refine aN ?_
 refine zu1 ?_
 refine zR ?_
 exact congrArg boo (decide_eq_true (by have h1:=hk.2;rw[bk a k hge,bk b k (by omega)]at h1;exact h1)).symm
theorem Kk(a b:List lK)(ha:a.length≤1000000)(hb:b.length≤1000000):ab Tryz.prog 81 [sq iG a,sq iG b] (boo (decide (a=b))):=by
 refine pW tG (rs:=[.tmp 4]) Tryz.func81 rfl rfl rfl (by simp) (by simp) (fun B=>?_)
 refine zu1 ?_
 refine Ws ?_
 refine zu5 ?_
 refine Wi rfl (fun hi1=>?_) (fun hi1=>?_)
 ·have hne:a≠b:=fun h=>by subst h;simp at hi1
  refine zu1 ?_
  refine zR ?_
  exact congrArg boo (decide_eq_false hne).symm
 have hl:a.length=b.length:=by(try simp only[dnL]at *);omega
 refine Wj ?_
 refine Ws ?_
 refine zu3 ?_
 refine Wl ?_
 show W _ _ _ _ _ _ _
 refine bG (fun(k:Nat)=>[(0,sq iG a),(1,sq iG b),(12,i64 a.length),(13,i64 k)]) (fun(k:Nat)=>[]) (fun(k:Nat)=>[]) (fun(k:Nat)=>k≤a.length∧a.take k=b.take k) (fun(k:Nat)=>a.length-k) (0) (by simp) [] ?_ ?_
 ·exact bu
 intro k hk
 refine zu1 ?_
 refine Ws ?_
 refine Wi rfl (fun hi2=>?_) (fun hi2=>?_)
 ·have hlt:k<a.length:=by have:=oT hi2;omega
  refine Wj ?_
  refine Ws ?_
  refine Wl ?_
  refine zu2 ?_
  refine Ws ?_
  refine ai [0,0,0,1,0,0,0,1,0] [0,1,2,3,4,5,6,7,8] mG rfl (by kernel_rfl) ?_
  iterate 2 refine z3 ?_
  refine Xi tG rfl rfl rfl rfl (fun _=>rfl) (by omega) (iN iG 4 (fun _=>rfl) default (by omega)) ?_
  refine z5 ?_
  iterate 2 refine z3 ?_
  refine Xi tG rfl rfl rfl rfl (fun _=>rfl) (by omega) (iN iG 4 (fun _=>rfl) default (by omega)) ?_
  refine z5 ?_
  refine cI rfl rfl rfl rfl (fun _=>dM rfl rfl rfl rfl rfl (by kernel_rfl)) ?_
  refine ah ?_
  refine Wi rfl (fun hi3=>?_) (fun hi3=>?_)
  ·have hne:a≠b:=fun h=>by have h1:=g7 hi3;rw[h]at h1;exact absurd ((wO _).symm.trans h1) (by simp)
   refine zu1 ?_
   refine zR ?_
   exact congrArg boo (decide_eq_false hne).symm
  have he:a.getD k default=b.getD k default:=DB (ig hi3)
  refine Wj ?_
  refine aa rfl ?_
  refine zs2 ?_
  exact⟨k+1,[],(by exact⟨by omega,eL default hl hlt hk.2 he⟩),(by omega),bu⟩
 have hge:a.length≤k:=by have:=oF hi2;omega
 refine aN ?_
 refine zu1 ?_
 refine zR ?_
 exact congrArg boo (decide_eq_true (by have h1:=hk.2;rw[bk a k hge,bk b k (by omega)]at h1;exact h1)).symm
theorem J3(a b:List gX)(ha:a.length≤1000000)(hb:b.length≤1000000):ab Tryz.prog 129 [sq c8 a,sq c8 b] (boo (decide (a=b))):=by
 refine pW tG (rs:=[.tmp 4]) Tryz.func129 rfl rfl rfl (by simp) (by simp) (fun B=>?_)
 refine zu1 ?_
 refine Ws ?_
 refine zu5 ?_
 refine Wi rfl (fun hi1=>?_) (fun hi1=>?_)
 ·have hne:a≠b:=fun h=>by subst h;simp at hi1
  refine zu1 ?_
  refine zR ?_
  exact congrArg boo (decide_eq_false hne).symm
 have hl:a.length=b.length:=by(try simp only[dnL]at *);omega
 refine Wj ?_
 refine Ws ?_
 refine zu3 ?_
 refine Wl ?_
 show W _ _ _ _ _ _ _
 refine bG (fun(k:Nat)=>[(0,sq c8 a),(1,sq c8 b),(12,i64 a.length),(13,i64 k)]) (fun(k:Nat)=>[]) (fun(k:Nat)=>[]) (fun(k:Nat)=>k≤a.length∧a.take k=b.take k) (fun(k:Nat)=>a.length-k) (0) (by simp) [] ?_ ?_
 ·exact bu
 intro k hk
 refine zu1 ?_
 refine Ws ?_
 refine Wi rfl (fun hi2=>?_) (fun hi2=>?_)
 ·have hlt:k<a.length:=by have:=oT hi2;omega
  refine Wj ?_
  refine Ws ?_
  refine Wl ?_
  refine zu2 ?_
  refine Ws ?_
  refine ai [0,0,0,1,0,0,0,1,0] [0,1,2,3,4,5,6,7,8] mG rfl (by kernel_rfl) ?_
  iterate 2 refine z3 ?_
  refine Xi tG rfl rfl rfl rfl (fun _=>rfl) (by omega) (iN c8 3 (fun _=>rfl) default (by omega)) ?_
  refine z5 ?_
  iterate 2 refine z3 ?_
  refine Xi tG rfl rfl rfl rfl (fun _=>rfl) (by omega) (iN c8 3 (fun _=>rfl) default (by omega)) ?_
  refine z5 ?_
  refine cI rfl rfl rfl rfl (fun _=>dM rfl rfl rfl rfl rfl (by kernel_rfl)) ?_
  refine ah ?_
  refine Wi rfl (fun hi3=>?_) (fun hi3=>?_)
  ·have hne:a≠b:=fun h=>by have h1:=g7 hi3;rw[h]at h1;exact absurd ((ET _).symm.trans h1) (by simp)
   refine zu1 ?_
   refine zR ?_
   exact congrArg boo (decide_eq_false hne).symm
  have he:a.getD k default=b.getD k default:=LW (ig hi3)
  refine Wj ?_
  refine aa rfl ?_
  refine zs2 ?_
  exact⟨k+1,[],(by exact⟨by omega,eL default hl hlt hk.2 he⟩),(by omega),bu⟩
 have hge:a.length≤k:=by have:=oF hi2;omega
 refine aN ?_
 refine zu1 ?_
 refine zR ?_
 exact congrArg boo (decide_eq_true (by have h1:=hk.2;rw[bk a k hge,bk b k (by omega)]at h1;exact h1)).symm
theorem qJ(a b:List UInt8):ab Tryz.prog 78 [sq av a,sq av b] (boo (decide (a=b))):=by
 refine pW tG (rs:=[.tmp 4]) Tryz.func78 rfl rfl rfl (by simp) (by simp) (fun B=>?_)
 refine zu1 ?_
 refine zp1 ?_
 refine Wd rfl rfl (bI (lO tG rfl) rfl (lO tG rfl) rfl (lO tG rfl) rfl rfl rfl) ?_
 refine z1 ?_
 refine Wd rfl rfl (bI (lO tG rfl) rfl (lO tG rfl) rfl (lO tG rfl) rfl rfl rfl) ?_
 refine z1 ?_
 refine zq 9 ?_
 refine zs1 ?_
 refine zR ?_
 rfl
theorem Cb(x y:gY):ab Tryz.prog 127 [.agg (cL x),.agg (cL y)] (boo (decide (x=y))):=by
 refine pW tG (rs:=[.tmp 4]) Tryz.func127 rfl rfl rfl (by simp) (by simp) (fun B=>?_)
 refine zu3 ?_
 refine zp5 ?_
 refine z1 ?_
 refine Wb 10 rfl (fun hg1=>?_) (fun hg1=>?_)
 ·refine zy4 ?_
  refine zc rfl Tryz.func78 ((qJ x.old y.old) _) ?_
  refine zs2 ?_
  refine zR ?_
  refine congrArg boo ?_;cases x;cases y;simp_all
 refine z6 ?_
 iterate 4 refine z6 ?_
 refine zs2 ?_
 refine zR ?_
 refine congrArg boo ?_;cases x;cases y;simp_all
@[simp] theorem S1 (f : Fn) : aQ (.fn f [] []) := by unfold aQ; exact ⟨by simp [aL], by simp [aL]⟩
theorem Cm(a b:List gY)(ha:a.length≤1000000)(hb:b.length≤1000000):ab Tryz.prog 128 [sq cL a,sq cL b,.fn (.func 127) [] []] (boo (decide (a=b))):=by
 refine pW tG (rs:=[.tmp 6]) Tryz.func128 rfl rfl rfl (by simp) (by simp) (fun B=>?_)
 refine zu1 ?_
 refine Ws ?_
 refine zu5 ?_
 refine Wi rfl (fun hi1=>?_) (fun hi1=>?_)
 ·have hne:a≠b:=fun h=>by subst h;simp at hi1
  refine zu1 ?_
  refine zR ?_
  exact congrArg boo (decide_eq_false hne).symm
 have hl:a.length=b.length:=by(try simp only[dnL]at *);omega
 refine Wj ?_
 refine Ws ?_
 refine zu3 ?_
 refine Wl ?_
 show W _ _ _ _ _ _ _
 refine bG (fun(k:Nat)=>[(1,sq cL b),(2,.fn (.func 127) [] []),(15,sq cL a),(16,i64 a.length),(17,i64 k)]) (fun(k:Nat)=>[]) (fun(k:Nat)=>[]) (fun(k:Nat)=>k≤a.length∧a.take k=b.take k) (fun(k:Nat)=>a.length-k) (0) (by simp) [] ?_ ?_
 ·exact bu
 intro k hk
 refine zu1 ?_
 refine Ws ?_
 refine Wi rfl (fun hi2=>?_) (fun hi2=>?_)
 ·have hlt:k<a.length:=by have:=oT hi2;omega
  refine Wj ?_
  refine Ws ?_
  refine Wl ?_
  refine zp1 ?_
  refine Wv tG rfl rfl rfl (by omega) (iN cL 2 (fun _=>rfl) default (by omega)) ?_
  refine zs4 ?_
  refine zp2 ?_
  refine Wv tG rfl rfl rfl (by omega) (iN cL 2 (fun _=>rfl) default (by omega)) ?_
  refine zs3 ?_
  refine zp3 ?_
  refine Wc rfl rfl (dq rfl rfl Tryz.func127 rfl rfl ((Cb (a.getD k default) (b.getD k default)) _)) ?_
  refine zs1 ?_
  refine Wi rfl (fun hi3=>?_) (fun hi3=>?_)
  ·have hne:a≠b:=uD default (k:=k) (by simpa using hi3)
   refine zu1 ?_
   refine zR ?_
   exact congrArg boo (decide_eq_false hne).symm
  have he:a.getD k default=b.getD k default:=by simpa using hi3
  refine Wj ?_
  refine aa rfl ?_
  refine zs2 ?_
  exact⟨k+1,[],(by exact⟨by omega,eL default hl hlt hk.2 he⟩),(by omega),bu⟩
 have hge:a.length≤k:=by have:=oF hi2;omega
 refine aN ?_
 refine zu1 ?_
 refine zR ?_
 exact congrArg boo (decide_eq_true (by have h1:=hk.2;rw[bk a k hge,bk b k (by omega)]at h1;exact h1)).symm
theorem HK(a b:aV)(ha:a.old.length≤1000000)(hb:b.old.length≤1000000):ab Tryz.prog 74 [dr a,dr b] (boo (decide (a=b))):=by
 refine pW tG (rs:=[.tmp 4]) Tryz.func74 rfl rfl rfl (by simp) (by simp) (fun B=>?_)
 refine zu3 ?_
 refine zu1 ?_
 refine zp4 ?_
 refine zc rfl Tryz.func78 ((qJ a.b b.b) _) ?_
 refine z1 ?_
 refine Wb 11 rfl (fun hg1=>?_) (fun hg1=>?_)
 ·refine zy5 ?_
  refine zc rfl Tryz.func128 ((Cm a.old b.old ha hb) _) ?_
  refine zs2 ?_
  refine zR ?_
  refine congrArg boo ?_;cases a;cases b;simp_all
 refine z6 ?_
 iterate 5 refine z6 ?_
 refine zs2 ?_
 refine zR ?_
 refine congrArg boo ?_;cases a;cases b;simp_all
theorem Fd(a b:List gX)(ha:a.length≤1000000)(hb:b.length≤1000000):ab Tryz.prog 77 [sq c8 a,sq c8 b] (boo (decide (a=b))):=by
 refine pW tG (rs:=[.tmp 4]) Tryz.func77 rfl rfl rfl (by simp) (by simp) (fun B=>?_)
 refine zu1 ?_
 refine zp2 ?_
 refine zc rfl Tryz.func129 ((J3 a b ha hb) _) ?_
 refine zs1 ?_
 refine zR ?_
 rfl
theorem Ll(a b:ca):ab Tryz.prog 79 [jY a,jY b] (boo (decide (a=b))):=by
 refine pW tG (rs:=[.tmp 4]) Tryz.func79 rfl rfl rfl (by simp) (by simp) (fun B=>?_)
 refine zu3 ?_
 refine zp5 ?_
 refine z1 ?_
 refine Wb 10 rfl (fun hg1=>?_) (fun hg1=>?_)
 ·refine zy4 ?_
  refine zc rfl Tryz.func78 ((qJ a.b b.b) _) ?_
  refine zs2 ?_
  refine zR ?_
  refine congrArg boo ?_;cases a;cases b;simp_all
 refine z6 ?_
 iterate 4 refine z6 ?_
 refine zs2 ?_
 refine zR ?_
 refine congrArg boo ?_;cases a;cases b;simp_all
end Go.Proofs.YtiibjcnedbncjaaGreatDoor
namespace Go.Proofs.YtiibjcnedbncjaaGreatDoor
open Go.RowKit Go.Extern.Stop Go.Stop Go.Extern
def atV(xt:Int)(v:Value):Value:=.iface 71 (.agg #[.int .i64 xt,v])
def Mf(c:Int):Value:=.iface 73 (.agg #[.int .i64 c])
def rtV(n:Nat):Value:=.agg #[.pointer (some ⟨5,n,none⟩)]
theorem w9(n:Nat)(v:Value)(w:World):(ReflectliteType.typeOf #[.iface 342 v]).run Tryz.prog w=.ok (.iface 164 (rtV 342)) w:=by kernel_rfl
theorem HN(w:World):(callFunc 370 #[rtV 342]).run Tryz.prog w=.ok (.value (.bool true)) w :=
 (@run_callFunc_extern Tryz.prog 370 _ (ReflectliteType.method fun t => do Rtype.noPackHeld "Comparable" t; pure (.bool (← typeInfo t).comparable)) Tryz.func370 (by kernel_rfl) (by kernel_rfl) (by kernel_rfl) (by kernel_rfl) _ w).trans (by kernel_rfl)
theorem ol (v : Value) (w : World) : (Go.method 472 164 v "Comparable").run Tryz.prog w = .ok (370, v) w := by kernel_rfl
theorem L9:(Tryz.prog.info? 342).map (·.comparable)=some true:=by kernel_rfl
theorem MT:(Tryz.prog.info? 360).map (·.size)=some 1:=by kernel_rfl
theorem AJ(v:Value)(xT:TypeId)(w:World):(Instr.typeAssert (.iface 71 v) xT 166 true).run Tryz.prog w=.ok (.tuple #[.nilIface,.bool false]) w:=run_typeAssert_lacksB (Tryz.underlying166) (by kernel_rfl) (by kernel_rfl) v xT w
theorem Jv(v:Value)(xT:TypeId)(w:World):(Instr.typeAssert (.iface 73 v) xT 166 true).run Tryz.prog w=.ok (.tuple #[.nilIface,.bool false]) w:=run_typeAssert_lacksB (Tryz.underlying166) (by kernel_rfl) (by kernel_rfl) v xT w
theorem pk(v:Value)(xT:TypeId)(w:World):(Instr.typeAssert (.iface 71 v) xT 169 true).run Tryz.prog w=.ok (.tuple #[.iface 71 v,.bool true]) w:=run_typeAssert_hasB (Tryz.underlying169) (by kernel_rfl) v xT w
theorem Kz(v:Value)(xT:TypeId)(w:World):(Instr.typeAssert (.iface 73 v) xT 169 true).run Tryz.prog w=.ok (.tuple #[.nilIface,.bool false]) w:=run_typeAssert_lacksB (Tryz.underlying169) (by kernel_rfl) (by kernel_rfl) v xT w
theorem ES(v:Value)(xT:TypeId)(w:World):(Instr.typeAssert (.iface 73 v) xT 171 true).run Tryz.prog w=.ok (.tuple #[.nilIface,.bool false]) w:=run_typeAssert_lacksB (Tryz.underlying171) (by kernel_rfl) (by kernel_rfl) v xT w
theorem pU (v : Value) (w : World) : (Go.method 472 71 v "Unwrap").run Tryz.prog w = .ok (363, v) w := by kernel_rfl
theorem KK(a:Addr)(xt:Int)(v:Value)(w:World):Calls Tryz.prog 363 #[.agg #[.int .i64 xt,v]] w fun e w'=>e=.returned v∧w'=w.alloc (.cells #[.int .i64 xt,v] 71):=by
 go_enter Tryz.func363,Tryz.ntmps363
 go_wp2
 go_ret
 exact⟨rfl,rfl⟩
theorem Pl(a:Addr)(xt:Int)(w:World):
  Calls Tryz.prog 26 #[atV xt (haltV a),haltV a] w fun e w'=>e=.returned (.bool true)∧bg w w':=by
 obtain⟨i,hi,hcmp⟩:=Option.map_eq_some_iff.1 L9
 obtain⟨j,hj,hjs⟩:=Option.map_eq_some_iff.1 MT
 have h8:=@run_callFunc_extern Tryz.prog 55 _ ReflectliteType.typeOf Tryz.func55 (by kernel_rfl) (by kernel_rfl) (by kernel_rfl) (by kernel_rfl)
 have h32:=HN
 have tT:=w9 0
 have mR:=ol
 have nA:=AJ
 have uA:=pk
 have mU:=pU
 have heq:=run_eql_iface_ptr_same (P:=Tryz.prog) (w.alloc (.cells #[.int .i64 xt,.iface 342 (.pointer (some a))] 71)) a Tryz.underlying65 Tryz.underlying342 hi hcmp hj
 have hty:=run_eql_iface_types (P:=Tryz.prog) 71 342 (.agg #[.int .i64 xt,.iface 342 (.pointer (some a))]) (.pointer (some a)) Tryz.underlying65 (by decide) w
 unfold atV haltV
 unfold rtV at *
 go_enter Tryz.func26,Tryz.ntmps26
 go_wp2
 refine wp_loop_rounds 2 ?_
 rw[rounds_succ]
 go_wp2_with (go_at_call 363;refine(KK a _ _ _).mono ?_;rintro e w' ⟨rfl,rfl⟩)
 rw[rounds_succ]
 go_wp2
 go_ret
 exact⟨rfl,bg.alloc _ _⟩
theorem P3(a:Addr)(xt c:Int)(w:World):
  Calls Tryz.prog 26 #[atV xt (Mf c),haltV a] w fun e w'=>e=.returned (.bool false)∧bg w w':=by
 have h8:=@run_callFunc_extern Tryz.prog 55 _ ReflectliteType.typeOf Tryz.func55 (by kernel_rfl) (by kernel_rfl) (by kernel_rfl) (by kernel_rfl)
 have h32:=HN
 have tT:=w9 0
 have mR:=ol
 have nA:=AJ
 have nT:=Jv
 have uA:=pk
 have uT:=Kz
 have vT:=ES
 have mU:=pU
 have hty:=run_eql_iface_types (P:=Tryz.prog) 71 342 (.agg #[.int .i64 xt,.iface 73 (.agg #[.int .i64 c])]) (.pointer (some a)) Tryz.underlying65 (by decide) w
 have hty2:=run_eql_iface_types (P:=Tryz.prog) 73 342 (.agg #[.int .i64 c]) (.pointer (some a)) Tryz.underlying65 (by decide) (w.alloc (.cells #[.int .i64 xt,.iface 73 (.agg #[.int .i64 c])] 71))
 unfold atV Mf haltV
 unfold rtV at *
 go_enter Tryz.func26,Tryz.ntmps26
 go_wp2
 refine wp_loop_rounds 2 ?_
 rw[rounds_succ]
 go_wp2_with (go_at_call 363;refine(KK a _ _ _).mono ?_;rintro e w' ⟨rfl,rfl⟩)
 rw[rounds_succ]
 go_wp2
 go_ret
 exact⟨rfl,bg.alloc _ _⟩
end Go.Proofs.YtiibjcnedbncjaaGreatDoor
namespace Go.Proofs.YtiibjcnedbncjaaGreatDoor
open Go.RowKit Go.Extern.Stop Go.Stop Go.Extern
theorem BK(t:Addr)(w:World):(ReflectliteValue.unpack (.iface 76 (.pointer (some t)))).run Tryz.prog w
  = .ok (.agg #[.pointer (some ⟨5,76,none⟩),.pointer (some ⟨w.heap.size,0,none⟩),.int .u64 150]) (w.alloc (.cells #[.pointer (some t)] 76)):=by kernel_rfl
theorem Nc (a : Addr) (w : World) : (ReflectliteValue.methodAny (ReflectliteValue.valueError "reflectlite.Value.Type" 0) (fun t _ _ _ => ReflectliteType.toType t) #[.agg #[.pointer (some ⟨5, 76, none⟩), .pointer (some a), .int .u64 150]]).run Tryz.prog w
  = .ok (.iface 164 (.agg #[.pointer (some ⟨5,76,none⟩)])) w:=by kernel_rfl
theorem ID (h : Value) (w : World) : (Go.method 472 164 (.agg #[h]) "Kind").run Tryz.prog w = .ok (359, h) w := by kernel_rfl
theorem KE(w:World):((ReflectliteType.abiMethod fun t=>(fun a:Nat=>Value.int IntKind.u8 (a:Int)) <$> Rtype.kind t) #[.pointer (some ⟨5,76,none⟩)]).run Tryz.prog w=.ok (.int .u8 22) w:=by kernel_rfl
theorem KH(w:World):((ReflectliteType.abiMethod fun t=>(fun a:Nat=>Value.int IntKind.u8 (a:Int)) <$> Rtype.kind t) #[.pointer (some ⟨5,73,none⟩)]).run Tryz.prog w=.ok (.int .u8 25) w:=by kernel_rfl
theorem K4(z:Sem Value)(f:TypeId→Addr→Nat→Nat→Sem Value)(v:Value):
  ReflectliteValue.method z f #[v]=(do match ←ReflectliteValue.parts v with|none=>z|some (t,a,fl)=>f t a fl (fl%32)):=rfl
theorem wy(a:Addr)(w:World):(ReflectliteValue.parts (.agg #[.pointer (some ⟨5,76,none⟩),.pointer (some a),.int .u64 150])).run Tryz.prog w=.ok (some (76,a,150)) w:=by kernel_rfl
theorem Lo(a p:Addr)(W:World)(ha:W.cell? a=some (.pointer (some p))):
  (ReflectliteValue.method (ReflectliteValue.valueError "reflectlite.Value.IsNil" 0) ReflectliteValue.isNil #[.agg #[.pointer (some ⟨5, 76, none⟩), .pointer (some a), .int .u64 150]]).run Tryz.prog W = .ok (.bool false) W := by
 rw[K4]
 simp only[Sem.run_bind,wy,Result.andThen]
 simp[ReflectliteValue.isNil,loadVar,isAgg,underlying,Tryz.underlying76,ha,Result.andThen]
theorem KC (h : Value) (w : World) : (Go.method 472 164 (.agg #[h]) "Elem").run Tryz.prog w = .ok (371, .agg #[h]) w := by kernel_rfl
theorem Ih (h : Value) (w : World) : (Go.method 472 164 (.agg #[h]) "Implements").run Tryz.prog w = .ok (372, .agg #[h]) w := by kernel_rfl
theorem Cg (h : Value) (w : World) : (Go.method 472 164 (.agg #[h]) "AssignableTo").run Tryz.prog w = .ok (369, .agg #[h]) w := by kernel_rfl
theorem Mp(w:World):(ReflectliteType.method ReflectliteType.elem #[.agg #[.pointer (some ⟨5,76,none⟩)]]).run Tryz.prog w=.ok (.iface 164 (.agg #[.pointer (some ⟨5,73,none⟩)])) w:=by kernel_rfl
theorem Nq (w : World) : (ReflectliteType.relation "Implements" ReflectliteType.implements_ #[.agg #[.pointer (some ⟨5, 73, none⟩)], .iface 164 (.agg #[.pointer (some ⟨5, 65, none⟩)])]).run Tryz.prog w = .ok (.bool true) w := by kernel_rfl
theorem Jp(v:Value)(w:World):(ReflectliteType.typeOf #[.iface 71 v]).run Tryz.prog w=.ok (.iface 164 (.agg #[.pointer (some ⟨5,71,none⟩)])) w:=by kernel_rfl
theorem Kn(v:Value)(w:World):(ReflectliteType.typeOf #[.iface 73 v]).run Tryz.prog w=.ok (.iface 164 (.agg #[.pointer (some ⟨5,73,none⟩)])) w:=by kernel_rfl
theorem Nb (w : World) : (ReflectliteType.relation "AssignableTo" ReflectliteType.assignableTo #[.agg #[.pointer (some ⟨5, 71, none⟩)], .iface 164 (.agg #[.pointer (some ⟨5, 73, none⟩)])]).run Tryz.prog w = .ok (.bool false) w := by kernel_rfl
theorem ML (w : World) : (ReflectliteType.relation "AssignableTo" ReflectliteType.assignableTo #[.agg #[.pointer (some ⟨5, 73, none⟩)], .iface 164 (.agg #[.pointer (some ⟨5, 73, none⟩)])]).run Tryz.prog w = .ok (.bool true) w := by kernel_rfl
theorem Ng(v:Value)(xT:TypeId)(w:World):(Instr.typeAssert (.iface 71 v) xT 176 true).run Tryz.prog w=.ok (.tuple #[.nilIface,.bool false]) w:=run_typeAssert_lacksB (Tryz.underlying176) (by kernel_rfl) (by kernel_rfl) v xT w
theorem E3(c:Int)(w:World):(ReflectliteValue.unpack (.iface 73 (.agg #[.int .i64 c]))).run Tryz.prog w
  = .ok (.agg #[.pointer (some ⟨5,73,none⟩),.pointer (some ⟨w.heap.size,0,none⟩),.int .u64 153]) (w.alloc (.cells #[.int .i64 c] 73)):=by kernel_rfl
theorem Gx(w:World):(Rtype.elem? 76).run Tryz.prog w=.ok (some 73) w:=by kernel_rfl
theorem SU(p:Addr)(w:World):(ReflectliteValue.mk 73 p ReflectliteValue.flagAddr).run Tryz.prog w=.ok (.agg #[.pointer (some ⟨5,73,none⟩),.pointer (some p),.int .u64 409]) w:=by kernel_rfl
theorem Hy(a p:Addr)(W:World)(ha:W.cell? a=some (.pointer (some p))):
  (ReflectliteValue.method (ReflectliteValue.valueError "reflectlite.Value.Elem" 0) ReflectliteValue.elem #[.agg #[.pointer (some ⟨5, 76, none⟩), .pointer (some a), .int .u64 150]]).run Tryz.prog W
   = .ok (.agg #[.pointer (some ⟨5,73,none⟩),.pointer (some p),.int .u64 409]) W:=by
 rw[K4]
 simp only[Sem.run_bind,wy,Result.andThen]
 simp[ReflectliteValue.elem,loadVar,isAgg,underlying,Tryz.underlying76,ha,Result.andThen,Gx,SU]
theorem Fh(a:Addr)(w:World):(ReflectliteValue.parts (.agg #[.pointer (some ⟨5,73,none⟩),.pointer (some a),.int .u64 409])).run Tryz.prog w=.ok (some (73,a,409)) w:=by kernel_rfl
theorem Gs(a:Addr)(w:World):(ReflectliteValue.parts (.agg #[.pointer (some ⟨5,73,none⟩),.pointer (some a),.int .u64 153])).run Tryz.prog w=.ok (some (73,a,153)) w:=by kernel_rfl
theorem Fk(w:World):(Rtype.directlyAssignable 73 73).run Tryz.prog w=.ok true w:=by kernel_rfl
theorem QB(v x:Value):ReflectliteValue.set #[v,x]=(do
  let (some (dst,a,fl),some (src,b,_)):=(←ReflectliteValue.parts v,←ReflectliteValue.parts x)
   | unsupported (.noEntry "extern/(internal/reflectlite.Value).Set.zeroValue")
  if fl / ReflectliteValue.flagAddr % 2 == 0 then unsupported (.noEntry "extern/(internal/reflectlite.Value).Set.unaddressable")
  let val ←loadVar src b
  if ←Rtype.directlyAssignable dst src then storeVar dst a val
  else if ←Rtype.implements dst src then
   if (←Rtype.kind src)==20 then
    match val with
    | .nilIface => unsupported (.noEntry "extern/reflectlite: a nil value of one interface type handed on as a value of another")
    | _=>storeVar dst a val
   else storeVar dst a (.iface src val)
  else panicString ("reflectlite.Set: value of type " ++ (← Rtype.spelt src) ++ " is not assignable to type " ++ (← Rtype.spelt dst))
  pure (.tuple #[])):=rfl
theorem Dl(w:World):(sizeOf 73).run Tryz.prog w=.ok 1 w:=by kernel_rfl
theorem OM(ta b:Addr)(c:Int)(old:Value)(W:World)(hb:W.cell? b=some (.int .i64 c))(ht:W.cell? ta=some old)(hf:W.frozen? ta=false):
  (ReflectliteValue.set #[.agg #[.pointer (some ⟨5,73,none⟩),.pointer (some ta),.int .u64 409],.agg #[.pointer (some ⟨5,73,none⟩),.pointer (some b),.int .u64 153]]).run Tryz.prog W
   = .ok (.tuple #[]) (W.setCell ta (.int .i64 c)):=by
 have hl:(loadVar 73 b).run Tryz.prog W=.ok (.agg #[.int .i64 c]) W:=by
  have h1:=run_loadCells_list (P:=Tryz.prog) W b [.int .i64 c] (fun j v hj=>by
   match j,hj with
   | 0,hj=>cases hj;rw[show b.add 0=b from by simp[Addr.add]];exact hb
   | j+1,hj=>simp at hj)
  unfold loadVar
  have h2:(loadCells b 1).run Tryz.prog W=.ok #[.int .i64 c] W:=by simpa using h1
  simp[isAgg,underlying,Tryz.underlying73,Result.andThen,Dl,h2]
 have hs:(storeVar 73 ta (.agg #[.int .i64 c])).run Tryz.prog W=.ok () (W.setCell ta (.int .i64 c)):=by
  simp[storeVar,Value.cells,storeCells,Addr.add,Dl,Result.andThen]
  rw[run_store Tryz.prog W ta _ _ (by rfl)]
  simp[ht,hf]
 rw[QB]
 simp only[Sem.run_bind,Fh,Gs,Result.andThen]
 simp[ReflectliteValue.flagAddr,hl,hs,Result.andThen,Fk]
theorem Pf(xt c:Int)(t:Addr)(old:Value)(w:World)(hg:w.cell? ⟨1,0,none⟩=some (.iface 164 (.agg #[.pointer (some ⟨5,65,none⟩)])))(ht0:w.cell? t=some old)(hf0:w.frozen? t=false):
  Calls Tryz.prog 27 #[.iface 71 (.agg #[.int .i64 xt,.iface 73 (.agg #[.int .i64 c])]),.iface 76 (.pointer (some t))] w fun ev w'=>ev=.returned (.bool true)∧∃w1,bg w w1∧w'=w1.setCell t (.int .i64 c):=by
 have h6:=@run_callFunc_extern Tryz.prog 57 _ (fun args=>ReflectliteValue.unpack (args.getD 0 (.tuple #[]))) Tryz.func57 (by kernel_rfl) (by kernel_rfl) (by kernel_rfl) (by kernel_rfl)
 have h7 := @run_callFunc_extern Tryz.prog 58 _ (ReflectliteValue.methodAny (ReflectliteValue.valueError "reflectlite.Value.Type" 0) (fun t _ _ _ => ReflectliteType.toType t)) Tryz.func58 (by kernel_rfl) (by kernel_rfl) (by kernel_rfl) (by kernel_rfl)
 have h8 := @run_callFunc_extern Tryz.prog 59 _ (ReflectliteValue.method (ReflectliteValue.valueError "reflectlite.Value.IsNil" 0) ReflectliteValue.isNil) Tryz.func59 (by kernel_rfl) (by kernel_rfl) (by kernel_rfl) (by kernel_rfl)
 have h27:=@run_callFunc_extern Tryz.prog 359 _ (ReflectliteType.abiMethod fun t=>do pure (.int .u8 (←Rtype.kind t))) Tryz.func359 (by kernel_rfl) (by kernel_rfl) (by kernel_rfl) (by kernel_rfl)
 have h37:=@run_callFunc_extern Tryz.prog 371 _ (ReflectliteType.method ReflectliteType.elem) Tryz.func371 (by kernel_rfl) (by kernel_rfl) (by kernel_rfl) (by kernel_rfl)
 have h38 := @run_callFunc_extern Tryz.prog 372 _ (ReflectliteType.relation "Implements" ReflectliteType.implements_) Tryz.func372 (by kernel_rfl) (by kernel_rfl) (by kernel_rfl) (by kernel_rfl)
 have h10:=@run_callFunc_extern Tryz.prog 55 _ ReflectliteType.typeOf Tryz.func55 (by kernel_rfl) (by kernel_rfl) (by kernel_rfl) (by kernel_rfl)
 have h35 := @run_callFunc_extern Tryz.prog 369 _ (ReflectliteType.relation "AssignableTo" ReflectliteType.assignableTo) Tryz.func369 (by kernel_rfl) (by kernel_rfl) (by kernel_rfl) (by kernel_rfl)
 have h11 := @run_callFunc_extern Tryz.prog 109 _ (ReflectliteValue.method (ReflectliteValue.valueError "reflectlite.Value.Elem" 0) ReflectliteValue.elem) Tryz.func109 (by kernel_rfl) (by kernel_rfl) (by kernel_rfl) (by kernel_rfl)
 have h12:=@run_callFunc_extern Tryz.prog 110 _ ReflectliteValue.set Tryz.func110 (by kernel_rfl) (by kernel_rfl) (by kernel_rfl) (by kernel_rfl)
 have tA:=Jp
 have tT:=Kn
 have mA:=Cg
 have aA:=Nb
 have aT:=ML
 have vT:=E3
 have f6:=BK
 have f7:=Nc
 have mK:=ID
 have mE:=KC
 have mI:=Ih
 have kP:=KE
 have kT:=KH
 have eP:=Mp
 have iT:=Nq
 have nA:=Ng
 have uA:=pk
 have mU:=pU
 have hlt:1<w.heap.size:=by
  rcases Nat.lt_or_ge 1 w.heap.size with h|h
  ·exact h
  simp[World.cell?,Array.getElem?_eq_none h]at hg
 have htl:t.block<w.heap.size:=by
  rcases Nat.lt_or_ge t.block w.heap.size with h|h
  ·exact h
  simp[World.cell?,Array.getElem?_eq_none h]at ht0
 let A1:Obj:=.cells #[.pointer (some t)] 76
 let A2:Obj:=.cells #[.pointer (some ⟨5,76,none⟩),.pointer (some ⟨w.heap.size,0,none⟩),.int .u64 150] 117
 let A4:Obj:=.cells #[.int .i64 xt,.iface 73 (.agg #[.int .i64 c])] 71
 let A5:Obj:=.cells #[.int .i64 c] 73
 have n8:=Lo ⟨w.heap.size,0,none⟩ t ((w.alloc A1).alloc A2) (by simp[A1])
 have hg2:((w.alloc A1).alloc A2).cell? ⟨1,0,none⟩=some (.iface 164 (.agg #[.pointer (some ⟨5,65,none⟩)])):=by
  rw[World.cell?_alloc_lt _ _ ⟨1,0,none⟩ (by simp;omega),World.cell?_alloc_lt _ _ ⟨1,0,none⟩ hlt];exact hg
 have el:=Hy ⟨w.heap.size,0,none⟩ t ((((w.alloc A1).alloc A2).alloc A2).alloc A4) (by rw[World.cell?_alloc_lt _ _ ⟨w.heap.size,0,none⟩ (by simp;omega),World.cell?_alloc_lt _ _ ⟨w.heap.size,0,none⟩ (by simp;omega)];simp[A1])
 have st:=OM t ⟨w.heap.size+1+1+1+1,0,none⟩ c old (((((w.alloc A1).alloc A2).alloc A2).alloc A4).alloc A5)
  (by rw[World.cell?_alloc_at _ _ _ _ (by simp)];rfl)
  (by rw[World.cell?_alloc_lt _ _ t (by simp;omega),World.cell?_alloc_lt _ _ t (by simp;omega),World.cell?_alloc_lt _ _ t (by simp;omega),World.cell?_alloc_lt _ _ t (by simp;omega),World.cell?_alloc_lt _ _ t htl];exact ht0)
  (by rw[World.frozen?_alloc_old _ _ t (by simp;omega),World.frozen?_alloc_old _ _ t (by simp;omega),World.frozen?_alloc_old _ _ t (by simp;omega),World.frozen?_alloc_old _ _ t (by simp;omega),World.frozen?_alloc_old _ _ t (Nat.ne_of_lt htl)];exact hf0)
 simp only[A1,A2,A4,A5]at n8 hg2 el st
 clear A1 A2 A4 A5
 go_enter Tryz.func27,Tryz.ntmps27
 go_wp2
 refine wp_loop_rounds 2 ?_
 rw[rounds_succ]
 go_wp2_with (go_at_call 363;refine(KK t xt _ _).mono ?_;rintro e w' ⟨rfl,rfl⟩)
 rw[rounds_succ]
 go_wp2
 go_ret
 exact⟨rfl,_,((((bg.alloc _ _).trans (bg.alloc _ _)).trans (bg.alloc _ _)).trans (bg.alloc _ _)).trans (bg.alloc _ _),rfl⟩
open Go.RowKit
section
variable (a : Addr) (k : PW) {M : Nat} (h : KX M k) (hM : M ≤ 900000)
include h
theorem iy(n:Int):∀(H:List Ob) (i:Nat),H[i]?=some (.cells (cPW a k) 67)→HC Tryz.prog 49 (.ptr i 0::[i64 n]) H (.tup []) (H.set i (.cells (cPW a (cA k n)) 67)):=by
 refine aO tG (rs:=[]) Tryz.func49 rfl rfl rfl (by simp) (by simp) (by simp) (by simp) (fun B=>?_)
 refine aa rfl ?_
 refine zy5 ?_
 refine zy2 ?_
 refine zc rfl Tryz.func97 ((LS k.r.vm n (by have:=h.v.d;omega) (ui h.v).1) _) ?_
 refine zy2 ?_
 refine zc rfl Tryz.func46 ((mQ a k _ _) _ _ rfl) ?_
 refine Wn ?_
 refine bc rfl rfl ?_ ?_
 ·rfl
 rfl
theorem jD(n:Int):∀(H:List Ob) (i:Nat),H[i]?=some (.cells (cPW a k) 67)→HC Tryz.prog 48 (.ptr i 0::[i64 n]) H (.tup []) (H.set i (.cells (cPW a (gB k n)) 67)):=by
 refine aO tG (rs:=[]) Tryz.func48 rfl rfl rfl (by simp) (by simp) (by simp) (by simp) (fun B=>?_)
 refine aa rfl ?_
 refine zy5 ?_
 refine zy2 ?_
 refine zc rfl Tryz.func96 ((Lb k.r.vm n (by have:=h.v.r;omega) (ui h.v).2) _) ?_
 refine zy2 ?_
 refine zc rfl Tryz.func46 ((mQ a k _ _) _ _ rfl) ?_
 refine Wn ?_
 refine bc rfl rfl ?_ ?_
 ·rfl
 rfl
theorem ld:∀(H:List Ob) (i:Nat),H[i]?=some (.cells (cPW a k) 67)→HC Tryz.prog 106 (.ptr i 0::[]) H (i64 (aS k).2) (H.set i (.cells (cPW a (aS k).1) 67)):=by
 refine aO tG (rs:=[.tmp 2]) Tryz.func106 rfl rfl rfl (by simp) (by simp) (by simp) (by simp) (fun B=>?_)
 refine zu1 ?_
 refine zp5 ?_
 refine zc rfl Tryz.func154 ((PI k.r.vm (by have:=h.v.d;omega)) _) ?_
 refine zy5 ?_
 refine zs3 ?_
 refine Ws ?_
 refine zp3 ?_
 refine zc rfl Tryz.func46 ((mQ a k _ _) _ _ rfl) ?_
 refine zs1 ?_
 refine Wi rfl (fun hi1=>?_) (fun hi1=>?_)
 ·refine zu1 ?_
  refine Wq ?_
  refine iw rfl rfl ?_ ?_
  ·exact congrArg i64 (by unfold aS;dsimp only;rw[if_neg (by simpa using hi1)])
  rfl
 refine Wj ?_
 refine zu2 ?_
 refine Wq ?_
 refine iw rfl rfl ?_ ?_
 ·exact congrArg i64 (by unfold aS;dsimp only;rw[if_pos (by simpa using hi1)])
 rfl
theorem na:∀(H:List Ob) (i:Nat),H[i]?=some (.cells (cPW a k) 67)→HC Tryz.prog 104 (.ptr i 0::[]) H (i64 (ew k).2) (H.set i (.cells (cPW a (ew k).1) 67)):=by
 refine aO tG (rs:=[.tmp 2]) Tryz.func104 rfl rfl rfl (by simp) (by simp) (by simp) (by simp) (fun B=>?_)
 refine zu1 ?_
 refine zp5 ?_
 refine zc rfl Tryz.func153 ((L6 k.r.vm (by have:=h.v.r;omega)) _) ?_
 refine zy5 ?_
 refine zs3 ?_
 refine Ws ?_
 refine zp3 ?_
 refine zc rfl Tryz.func46 ((mQ a k _ _) _ _ rfl) ?_
 refine zs1 ?_
 refine Wi rfl (fun hi1=>?_) (fun hi1=>?_)
 ·refine zu1 ?_
  refine Wq ?_
  refine iw rfl rfl ?_ ?_
  ·exact congrArg i64 (by unfold ew;dsimp only;rw[if_neg (by simpa using hi1)])
  rfl
 refine Wj ?_
 refine zu2 ?_
 refine Wq ?_
 refine iw rfl rfl ?_ ?_
 ·exact congrArg i64 (by unfold ew;dsimp only;rw[if_pos (by simpa using hi1)])
 rfl
theorem iq(at_:Int)(ha:ae at_):∀(H:List Ob) (i:Nat),H[i]?=some (.cells (cPW a k) 67)→HC Tryz.prog 24 (.ptr i 0::[i64 at_]) H (i64 (be k at_).2) (H.set i (.cells (cPW a (be k at_).1) 67)):=by
 refine aO tG (rs:=[.tmp 4]) Tryz.func24 rfl rfl rfl (by simp) (by simp) (by simp) (by simp) (fun B=>?_)
 refine zu1 ?_
 refine zp5 ?_
 refine zy2 ?_
 refine zc rfl Tryz.func45 ((gT k.r.vm.mem at_ (by have:=h.v.b;omega) ha) _) ?_
 refine zs5 ?_
 refine zp5 ?_
 refine zy2 ?_
 refine zc rfl Tryz.func46 ((mQ a k _ _) _ _ rfl) ?_
 refine Wn ?_
 refine zu2 ?_
 refine Wq ?_
 refine iw rfl rfl ?_ ?_
 ·rfl
 rfl
theorem tt(at_ n:Int)(ha:ae at_)(hM2:M≤990000):∀(H:List Ob) (i:Nat),H[i]?=some (.cells (cPW a k) 67)→HC Tryz.prog 152 (.ptr i 0::[i64 at_,i64 n]) H (.tup []) (H.set i (.cells (cPW a (jV k at_ n)) 67)):=by
 refine aO tG (rs:=[]) Tryz.func152 rfl rfl rfl (by simp) (by simp) (by simp) (by simp) (fun B=>?_)
 refine zp5 ?_
 refine zy3 ?_
 refine zc rfl Tryz.func206 ((kc k.r.vm.mem at_ n (h.v.mem (by omega)) ha) _) ?_
 refine zy5 ?_
 refine zs1 ?_
 refine zp5 ?_
 refine zs2 ?_
 refine zu3 ?_
 refine aa rfl ?_
 refine zy3 ?_
 refine zc rfl Tryz.func46 ((mQ a k (lf k.r.vm (aG k.r.vm.mem at_ n).1) _) _ _ rfl) ?_
 refine Wn ?_
 refine bc rfl rfl ?_ ?_
 ·rfl
 rfl
omit h in
theorem pX(xt:Int):∀(H:List Ob) (i:Nat),H[i]?=some (.cells (cPW a k) 67)→HC Tryz.prog 98 (.ptr i 0::[i64 xt]) H (.tup []) (H.set i (.cells (cPW a (qt k xt)) 67)):=by
 refine aO tG (rs:=[]) Tryz.func98 rfl rfl rfl (by simp) (by simp) (by simp) (by simp) (fun B=>?_)
 refine aa rfl ?_
 refine zy5 ?_
 refine z1 ?_
 refine co (zs:=cPW a ({k with r:={k.r with w:=xt}})) (lO tG rfl) rfl rfl rfl rfl rfl rfl rfl rfl rfl rfl rfl ?_
 refine zy3 ?_
 refine co (zs:=cPW a (qt k xt)) (lO tG rfl) rfl rfl rfl rfl rfl rfl rfl rfl rfl rfl rfl ?_
 refine Wn ?_
 refine bc rfl rfl ?_ ?_
 ·rfl
 rfl
theorem rr(n:Nat)(hn:n≤10):∀(H:List Ob) (i:Nat),H[i]?=some (.cells (cPW a k) 67)→HC Tryz.prog 155 (.ptr i 0::[i64 (n:Int)]) H (i64 (bS k n).2) (H.set i (.cells (cPW a (bS k n).1) 67)):=by
 have hr:=h.v.r
 have w1:IntKind.i64.wrap (IntKind.i64.wrap ((k.r.vm.r.length:Int)-1)-(n:Int))=(k.r.vm.r.length:Int)-1-(n:Int):=by
  have w0:IntKind.i64.wrap ((k.r.vm.r.length:Int)-1)=(k.r.vm.r.length:Int)-1:=by((rw[aK];unfold wrap64;(try simp only[dnL]at *);omega))
  rw[w0];((rw[aK];unfold wrap64;(try simp only[dnL]at *);omega))
 refine aO tG (rs:=[.tmp 4]) Tryz.func155 rfl rfl rfl (by simp) (by simp) (by simp) (by simp) (fun B=>?_)
 refine zu1 ?_
 refine zp5 ?_
 refine zy5 ?_
 refine Wa 15 rfl (congrArg (fun z=>PV.val (Value.int .i64 z)) w1) ?_
 refine zs1 ?_
 refine Ws ?_
 refine zu2 ?_
 refine Wi rfl (fun hi1=>?_) (fun hi1=>?_)
 ·have h0:k.r.vm.r.length≤n:=by(try simp only[dnL]at *);omega
  refine zp5 ?_
  refine z1 ?_
  refine zc rfl Tryz.func46 ((mQ a k _ _) _ _ rfl) ?_
  refine Wn ?_
  refine zu1 ?_
  refine Wq ?_
  refine iw rfl rfl ?_ ?_
  ·rw[bS,if_pos h0];rfl
  rw[bS,if_pos h0]
 have h0:¬k.r.vm.r.length≤n:=by(try simp only[dnL]at *);omega
 have e0:(k.r.vm.r.length:Int)-1-(n:Int)=((k.r.vm.r.length-1-n:Nat):Int):=by omega
 refine Wj ?_
 refine zp5 ?_
 refine zy2 ?_
 refine Wa 31 rfl (congrArg (fun z=>PV.val (Value.int .i64 z)) e0) ?_
 refine Wv tG rfl rfl rfl (by omega) (iN af 1 (fun _=>rfl) 0 (by omega)) ?_
 refine zs2 ?_
 refine Wq ?_
 refine iw rfl rfl ?_ ?_
 ·rw[bS,if_neg h0];rfl
 rw[bS,if_neg h0]
theorem vb(b:Bool):∀(H:List Ob) (i:Nat),H[i]?=some (.cells (cPW a k) 67)→HC Tryz.prog 105 (.ptr i 0::[boo b]) H (.tup []) (H.set i (.cells (cPW a (i3 k b)) 67)):=by
 cases b with
 | true =>
  refine aO tG (rs:=[]) Tryz.func105 rfl rfl rfl (by simp) (by simp) (by simp) (by simp) (fun B=>?_)
  refine Ws ?_
  refine zu1 ?_
  refine Wt rfl (by rfl) ?_
  refine zp5 ?_
  refine zy2 ?_
  refine zc rfl Tryz.func24 ((iq a k h _ h.ip) _ _ rfl) ?_
  refine zy3 ?_
  refine co (zs:=cPW a (i3 k true)) (lO tG rfl) rfl rfl rfl rfl rfl rfl rfl rfl rfl rfl rfl ?_
  refine Wn ?_
  refine Wq ?_
  refine iw rfl rfl ?_ ?_
  ·rfl
  rfl
 | false =>
  refine aO tG (rs:=[]) Tryz.func105 rfl rfl rfl (by simp) (by simp) (by simp) (by simp) (fun B=>?_)
  refine Ws ?_
  refine zu1 ?_
  refine Wf rfl (by rfl) ?_
  refine Wj ?_
  refine aa rfl ?_
  refine zy5 ?_
  refine zy4 ?_
  refine co (zs:=cPW a (i3 k false)) (lO tG rfl) rfl rfl rfl rfl rfl rfl rfl rfl rfl rfl rfl ?_
  refine Wn ?_
  refine bc rfl rfl ?_ ?_
  ·rfl
  rfl
theorem Hr(n:Int):∀(H:List Ob) (i:Nat),H[i]?=some (.cells (cPW a k) 67)→HC Tryz.prog 107 (.ptr i 0::[i64 n]) H (.tup []) (H.set i (.cells (cPW a (l7 k n)) 67)):=by
 have h1:=(m9 h 1).1
 have h2:=(m9 h1 0).1
 refine aO tG (rs:=[]) Tryz.func107 rfl rfl rfl (by simp) (by simp) (by simp) (by simp) (fun B=>?_)
 refine zp1 ?_
 refine zc rfl Tryz.func155 ((rr a k h 1 (by decide)) _ _ rfl) ?_
 refine zs1 ?_
 refine zp1 ?_
 refine zc rfl Tryz.func155 ((rr a _ h1 0 (by decide)) _ _ rfl) ?_
 refine zs1 ?_
 refine Ws ?_
 refine zp3 ?_
 refine Wd rfl rfl (ak (lO tG rfl) rfl rfl rfl rfl) ?_
 refine Wd rfl rfl (uH rfl (by kernel_rfl) rfl (by exact oX _ _)) ?_
 refine Wn ?_
 refine Wi rfl (fun hi1=>?_) (fun hi1=>?_)
 ·have q1:¬fI (bS (bS k 1).1 0).1.err=true:=by simpa using hi1
  refine Wq ?_
  refine iw rfl rfl ?_ ?_
  ·rfl
  rw[l7,if_neg q1]
 have q1:fI (bS (bS k 1).1 0).1.err=true:=by simpa using hi1
 refine Wj ?_
 refine zp3 ?_
 refine zc rfl Tryz.func156 ((I0 _ _ _) _) ?_
 refine zs5 ?_
 refine zp1 ?_
 refine zc rfl Tryz.func104 ((na a _ h2) _ _ rfl) ?_
 refine Wn ?_
 refine Ws ?_
 refine zu1 ?_
 refine Wi rfl (fun hi2=>?_) (fun hi2=>?_)
 ·have q2:(dQ (bS (bS k 1).1 0).2 (bS k 1).2 n).2=true:=hi2
  refine aa rfl ?_
  refine z1 ?_
  refine zc rfl Tryz.func104 ((na a _ (gy h2).1) _ _ rfl) ?_
  refine Wn ?_
  refine aa rfl ?_
  refine zy3 ?_
  refine zc rfl Tryz.func105 ((vb a _ (by exact(gy (gy h2).1).1) _) _ _ rfl) ?_
  refine Wn ?_
  refine bc rfl rfl ?_ ?_
  ·rfl
  (rw[l7,if_pos q1,if_pos q2])
 have q2:¬(dQ (bS (bS k 1).1 0).2 (bS k 1).2 n).2=true:=by simpa using hi2
 refine aa rfl ?_
 refine zy2 ?_
 refine zc rfl Tryz.func48 ((jD a _ (gy h2).1 _) _ _ rfl) ?_
 refine Wn ?_
 refine aa rfl ?_
 refine zy3 ?_
 refine zc rfl Tryz.func105 ((vb a _ (by exact qG (gy h2).1 (qH _ _ _)) _) _ _ rfl) ?_
 refine Wn ?_
 refine bc rfl rfl ?_ ?_
 ·rfl
 (rw[l7,if_pos q1,if_neg q2])
include hM in
theorem O0:∀(H:List Ob) (i:Nat),H[i]?=some (.cells (cPW a k) 67)→HC Tryz.prog 103 (.ptr i 0::[]) H (.tup []) (H.set i (.cells (cPW a (jI k)) 67)):=by
 have hM2:M≤990000:=by omega
 have hM3:M+1≤990000:=by omega
 refine aO tG (rs:=[]) Tryz.func103 rfl rfl rfl (by simp) (by simp) (by simp) (by simp) (fun B=>?_)
 refine zp5 ?_
 refine zs2 ?_
 refine zp5 ?_
 refine z1 ?_
 refine zc rfl Tryz.func47 ((yN k.r.vm k.r.vm.last (by have:=h.v.b;omega) h.la) _) ?_
 refine zs5 ?_
 refine Ws ?_
 refine zp3 ?_
 refine Wb 23 rfl (fun hg1=>?_) (fun hg1=>?_)
 ·refine z6 ?_
  refine z6 ?_
  refine zy2 ?_
  iterate 6 refine z6 ?_
  refine zs1 ?_
  refine Wt rfl rfl ?_
  refine zp5 ?_
  refine z1 ?_
  refine zc rfl Tryz.func46 ((mQ a k _ _) _ _ rfl) ?_
  refine Wn ?_
  refine Wq ?_
  refine iw rfl rfl ?_ ?_
  ·rfl
  rw[jI,if_pos (by(try simp only[dnL]at *);omega)]
 refine zy4 ?_
 refine Wb 27 rfl (fun hg2=>?_) (fun hg2=>?_)
 ·refine z6 ?_
  iterate 5 refine z6 ?_
  refine zs1 ?_
  refine Wt rfl rfl ?_
  refine zp5 ?_
  refine z1 ?_
  refine zc rfl Tryz.func46 ((mQ a k _ _) _ _ rfl) ?_
  refine Wn ?_
  refine Wq ?_
  refine iw rfl rfl ?_ ?_
  ·rfl
  rw[jI,if_pos (by(try simp only[dnL]at *);omega)]
 refine zy3 ?_
 refine Wb 30 rfl (fun hg3=>?_) (fun hg3=>?_)
 ·refine zs4 ?_
  refine Wi rfl (fun hi1=>?_) (fun hi1=>?_)
  ·refine zp5 ?_
   refine z1 ?_
   refine zc rfl Tryz.func46 ((mQ a k _ _) _ _ rfl) ?_
   refine Wn ?_
   refine Wq ?_
   refine iw rfl rfl ?_ ?_
   ·rfl
   rw[jI,if_pos (by(try simp only[dnL]at *);omega)]
  refine Wj ?_
  refine zp2 ?_
  refine zc rfl Tryz.func152 ((tt a k h _ _ h.la hM2) _ _ rfl) ?_
  refine Wn ?_
  refine aa rfl ?_
  refine zy5 ?_
  refine zy3 ?_
  refine zc rfl Tryz.func152 ((tt a _ (ql h _ _) _ _ (bl _) hM3) _ _ rfl) ?_
  refine Wn ?_
  refine bc rfl rfl ?_ ?_
  ·rfl
  rw[jI,if_neg (show ¬(k.r.vm.last=0∨(aq k.r.vm k.r.vm.last).2≠0∨((aq k.r.vm k.r.vm.last).1≠257∧(aq k.r.vm k.r.vm.last).1≠259)) by(try simp only[dnL]at *);omega)]
 refine z6 ?_
 refine z6 ?_
 refine zs2 ?_
 refine Wf rfl rfl ?_
 refine Wj ?_
 refine zp2 ?_
 refine zc rfl Tryz.func152 ((tt a k h _ _ h.la hM2) _ _ rfl) ?_
 refine Wn ?_
 refine aa rfl ?_
 refine zy5 ?_
 refine zy3 ?_
 refine zc rfl Tryz.func152 ((tt a _ (ql h _ _) _ _ (bl _) hM3) _ _ rfl) ?_
 refine Wn ?_
 refine bc rfl rfl ?_ ?_
 ·rfl
 rw[jI,if_neg (show ¬(k.r.vm.last=0∨(aq k.r.vm k.r.vm.last).2≠0∨((aq k.r.vm k.r.vm.last).1≠257∧(aq k.r.vm k.r.vm.last).1≠259)) by(try simp only[dnL]at *);omega)]
end
open Go.RowKit
theorem O5(a:Addr)(k:PW){k':PW}(h:k'.r=k.r){e:TypeId}{H:List Ob}:Rk (.cells (cPW a k) e::H) ((Ob.cells (cPW a k) e::H).set 0 (.cells (cPW a k') e)):=fun xs e h1=>by
 simp only[List.getElem?_cons_zero,Option.some.injEq,Ob.cells.injEq]at h1
 obtain⟨rfl,rfl⟩:=h1
 refine⟨_,rfl,?_⟩
 have hl:∀r:bx,(iz r).length=27:=fun r=>rfl
 unfold cPW
 rw[List.take_left' (hl _),List.take_left' (hl _),h]
theorem fr1(x:dE):PV.seq 1 [i64 x.d,i64 x.r,i64 x.ip] .clip=.seq (List.length [x]) (List.flatMap bA [x]) .clip:=rfl
section
variable (a : Addr) (k : PW) {M : Nat} (h : KX M k) (hM : M ≤ 900000)
include h
theorem Fv(b:Int)(hb:ae b):∀(H:List Ob) (i:Nat),H[i]?=some (.cells (cPW a k) 67)→HC Tryz.prog 50 (.ptr i 0::[i64 b]) H (.tup []) (H.set i (.cells (cPW a (dP k b)) 67)):=by
 have f1:=fh h b
 have f2:=fh f1.1 (W64 (b+8))
 refine aO tG (rs:=[]) Tryz.func50 rfl rfl rfl (by simp) (by simp) (by simp) (by simp) (fun B=>?_)
 refine zp2 ?_
 refine zc rfl Tryz.func24 ((iq a k h b hb) _ _ rfl) ?_
 refine zy3 ?_
 refine zc rfl Tryz.func24 ((iq a _ f1.1 _ (bl _)) _ _ rfl) ?_
 refine zs2 ?_
 refine Ws ?_
 refine zp3 ?_
 refine Wd rfl rfl (ak (lO tG rfl) rfl rfl rfl rfl) ?_
 refine Wd rfl rfl (ct rfl (by kernel_rfl) rfl (by exact oX _ _)) ?_
 refine z1 ?_
 refine Wb 19 rfl (fun hg1=>?_) (fun hg1=>?_)
 ·refine zy3 ?_
  refine Wb 22 rfl (fun hg2=>?_) (fun hg2=>?_)
  ·refine z6 ?_
   iterate 2 refine z6 ?_
   refine zs2 ?_
   refine Wt rfl rfl ?_
   refine aa rfl ?_
   refine zy5 ?_
   refine z1 ?_
   refine zc rfl Tryz.func46 ((mQ a _ _ _) _ _ rfl) ?_
   refine Wn ?_
   refine zp5 ?_
   refine z1 ?_
   refine zc rfl Tryz.func24 ((iq a _ (by exact lh f2.1 f2.1.v _) _ (bl _)) _ _ rfl) ?_
   refine zs1 ?_
   refine zu2 ?_
   refine Wi rfl (fun hi1=>?_) (fun hi1=>?_)
   ·refine aa rfl ?_
    refine zy2 ?_
    refine zc rfl Tryz.func98 ((pX a _ _) _ _ rfl) ?_
    refine Wn ?_
    refine bc rfl rfl ?_ ?_
    ·rfl
    exact congrArg (cPW a) (by unfold dP;dsimp only;(simp only[hg1,hg2,Bool.true_and,Bool.true_or,if_true]);(rw[if_neg (by simpa using hi1)]))
   refine Wj ?_
   refine bc rfl rfl ?_ ?_
   ·rfl
   exact congrArg (cPW a) (by unfold dP;dsimp only;(simp only[hg1,hg2,Bool.true_and,Bool.true_or,if_true]);(rw[if_pos (by simpa using hi1)]))
  refine zs5 ?_
  refine Wi rfl (fun hi2=>?_) (fun hi2=>?_)
  ·refine aa rfl ?_
   refine zy5 ?_
   refine z1 ?_
   refine zc rfl Tryz.func46 ((mQ a _ _ _) _ _ rfl) ?_
   refine Wn ?_
   refine zp5 ?_
   refine z1 ?_
   refine zc rfl Tryz.func24 ((iq a _ (by exact lh f2.1 f2.1.v _) _ (bl _)) _ _ rfl) ?_
   refine zs1 ?_
   refine zu2 ?_
   refine Wi rfl (fun hi1=>?_) (fun hi1=>?_)
   ·refine aa rfl ?_
    refine zy2 ?_
    refine zc rfl Tryz.func98 ((pX a _ _) _ _ rfl) ?_
    refine Wn ?_
    refine bc rfl rfl ?_ ?_
    ·rfl
    exact congrArg (cPW a) (by unfold dP;dsimp only;(simp only[hg1,hg2,hi2,Bool.true_and,Bool.false_or,if_true,Bool.false_eq_true,if_false]);(rw[if_neg (by simpa using hi1)]))
   refine Wj ?_
   refine bc rfl rfl ?_ ?_
   ·rfl
   exact congrArg (cPW a) (by unfold dP;dsimp only;(simp only[hg1,hg2,hi2,Bool.true_and,Bool.false_or,if_true,Bool.false_eq_true,if_false]);(rw[if_pos (by simpa using hi1)]))
  refine Wj ?_
  refine zp5 ?_
  refine z1 ?_
  refine zc rfl Tryz.func24 ((iq a _ (by exact f2.1) _ (bl _)) _ _ rfl) ?_
  refine zs1 ?_
  refine zu2 ?_
  refine Wi rfl (fun hi1=>?_) (fun hi1=>?_)
  ·refine aa rfl ?_
   refine zy2 ?_
   refine zc rfl Tryz.func98 ((pX a _ _) _ _ rfl) ?_
   refine Wn ?_
   refine bc rfl rfl ?_ ?_
   ·rfl
   exact congrArg (cPW a) (by unfold dP;dsimp only;(simp only[hg1,hg2,hi2,Bool.true_and,Bool.false_or,if_true,Bool.false_eq_true,if_false]);(rw[if_neg (by simpa using hi1)]))
  refine Wj ?_
  refine bc rfl rfl ?_ ?_
  ·rfl
  exact congrArg (cPW a) (by unfold dP;dsimp only;(simp only[hg1,hg2,hi2,Bool.true_and,Bool.false_or,if_true,Bool.false_eq_true,if_false]);(rw[if_pos (by simpa using hi1)]))
 refine z6 ?_
 iterate 6 refine z6 ?_
 refine zs1 ?_
 refine Wf rfl rfl ?_
 refine Wj ?_
 refine zp5 ?_
 refine z1 ?_
 refine zc rfl Tryz.func24 ((iq a _ (by exact f2.1) _ (bl _)) _ _ rfl) ?_
 refine zs1 ?_
 refine zu2 ?_
 refine Wi rfl (fun hi1=>?_) (fun hi1=>?_)
 ·refine aa rfl ?_
  refine zy2 ?_
  refine zc rfl Tryz.func98 ((pX a _ _) _ _ rfl) ?_
  refine Wn ?_
  refine bc rfl rfl ?_ ?_
  ·rfl
  exact congrArg (cPW a) (by unfold dP;dsimp only;(simp only[hg1,Bool.false_and,Bool.false_eq_true,if_false]);(rw[if_neg (by simpa using hi1)]))
 refine Wj ?_
 refine bc rfl rfl ?_ ?_
 ·rfl
 exact congrArg (cPW a) (by unfold dP;dsimp only;(simp only[hg1,Bool.false_and,Bool.false_eq_true,if_false]);(rw[if_pos (by simpa using hi1)]))
include hM in
theorem Pc(name:Str):∀(H:List Ob) (i:Nat),H[i]?=some (.cells (cPW a k) 67)→HC Tryz.prog 108 (.ptr i 0::[str name]) H (.tup []) (H.set i (.cells (cPW a (y9 k name)) 67)):=by
 have hf:=h.v.f
 have hf2:=(gC h).1.v.f
 have hf3:=(lh (gC h).1 (gC h).1.v (-5)).v.f
 have w1:IntKind.i64.wrap ((k.r.vm.f.length:Int)-1)=(k.r.vm.f.length:Int)-1:=by((rw[aK];unfold wrap64;(try simp only[dnL]at *);omega))
 refine aO tG (rs:=[]) Tryz.func108 rfl rfl rfl (by simp) (by simp) (by simp) (by simp) (fun B=>?_)
 refine zu1 ?_
 refine Wl ?_
 refine zp1 ?_
 refine zq 17 ?_
 refine zs1 ?_
 refine Wi rfl (fun hi1=>?_) (fun hi1=>?_)
 ·obtain rfl:=oT hi1
  refine zp5 ?_
  refine zs3 ?_
  refine Ws ?_
  refine zu2 ?_
  refine Wi rfl (fun hi2=>?_) (fun hi2=>?_)
  ·have h0:k.r.vm.f.length=0:=by(try simp only[dnL]at *);omega
   refine zp5 ?_
   refine z1 ?_
   refine zc rfl Tryz.func46 ((mQ a k _ _) _ _ rfl) ?_
   refine Wn ?_
   refine Wq ?_
   refine iw rfl rfl ?_ ?_
   ·rfl
   show cPW a _=cPW a (iX k);rw[iX,if_pos h0]
  have h0:¬k.r.vm.f.length=0:=by(try simp only[dnL]at *);omega
  have e0:(k.r.vm.f.length:Int)-1=((k.r.vm.f.length-1:Nat):Int):=by omega
  refine Wj ?_
  refine zp5 ?_
  refine zy4 ?_
  refine Wa 42 rfl (congrArg (fun z=>PV.val (Value.int .i64 z)) (w1.trans e0)) ?_
  refine Wv tG rfl rfl rfl (by omega) (iN bA 3 (fun _=>rfl) default (by omega)) ?_
  refine zy5 ?_
  refine co (zs:=cPW a ({k with r:={k.r with ip:=(k.r.vm.f.getD (k.r.vm.f.length-1) default).ip}})) (lO tG rfl) rfl rfl rfl rfl rfl rfl rfl rfl rfl rfl rfl ?_
  refine Wn ?_
  refine zp5 ?_
  refine zy4 ?_
  refine Wa 57 rfl (congrArg (fun z=>PV.val (Value.int .i64 z)) (w1.trans e0)) ?_
  refine z2 ?_ (q:=(by(simp_all;done)))
  refine Wa 58 rfl (bM bA 3 (fun _=>rfl) (by(simp only[dnL]at *;omega))) ?_
  refine zy4 ?_
  refine co (zs:=cPW a ({k with r:={k.r with ip:=(k.r.vm.f.getD (k.r.vm.f.length-1) default).ip,vm:={k.r.vm with f:=k.r.vm.f.take (k.r.vm.f.length-1)}}})) (lO tG rfl) rfl rfl rfl rfl rfl rfl rfl rfl rfl rfl rfl ?_
  refine Wn ?_
  refine aa rfl ?_
  refine z1 ?_
  refine zc rfl Tryz.func49 ((iy a {k with r:={k.r with ip:=(k.r.vm.f.getD (k.r.vm.f.length-1) default).ip,vm:={k.r.vm with f:=k.r.vm.f.take (k.r.vm.f.length-1)}}} (EP h h0) 0) _ _ rfl) ?_
  refine Wn ?_
  refine bc rfl rfl ?_ ?_
  ·rfl
  (show cPW a _=cPW a (iX k);rw[iX,if_neg h0])
 refine zp1 ?_
 refine zq 66 ?_
 refine zs1 ?_
 refine Wi rfl (fun hi3=>?_) (fun hi3=>?_)
 ·obtain rfl:=oT hi3
  refine Ws ?_
  refine ai [0,0,0,0,0,1,5,0,0,0,0,4,0,0,0] [0,1,2,3,4,7,8,9,10,11,12,5,6,13,14] mG rfl (by kernel_rfl) ?_
  iterate 9 refine z3 ?_
  refine KM (lO tG rfl) rfl rfl rfl rfl rfl rfl rfl rfl rfl ?_
  refine z3 ?_
  refine z5 ?_
  refine K2 rfl rfl rfl rfl (dC rfl Tryz.func24 rfl rfl ((iq a k h _ h.ip) _ _ rfl)) (O5 a k (tp)) ?_
  iterate 2 refine z3 ?_
  refine ah ?_
  refine zp5 ?_
  refine zy3 ?_
  refine zc rfl Tryz.func157 ((tC _ _ _ ((fh h k.r.ip).1.v.mem (by omega)) (bl _) (fh h k.r.ip).2) _) ?_
  refine zs5 ?_
  refine zp5 ?_
  refine zy2 ?_
  refine zc rfl Tryz.func46 ((mQ a _ _ _) _ _ rfl) ?_
  refine Wn ?_
  refine zp2 ?_
  refine zc rfl Tryz.func49 ((iy a _ (lh (fh h _).1 (fh h _).1.v _) _) _ _ rfl) ?_
  refine Wn ?_
  refine zp2 ?_
  refine zc rfl Tryz.func49 ((iy a _ (qW (lh (fh h _).1 (fh h _).1.v _) (bl _)) _) _ _ rfl) ?_
  refine Wn ?_
  refine aa rfl ?_
  refine zy4 ?_
  refine zc rfl Tryz.func143 ((Ej _ _ (bl _)) _) ?_
  refine zy5 ?_
  refine z1 ?_
  refine co (zs:=cPW a (BE k)) (lO tG rfl) rfl rfl rfl rfl rfl rfl rfl rfl rfl rfl rfl ?_
  refine Wn ?_
  refine bc rfl rfl ?_ ?_
  ·rfl
  rfl
 refine zp1 ?_
 refine zq 118 ?_
 refine zs1 ?_
 refine Wi rfl (fun hi4=>?_) (fun hi4=>?_)
 ·obtain rfl:=oT hi4
  refine aa rfl ?_
  refine zy2 ?_
  refine zc rfl Tryz.func106 ((ld a k h) _ _ rfl) ?_
  refine zc rfl Tryz.func98 ((pX a _ _) _ _ rfl) ?_
  refine Wn ?_
  refine bc rfl rfl ?_ ?_
  ·rfl
  rfl
 refine zp1 ?_
 refine zq 124 ?_
 refine zs1 ?_
 refine Wi rfl (fun hi5=>?_) (fun hi5=>?_)
 ·obtain rfl:=oT hi5
  refine zp1 ?_
  refine zc rfl Tryz.func106 ((ld a k h) _ _ rfl) ?_
  refine zs1 ?_
  refine Ws ?_
  refine zp5 ?_
  refine zs3 ?_
  refine Wi rfl (fun hi6=>?_) (fun hi6=>?_)
  ·refine aa rfl ?_
   refine zy5 ?_
   refine z1 ?_
   refine zc rfl Tryz.func46 ((mQ a _ _ _) _ _ rfl) ?_
   refine Wn ?_
   refine Ws ?_
   refine ai [0,0,0,0,0,0,1,0,0,0,0,0,0,1,0,0,0,0,0,0,1,0,0,0,0,0,1,0,0,0,0,0,0,0,3] [0,1,2,3,4,5,6,7,8,9,10,11,12,13,14,15,16,17,18,19,20,21,22,23,24,25,26,27,28,29,30,31,32,33,34] mG rfl (by kernel_rfl) ?_
   iterate 6 refine z3 ?_
   refine z5 ?_
   refine Xc rfl rfl rfl rfl (fun _=>dC rfl Tryz.func158 rfl rfl ((sf _ (by(have:=(gC h).1.v.f;omega))) _)) ?_
   iterate 5 refine z3 ?_
   refine z5 ?_
   iterate 6 refine z3 ?_
   refine z5 ?_
   iterate 5 refine z3 ?_
   refine z5 ?_
   iterate 2 refine z3 ?_
   refine Xa 170 rfl (fr1 ⟨_,_,_⟩) ?_
   refine cI rfl rfl rfl rfl (fun _=>db (lO tG rfl) rfl (lO tG rfl) (lO tG rfl) rfl rfl (by exact⟨_,rfl⟩) (by exact⟨rfl,rfl,ag _ 3 (fun _=>rfl) _,aB _ (fun _=>rfl) _⟩) (by exact ag _ 3 (fun _=>rfl) _) (by((simp_all;omega))) (by((simp_all;omega))) (by exact gV (bW (fun x=>by simp) _) (bW (fun x=>by simp) _))) ?_
   refine Xa 171 rfl (aM bA) ?_
   iterate 4 refine z3 ?_
   refine ej rfl rfl rfl rfl (bH (lO tG rfl) rfl rfl rfl rfl rfl rfl rfl) ?_
   refine ah ?_
   refine zp4 ?_
   refine co (zs:=cPW a (wFr (pOk (aS k).1 (aS k).1.r.vm (-5)))) (lO tG rfl) rfl rfl rfl rfl rfl rfl rfl rfl rfl rfl rfl ?_
   refine Wn ?_
   refine aa rfl ?_
   refine zy2 ?_
   refine zc rfl Tryz.func98 ((pX a _ _) _ _ rfl) ?_
   refine Wn ?_
   refine bc rfl rfl ?_ ?_
   ·rfl
   (show cPW a _=cPW a (kJ k);rw[kJ,if_pos (oT hi6)])
  refine Wj ?_
  refine Ws ?_
  refine ai [0,0,0,0,0,0,1,0,0,0,0,0,0,1,0,0,0,0,0,0,1,0,0,0,0,0,1,0,0,0,0,0,0,0,3] [0,1,2,3,4,5,6,7,8,9,10,11,12,13,14,15,16,17,18,19,20,21,22,23,24,25,26,27,28,29,30,31,32,33,34] mG rfl (by kernel_rfl) ?_
  iterate 6 refine z3 ?_
  refine z5 ?_
  refine Xc rfl rfl rfl rfl (fun _=>dC rfl Tryz.func158 rfl rfl ((sf _ (by(have:=(gC h).1.v.f;omega))) _)) ?_
  iterate 5 refine z3 ?_
  refine z5 ?_
  iterate 6 refine z3 ?_
  refine z5 ?_
  iterate 5 refine z3 ?_
  refine z5 ?_
  iterate 2 refine z3 ?_
  refine Xa 170 rfl (fr1 ⟨_,_,_⟩) ?_
  refine cI rfl rfl rfl rfl (fun _=>db (lO tG rfl) rfl (lO tG rfl) (lO tG rfl) rfl rfl (by exact⟨_,rfl⟩) (by exact⟨rfl,rfl,ag _ 3 (fun _=>rfl) _,aB _ (fun _=>rfl) _⟩) (by exact ag _ 3 (fun _=>rfl) _) (by((simp_all;omega))) (by((simp_all;omega))) (by exact gV (bW (fun x=>by simp) _) (bW (fun x=>by simp) _))) ?_
  refine Xa 171 rfl (aM bA) ?_
  iterate 4 refine z3 ?_
  refine ej rfl rfl rfl rfl (bH (lO tG rfl) rfl rfl rfl rfl rfl rfl rfl) ?_
  refine ah ?_
  refine zp4 ?_
  refine co (zs:=cPW a (wFr (aS k).1)) (lO tG rfl) rfl rfl rfl rfl rfl rfl rfl rfl rfl rfl rfl ?_
  refine Wn ?_
  refine aa rfl ?_
  refine zy2 ?_
  refine zc rfl Tryz.func98 ((pX a _ _) _ _ rfl) ?_
  refine Wn ?_
  refine bc rfl rfl ?_ ?_
  ·rfl
  (show cPW a _=cPW a (kJ k);rw[kJ,if_neg (oF hi6)])
 refine zp1 ?_
 refine zq 184 ?_
 refine zs1 ?_
 refine Wi rfl (fun hi7=>?_) (fun hi7=>?_)
 ·obtain rfl:=oT hi7
  refine zp1 ?_
  refine zc rfl Tryz.func106 ((ld a k h) _ _ rfl) ?_
  refine zs1 ?_
  refine aa rfl ?_
  refine zy5 ?_
  refine zy2 ?_
  refine zc rfl Tryz.func46 ((mQ a _ _ _) _ _ rfl) ?_
  refine Wn ?_
  refine bc rfl rfl ?_ ?_
  ·rfl
  rfl
 refine zp1 ?_
 refine zq 196 ?_
 refine zs1 ?_
 refine Wi rfl (fun hi8=>?_) (fun hi8=>?_)
 ·obtain rfl:=oT hi8
  refine aa rfl ?_
  refine zy2 ?_
  refine zc rfl Tryz.func155 ((rr a k h 0 (by decide)) _ _ rfl) ?_
  refine zc rfl Tryz.func49 ((iy a _ (m9 h _).1 _) _ _ rfl) ?_
  refine Wn ?_
  refine bc rfl rfl ?_ ?_
  ·rfl
  rfl
 refine zp1 ?_
 refine zq 202 ?_
 refine zs1 ?_
 refine Wi rfl (fun hi9=>?_) (fun hi9=>?_)
 ·obtain rfl:=oT hi9
  refine aa rfl ?_
  refine zy2 ?_
  refine zc rfl Tryz.func155 ((rr a k h 2 (by decide)) _ _ rfl) ?_
  refine zc rfl Tryz.func49 ((iy a _ (m9 h _).1 _) _ _ rfl) ?_
  refine Wn ?_
  refine bc rfl rfl ?_ ?_
  ·rfl
  rfl
 refine zp1 ?_
 refine zq 208 ?_
 refine zs1 ?_
 refine Wi rfl (fun hi10=>?_) (fun hi10=>?_)
 ·obtain rfl:=oT hi10
  refine zp1 ?_
  refine zc rfl Tryz.func155 ((rr a k h 1 (by decide)) _ _ rfl) ?_
  refine Wn ?_
  refine zp1 ?_
  refine zc rfl Tryz.func104 ((na a _ (m9 h _).1) _ _ rfl) ?_
  refine Wn ?_
  refine aa rfl ?_
  refine z1 ?_
  refine zc rfl Tryz.func104 ((na a _ (gy (m9 h _).1).1) _ _ rfl) ?_
  refine Wn ?_
  refine bc rfl rfl ?_ ?_
  ·rfl
  rfl
 refine zp1 ?_
 refine zq 216 ?_
 refine zs1 ?_
 refine Wi rfl (fun hi11=>?_) (fun hi11=>?_)
 ·obtain rfl:=oT hi11
  refine aa rfl ?_
  refine zy2 ?_
  refine zc rfl Tryz.func106 ((ld a k h) _ _ rfl) ?_
  refine zc rfl Tryz.func48 ((jD a _ (gC h).1 _) _ _ rfl) ?_
  refine Wn ?_
  refine bc rfl rfl ?_ ?_
  ·rfl
  rfl
 refine zp1 ?_
 refine zq 222 ?_
 refine zs1 ?_
 refine Wi rfl (fun hi12=>?_) (fun hi12=>?_)
 ·obtain rfl:=oT hi12
  refine aa rfl ?_
  refine zy2 ?_
  refine zc rfl Tryz.func104 ((na a k h) _ _ rfl) ?_
  refine zc rfl Tryz.func49 ((iy a _ (gy h).1 _) _ _ rfl) ?_
  refine Wn ?_
  refine bc rfl rfl ?_ ?_
  ·rfl
  rfl
 refine zp1 ?_
 refine zq 228 ?_
 refine zs1 ?_
 refine Wi rfl (fun hi13=>?_) (fun hi13=>?_)
 ·obtain rfl:=oT hi13
  refine aa rfl ?_
  refine zy2 ?_
  refine zc rfl Tryz.func155 ((rr a k h 0 (by decide)) _ _ rfl) ?_
  refine zc rfl Tryz.func49 ((iy a _ (m9 h _).1 _) _ _ rfl) ?_
  refine Wn ?_
  refine bc rfl rfl ?_ ?_
  ·rfl
  rfl
 refine zp1 ?_
 refine zq 234 ?_
 refine zs1 ?_
 refine Wi rfl (fun hi14=>?_) (fun hi14=>?_)
 ·obtain rfl:=oT hi14
  refine zp1 ?_
  refine zc rfl Tryz.func106 ((ld a k h) _ _ rfl) ?_
  refine z1 ?_
  refine zc rfl Tryz.func106 ((ld a _ (gC h).1) _ _ rfl) ?_
  refine zs2 ?_
  refine zp2 ?_
  refine zc rfl Tryz.func48 ((jD a _ (gC (gC h).1).1 _) _ _ rfl) ?_
  refine Wn ?_
  refine aa rfl ?_
  refine zy2 ?_
  refine zc rfl Tryz.func48 ((jD a _ (qG (gC (gC h).1).1 (gC (gC h).1).2) _) _ _ rfl) ?_
  refine Wn ?_
  refine bc rfl rfl ?_ ?_
  ·rfl
  rfl
 refine zp1 ?_
 refine zq 246 ?_
 refine zs1 ?_
 refine Wi rfl (fun hi15=>?_) (fun hi15=>?_)
 ·obtain rfl:=oT hi15
  refine zp1 ?_
  refine zc rfl Tryz.func104 ((na a k h) _ _ rfl) ?_
  refine z1 ?_
  refine zc rfl Tryz.func104 ((na a _ (gy h).1) _ _ rfl) ?_
  refine zs2 ?_
  refine zp2 ?_
  refine zc rfl Tryz.func49 ((iy a _ (gy (gy h).1).1 _) _ _ rfl) ?_
  refine Wn ?_
  refine aa rfl ?_
  refine zy2 ?_
  refine zc rfl Tryz.func49 ((iy a _ (qW (gy (gy h).1).1 (gy (gy h).1).2) _) _ _ rfl) ?_
  refine Wn ?_
  refine bc rfl rfl ?_ ?_
  ·rfl
  rfl
 refine Wj ?_
 refine bc rfl rfl ?_ ?_
 ·rfl
 (rw[y9,if_neg (oF hi1),if_neg (oF hi3),if_neg (oF hi4),if_neg (oF hi5),if_neg (oF hi7),if_neg (oF hi8),if_neg (oF hi9),if_neg (oF hi10),if_neg (oF hi11),if_neg (oF hi12),if_neg (oF hi13),if_neg (oF hi14),if_neg (oF hi15)])
end
open Go.RowKit
def etV:Value:=.iface 164 (.agg #[.pointer (some ⟨5,65,none⟩)])
def iC(a:Addr):List Ob:=[.glob 0 (haltV a),.glob 1 etV]
theorem i9(a:Addr):∀o∈iC a,∃g u,o=.glob g u:=fun o h=>by
 unfold iC at h
 simp at h
 rcases h with h|h<;>exact⟨_,_,h⟩
theorem hO{a:Addr}{H:List Ob}(i j:Nat)(h1:H[i]?=some (.glob 0 (haltV a)))(h2:H[j]?=some (.glob 1 etV)):∀o∈iC a,∃k:Nat,H[k]?=some o:=fun o h=>by
 unfold iC at h
 simp at h
 rcases h with h|h
 ·subst h;exact⟨i,h1⟩
 subst h;exact⟨j,h2⟩
section
variable (a : Addr) (k : PW) {M : Nat} (h : KX M k) (hM : M ≤ 900000)
include h hM
theorem GP(name:Str):∀(H:List Ob) (i:Nat),H[i]?=some (.cells (cPW a k) 67)→(∀o∈iC a,∃k:Nat,H[k]?=some o)→HC Tryz.prog 53 (.ptr i 0::[str name]) H (.tup []) (H.set i (.cells (cPW a (jP k name)) 67)):=by
 have p1:=gC h
 have p2:=gC p1.1
 have u1:=qW p2.1 p2.2
 have u2:=qW u1 p1.2
 have u3:=N7 u2 (bl ((cA (cA (aS (aS k).1).1 (aS (aS k).1).2) (aS k).2).r.ip+8))
 have v1:=gC u3
 have v2:=gC v1.1
 refine rZ (i9 a) tG (rs:=[]) Tryz.func53 rfl rfl rfl (by simp) (by simp) (by simp) (by simp) (fun B=>?_)
 refine zu1 ?_
 refine Wl ?_
 refine Ws ?_
 refine Wl ?_
 refine Ws ?_
 refine Wl ?_
 refine Ws ?_
 refine Wl ?_
 refine Ws ?_
 refine Wl ?_
 refine Ws ?_
 refine Wl ?_
 refine Ws ?_
 refine Wl ?_
 refine Ws ?_
 refine Wl ?_
 refine Ws ?_
 refine Wl ?_
 refine Ws ?_
 refine Wl ?_
 refine Ws ?_
 refine Wl ?_
 refine Ws ?_
 refine Wl ?_
 iterate 2 refine Ws ?_
 refine zp1 ?_
 refine zq 10 ?_
 refine zs1 ?_
 refine Wi rfl (fun hi1=>?_) (fun hi1=>?_)
 ·obtain rfl:=oT hi1
  refine aN ?_
  refine aa rfl ?_
  refine z1 ?_
  refine zc rfl Tryz.func103 ((O0 a k h hM) _ _ rfl) ?_
  refine Wn ?_
  refine zp2 ?_
  refine zc rfl Tryz.func104 ((na a _ (by exact LD h)) _ _ rfl) ?_
  refine zy3 ?_
  refine co (zs:=cPW a (nE (jI k))) (lO tG rfl) rfl rfl rfl rfl rfl rfl rfl rfl rfl rfl rfl ?_
  refine Wn ?_
  refine aN ?_
  refine bc rfl rfl ?_ ?_
  ·rfl
  rfl
 refine Wj ?_
 refine Ws ?_
 refine zp1 ?_
 refine zq 12 ?_
 refine zs1 ?_
 refine Wi rfl (fun hi2=>?_) (fun hi2=>?_)
 ·obtain rfl:=oT hi2
  refine aN ?_
  refine zp2 ?_
  refine zc rfl Tryz.func104 ((na a _ (by exact h)) _ _ rfl) ?_
  refine zy3 ?_
  refine co (zs:=cPW a (nE k)) (lO tG rfl) rfl rfl rfl rfl rfl rfl rfl rfl rfl rfl rfl ?_
  refine Wn ?_
  refine aN ?_
  refine bc rfl rfl ?_ ?_
  ·rfl
  rfl
 refine Wj ?_
 refine Ws ?_
 refine zp1 ?_
 refine zq 14 ?_
 refine zs1 ?_
 refine Wi rfl (fun hi3=>?_) (fun hi3=>?_)
 ·obtain rfl:=oT hi3
  refine aN ?_
  refine Ws ?_
  refine zp5 ?_
  refine zy2 ?_
  refine zc rfl Tryz.func24 ((iq a k h _ h.ip) _ _ rfl) ?_
  refine zc rfl Tryz.func49 ((iy a _ (fh h _).1 _) _ _ rfl) ?_
  refine Wn ?_
  refine aa rfl ?_
  refine zy5 ?_
  refine zy4 ?_
  refine co (zs:=cPW a (Gr k)) (lO tG rfl) rfl rfl rfl rfl rfl rfl rfl rfl rfl rfl rfl ?_
  refine Wn ?_
  refine aN ?_
  refine bc rfl rfl ?_ ?_
  ·rfl
  rfl
 refine Wj ?_
 refine Ws ?_
 refine zp1 ?_
 refine zq 16 ?_
 refine zs1 ?_
 refine Wi rfl (fun hi4=>?_) (fun hi4=>?_)
 ·obtain rfl:=oT hi4
  refine aN ?_
  refine zp1 ?_
  refine zc rfl Tryz.func105 ((vb a k h true) _ _ rfl) ?_
  refine Wn ?_
  refine aN ?_
  refine bc rfl rfl ?_ ?_
  ·rfl
  rfl
 refine Wj ?_
 refine Ws ?_
 refine zp1 ?_
 refine zq 18 ?_
 refine zs1 ?_
 refine Wi rfl (fun hi5=>?_) (fun hi5=>?_)
 ·obtain rfl:=oT hi5
  refine aN ?_
  refine zp2 ?_
  refine zc rfl Tryz.func106 ((ld a k h) _ _ rfl) ?_
  refine z1 ?_
  refine zc rfl Tryz.func105 ((vb a _ p1.1 _) _ _ rfl) ?_
  refine Wn ?_
  refine aN ?_
  refine bc rfl rfl ?_ ?_
  ·rfl
  rfl
 refine Wj ?_
 refine Ws ?_
 refine zp1 ?_
 refine zq 20 ?_
 refine zs1 ?_
 refine Wi rfl (fun hi6=>?_) (fun hi6=>?_)
 ·obtain rfl:=oT hi6
  refine aN ?_
  refine Ws ?_
  refine zp1 ?_
  refine zc rfl Tryz.func106 ((ld a k h) _ _ rfl) ?_
  refine z1 ?_
  refine zc rfl Tryz.func106 ((ld a _ p1.1) _ _ rfl) ?_
  refine zs2 ?_
  refine zu3 ?_
  refine Wi rfl (fun hi7=>?_) (fun hi7=>?_)
  ·have q7:(aS k).2=(aS (aS k).1).2:=by(try simp only[dnL]at *);exact hi7
   refine zp1 ?_
   refine zc rfl Tryz.func105 ((vb a _ p2.1 true) _ _ rfl) ?_
   refine Wn ?_
   refine Wq ?_
   refine iw rfl rfl ?_ ?_
   ·rfl
   show cPW a _=cPW a (u9 k);rw[u9,if_pos q7]
  have q7:¬(aS k).2=(aS (aS k).1).2:=by(try simp only[dnL]at *);exact hi7
  refine zp2 ?_
  refine zc rfl Tryz.func49 ((iy a _ p2.1 _) _ _ rfl) ?_
  refine Wn ?_
  refine aa rfl ?_
  refine zy2 ?_
  refine zc rfl Tryz.func49 ((iy a _ u1 _) _ _ rfl) ?_
  refine Wn ?_
  refine aa rfl ?_
  refine zy5 ?_
  refine zy4 ?_
  refine co (zs:=cPW a (wIp (cA (cA (aS (aS k).1).1 (aS (aS k).1).2) (aS k).2) (W64 ((cA (cA (aS (aS k).1).1 (aS (aS k).1).2) (aS k).2).r.ip+8)))) (lO tG rfl) rfl rfl rfl rfl rfl rfl rfl rfl rfl rfl rfl ?_
  refine Wn ?_
  refine Ws ?_
  refine zp1 ?_
  refine zc rfl Tryz.func106 ((ld a _ (by exact u3)) _ _ rfl) ?_
  refine z1 ?_
  refine zc rfl Tryz.func106 ((ld a _ (by exact v1.1)) _ _ rfl) ?_
  refine zs2 ?_
  refine zp2 ?_
  refine zc rfl Tryz.func48 ((jD a _ (by exact v2.1) _) _ _ rfl) ?_
  refine Wn ?_
  refine aa rfl ?_
  refine zy2 ?_
  refine zc rfl Tryz.func48 ((jD a _ (by exact qG v2.1 v2.2) _) _ _ rfl) ?_
  refine Wn ?_
  refine aN ?_
  refine bc rfl rfl ?_ ?_
  ·rfl
  (show cPW a _=cPW a (u9 k);rw[u9,if_neg q7];rfl)
 refine Wj ?_
 refine Ws ?_
 refine zp1 ?_
 refine zq 22 ?_
 refine zs1 ?_
 refine Wi rfl (fun hi8=>?_) (fun hi8=>?_)
 ·obtain rfl:=oT hi8
  refine aN ?_
  refine Ws ?_
  refine zp1 ?_
  refine zc rfl Tryz.func106 ((ld a _ (by exact h)) _ _ rfl) ?_
  refine z1 ?_
  refine zc rfl Tryz.func106 ((ld a _ (by exact p1.1)) _ _ rfl) ?_
  refine zs2 ?_
  refine zp2 ?_
  refine zc rfl Tryz.func48 ((jD a _ (by exact p2.1) _) _ _ rfl) ?_
  refine Wn ?_
  refine aa rfl ?_
  refine zy2 ?_
  refine zc rfl Tryz.func48 ((jD a _ (by exact qG p2.1 p2.2) _) _ _ rfl) ?_
  refine Wn ?_
  refine aN ?_
  refine bc rfl rfl ?_ ?_
  ·rfl
  rfl
 refine Wj ?_
 refine Ws ?_
 refine zp1 ?_
 refine zq 24 ?_
 refine zs1 ?_
 refine Wi rfl (fun hi9=>?_) (fun hi9=>?_)
 ·obtain rfl:=oT hi9
  refine aN ?_
  refine zp1 ?_
  refine zc rfl Tryz.func107 ((Hr a k h 1) _ _ rfl) ?_
  refine Wn ?_
  refine aN ?_
  refine bc rfl rfl ?_ ?_
  ·rfl
  rfl
 refine Wj ?_
 refine Ws ?_
 refine zp1 ?_
 refine zq 26 ?_
 refine zs1 ?_
 refine Wi rfl (fun hi10=>?_) (fun hi10=>?_)
 ·obtain rfl:=oT hi10
  refine aN ?_
  refine zp2 ?_
  refine zc rfl Tryz.func106 ((ld a k h) _ _ rfl) ?_
  refine zc rfl Tryz.func107 ((Hr a _ p1.1 _) _ _ rfl) ?_
  refine Wn ?_
  refine aN ?_
  refine bc rfl rfl ?_ ?_
  ·rfl
  rfl
 refine Wj ?_
 refine zp1 ?_
 refine zq 28 ?_
 refine zs1 ?_
 refine Wi rfl (fun hi11=>?_) (fun hi11=>?_)
 ·obtain rfl:=oT hi11
  refine aN ?_
  refine zp1 ?_
  refine Wd rfl rfl (u4 (j:=1) (lO tG rfl) rfl rfl rfl) ?_
  refine zy2 ?_
  refine co (zs:=cPW a (MX k .halt)) (lO tG rfl) rfl rfl rfl rfl rfl rfl rfl rfl rfl rfl rfl ?_
  refine Wn ?_
  refine aN ?_
  refine cd rfl rfl ?_ ?_
  ·rfl
  rfl
 refine Wj ?_
 refine aN ?_
 refine zp2 ?_
 refine zc rfl Tryz.func108 ((Pc a k h hM name) _ _ rfl) ?_
 refine Wn ?_
 refine aN ?_
 refine bc rfl rfl ?_ ?_
 ·rfl
 (rw[jP,if_neg (oF hi1),if_neg (oF hi2),if_neg (oF hi3),if_neg (oF hi4),if_neg (oF hi5),if_neg (oF hi6),if_neg (oF hi8),if_neg (oF hi9),if_neg (oF hi10),if_neg (oF hi11)])
end
theorem On{k:PW}{e:Int}:(pOk k k.r.vm e).r=k.r:=by unfold pOk;cases k.err<;>dsimp only;split<;>rfl
section
variable (a : Addr) (k : PW) {M : Nat} (h : KX M k) (hM : M ≤ 900000) (hv : bX k.r.vm)
include h hM hv
theorem PO(xt:Int)(hx:ae xt):∀(H:List Ob) (i:Nat),H[i]?=some (.cells (cPW a k) 67)→(∀o∈iC a,∃k:Nat,H[k]?=some o)→HC Tryz.prog 25 (.ptr i 0::[i64 xt]) H (.tup []) (H.set i (.cells (cPW a (iM k xt)) 67)):=by
 have h1:=lh h h.v (aq k.r.vm xt).2
 have hN:=kg
 have hv1:bX (pOk k k.r.vm (aq k.r.vm xt).2).r.vm:=by rw[On];exact hv
 refine rZ (i9 a) tG (rs:=[]) Tryz.func25 rfl rfl rfl (by simp) (by simp) (by simp) (by simp) (fun B=>?_)
 refine zp5 ?_
 refine z1 ?_
 refine zc rfl Tryz.func47 ((yN k.r.vm xt (by have:=h.v.b;omega) hx) _) ?_
 refine zs5 ?_
 refine Ws ?_
 refine zp5 ?_
 refine zy2 ?_
 refine zc rfl Tryz.func46 ((mQ a k _ _) _ _ rfl) ?_
 refine zs1 ?_
 refine Wi rfl (fun hi1=>?_) (fun hi1=>?_)
 ·have q1:¬fI (pOk k k.r.vm (aq k.r.vm xt).2).err=true:=by simpa using hi1
  refine Wq ?_
  refine iw rfl rfl ?_ ?_
  ·rfl
  unfold iM;rw[if_neg q1]
 have q1:fI (pOk k k.r.vm (aq k.r.vm xt).2).err=true:=by simpa using hi1
 have hk:=xw (fB (fC.1 q1)).2
 unfold dF at hk
 refine Wj ?_
 refine Wl ?_
 refine zu3 ?_
 refine Wi rfl (fun hi2=>?_) (fun hi2=>?_)
 ·have q2:300≤(aq k.r.vm xt).1:=oT hi2
  refine aa rfl ?_
  refine zy5 ?_
  refine z1 ?_
  refine zc rfl Tryz.func46 ((mQ a _ _ _) _ _ rfl) ?_
  refine Wn ?_
  refine bc rfl rfl ?_ ?_
  ·rfl
  unfold iM;rw[if_pos q1];rw[if_pos q2]
 have q2:¬300≤(aq k.r.vm xt).1:=oF hi2
 refine zu3 ?_
 refine Wi rfl (fun hi3=>?_) (fun hi3=>?_)
 ·have q3:(aq k.r.vm xt).1=256:=by simpa using hi3
  refine zp5 ?_
  refine z1 ?_
  refine zc rfl Tryz.func48 ((jD a _ h1 _) _ _ rfl) ?_
  refine Wn ?_
  refine aa rfl ?_
  refine zy5 ?_
  refine z1 ?_
  refine co (zs:=cPW a (wIp (gB (pOk k k.r.vm (aq k.r.vm xt).2) (pOk k k.r.vm (aq k.r.vm xt).2).r.ip) (W64 (xt+8)))) (lO tG rfl) rfl rfl rfl rfl rfl rfl rfl rfl rfl rfl rfl ?_
  refine Wn ?_
  refine bc rfl rfl ?_ ?_
  ·rfl
  unfold iM;rw[if_pos q1];rw[if_neg q2,if_pos q3]
 have q3:¬(aq k.r.vm xt).1=256:=by simpa using hi3
 refine zu3 ?_
 refine Wi rfl (fun hi4=>?_) (fun hi4=>?_)
 ·have q4:(aq k.r.vm xt).1=257:=by simpa using hi4
  refine aa rfl ?_
  refine zy3 ?_
  refine zc rfl Tryz.func49 ((iy a _ h1 _) _ _ rfl) ?_
  refine Wn ?_
  refine bc rfl rfl ?_ ?_
  ·rfl
  unfold iM;rw[if_pos q1];rw[if_neg q2,if_neg q3,if_pos q4]
 have q4:¬(aq k.r.vm xt).1=257:=by simpa using hi4
 refine zu3 ?_
 refine Wi rfl (fun hi5=>?_) (fun hi5=>?_)
 ·have q5:(aq k.r.vm xt).1=258:=by simpa using hi5
  refine aa rfl ?_
  refine zy4 ?_
  refine zc rfl Tryz.func24 ((iq a _ h1 _ (bl _)) _ _ rfl) ?_
  refine zc rfl Tryz.func49 ((iy a _ (fh h1 _).1 _) _ _ rfl) ?_
  refine Wn ?_
  refine bc rfl rfl ?_ ?_
  ·rfl
  unfold iM;rw[if_pos q1];rw[if_neg q2,if_neg q3,if_neg q4,if_pos q5]
 have q5:¬(aq k.r.vm xt).1=258:=by simpa using hi5
 refine zu3 ?_
 refine Wi rfl (fun hi6=>?_) (fun hi6=>?_)
 ·have q6:(aq k.r.vm xt).1=259:=by simpa using hi6
  refine zp3 ?_
  refine zc rfl Tryz.func24 ((iq a _ h1 _ (bl _)) _ _ rfl) ?_
  refine zs1 ?_
  refine zp3 ?_
  refine zc rfl Tryz.func49 ((iy a _ (fh h1 _).1 _) _ _ rfl) ?_
  refine Wn ?_
  refine zp5 ?_
  refine z1 ?_
  refine zc rfl Tryz.func48 ((jD a _ (qW (fh h1 _).1 (bl _)) _) _ _ rfl) ?_
  refine Wn ?_
  refine aa rfl ?_
  refine zy5 ?_
  refine co (zs:=cPW a (wIp (gB (cA (be (pOk k k.r.vm (aq k.r.vm xt).2) (W64 (xt+8))).1 (W64 (xt+16))) (cA (be (pOk k k.r.vm (aq k.r.vm xt).2) (W64 (xt+8))).1 (W64 (xt+16))).r.ip) (be (pOk k k.r.vm (aq k.r.vm xt).2) (W64 (xt+8))).2)) (lO tG rfl) rfl rfl rfl rfl rfl rfl rfl rfl rfl rfl rfl ?_
  refine Wn ?_
  refine bc rfl rfl ?_ ?_
  ·rfl
  unfold iM;rw[if_pos q1];rw[if_neg q2,if_neg q3,if_neg q4,if_neg q5,if_pos q6]
 have q6:¬(aq k.r.vm xt).1=259:=by simpa using hi6
 refine zu3 ?_
 refine Wi rfl (fun hi7=>?_) (fun hi7=>?_)
 ·have q7:(aq k.r.vm xt).1=260:=by simpa using hi7
  refine aa rfl ?_
  refine zy3 ?_
  refine zc rfl Tryz.func50 ((Fv a _ h1 _ (bl _)) _ _ rfl) ?_
  refine Wn ?_
  refine bc rfl rfl ?_ ?_
  ·rfl
  unfold iM;rw[if_pos q1];rw[if_neg q2,if_neg q3,if_neg q4,if_neg q5,if_neg q6,if_pos q7]
 have q7:¬(aq k.r.vm xt).1=260:=by simpa using hi7
 refine zp1 ?_
 refine zc rfl Tryz.func51 ((oW _) _) ?_
 refine zs1 ?_
 refine Wi rfl (fun hi8=>?_) (fun hi8=>?_)
 ·have q8:23≤(aq k.r.vm xt).1∧(aq k.r.vm xt).1≤129:=oT hi8
  refine aa rfl ?_
  refine zy5 ?_
  refine zy2 ?_
  refine zc rfl Tryz.func52 ((L8 _ hv1 _) _) ?_
  refine zy2 ?_
  refine zc rfl Tryz.func46 ((mQ a _ _ _) _ _ rfl) ?_
  refine Wn ?_
  refine bc rfl rfl ?_ ?_
  ·rfl
  unfold iM;rw[if_pos q1];rw[if_neg q2,if_neg q3,if_neg q4,if_neg q5,if_neg q6,if_neg q7,if_pos q8]
 have q8:¬(23≤(aq k.r.vm xt).1∧(aq k.r.vm xt).1≤129):=oF hi8
 refine aa rfl ?_
 refine z1 ?_
 refine zc rfl Tryz.func54 ((nL) _) ?_
 refine z1 ?_
 refine Wv tG rfl rfl rfl (by(try simp only[dnL]at *);omega) (iR fP 1 (fun _=>rfl) [] (by omega)) ?_
 refine z1 ?_
 refine zc rfl Tryz.func53 (GP a _ h1 hM _ _ _ rfl (hO 1 2 rfl rfl)) ?_
 refine Wn ?_
 refine bc rfl rfl ?_ ?_
 ·rfl
 unfold iM;rw[if_pos q1];rw[if_neg q2,if_neg q3,if_neg q4,if_neg q5,if_neg q6,if_neg q7,if_neg q8]
end
open Go.RowKit
def Cd(e:Int):Prop:=-300≤e∧e≤0
theorem P5{e:Int}(h:Cd e):ae e:=by unfold Cd at h;unfold ae;omega
theorem Tr(n:Nat)(h:n≤300):Cd (-(n:Int)):=by unfold Cd;omega
theorem cd0:Cd 0:=by unfold Cd;omega
section
variable {α β γ : Type} {c : Prop} [Decidable c]
theorem xH{a b:Int}(ha:Cd a)(hb:Cd b):Cd (if c then a else b):=by split<;>assumption
theorem cG{a b:α×Int}(ha:Cd a.2)(hb:Cd b.2):Cd (if c then a else b).2:=by split<;>assumption
theorem bY{a b:α×β×Int}(ha:Cd a.2.2)(hb:Cd b.2.2):Cd (if c then a else b).2.2:=by split<;>assumption
theorem Et{a b:α×β×γ×Int}(ha:Cd a.2.2.2)(hb:Cd b.2.2.2):Cd (if c then a else b).2.2.2:=by split<;>assumption
end
theorem gc(n:Nat)(h:Nat.ble n 300=true):Cd (-(n:Int)):=Tr n (Nat.le_of_ble_eq_true h)
theorem JO(a b:Int):Cd (gL a b).2.2:=by unfold gL;exact bY (gc 10 rfl) cd0
theorem MO(a b c:Int):Cd (dh a b c).2.2:=by unfold dh;exact bY (gc 10 rfl) (bY (gc 11 rfl) cd0)
theorem Mz(a b c:Int):Cd (dO a b c).2.2:=by unfold dO;exact bY (gc 10 rfl) (bY cd0 (gc 11 rfl))
theorem yE(a b c:Int):Cd (dX a b c).2.2:=by unfold dX;exact bY (gc 10 rfl) (bY cd0 (gc 11 rfl))
theorem OT(name:Str)(a b:Int):Cd (gn name a b).2.2:=by
 unfold gn
 rcases op2 name with _|o
 ·exact cd0
 cases o<;>first|exact JO a b|exact cd0
theorem FZ{name:Str}{x:List Int}{r:List Int×Int}(h:dn name x=some r):Cd r.2:=by
 unfold dn at h
 rcases ar h with rfl|h
 ·exact JO _ _
 rcases ar h with rfl|h
 ·exact yE _ _ _
 rcases ar h with rfl|h
 ·exact yE _ _ _
 rcases ar h with rfl|h
 ·exact cd0
 rcases ar h with rfl|h
 ·exact cd0
 rcases ar h with rfl|h
 ·exact MO _ _ _
 rcases ar h with rfl|h
 ·exact Mz _ _ _
 rcases ar h with rfl|h
 ·exact yE _ _ _
 iterate 7
  rcases ar h with rfl|h
  exact cd0
 cases h
theorem D3(m:aV)(a:Int):Cd (bE m a):=by unfold bE;exact xH (xH cd0 (gc 23 rfl)) (gc 9 rfl)
theorem mh(m:aV)(a:Int):Cd (au m a).2:=by unfold au;exact cG cd0 (D3 _ _)
theorem wA(m:aV)(a:Int):Cd (ce m a).2:=by unfold ce;exact cG cd0 (gc 9 rfl)
theorem nW(m:aV)(a:Int)(b:List UInt8):Cd (bK m a b).2:=by unfold bK;exact cG (cG cd0 cd0) (gc 9 rfl)
theorem jR(m:aV)(a n:Int):Cd (aG m a n).2:=by unfold aG;exact cG (nW _ _ _) (D3 _ _)
theorem Dk(m:aV)(a n:Int):Cd (bT m a n).2:=by unfold bT;exact cG cd0 (gc 9 rfl)
theorem wC(v:VVm)(s b:Int):Cd (cR v s b):=by unfold cR;exact xH (xH (gc 24 rfl) cd0) (mh _ _)
theorem E7{v:VVm}{name:Str}{x:List Int}{r:VVm×List Int×Int}(h:cM v name x=some r):Cd r.2.2:=by
 unfold cM at h
 rcases ar h with rfl|h
 ·exact mh _ _
 rcases ar h with rfl|h
 ·exact wA _ _
 rcases ar h with rfl|h
 ·exact jR _ _ _
 rcases ar h with rfl|h
 ·exact nW _ _ _
 rcases ar h with rfl|h
 ·unfold cu kG;exact cG (jR _ _ _) (mh _ _)
 rcases ar h with rfl|h
 ·unfold fH;exact bY (mh _ _) (mh _ _)
 rcases ar h with rfl|h
 ·unfold cu jb;exact cG (jR _ _ _) (jR _ _ _)
 rcases ar h with rfl|h
 ·unfold cu im;exact cG (nW _ _ _) (gc 9 rfl)
 rcases ar h with rfl|h
 ·unfold cu ik;exact cG (nW _ _ _) (Dk _ _ _)
 rcases ar h with rfl|h
 ·exact wA _ _
 rcases ar h with rfl|h
 ·exact jR _ _ _
 rcases ar h with rfl|h
 ·exact jR _ _ _
 rcases ar h with rfl|h
 ·unfold cU;exact bY (jR _ _ _) (wC _ _ _)
 rcases ar h with rfl|h
 ·unfold dG;exact bY (jR _ _ _) (wC _ _ _)
 cases h
theorem BT(m:aV)(a:Int)(b:List UInt8):Cd (gl m a b).2.2:=by unfold gl;exact bY (gc 8 rfl) cd0
theorem HJ{v:VVm}{name:Str}{x:List Int}{r:VVm×List Int×Int}(h:fw v name x=some r):Cd r.2.2:=by
 unfold fw at h
 rcases ar h with rfl|h
 ·unfold dB pj cg;exact cG (gc 8 rfl) cd0
 rcases ar h with rfl|h
 ·unfold dB gf;exact bY (BT _ _ _) (gc 23 rfl)
 rcases ar h with rfl|h
 ·exact BT _ _ _
 rcases ar h with rfl|h
 ·exact BT _ _ _
 cases h
theorem Ki{v:VVm}{name:Str}{x:List Int}{r:Str×Int}(h:i8 v name x=some r):Cd r.2:=by
 unfold i8 at h
 iterate 4
  rcases ar h with rfl|h
  exact cd0
 rcases ar h with rfl|h
 ·exact Dk _ _ _
 rcases ar h with rfl|h
 ·unfold uU fX;exact cG cd0 (gc 24 rfl)
 rcases ar h with rfl|h
 ·unfold uU cJ;exact cG cd0 (gc 24 rfl)
 cases h
theorem HI(v:VVm){r:Str×Int}(h:Cd r.2):Cd (cZ v r).2.2:=by
 unfold cZ iY;exact bY (cG (gc 260 rfl) cd0) h
theorem yK(p:ca)(c:Int):Cd (eT p c).2:=by unfold eT;exact cG cd0 (gc 17 rfl)
theorem uM(p:ca)(a b c:Int):Cd (aw p a b c).2.2.2:=by unfold aw;exact Et (gc 24 rfl) (Et cd0 (yK _ _))
theorem Di:∀(n:Nat) (q:ca) (lo hi base:Int),Cd (mH n q lo hi base).2
 | 0,q,lo,hi,base=>uM _ _ _ _
 | n+1,q,lo,hi,base=>by unfold mH;exact cG (uM _ _ _ _) (cG cd0 (Di n _ _ _ _))
theorem MM{v:VVm}{name:Str}{x:List Int}{r:VVm×List Int×Int}(h:jm v name x=some r):Cd r.2.2:=by
 unfold jm at h
 rcases ar h with rfl|h
 ·exact cd0
 rcases ar h with rfl|h
 ·exact uM _ _ _ _
 rcases ar h with rfl|h
 ·unfold d7 lp rK j5;exact cG cd0 (Di _ _ _ _ _)
 rcases ar h with rfl|h
 ·exact yK _ _
 rcases ar h with rfl|h
 ·unfold dZ iZ;exact cG cd0 (yK _ _)
 rcases ar h with rfl|h
 ·unfold nH fK;exact bY (nW _ _ _) (cG cd0 (gc 17 rfl))
 cases h
theorem AE(k:Int)(v:VVm)(x:List Int):Cd (bn k v x).2.2:=by
 unfold bn;exact bY (gc 259 rfl) (bY (gc 24 rfl) (bY (gc 257 rfl) (bY (gc 258 rfl) cd0)))
theorem Qm{v:VVm}{name:Str}{x:List Int}{r:VVm×List Int×Int}(h:iI v name x=some r):Cd r.2.2:=by
 unfold iI at h
 rcases ar h with rfl|h
 ·unfold ex;exact bY (gc 259 rfl) (bY (gc 257 rfl) cd0)
 rcases ar h with rfl|h
 ·unfold em;exact bY (gc 257 rfl) cd0
 rcases ar h with rfl|h
 ·exact AE _ _ _
 rcases ar h with rfl|h
 ·exact AE _ _ _
 cases h
theorem Mw(v:VVm)(a:Int):Cd (aq v a).2:=by unfold aq;exact cG (cG cd0 (gc 9 rfl)) (mh _ _)
theorem Nd(v:VVm)(name:Str)(x:List Int):Cd (ng v name x).2.2:=by
 unfold ng
 refine bY cd0 (bY cd0 (bY cd0 (bY cd0 (bY ?_ (gc 1 rfl)))))
 unfold kz;exact bY (gc 31 rfl) (Mw _ _)
theorem NB(v:VVm)(n:Int)(name:Str)(x:List Int):Cd (aY v n name x).2.2:=by
 unfold aY
 refine bY (OT _ _ _) (bY cd0 ?_)
 rcases e0:dn name x with _|r
 rotate_left
 ·exact FZ e0
 rcases e1:cM v name x with _|r
 rotate_left
 ·exact E7 e1
 rcases e2:fw v name x with _|r
 rotate_left
 ·exact HJ e2
 rcases e3:i8 v name x with _|r
 rotate_left
 ·exact HI v (Ki e3)
 rcases e4:jm v name x with _|r
 rotate_left
 ·exact MM e4
 rcases e5:iI v name x with _|r
 rotate_left
 ·exact Qm e5
 exact Nd v name x
theorem RF(v:VVm)(n:Int):Cd (doS v n).2:=by
 unfold doS
 refine cG (gc 24 rfl) ?_
 dsimp only
 refine cG ?_ (cG (gc 4 rfl) (cG (NB _ _ _ _) (cG (gc 3 rfl) cd0)))
 unfold bR
 exact bY cd0 (bY (gc 4 rfl) (bY (gc 3 rfl) cd0))
open Go.RowKit
theorem dv{P:Program}{B:Nat→Nat→Prop}{n:Nat}{all:Array Oper}{l:List Oper}{T:Nat→PV}{H H':List Ob}{K:(Nat→PV)→List Ob→Prop}(i:Nat){ob ob':Ob}(hi:H[i]?=some ob)(e:ob=ob')(hH:nfH (H.set i ob')=some H')(h1:WO P B n all l T H' K):WO P B n all l T H K:=by
 rw[ry hH]at h1
 subst e
 have:H.set i ob=H:=by
  apply List.ext_getElem?
  intro j
  rw[List.getElem?_set]
  split
  ·rename_i h;subst h;split
   ·exact hi.symm
   rename_i h2;rw[List.getElem?_eq_none (by omega)]
  rfl
 rwa [this]at h1
def NX:List Str:=[[73],[74],[85,78,76,79,79,80],[62,82],[82,62],[82,64],[50,62,82],[50,82,62]]
def RE:List Str:=[[46,34],[40],[92],[91]]
def N0:List Str:=[[59],[68,79,69,83,62],[91,39,93],[91,67,72,65,82,93],[76,73,84,69,82,65,76],[80,79,83,84,80,79,78,69],[82,69,67,85,82,83,69],[73,70],[69,76,83,69],[84,72,69,78],[66,69,71,73,78],[87,72,73,76,69],[82,69,80,69,65,84],[85,78,84,73,76],[65,71,65,73,78],[68,79],[63,68,79],[76,79,79,80],[43,76,79,79,80],[76,69,65,86,69],[83,34],[69,88,73,84]]
def inS(l:List Str)(s:Str):Bool:=l.any (fun x=>decide (x=s))
theorem BU(l:List Str)(s:Str)(hl:l.length≤1000000):ab Tryz.prog 131 [sq fP l,str s] (boo (inS l s)):=by
 refine pW tG (rs:=[.tmp 4]) Tryz.func131 rfl rfl rfl (by simp) (by simp) (fun B=>?_)
 refine zu1 ?_
 refine Ws ?_
 refine zu1 ?_
 refine Wl ?_
 show W _ _ _ _ _ _ _
 refine bG (fun(k:Nat)=>[(0,sq fP l),(1,str s),(5,i64 k)]) (fun(k:Nat)=>[]) (fun(k:Nat)=>[]) (fun(k:Nat)=>k≤l.length∧(l.take k).all (fun x=>!decide (x=s))=true) (fun(k:Nat)=>l.length-k) (0) (by simp) [] ?_ ?_
 ·exact bu
 intro k hk
 refine Ws ?_
 refine zu4 ?_
 refine Wi rfl (fun hi1=>?_) (fun hi1=>?_)
 ·have hlt:k<l.length:=by have:=oT hi1;omega
  refine Wj ?_
  refine Ws ?_
  refine Wl ?_
  refine zp2 ?_
  refine Wv tG rfl rfl rfl (by omega) (iN fP 1 (fun _=>rfl) [] (by omega)) ?_
  refine zy3 ?_
  refine zq 17 ?_
  refine Wn ?_
  refine Wi rfl (fun hi2=>?_) (fun hi2=>?_)
  ·have hy:inS l s=true:=by unfold inS;rw[List.any_eq_true];exact⟨_,AO [] hlt,hi2⟩
   refine zu1 ?_
   refine zR ?_
   rw[hy];rfl
  refine Wj ?_
  refine aa rfl ?_
  refine zs3 ?_
  exact⟨k+1,[],(by exact⟨by omega,jL [] hlt hk.2 (by rw[hi2];rfl)⟩),(by omega),bu⟩
 have hge:l.length≤k:=by have:=oF hi1;omega
 have hn:inS l s=false:=by have h1:=hk.2;rw[bk _ k hge]at h1;unfold inS;rw[List.any_eq_false];intro x hx;have:=List.all_eq_true.1 h1 x hx;simpa using this
 refine aN ?_
 refine zu1 ?_
 refine zR ?_
 rw[hn];rfl
def pY(name:Str)(i:Nat):Int:=if i<12 then 6 else if inS NX name then 4 else if inS RE name then 1 else if inS N0 name then 5 else 0
theorem v6(name:Str)(i:Nat):ab Tryz.prog 87 [str name,i64 i] (i64 (pY name i)):=by
 refine pW tG (rs:=[.tmp 4]) Tryz.func87 rfl rfl rfl (by simp) (by simp) (fun B=>?_)
 refine zu1 ?_
 refine Ws ?_
 refine zu2 ?_
 refine Wi rfl (fun hi1=>?_) (fun hi1=>?_)
 ·have h0:i<12:=by have:=oT hi1;omega
  refine zu1 ?_
  refine zR ?_
  rw[pY,if_pos h0];rfl
 have h0:¬i<12:=by have:=oF hi1;omega
 refine Wj ?_
 refine zp1 ?_
 refine Wa 10 rfl (bsL fP [_,_,_,_,_,_,_,_] rfl rfl) ?_
 refine z1 ?_
 refine zc rfl Tryz.func131 ((BU NX name (by decide)) _) ?_
 refine zs1 ?_
 refine Ws ?_
 refine zu1 ?_
 refine Wi rfl (fun hi2=>?_) (fun hi2=>?_)
 ·refine zu1 ?_
  refine zR ?_
  rw[pY,if_neg h0,if_pos hi2];rfl
 refine Wj ?_
 refine zp1 ?_
 refine Wa 14 rfl (bsL fP [_,_,_,_] rfl rfl) ?_
 refine z1 ?_
 refine zc rfl Tryz.func131 ((BU RE name (by decide)) _) ?_
 refine zs1 ?_
 refine Ws ?_
 refine zu1 ?_
 refine Wi rfl (fun hi3=>?_) (fun hi3=>?_)
 ·refine zu1 ?_
  refine zR ?_
  rw[pY,if_neg h0,if_neg (by rw[hi2];simp),if_pos hi3];rfl
 refine Wj ?_
 refine zp1 ?_
 refine Wa 18 rfl (bsL fP [_,_,_,_,_,_,_,_,_,_,_,_,_,_,_,_,_,_,_,_,_,_] rfl rfl) ?_
 refine z1 ?_
 refine zc rfl Tryz.func131 ((BU N0 name (by decide)) _) ?_
 refine zs1 ?_
 refine Ws ?_
 refine zu1 ?_
 refine Wi rfl (fun hi4=>?_) (fun hi4=>?_)
 ·refine zu1 ?_
  refine zR ?_
  rw[pY,if_neg h0,if_neg (by rw[hi2];simp),if_neg (by rw[hi3];simp),if_pos hi4];rfl
 refine Wj ?_
 refine zu1 ?_
 refine zR ?_
 rw[pY,if_neg h0,if_neg (by rw[hi2];simp),if_neg (by rw[hi3];simp),if_neg (by rw[hi4];simp)];rfl
theorem Cz:ab Tryz.prog 69 [] (sqc fP ao):=by
 refine pW tG (rs:=[.tmp 0]) Tryz.func69 rfl rfl rfl (by simp;done) (by exact lV wS _) (fun B=>?_)
 refine zu1 ?_
 refine zp1 ?_
 refine Wa 1 rfl (bsL fP [_,_,_,_,_,_,_,_,_,_,_,_,_,_,_,_,_,_,_,_,_,_,_,_,_,_,_,_,_,_,_,_,_,_,_,_,_,_,_,_,_,_,_,_,_,_,_,_,_,_,_,_,_,_,_,_,_,_,_,_,_,_,_,_,_,_,_,_,_,_,_,_,_,_,_,_,_,_,_,_,_,_,_,_,_,_,_,_,_,_,_,_,_,_,_,_,_,_,_,_,_,_,_,_,_,_,_,_,_,_,_,_,_,_,_,_,_,_,_,_,_,_,_,_,_,_,_,_,_,_] rfl rfl) ?_
 refine zs1 ?_
 refine Wq ?_
 exact pv rfl rfl
def ln:List Str:=ao++lH
theorem I9:ln.length=167:=by unfold ln;rw[List.length_append,jq,i5]
def EY(i:Nat):Nat:=if 130≤i then 170+i else i
def sW(b:List UInt8)(a n:Nat):List UInt8:=(b.set a (UInt8.ofNat (n%256))).set (a+1) (UInt8.ofNat (n/256))
def Az(b:List UInt8)(i:Nat):List UInt8 :=
 let b1:=sW b (32+8*i) (EY i)
 let b2:=if ln.getD i []=[40,104,97,108,116,41]then sW b1 16 (32+8*i)else b1
 if ln.getD i []=[40,99,97,117,103,104,116,41]then sW b2 24 (32+8*i)else b2
def mb(M:Nat):Nat→List UInt8
 | 0=>(List.replicate M 0).set 0 10
 | k+1=>Az (mb M k) k
def sd(i:Nat):gX:=⟨ln.getD i [],((32+8*i:Nat):Int),pY (ln.getD i []) i⟩
def mZ(k:Nat):List gX:=(List.range k).map sd
@[simp] theorem uB (k : Nat) : (mZ k).length = k := by simp [mZ]
theorem Fe(k:Nat):mZ (k+1)=mZ k++[sd k]:=by unfold mZ;rw[List.range_succ,List.map_append];rfl
theorem IQ(b:List UInt8)(a n:Nat):(sW b a n).length=b.length:=by simp[sW]
theorem GD(b:List UInt8)(i:Nat):(Az b i).length=b.length:=by
 unfold Az
 simp only
 split<;>split<;>simp[IQ]
theorem um(M k:Nat):(mb M k).length=M:=by
 induction k with
 | zero=>simp[mb]
 | succ k ih=>rw[mb,GD,ih]
def DV(c:jh):VVm:={conf:=c,mem:=⟨mb c.mem.toNat 167,[]⟩,here:=1368,d:=[],r:=[],f:=[],dict:=mZ 167,last:=0,out:=[],pic:=⟨[],false⟩,req:=[],free:=0,next:=0,arg:=0,self:=0,now:=0,hand:=[]}
def vmZ:List PV:=[i64 0,i64 0,i64 0,i64 0,i64 0,.seq 0 [] .clip,.seq 0 [] .clip,i64 0,.seq 0 [] .clip,.seq 0 [] .clip,.seq 0 [] .clip,.seq 0 [] .clip,i64 0,.seq 0 [] .clip,.seq 0 [] .clip,boo false,.seq 0 [] .clip,i64 0,i64 0,i64 0,i64 0,i64 0,.seq 0 [] .clip]
@[simp] theorem TF {n : Nat} : mS n vmZ := ki (by simp [vmZ])
theorem NU(n:Nat)(h:n<256):((UInt8.ofNat n).toNat:Int)=n:=by rw[UInt8.toNat_ofNat'];omega
theorem og(n:Nat):PV.val (Value.int .u8 (IntKind.u8.wrap ((n:Int).tmod 256)))=.val (.int .u8 ((UInt8.ofNat (n%256)).toNat:Int)):=by
 rw[NU _ (by omega),Int.tmod_eq_emod_of_nonneg (by omega)]
 simp only[PV.val.injEq,Value.int.injEq,true_and]
 rw[IntKind.wrap_u8];omega
theorem nq(n:Nat)(h:n<65536):PV.val (Value.int .u8 (IntKind.u8.wrap (IntKind.i64.wrap ((n:Int).tdiv 256))))=.val (.int .u8 ((UInt8.ofNat (n/256)).toNat:Int)):=by
 rw[NU _ (by omega),Int.tdiv_eq_ediv_of_nonneg (by omega)]
 simp only[PV.val.injEq,Value.int.injEq,true_and]
 rw[aK,IntKind.wrap_u8];unfold wrap64;omega
theorem cV{b:List UInt8}{i:Int}{n:Nat}{x:UInt8}(hi:i=n)(hn:n<b.length):cK (b.flatMap av) (0+i.toNat*1) [.val (.int .u8 (x.toNat:Int))]=(b.set n x).flatMap av:=by
 subst hi
 rw[Int.toNat_natCast,Nat.mul_one,Nat.zero_add]
 exact nv hn x
theorem LV{M:Nat}{d:TD}{e:TypeId}(hd:d.zero=av 0):Ob.cells (dD M d) e=.cells ((List.replicate M (0:UInt8)).flatMap av) e:=by
 unfold dD
 rw[hd,List.flatMap_replicate]
def sC:jh:=⟨2048,32,32,200,500⟩
theorem EA:dV sC:=by unfold dV sC;decide
def rm(d:List Int):VVm:={DV sC with d:=d}
theorem CM:(mZ 167).all oc=true:=by decide +kernel
theorem zn{d:List Int}(hd:d.length≤32):ru (rm d):=by
 have hl:(mb 2048 167).length=2048:=um _ _
 refine⟨EA,?_,?_,⟨(by show(0:Nat)≤130;decide),.inr rfl⟩,?_,(by show(1368:Int)≤1368;decide),(by show(1368:Int)≤2048;decide),rfl,rfl,?_,(by show((0:Nat):Int)≤32;decide),(by show(0:Nat)≤64;decide),?_,(by show((0:Nat):Int)≤500;decide),(by show(0:Nat)≤16;decide),(by show(0:Int)≤0;decide),(by show(0:Int)≤64;decide),(by show(0:Int)≤0;decide),(by show(0:Int)≤4611686018427387904;decide),(by show(0:Nat)≤64;decide)⟩
 ·show fv ⟨mb 2048 167,[]⟩=true
  unfold fv
  simp only[List.all_nil,Bool.true_and,hl]
  decide
 ·show lw (mZ 167)=true
  unfold lw
  rw[CM,uB];rfl
 ·show((mb 2048 167).length:Int)=2048
  rw[hl];rfl
 ·show(d.length:Int)≤32
  omega
 show((mZ 167).length:Int)≤200
 rw[uB];decide
theorem Iq{n:Int}(h:(Lit.int .i64 n).wf=true):ae n:=PZ h
theorem bD{w:World}{cs:List Value}(h:Rd w 3 cs):∃n,ae n∧an (c0 w) [i64 n] cs:=by
 obtain⟨n,h1,h2⟩:=ue Tryz.underlying3 h
 exact⟨n,Iq h1,h2⟩
theorem M1{w:World}{cs:List Value}(h:Rd w 5 cs):∃b:UInt8,True∧an (c0 w) (av b) cs:=by
 obtain⟨n,h1,h2⟩:=ue Tryz.underlying5 h
 have h3:=NF h1
 refine⟨UInt8.ofNat n.toNat,trivial,?_⟩
 have e:((UInt8.ofNat n.toNat).toNat:Int)=n:=by rw[UInt8.toNat_ofNat'];omega
 unfold av
 rw[e];exact h2
theorem Gn(s:ByteArray):s.size=s.data.toList.length:=by show s.data.size=_;simp
theorem OO{w:World}{cs:List Value}(h:Rd w 9 cs):∃s:Str,s.length≤9223372036854775807∧an (c0 w) [str s] cs:=by
 obtain⟨s,h1,h2⟩:=vJ Tryz.underlying9 h
 refine⟨s.data.toList,by unfold maxLen at h1;have:s.size=s.data.toList.length:=(Gn s);omega,?_⟩
 rw[←Pz];exact h2
theorem Be{w:World}{cs:List Value}(h:Rd w 4 cs):∃b:Bool,True∧an (c0 w) [boo b] cs:=by
 obtain⟨b,h1⟩:=Aw Tryz.underlying4 h
 exact⟨b,trivial,h1⟩
theorem qx{w:World}{cs:List Value}(h:Rd w 24 cs):∃l:List UInt8,l.length≤9223372036854775807∧an (c0 w) [sq av l] cs:=by
 obtain⟨l,_,h2,h3⟩:=fJ av (fun _=>True) 1 Tryz.underlying24 (by kernel_rfl) (by omega) (fun es h=>M1 h) h
 exact⟨l,by unfold maxLen at h2;omega,h3⟩
theorem D1{w:World}{cs:List Value}(h:Rd w 28 cs):∃l:List Int,((∀x∈l,ae x)∧l.length≤9223372036854775807)∧an (c0 w) [sq af l] cs:=by
 obtain⟨l,h1,h2,h3⟩:=fJ af ae 1 Tryz.underlying28 (by kernel_rfl) (by omega) (fun es h=>bD h) h
 exact⟨l,⟨h1,by unfold maxLen at h2;omega⟩,h3⟩
structure Jn (x:jh):Prop where
 o_mem:ae x.mem
 o_data:ae x.data
 o_ret:ae x.ret
 o_words:ae x.words
 o_out:ae x.out
theorem M9{w:World}{cs:List Value}(h:Rd w 23 cs):∃x:jh,Jn x∧an (c0 w) (wI x) cs:=by
 have h0:=kM Tryz.underlying23 [(3,1),(3,1),(3,1),(3,1),(3,1)] (by kernel_rfl) (by kernel_rfl) (by kernel_rfl) h
 simp only[kV]at h0
 obtain⟨a0,b0,e0,_,r0,t0⟩:=h0
 obtain⟨a1,b1,e1,_,r1,t1⟩:=t0
 obtain⟨a2,b2,e2,_,r2,t2⟩:=t1
 obtain⟨a3,b3,e3,_,r3,t3⟩:=t2
 obtain⟨a4,b4,e4,_,r4,t4⟩:=t3
 obtain⟨x0,k0,p0⟩:=bD r0
 obtain⟨x1,k1,p1⟩:=bD r1
 obtain⟨x2,k2,p2⟩:=bD r2
 obtain⟨x3,k3,p3⟩:=bD r3
 obtain⟨x4,k4,p4⟩:=bD r4
 refine⟨⟨x0,x1,x2,x3,x4⟩,⟨k0,k1,k2,k3,k4⟩,?_⟩
 subst e0 e1 e2 e3 e4
 have key:=(an.append p0 (an.append p1 (an.append p2 (an.append p3 (an.append p4 (ax.2 t4))))))
 exact key
structure s8 (x:gY):Prop where
 o_place:ae x.place
 o_old:x.old.length≤9223372036854775807
theorem K9{w:World}{cs:List Value}(h:Rd w 96 cs):∃x:gY,s8 x∧an (c0 w) (cL x) cs:=by
 have h0:=kM Tryz.underlying96 [(3,1),(24,1)] (by kernel_rfl) (by kernel_rfl) (by kernel_rfl) h
 simp only[kV]at h0
 obtain⟨a0,b0,e0,_,r0,t0⟩:=h0
 obtain⟨a1,b1,e1,_,r1,t1⟩:=t0
 obtain⟨x0,k0,p0⟩:=bD r0
 obtain⟨x1,k1,p1⟩:=qx r1
 refine⟨⟨x0,x1⟩,⟨k0,k1⟩,?_⟩
 subst e0 e1
 have key:=(an.append p0 (an.append p1 (ax.2 t1)))
 exact key
theorem Gp{w:World}{cs:List Value}(h:Rd w 25 cs):∃l:List gY,((∀x∈l,s8 x)∧l.length≤9223372036854775807)∧an (c0 w) [sq cL l] cs:=by
 obtain⟨l,h1,h2,h3⟩:=fJ cL s8 2 Tryz.underlying25 (by kernel_rfl) (by omega) (fun es h=>K9 h) h
 exact⟨l,⟨h1,by unfold maxLen at h2;omega⟩,h3⟩
structure N9 (x:aV):Prop where
 o_b:x.b.length≤9223372036854775807
 o_old:(∀a∈x.old,s8 a)∧x.old.length≤9223372036854775807
theorem Pe{w:World}{cs:List Value}(h:Rd w 27 cs):∃x:aV,N9 x∧an (c0 w) (np x) cs:=by
 have h0:=kM Tryz.underlying27 [(24,1),(25,1)] (by kernel_rfl) (by kernel_rfl) (by kernel_rfl) h
 simp only[kV]at h0
 obtain⟨a0,b0,e0,_,r0,t0⟩:=h0
 obtain⟨a1,b1,e1,_,r1,t1⟩:=t0
 obtain⟨x0,k0,p0⟩:=qx r0
 obtain⟨x1,k1,p1⟩:=Gp r1
 refine⟨⟨x0,x1⟩,⟨k0,k1⟩,?_⟩
 subst e0 e1
 have key:=(an.append p0 (an.append p1 (ax.2 t1)))
 exact key
structure Oc (x:ca):Prop where
 o_b:x.b.length≤9223372036854775807
 o_on:True
theorem OI{w:World}{cs:List Value}(h:Rd w 32 cs):∃x:ca,Oc x∧an (c0 w) (m0 x) cs:=by
 have h0:=kM Tryz.underlying32 [(24,1),(4,1)] (by kernel_rfl) (by kernel_rfl) (by kernel_rfl) h
 simp only[kV]at h0
 obtain⟨a0,b0,e0,_,r0,t0⟩:=h0
 obtain⟨a1,b1,e1,_,r1,t1⟩:=t0
 obtain⟨x0,k0,p0⟩:=qx r0
 obtain⟨x1,k1,p1⟩:=Be r1
 refine⟨⟨x0,x1⟩,⟨k0,k1⟩,?_⟩
 subst e0 e1
 have key:=(an.append p0 (an.append p1 (ax.2 t1)))
 exact key
structure yg (x:gX):Prop where
 o_name:x.name.length≤9223372036854775807
 o_xt:ae x.xt
 o_flags:ae x.flags
theorem LT{w:World}{cs:List Value}(h:Rd w 98 cs):∃x:gX,yg x∧an (c0 w) (c8 x) cs:=by
 have h0:=kM Tryz.underlying98 [(9,1),(3,1),(3,1)] (by kernel_rfl) (by kernel_rfl) (by kernel_rfl) h
 simp only[kV]at h0
 obtain⟨a0,b0,e0,_,r0,t0⟩:=h0
 obtain⟨a1,b1,e1,_,r1,t1⟩:=t0
 obtain⟨a2,b2,e2,_,r2,t2⟩:=t1
 obtain⟨x0,k0,p0⟩:=OO r0
 obtain⟨x1,k1,p1⟩:=bD r1
 obtain⟨x2,k2,p2⟩:=bD r2
 refine⟨⟨x0,x1,x2⟩,⟨k0,k1,k2⟩,?_⟩
 subst e0 e1 e2
 have key:=(an.append p0 (an.append p1 (an.append p2 (ax.2 t2))))
 exact key
theorem JG{w:World}{cs:List Value}(h:Rd w 30 cs):∃l:List gX,((∀x∈l,yg x)∧l.length≤9223372036854775807)∧an (c0 w) [sq c8 l] cs:=by
 obtain⟨l,h1,h2,h3⟩:=fJ c8 yg 3 Tryz.underlying30 (by kernel_rfl) (by omega) (fun es h=>LT h) h
 exact⟨l,⟨h1,by unfold maxLen at h2;omega⟩,h3⟩
structure tu (x:dE):Prop where
 o_d:ae x.d
 o_r:ae x.r
 o_ip:ae x.ip
theorem Ir{w:World}{cs:List Value}(h:Rd w 125 cs):∃x:dE,tu x∧an (c0 w) (bA x) cs:=by
 have h0:=kM Tryz.underlying125 [(3,1),(3,1),(3,1)] (by kernel_rfl) (by kernel_rfl) (by kernel_rfl) h
 simp only[kV]at h0
 obtain⟨a0,b0,e0,_,r0,t0⟩:=h0
 obtain⟨a1,b1,e1,_,r1,t1⟩:=t0
 obtain⟨a2,b2,e2,_,r2,t2⟩:=t1
 obtain⟨x0,k0,p0⟩:=bD r0
 obtain⟨x1,k1,p1⟩:=bD r1
 obtain⟨x2,k2,p2⟩:=bD r2
 refine⟨⟨x0,x1,x2⟩,⟨k0,k1,k2⟩,?_⟩
 subst e0 e1 e2
 have key:=(an.append p0 (an.append p1 (an.append p2 (ax.2 t2))))
 exact key
theorem EZ{w:World}{cs:List Value}(h:Rd w 29 cs):∃l:List dE,((∀x∈l,tu x)∧l.length≤9223372036854775807)∧an (c0 w) [sq bA l] cs:=by
 obtain⟨l,h1,h2,h3⟩:=fJ bA tu 3 Tryz.underlying29 (by kernel_rfl) (by omega) (fun es h=>Ir h) h
 exact⟨l,⟨h1,by unfold maxLen at h2;omega⟩,h3⟩
structure Ex (x:fZ):Prop where
 o_kind:ae x.kind
 o_arg:ae x.arg
 o_hand:ae x.hand
 o_rank:ae x.rank
 o_delay:ae x.delay
 o_id:ae x.id
theorem OQ{w:World}{cs:List Value}(h:Rd w 136 cs):∃x:fZ,Ex x∧an (c0 w) (ez x) cs:=by
 have h0:=kM Tryz.underlying136 [(3,1),(3,1),(3,1),(3,1),(3,1),(3,1)] (by kernel_rfl) (by kernel_rfl) (by kernel_rfl) h
 simp only[kV]at h0
 obtain⟨a0,b0,e0,_,r0,t0⟩:=h0
 obtain⟨a1,b1,e1,_,r1,t1⟩:=t0
 obtain⟨a2,b2,e2,_,r2,t2⟩:=t1
 obtain⟨a3,b3,e3,_,r3,t3⟩:=t2
 obtain⟨a4,b4,e4,_,r4,t4⟩:=t3
 obtain⟨a5,b5,e5,_,r5,t5⟩:=t4
 obtain⟨x0,k0,p0⟩:=bD r0
 obtain⟨x1,k1,p1⟩:=bD r1
 obtain⟨x2,k2,p2⟩:=bD r2
 obtain⟨x3,k3,p3⟩:=bD r3
 obtain⟨x4,k4,p4⟩:=bD r4
 obtain⟨x5,k5,p5⟩:=bD r5
 refine⟨⟨x0,x1,x2,x3,x4,x5⟩,⟨k0,k1,k2,k3,k4,k5⟩,?_⟩
 subst e0 e1 e2 e3 e4 e5
 have key:=(an.append p0 (an.append p1 (an.append p2 (an.append p3 (an.append p4 (an.append p5 (ax.2 t5)))))))
 exact key
theorem Nj{w:World}{cs:List Value}(h:Rd w 33 cs):∃l:List fZ,((∀x∈l,Ex x)∧l.length≤9223372036854775807)∧an (c0 w) [sq ez l] cs:=by
 obtain⟨l,h1,h2,h3⟩:=fJ ez Ex 6 Tryz.underlying33 (by kernel_rfl) (by omega) (fun es h=>OQ h) h
 exact⟨l,⟨h1,by unfold maxLen at h2;omega⟩,h3⟩
structure yx (x:lK):Prop where
 o_xt:ae x.xt
 o_fuel:ae x.fuel
 o_strikes:ae x.strikes
 o_out:True
theorem MD{w:World}{cs:List Value}(h:Rd w 138 cs):∃x:lK,yx x∧an (c0 w) (iG x) cs:=by
 have h0:=kM Tryz.underlying138 [(3,1),(3,1),(3,1),(4,1)] (by kernel_rfl) (by kernel_rfl) (by kernel_rfl) h
 simp only[kV]at h0
 obtain⟨a0,b0,e0,_,r0,t0⟩:=h0
 obtain⟨a1,b1,e1,_,r1,t1⟩:=t0
 obtain⟨a2,b2,e2,_,r2,t2⟩:=t1
 obtain⟨a3,b3,e3,_,r3,t3⟩:=t2
 obtain⟨x0,k0,p0⟩:=bD r0
 obtain⟨x1,k1,p1⟩:=bD r1
 obtain⟨x2,k2,p2⟩:=bD r2
 obtain⟨x3,k3,p3⟩:=Be r3
 refine⟨⟨x0,x1,x2,x3⟩,⟨k0,k1,k2,k3⟩,?_⟩
 subst e0 e1 e2 e3
 have key:=(an.append p0 (an.append p1 (an.append p2 (an.append p3 (ax.2 t3)))))
 exact key
theorem Ha{w:World}{cs:List Value}(h:Rd w 34 cs):∃l:List lK,((∀x∈l,yx x)∧l.length≤9223372036854775807)∧an (c0 w) [sq iG l] cs:=by
 obtain⟨l,h1,h2,h3⟩:=fJ iG yx 4 Tryz.underlying34 (by kernel_rfl) (by omega) (fun es h=>MD h) h
 exact⟨l,⟨h1,by unfold maxLen at h2;omega⟩,h3⟩
structure B3 (x:VVm):Prop where
 o_conf:Jn x.conf
 o_mem:N9 x.mem
 o_here:ae x.here
 o_d:(∀a∈x.d,ae a)∧x.d.length≤9223372036854775807
 o_r:(∀a∈x.r,ae a)∧x.r.length≤9223372036854775807
 o_f:(∀a∈x.f,tu a)∧x.f.length≤9223372036854775807
 o_dict:(∀a∈x.dict,yg a)∧x.dict.length≤9223372036854775807
 o_last:ae x.last
 o_out:x.out.length≤9223372036854775807
 o_pic:Oc x.pic
 o_req:(∀a∈x.req,Ex a)∧x.req.length≤9223372036854775807
 o_free:ae x.free
 o_next:ae x.next
 o_arg:ae x.arg
 o_self:ae x.self
 o_now:ae x.now
 o_hand:(∀a∈x.hand,yx a)∧x.hand.length≤9223372036854775807
theorem Oa{w:World}{cs:List Value}(h:Rd w 36 cs):∃x:VVm,B3 x∧an (c0 w) (cVm x) cs:=by
 have h0:=kM Tryz.underlying36 [(23,5),(27,2),(3,1),(28,1),(28,1),(29,1),(30,1),(3,1),(24,1),(32,2),(33,1),(3,1),(3,1),(3,1),(3,1),(3,1),(34,1)] (by kernel_rfl) (by kernel_rfl) (by kernel_rfl) h
 simp only[kV]at h0
 obtain⟨a0,b0,e0,_,r0,t0⟩:=h0
 obtain⟨a1,b1,e1,_,r1,t1⟩:=t0
 obtain⟨a2,b2,e2,_,r2,t2⟩:=t1
 obtain⟨a3,b3,e3,_,r3,t3⟩:=t2
 obtain⟨a4,b4,e4,_,r4,t4⟩:=t3
 obtain⟨a5,b5,e5,_,r5,t5⟩:=t4
 obtain⟨a6,b6,e6,_,r6,t6⟩:=t5
 obtain⟨a7,b7,e7,_,r7,t7⟩:=t6
 obtain⟨a8,b8,e8,_,r8,t8⟩:=t7
 obtain⟨a9,b9,e9,_,r9,t9⟩:=t8
 obtain⟨a10,b10,e10,_,r10,t10⟩:=t9
 obtain⟨a11,b11,e11,_,r11,t11⟩:=t10
 obtain⟨a12,b12,e12,_,r12,t12⟩:=t11
 obtain⟨a13,b13,e13,_,r13,t13⟩:=t12
 obtain⟨a14,b14,e14,_,r14,t14⟩:=t13
 obtain⟨a15,b15,e15,_,r15,t15⟩:=t14
 obtain⟨a16,b16,e16,_,r16,t16⟩:=t15
 obtain⟨x0,k0,p0⟩:=M9 r0
 obtain⟨x1,k1,p1⟩:=Pe r1
 obtain⟨x2,k2,p2⟩:=bD r2
 obtain⟨x3,k3,p3⟩:=D1 r3
 obtain⟨x4,k4,p4⟩:=D1 r4
 obtain⟨x5,k5,p5⟩:=EZ r5
 obtain⟨x6,k6,p6⟩:=JG r6
 obtain⟨x7,k7,p7⟩:=bD r7
 obtain⟨x8,k8,p8⟩:=qx r8
 obtain⟨x9,k9,p9⟩:=OI r9
 obtain⟨x10,k10,p10⟩:=Nj r10
 obtain⟨x11,k11,p11⟩:=bD r11
 obtain⟨x12,k12,p12⟩:=bD r12
 obtain⟨x13,k13,p13⟩:=bD r13
 obtain⟨x14,k14,p14⟩:=bD r14
 obtain⟨x15,k15,p15⟩:=bD r15
 obtain⟨x16,k16,p16⟩:=Ha r16
 refine⟨⟨x0,x1,x2,x3,x4,x5,x6,x7,x8,x9,x10,x11,x12,x13,x14,x15,x16⟩,⟨k0,k1,k2,k3,k4,k5,k6,k7,k8,k9,k10,k11,k12,k13,k14,k15,k16⟩,?_⟩
 subst e0 e1 e2 e3 e4 e5 e6 e7 e8 e9 e10 e11 e12 e13 e14 e15 e16
 have key:=(an.append p0 (an.append p1 (an.append p2 (an.append p3 (an.append p4 (an.append p5 (an.append p6 (an.append p7 (an.append p8 (an.append p9 (an.append p10 (an.append p11 (an.append p12 (an.append p13 (an.append p14 (an.append p15 (an.append p16 (ax.2 t16))))))))))))))))))
 exact key
theorem xD{v:VVm}(h:B3 v):MC v :=
 {b:=h.o_mem.o_b,old:=h.o_mem.o_old.2,dict:=h.o_dict.2,pt:=fun p hp=>⟨.inr (h.o_mem.o_old.1 p hp).o_place,(h.o_mem.o_old.1 p hp).o_old⟩,f:=h.o_f.2,hand:=h.o_hand.2}
theorem G8{w:World}{v:Value}(h:pa w 36 v):∃x:VVm,B3 x∧Rep (c0 w) (eVm x) v:=by
 obtain⟨cs,h1,h2⟩:=qP Tryz.underlying36 h
 obtain⟨x,h3,h4⟩:=Oa h2.2
 exact⟨x,h3,xi (t:=36) ⟨cs,h1,h4⟩⟩
theorem wY{w:World}{v:Value}(h:pa w 3 v):∃n,ae n∧Rep (c0 w) (i64 n) v:=by
 obtain⟨n,rfl,h2⟩:=FP Tryz.underlying3 h
 exact⟨n,Iq h2,by unfold i64;exact aD _ _⟩
end Go.Proofs.YtiibjcnedbncjaaGreatDoor
