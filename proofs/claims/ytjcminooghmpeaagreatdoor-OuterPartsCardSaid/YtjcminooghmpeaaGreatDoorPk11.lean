import Derived.Test.YtjcminooghmpeaaGreatDoorPk10
set_option linter.all false
set_option maxRecDepth 100000
set_option maxHeartbeats 40000000
open Go.Proofs.Tryz
namespace Go.Proofs.YtjcminooghmpeaaGreatDoor
open Go.RowKit
structure dL (m:bh) (L:Nat) (g:Int->Int):Prop where
 len:m.b.length=L
 cell:∀a:Int,0<=a->a%8=0->a+8<=(L:Int)->am m a=(g a,0)
def dg(g:Int->Int)(a n x:Int):Int:=if x=a then n else g x
def LC{l x:List UInt8}{k c n:Nat}(h:k+x.length<=c)(h2:k+x.length<=l.length):((jR l k x).drop c).take n=(l.drop c).take n:=by
 unfold jR
 have e:(l.take k++x).length=k+x.length:=by rw[List.length_append,List.length_take];omega
 rw[List.drop_append,List.drop_eq_nil_of_le (by rw[e];exact h),List.nil_append,e,List.drop_drop,show k+x.length+(c-(k+x.length))=c by omega]
def I3{m:bh}{a b n:Int}(h0:0<=a)(h1:b%8=0)(h3:a+8<=b)(h2:b+8<=m.b.length):am (stM m a n) b=am m b:=by
 unfold am
 rw[pd (by omega) h1 (by rw[zg (by omega) (by omega)];omega),pd (by omega) h1 (by omega),if_pos rfl,if_pos rfl]
 have e:((stM m a n).b.drop b.toNat).take 8=(m.b.drop b.toNat).take 8:=LC (by rw[k9];omega) (by rw[k9];omega)
 rw[e]
def okA(L:Nat)(a:Int):Bool:=decide (0<=a)&&decide (a%8=0)&&decide (a+8<=(L:Int))
def ei{L:Nat}{a:Int}:okA L a=true↔0<=a/\a%8=0/\a+8<=(L:Int):=by unfold okA;simp only[Bool.and_eq_true,decide_eq_true_eq,and_assoc]
def dL.store{m:bh}{L:Nat}{g:Int->Int}(h:dL m L g){a n:Int}(hn:ae n)(ha:okA L a=true):dL (stM m a n) L (dg g a n):=by
 obtain⟨h0,h1,h2⟩:=ei.1 ha
 have hl:=h.len
 refine⟨(zg h0 (by rw[hl];exact h2)).trans hl,fun x x0 x1 x2=>?_⟩
 unfold dg
 by_cases hx:x=a
 ·subst hx
  rw[if_pos rfl]
  exact JR hn h0 h1 (by rw[hl];exact h2)
 rw[if_neg hx,<-h.cell x x0 x1 x2]
 by_cases hlt:x<a
 ·exact Jf x0 x1 (by omega) (by rw[hl];exact h2)
 exact I3 h0 x1 (by omega) (by rw[hl];exact x2)
def dL.put{m:bh}{L:Nat}{g:Int->Int}(h:dL m L g){a n:Int}(ha:okA L a=true):aJ m a n=(stM m a n,0):=by
 obtain⟨h0,h1,h2⟩:=ei.1 ha
 exact UD n h0 h1 (by rw[h.len];exact h2)
def dL.bare{m:bh}{L:Nat}{g:Int->Int}(h:dL m L g):dL ⟨m.b,[]⟩ L g:=⟨h.len,h.cell⟩
def C5{n:Int}(h0:0<=n)(h1:n<=1000000):W64 n=n:=KI (by unfold ae;omega)
structure il (v:VVm) (L:Nat) (g:Int->Int):Prop where
 mem:dL v.mem L g
 hL:L<=65536
 hl:1072<=L
 data:v.conf.data=32
 ret:v.conf.ret=32
def W4:ae 256:=by unfold ae;omega
def il.store{v:VVm}{L:Nat}{g:Int->Int}(M:il v L g){a n:Int}(hn:ae n)(ha:okA L a=true):il (aU v (aJ v.mem a n).1) L (dg g a n):=by
 refine⟨?_,M.hL,M.hl,M.data,M.ret⟩
 show dL (aJ v.mem a n).1 L _
 rw[M.mem.put ha]
 exact M.mem.store hn ha
def g0(a:Int):Int:=(am (ap1 []).mem a).1
structure Std (g:Int->Int):Prop where
 prim:∀i:Nat,i<130->g (32+8*(i:Int))=(i:Int)
 c16:g 16=96
 c24:g 24=104
def Std.upd{g:Int->Int}(S:Std g){a n:Int}(h:1072<=a):Std (dg g a n):=by
 refine⟨fun i hi=>?_,?_,?_⟩
 ·unfold dg;rw[if_neg (by omega)];exact S.prim i hi
 ·unfold dg;rw[if_neg (by omega)];exact S.c16
 unfold dg;rw[if_neg (by omega)];exact S.c24
def mk(v:VVm)(d r:List Int)(f:List ig):VVm:={v with d:=d,r:=r,f:=f}
def mr(v:VVm)(d r:List Int)(f:List ig)(ip fu:Int):bH:=⟨mk v d r f,ip,0,false,fu⟩
def mw(v:VVm)(d r:List Int)(f:List ig)(ip w fu:Int):bH:=⟨mk v d r f,ip,w,true,fu⟩
def mz(v:VVm)(d r:List Int)(f:List ig)(ip:Int):VWk:=⟨mk v d r f,ip,0,false,false,0⟩
variable {v : VVm} {L : Nat} {g : Int -> Int} {d r : List Int} {f : List ig} {ip fu xt q x n : Int}
def Jb:bg (d++[x])=(x,d,0):=by
 unfold bg
 rw[if_neg (by simp)]
 simp
def qD:dU (mz v (d++[x]) r f ip)=(mz v d r f ip,x):=by
 have e:dH (mk v (d++[x]) r f)=(x,mk v d r f,0):=by
  show((bg (d++[x])).1,{mk v (d++[x]) r f with d:=(bg (d++[x])).2.1},(bg (d++[x])).2.2)=_
  rw[Jb];rfl
 show(({bV (mz v (d++[x]) r f ip) (dH (mk v (d++[x]) r f)).2.2 with v:=(dH (mk v (d++[x]) r f)).2.1}:VWk),(dH (mk v (d++[x]) r f)).1)=_
 rw[e];rfl
def Eh:gG (mz v d (r++[x]) f ip)=(mz v d r f ip,x):=by
 have e:fw (mk v d (r++[x]) f)=(x,mk v d r f,0):=by
  unfold fw
  rw[if_neg (by show ¬(r++[x]).length=0;simp)]
  show((r++[x]).getD ((r++[x]).length-1) 0,{mk v d (r++[x]) f with r:=(r++[x]).take ((r++[x]).length-1)},(0:Int))=_
  simp[mk]
 show(({bV (mz v d (r++[x]) f ip) (fw (mk v d (r++[x]) f)).2.2 with v:=(fw (mk v d (r++[x]) f)).2.1}:VWk),(fw (mk v d (r++[x]) f)).1)=_
 rw[e];rfl
def L5(M:il v L g)(h:d.length<32):gP (mz v d r f ip) n=mz v (d++[n]) r f ip:=by
 have e:dZ (mk v d r f) n=(mk v (d++[n]) r f,0):=by
  unfold dZ fR
  rw[if_neg (by show ¬v.conf.data<=(d.length:Int);rw[M.data];omega)]
  rfl
 show({bV (mz v d r f ip) (dZ (mk v d r f) n).2 with v:=(dZ (mk v d r f) n).1}:VWk)=_
 rw[e];rfl
def sy(M:il v L g)(h:r.length<32):cI (mz v d r f ip) n=mz v d (r++[n]) f ip:=by
 have e:fp (mk v d r f) n=(mk v d (r++[n]) f,0):=by
  unfold fp
  rw[if_neg (by show ¬v.conf.ret<=(r.length:Int);rw[M.ret];omega)]
  rfl
 show({bV (mz v d r f ip) (fp (mk v d r f) n).2 with v:=(fp (mk v d r f) n).1}:VWk)=_
 rw[e];rfl
def vz(M:il v L g)(h:okA L x=true):bm (mz v d r f ip) x=(mz v d r f ip,g x):=by
 obtain⟨h0,h1,h2⟩:=ei.1 h
 show(bV (mz v d r f ip) (am v.mem x).2,(am v.mem x).1)=_
 rw[M.mem.cell x h0 h1 h2];rfl
def Ej:i6 (mz v d (r++[x]) f ip) 0=(mz v d (r++[x]) f ip,x):=by
 unfold i6
 rw[if_neg (by show ¬((r++[x]).length:Int)<=0;simp only[List.length_append,List.length_singleton];omega)]
 show(mz v d (r++[x]) f ip,(r++[x]).getD ((r++[x]).length-1-0) 0)=_
 simp
def XF{y:Int}:i6 (mz v d (r++[y]++[x]) f ip) 1=(mz v d (r++[y]++[x]) f ip,y):=by
 unfold i6
 rw[if_neg (by show ¬((r++[y]++[x]).length:Int)<=1;simp;omega)]
 show(mz v d (r++[y]++[x]) f ip,(r++[y]++[x]).getD ((r++[y]++[x]).length-1-1) 0)=_
 simp
def vB(M:il v L g)(h:okA L ip=true):gE (mz v d r f ip)=mz v d r f (ip+8):=by
 obtain⟨h0,h1,h2⟩:=ei.1 h
 have:=M.hL
 show(⟨mk v d r f,W64 (ip+8),0,false,false,0⟩:VWk)=_
 rw[C5 (by omega) (by omega)];rfl
def Mw(M:il v L g)(h:okA L ip=true):dTo (mz v d r f ip)=mz v d r f (g ip):=by
 show({(bm (mz v d r f ip) ip).1 with ip:=(bm (mz v d r f ip) ip).2}:VWk)=_
 rw[vz M h];rfl
def cz(k:VWk)(xt q:Int):VWk :=
 if 300<=q then bV k (-14)else
 if q=256 then {cI k k.ip with ip:=W64 (xt+8)} else
 if q=257 then gP k (W64 (xt+16))else
 if q=258 then gP (bm k (W64 (xt+16))).1 (bm k (W64 (xt+16))).2 else
 if q=259 then(let a:=bm k (W64 (xt+8));{cI (gP a.1 (W64 (xt+16))) (gP a.1 (W64 (xt+16))).ip with ip:=a.2})else
 if q=260 then pI k xt else
 if 23<=q then {bV k (doS k.v q).2 with v:=(doS k.v q).1} else
 if (sM k (aq.getD q.toNat [])).2 then(sM k (aq.getD q.toNat [])).1 else Ho (sM k (aq.getD q.toNat [])).1 (aq.getD q.toNat [])
def DA{k:VWk}(h:az k.v xt=(q,0)):rL k xt=cz k xt q:=by
 unfold rL cz
 rw[h]
 rfl
def Gf(M:il v L g)(hx:okA L xt=true)(hq:g xt=q)(ok:d7 q):az (mk v d r f) xt=(q,0):=by
 obtain⟨h0,h1,h2⟩:=ei.1 hx
 show(if (am v.mem xt).2=0 then(if d7 (am v.mem xt).1 then((am v.mem xt).1,0)else(0,-9))else(0,(am v.mem xt).2))=_
 rw[M.mem.cell xt h0 h1 h2]
 show(if d7 (g xt)then(g xt,(0:Int))else(0,-9))=_
 rw[hq,if_pos ok]
def BM(ahead:bH)(fu:Int)(k:VWk):bH×Bool×Int :=
 if k.bad=0 then(⟨k.v,k.ip,k.w,k.dof,fu⟩,k.over,0)else((bZ ahead k.bad).1,false,(bZ ahead k.bad).2)
def Uq(r:bH)(q:VWk×Int):bH×Bool×Int:=BM ⟨r.vm,q.1.ip,0,false,W64 (r.fuel-1)⟩ (W64 (r.fuel-1)) (if q.1.bad=0 then rL q.1 q.2 else q.1)
def Ad(r:bH):VWk×Int :=
 let k0:VWk:=⟨r.vm,r.ip,0,false,false,0⟩
 if r.dof then(k0,r.w)else(let a:=bm k0 r.ip;(if a.1.bad=0 then gE a.1 else a.1,a.2))
def G9{r:bH}(h:¬r.fuel<1):bz r=Uq r (Ad r):=by unfold bz;rw[if_neg h];rfl
def aa4{s:bH}(M:il v L g)(hs:s.fuel=fu)(hv:s.vm=mk v d r f)(hf:1<=fu/\fu<=300000)(e:Ad s=(mz v d r f ip,xt))(h2:okA L xt=true)(hq:g xt=q)(ok:d7 q):
  bz s=BM (mr v d r f ip (fu-1)) (fu-1) (cz (mz v d r f ip) xt q):=by
 rw[G9 (by omega),e]
 unfold Uq
 dsimp only
 rw[if_pos (show(mz v d r f ip).bad=0 from rfl),DA (Gf M h2 hq ok:az (mz v d r f ip).v xt=(q,0)),hs,hv,Tj hf.1 hf.2]
 rfl
def TE(M:il v L g)(hf:1<=fu/\fu<=300000)(hi:okA L ip=true)(hx:g ip=xt)(h2:okA L xt=true)(hq:g xt=q)(ok:d7 q):
  bz (mr v d r f ip fu)=BM (mr v d r f (ip+8) (fu-1)) (fu-1) (cz (mz v d r f (ip+8)) xt q):=by
 refine aa4 M rfl rfl hf ?_ h2 hq ok
 show((if (bm (mz v d r f ip) ip).1.bad=0 then gE (bm (mz v d r f ip) ip).1 else(bm (mz v d r f ip) ip).1),(bm (mz v d r f ip) ip).2)=_
 rw[vz M hi,hx]
 dsimp only
 rw[if_pos (show(mz v d r f ip).bad=0 from rfl),vB M hi]
def ac7(M:il v L g)(hf:1<=fu/\fu<=300000)(h2:okA L xt=true)(hq:g xt=q)(ok:d7 q):
  bz (mw v d r f ip xt fu)=BM (mr v d r f ip (fu-1)) (fu-1) (cz (mz v d r f ip) xt q) :=
 aa4 (s:=mw v d r f ip xt fu) M rfl rfl hf rfl h2 hq ok
def Go1(s t:bH):Prop:=bz s=(t,false,0)
inductive GoN:Nat->bH->bH->Prop
 | nil (s:bH):GoN 0 s s
 | cons {n:Nat} {s t u:bH}:Go1 s t->GoN n t u->GoN (n+1) s u
def GoN.trans{a b:Nat}{s t u:bH}(h:GoN a s t)(k:GoN b t u):GoN (b+a) s u:=by
 induction h with
 | nil s=>exact k
 | cons h1 _ ih=>exact .cons h1 (ih k)
def GoN.one{s t:bH}(h:Go1 s t):GoN 1 s t:=.cons h (.nil _)
def GoN.run{n:Nat}{s t:bH}(h:GoN n s t):∀k,yh (k+n) s=yh k t:=by
 induction h with
 | nil s=>intro k;rfl
 | cons h1 _ ih =>
  intro k
  unfold Go1 at h1
  rw[<-Nat.add_assoc,NN (by rw[h1];simp),h1]
  exact ih k
section
variable {d' r' : List Int} {f' : List ig} {v' : VVm} {ip' w : Int}
def aK8(M:il v L g)(hf:1<=fu/\fu<=300000)(hi:okA L ip=true)(hx:g ip=xt)(h2:okA L xt=true)(hq:g xt=q)(ok:d7 q)
  (hk:cz (mz v d r f (ip+8)) xt q=mz v' d' r' f' ip'):Go1 (mr v d r f ip fu) (mr v' d' r' f' ip' (fu-1)):=by
 unfold Go1;rw[TE M hf hi hx h2 hq ok,hk];rfl
def ad5(M:il v L g)(hf:1<=fu/\fu<=300000)(h2:okA L xt=true)(hq:g xt=q)(ok:d7 q)
  (hk:cz (mz v d r f ip) xt q=mz v' d' r' f' ip'):Go1 (mw v d r f ip xt fu) (mr v' d' r' f' ip' (fu-1)):=by
 unfold Go1;rw[ac7 M hf h2 hq ok,hk];rfl
end
def TY:cz (mz v d (r++[x]) f ip) xt 0=mz v d r f x:=by
 have e:cz (mz v d (r++[x]) f ip) xt 0={(gG (mz v d (r++[x]) f ip)).1 with ip:=(gG (mz v d (r++[x]) f ip)).2}:=by kernel_rfl
 rw[e,Eh];rfl
def aE2(M:il v L g)(h:okA L ip=true)(hn:g ip=n)(hd:d.length<32):cz (mz v d r f ip) xt 1=mz v (d++[n]) r f (ip+8):=by
 have e:cz (mz v d r f ip) xt 1=gE (gP (bm (mz v d r f ip) ip).1 (bm (mz v d r f ip) ip).2):=by kernel_rfl
 rw[e,vz M h,hn]
 dsimp only
 rw[L5 M hd,vB M h]
def am4:BM (mr v d r f ip fu) fu (cz (mz v d r f ip) xt 8)=(mr v d r f ip fu,true,0):=by kernel_rfl
def Mp(M:il v L g)(hx:okA L xt=true)(hr:r.length<32):cz (mz v d r f ip) xt 256=mz v d (r++[ip]) f (xt+8):=by
 have e:cz (mz v d r f ip) xt 256={cI (mz v d r f ip) ip with ip:=W64 (xt+8)}:=by kernel_rfl
 obtain⟨h0,h1,h2⟩:=ei.1 hx
 have:=M.hL
 rw[e,sy M hr,C5 (by omega) (by omega)];rfl
def SU{u:VVm}{d':List Int}(h1:23<=q)(h2:q<=129)(h:doS (mk v d r f) q=(mk u d' r f,0)):cz (mz v d r f ip) xt q=mz u d' r f ip:=by
 unfold cz
 rw[if_neg (by omega),if_neg (by omega),if_neg (by omega),if_neg (by omega),if_neg (by omega),if_neg (by omega),if_pos h1]
 show({bV (mz v d r f ip) (doS (mk v d r f) q).2 with v:=(doS (mk v d r f) q).1}:VWk)=_
 rw[h];rfl
def ai0(M:il v L g)(h:okA L ip=true){l:Int}(hl:x=l):cz (mz v (d++[l]++[x]) r f ip) xt 5=mz v d r f (g ip):=by
 have e:cz (mz v (d++[l]++[x]) r f ip) xt 5=(let t:=nE (mz v (d++[l]++[x]) r f ip);if t.2.1=t.2.2 then dTo t.1 else gE (cI (cI t.1 t.2.2) t.2.1)):=by kernel_rfl
 have t:nE (mz v (d++[l]++[x]) r f ip)=(mz v d r f ip,x,l):=by
  unfold nE;rw[qD];dsimp only;rw[qD]
 rw[e,t];dsimp only;rw[if_pos hl,Mw M h]
def av8(M:il v L g)(h:okA L ip=true){l:Int}(hl:x≠l)(hr:r.length+1<32):cz (mz v (d++[l]++[x]) r f ip) xt 5=mz v d (r++[l]++[x]) f (ip+8):=by
 have e:cz (mz v (d++[l]++[x]) r f ip) xt 5=(let t:=nE (mz v (d++[l]++[x]) r f ip);if t.2.1=t.2.2 then dTo t.1 else gE (cI (cI t.1 t.2.2) t.2.1)):=by kernel_rfl
 have t:nE (mz v (d++[l]++[x]) r f ip)=(mz v d r f ip,x,l):=by
  unfold nE;rw[qD];dsimp only;rw[qD]
 rw[e,t];dsimp only;rw[if_neg hl,sy M (by omega),sy M (by simp;omega),vB M h]
def QG{l:Int}(M:il v L g)(h:okA L ip=true)(hr:r.length+1<32):cz (mz v d (r++[l]++[x]) f ip) xt 6=if (ld x l 1).2 then mz v d r f (ip+8)else mz v d (r++[l]++[(ld x l 1).1]) f (g ip):=by
 have e:cz (mz v d (r++[l]++[x]) f ip) xt 6=vn (mz v d (r++[l]++[x]) f ip) 1:=by kernel_rfl
 rw[e]
 unfold vn
 dsimp only
 rw[XF]
 dsimp only
 rw[Ej]
 dsimp only
 rw[if_neg (show ¬(mz v d (r++[l]++[x]) f ip).bad≠0 from fun h=>h rfl),Eh]
 dsimp only
 by_cases hs:(ld x l 1).2=true
 ·rw[if_pos hs,if_pos hs,Eh,vB M h]
 rw[if_neg hs,if_neg hs,sy M (by simp;omega),Mw M h]
def k_I(M:il v L g)(hd:d.length<32):cz (mz v d (r++[x]) f ip) xt 15=mz v (d++[x]) (r++[x]) f ip:=by
 have e:cz (mz v d (r++[x]) f ip) xt 15=gP (i6 (mz v d (r++[x]) f ip) 0).1 (i6 (mz v d (r++[x]) f ip) 0).2:=by kernel_rfl
 rw[e,Ej];dsimp only;rw[L5 M hd]
section
variable {d' r' : List Int} {f' : List ig} {v' : VVm} {ip' w : Int}
def lT{i:Nat}(hi:i<130):d7 (i:Int):=.inl (by omega)
def Is{i:Nat}(M:il v L g)(hi:i<130):okA L (32+8*(i:Int))=true:=ei.2 (by have:=M.hl;omega)
def aQ6(M:il v L g)(S:Std g)(i:Nat)(hi:i<130)(hf:1<=fu/\fu<=300000)(ha:okA L ip=true)(hx:g ip=32+8*(i:Int))
  (hk:cz (mz v d r f (ip+8)) (32+8*(i:Int)) (i:Int)=mz v' d' r' f' ip'):Go1 (mr v d r f ip fu) (mr v' d' r' f' ip' (fu-1)) :=
 aK8 M hf ha hx (Is M hi) (S.prim i hi) (lT hi) hk
end
def Gp(M:il v L g)(S:Std g)(hf:1<=fu/\fu<=300000):bz (mr v d r f 16 fu)=(mr v d r f 24 (fu-1),true,0):=by
 have h:=M.hl
 rw[TE M hf (ei.2 (by omega)) S.c16 (ei.2 (by omega)) (S.prim 8 (by decide)) (lT (i:=8) (by decide))]
 exact am4
def Rc(M:il v L g)(hf:1<=fu/\fu<=300000)(h2:okA L xt=true)(hq:g xt=256)(hr:r.length<32):Go1 (mw v d r f ip xt fu) (mr v d (r++[ip]) f (xt+8) (fu-1)) :=
 ad5 M hf h2 hq (.inr (.inl (by omega))) (Mp M h2 hr)
open Go.RowKit
def Kn:300<=kC:=by decide +kernel
def Hk{k:VWk}{xt q:Int}(h:az k.v xt=(q,0))(hq:300<=q):rL k xt=bV k (-14):=by
 rw[DA h];unfold cz;rw[if_pos hq]
def Np{ah:bH}{fu:Int}{k:VWk}(h:k.bad≠0)(hf:ah.vm.f=[]):(BM ah fu k).2.2≠0:=by
 unfold BM
 rw[if_neg h]
 unfold bZ
 rw[if_pos (by rw[hf];rfl)]
 exact h
def Uu{s t:bH}{o:Bool}(hf:s.vm.f=[])(hu:¬s.fuel<1)(h:bz s=(t,o,0)):¬(bR s).1=true:=by
 intro hc
 rw[G9 hu]at h
 have h2:(Uq s (Ad s)).2.2=0:=by rw[h]
 unfold bR yz at hc
 by_cases hd:s.dof=true
 ·rw[if_pos hd]at hc
  have hk:=oT hc
  have e:Ad s=(⟨s.vm,s.ip,0,false,false,0⟩,s.w):=by unfold Ad;dsimp only;rw[if_pos hd]
  rw[e]at h2
  unfold Uq at h2
  dsimp only at h2
  rw[if_pos rfl,Hk (k:=⟨s.vm,s.ip,0,false,false,0⟩) (q:=kC) (Prod.ext hk.2 hk.1) Kn]at h2
  refine Np ?_ ?_ h2
  ·show(-14:Int)≠0;decide
  exact hf
 rw[if_neg hd]at hc
 by_cases hm:(am s.vm.mem s.ip).2≠0
 ·rw[if_pos hm]at hc;cases hc
 rw[if_neg hm]at hc
 have hk:=oT hc
 have hm0:(am s.vm.mem s.ip).2=0:=Decidable.not_not.1 hm
 have e:Ad s=(⟨s.vm,W64 (s.ip+8),0,false,false,0⟩,(am s.vm.mem s.ip).1):=by
  unfold Ad
  dsimp only
  rw[if_neg hd]
  have e1:bm ⟨s.vm,s.ip,0,false,false,0⟩ s.ip=(⟨s.vm,s.ip,0,false,false,0⟩,(am s.vm.mem s.ip).1):=by
   show(bV ⟨s.vm,s.ip,0,false,false,0⟩ (am s.vm.mem s.ip).2,(am s.vm.mem s.ip).1)=_
   rw[hm0];rfl
  rw[e1]
  rfl
 rw[e]at h2
 unfold Uq at h2
 dsimp only at h2
 rw[if_pos rfl,Hk (k:=⟨s.vm,W64 (s.ip+8),0,false,false,0⟩) (q:=kC) (Prod.ext hk.2 hk.1) Kn]at h2
 refine Np ?_ ?_ h2
 ·show(-14:Int)≠0;decide
 exact hf
inductive GoE:Nat->bH->bH->Prop
 | nil (s:bH):GoE 0 s s
 | cons {n:Nat} {s t u:bH}:Go1 s t->s.vm.f=[]->¬s.fuel<1->GoE n t u->GoE (n+1) s u
def GoE.trans{a b:Nat}{s t u:bH}(h:GoE a s t)(k:GoE b t u):GoE (b+a) s u:=by
 induction h with
 | nil s=>exact k
 | cons h1 h2 h3 _ ih=>exact .cons h1 h2 h3 (ih k)
def Mr{l:ag}{r:bH}:¬(⟨l,r,false,0⟩:EX).stops:=fun z=>z.elim (fun z=>by cases z) (fun z=>z rfl)
def GoE.ex{n:Nat}{s t:bH}(h:GoE n s t)(l:ag):∀k,ja (k+n) ⟨l,s,false,0⟩=ja k ⟨l,t,false,0⟩:=by
 induction h with
 | nil s=>intro k;rfl
 | cons h1 h2 h3 _ ih =>
  intro k
  unfold Go1 at h1
  rw[<-Nat.add_assoc,IM Mr,Jo (x:=⟨l,_,false,0⟩) (Uu h2 h3 h1)]
  dsimp only
  rw[h1]
  exact ih k
def Wy{s t:bH}{o:Bool}(l:ag)(h:bz s=(t,true,0))(hf:s.vm.f=[])(hu:¬s.fuel<1)(k:Nat):ja (k+1) ⟨l,s,false,0⟩=⟨l,t,true,0⟩:=by
 rw[IM Mr,Jo (x:=⟨l,_,false,0⟩) (Uu hf hu h)]
 dsimp only
 rw[h]
 exact rH (.inl rfl) k
def DB{n:Nat}{s t:bH}{l:ag}{xt:Int}(h:GoE n (g7 l.f.vm xt l.fuel) s)(hl:bz s=(t,true,0))(hf:s.vm.f=[])(hu:¬s.fuel<1)(h0:0<=l.fuel)(hn:(n:Int)<=l.fuel)(he:l.err=0):
  jN l xt={l with f:={l.f with vm:=zV t.vm},fuel:=t.fuel}:=by
 unfold jN
 obtain⟨m,hm⟩:∃m,l.fuel.toNat+2=(m+1)+n:=⟨l.fuel.toNat+1-n,by omega⟩
 have e:exR l xt=⟨l,t,true,0⟩:=by
  unfold exR xO
  rw[hm,h.ex l,Wy (o:=true) l hl hf hu]
 rw[e]
 exact xB he
def wG(p:Str)(c:UInt8)(t:Str):(p++c::t).getD p.length 0=c:=by
 rw[List.getD_eq_getElem?_getD,List.getElem?_append_right (Nat.le_refl _),Nat.sub_self];rfl
def Be:∀(b p r:Str),(∀c∈b,c.toNat<=32)->(r=[]\/∃c t,r=c::t/\32<c.toNat)->lN (p++(b++r)) p.length=p.length+b.length
 | [],p,r,_,hr=>by
  rcases hr with rfl|⟨c,t,rfl,h⟩
  ·exact E4 (fun z=>by simp at z)
  refine E4 (fun z=>?_)
  have:=z.2
  rw[List.nil_append,wG]at this
  omega
 | c::b,p,r,hb,hr=>by
  have h1:p.length<(p++(c::b++r)).length:=by simp
  have h2:(((p++(c::b++r)).getD p.length 0).toNat:Int)<=32:=by
   rw[List.cons_append,wG]
   have:=hb c (List.mem_cons_self ..)
   omega
  rw[Sj h1 h2]
  have ih:=Be b (p++[c]) r (fun x hx=>hb x (List.mem_cons_of_mem _ hx)) hr
  rw[List.length_append,List.length_singleton,List.append_assoc]at ih
  rw[List.cons_append,show c::(b++r)=[c]++(b++r) from rfl,ih,List.length_cons]
  omega
def GA:∀(b p r:Str),(∀c∈b,32<c.toNat)->(r=[]\/∃c t,r=c::t/\c.toNat<=32)->nZ (p++(b++r)) p.length=p.length+b.length
 | [],p,r,_,hr=>by
  rcases hr with rfl|⟨c,t,rfl,h⟩
  ·exact Bm (fun z=>by simp at z)
  refine Bm (fun z=>?_)
  have:=z.2
  rw[List.nil_append,wG]at this
  omega
 | c::b,p,r,hb,hr=>by
  have h1:p.length<(p++(c::b++r)).length:=by simp
  have h2:32<(((p++(c::b++r)).getD p.length 0).toNat:Int):=by
   rw[List.cons_append,wG]
   have:=hb c (List.mem_cons_self ..)
   omega
  rw[Vl h1 h2]
  have ih:=GA b (p++[c]) r (fun x hx=>hb x (List.mem_cons_of_mem _ hx)) hr
  rw[List.length_append,List.length_singleton,List.append_assoc]at ih
  rw[List.cons_append,show c::(b++r)=[c]++(b++r) from rfl,ih,List.length_cons]
  omega
def zi(p b w q:Str)(hb:∀c∈b,c.toNat<=32)(hw0:w≠[])(hw:∀c∈w,32<c.toNat)(hq:q=[]\/∃c t,q=c::t/\c.toNat<=32):
  bt (p++(b++(w++q))) p.length=(w,min ((p.length+b.length+w.length:Nat)+1:Int) ((p.length+b.length+w.length+q.length:Nat):Int)):=by
 have h0:dF (p++(b++(w++q))) (p.length:Int)=p.length:=by
  unfold dF
  rw[if_neg (by simp;omega)]
  exact Int.toNat_natCast _
 have h1:lN (p++(b++(w++q))) p.length=p.length+b.length:=by
  refine Be b p (w++q) hb (.inr ?_)
  cases w with
  | nil=>exact absurd rfl hw0
  | cons c t=>exact⟨c,t++q,rfl,hw c (List.mem_cons_self ..)⟩
 have h2:nZ (p++(b++(w++q))) (p.length+b.length)=p.length+b.length+w.length:=by
  have:=GA w (p++b) q hw hq
  rw[List.length_append,List.append_assoc]at this
  exact this
 unfold bt
 dsimp only
 rw[h0,h1,h2]
 refine Prod.ext ?_ ?_
 ·show((p++(b++(w++q))).take (p.length+b.length+w.length)).drop (p.length+b.length)=w
  rw[show p++(b++(w++q))=(p++b++w)++q by simp,show p.length+b.length+w.length=(p++b++w).length by simp;omega,List.take_left,show p++b++w=(p++b)++w from rfl,show p.length+b.length=(p++b).length by simp,List.drop_left]
 show min (((p.length+b.length+w.length:Nat):Int)+1) ((p++(b++(w++q))).length:Int)=_
 rw[show(p++(b++(w++q))).length=p.length+b.length+w.length+q.length by simp;omega]
def Hw(p b:Str)(hb:∀c∈b,c.toNat<=32):(bt (p++b) p.length).1=[]:=by
 have h0:dF (p++b) (p.length:Int)=p.length:=by
  unfold dF
  rw[if_neg (by simp;omega)]
  exact Int.toNat_natCast _
 have h1:lN (p++b) p.length=p.length+b.length:=by
  have:=Be b p [] hb (.inl rfl)
  rwa [List.append_nil]at this
 have h2:nZ (p++b) (p.length+b.length)=p.length+b.length:=Bm (fun z=>by have:=z.1;simp at this)
 unfold bt
 dsimp only
 rw[h0,h1,h2]
 apply List.drop_eq_nil_of_le
 simp
def cO:lI:=⟨4096,32,32,250,2000⟩
def vO:VVm:=HU cO
def fO:aa:=⟨vO,kV⟩
def Mz:eG cO:=by unfold eG cO;decide
def ak0:(dX 167).all BO=true:=by decide +kernel
def Tx:wQ vO:=by
 have hl:(pR 4096 167).length=4096:=vA _ _
 refine⟨Mz,?_,?_,⟨(by show(0:Nat)<=130;decide),.inr rfl⟩,?_,(by show(1368:Int)<=1368;decide),(by show(1368:Int)<=4096;decide),rfl,rfl,(by show((0:Nat):Int)<=32;decide),(by show((0:Nat):Int)<=32;decide),(by show(0:Nat)<=64;decide),?_,(by show((0:Nat):Int)<=2000;decide),(by show(0:Nat)<=16;decide),(by show(0:Int)<=vO.free;decide),(by show vO.free<=(64:Int);decide),(by show(0:Int)<=vO.next;decide),(by show vO.next<=(4611686018427387904:Int);decide),(by show(0:Nat)<=64;decide)⟩
 ·show mB ⟨pR 4096 167,[]⟩=true
  unfold mB
  simp only[List.all_nil,Bool.true_and,hl]
  decide
 ·show iz (dX 167)=true
  unfold iz
  rw[ak0,qk];rfl
 ·show((pR 4096 167).length:Int)=4096
  rw[hl];rfl
 show((dX 167).length:Int)<=250
 rw[qk];decide
def Zq:be 0 vO:=⟨Tx,Nat.le_refl _,bE,bE,fun x hx=>(by cases hx),⟨bC,bC,bC⟩,bC⟩
def gO(a:Int):Int:=(am vO.mem a).1
def L9:il vO 4096 gO:=by
 have hl:vO.mem.b.length=4096:=vA 4096 167
 refine⟨⟨hl,fun a h0 h1 h2=>?_⟩,by decide,by decide,rfl,rfl⟩
 unfold gO am
 rw[pd h0 h1 (by rw[hl];exact h2),if_pos rfl]
def UA(g:Int->Int):Bool:=((List.range 167).all fun i=>decide (g (32+8*(i:Int))=(gq i:Int)))&&(decide (g 0=10)&&(decide (g 8=0)&&(decide (g 16=96)&&decide (g 24=104))))
def VP:UA gO=true:=by kernel_rfl
structure P1 (g:Int->Int):Prop where
 prim:∀i:Nat,i<167->g (32+8*(i:Int))=(gq i:Int)
 c0:g 0=10
 c16:g 16=96
 c24:g 24=104
def X2:P1 gO:=by
 have q:=VP
 unfold UA at q
 simp only[Bool.and_eq_true,decide_eq_true_eq,List.all_eq_true]at q
 exact⟨fun i h=>q.1 i (List.mem_range.2 h),q.2.1,q.2.2.2.1,q.2.2.2.2⟩
def aT3:gO 8=0:=by
 have q:=VP
 unfold UA at q
 simp only[Bool.and_eq_true,decide_eq_true_eq,List.all_eq_true]at q
 exact q.2.2.1
def P1.std{g:Int->Int}(S:P1 g):Std g:=⟨fun i h=>by rw[S.prim i (by omega)];unfold gq;rw[if_neg (by omega)],S.c16,S.c24⟩
def P1.upd{g:Int->Int}(S:P1 g){a n:Int}(h:1368<=a):P1 (dg g a n):=by
 refine⟨fun i hi=>?_,?_,?_,?_⟩
 ·unfold dg;rw[if_neg (by omega)];exact S.prim i hi
 ·unfold dg;rw[if_neg (by omega)];exact S.c0
 ·unfold dg;rw[if_neg (by omega)];exact S.c16
 unfold dg;rw[if_neg (by omega)];exact S.c24
section
variable {f : aa} {tx w : Str} {p fuel a n q : Int} {r : ag × Bool}
def VA(hw:bt tx p=(w,a))(h0:w≠[])(e:j5 (av f tx a (max fuel 0)) w=r)(he:r.1.err=0):iJ f tx p fuel=(r.1.f,r.1.at_,r.1.fuel,true,0):=by
 have:=Hl (f:=f) (s:=tx) (a:=p) (fuel:=fuel) (r:=r) (by rw[hw];exact h0) (by rw[hw];exact e) (fun z=>z.1 he)
 rw[this,he]
def tC{l:ag}{v:VVm}(h:l.err=0):fT l (v,0)={l with f:={l.f with vm:=v}}:=by
 unfold fT
 rw[show((v,(0:Int)):VVm×Int).2=0 from rfl,xB h,if_pos h]
def Tz{v:VVm}(hd:(v.d.length:Int)<v.conf.data):dZ v n=({v with d:=v.d++[n]},0):=by
 unfold dZ fR
 rw[if_neg (by omega)]
def ZQ(hw:bt tx p=(w,a))(h0:w≠[])(hf:(bL f.vm.dict w).2.2=false)(hn:dw w (am f.vm.mem 0).1=(n,true))(hc:bK f=false)(hd:(f.vm.d.length:Int)<f.vm.conf.data):
  iJ f tx p fuel=({f with vm:={f.vm with d:=f.vm.d++[n]}},a,max fuel 0,true,0):=by
 have e:j5 (av f tx a (max fuel 0)) w=({av f tx a (max fuel 0)with f:={f with vm:={f.vm with d:=f.vm.d++[n]}}},false):=by
  unfold j5
  rw[show(av f tx a (max fuel 0)).f=f from rfl,hf,if_neg (by decide)]
  unfold Ew
  rw[show(av f tx a (max fuel 0)).f=f from rfl,hn]
  dsimp only
  rw[if_neg (by decide),hc,if_neg (by decide)]
  unfold tV
  rw[do0 (show(av f tx a (max fuel 0)).err=0 from rfl),show(av f tx a (max fuel 0)).f.vm=f.vm from rfl,Tz hd,tC rfl]
  rfl
 exact VA hw h0 e rfl
def af7{v:VVm}(hw:bt tx p=(w,a))(h0:w≠[])(hf:(bL f.vm.dict w).2.2=false)(hn:dw w (am f.vm.mem 0).1=(n,true))(hc:bK f=true)(hl:Ik f.vm n=(v,0)):
  iJ f tx p fuel=({f with vm:=v},a,max fuel 0,true,0):=by
 have e:j5 (av f tx a (max fuel 0)) w=({av f tx a (max fuel 0)with f:={f with vm:=v}},false):=by
  unfold j5
  rw[show(av f tx a (max fuel 0)).f=f from rfl,hf,if_neg (by decide)]
  unfold Ew
  rw[show(av f tx a (max fuel 0)).f=f from rfl,hn]
  dsimp only
  rw[if_neg (by decide),hc,if_pos rfl]
  unfold tQ
  rw[do0 (show(av f tx a (max fuel 0)).err=0 from rfl),show(av f tx a (max fuel 0)).f.vm=f.vm from rfl,hl,tC rfl]
  rfl
 exact VA hw h0 e rfl
def kG{l:ag}{x:aP}{i:Int}(hf:bL l.f.vm.dict w=(x,i,true)):j5 l w=i8 l x:=by
 unfold j5
 rw[hf,if_pos rfl]
def an9{l:ag}{x:aP}(hk:az l.f.vm x.xt=(q,0))(hc:bK l.f=true)(hi:x.flags%2=0):i8 l x=(rO l x.xt,false):=by
 unfold i8
 rw[hk]
 dsimp only
 rw[if_neg (by decide),hc,if_neg (by simp),if_pos (by simp[hi])]
def tm{l:ag}{x:aP}(hk:az l.f.vm x.xt=(q,0))(hq:300<=q)(ho:(jh x q&&!bK l.f)=false)(hi:(bK l.f&&decide (x.flags%2=0))=false):i8 l x=(rN l (bJ.getD (q-300).toNat []),false):=by
 unfold i8
 rw[hk]
 dsimp only
 rw[if_neg (by decide),ho,if_neg (by decide),hi,if_neg (by decide),if_pos hq]
def Mu{l:ag}{x:aP}(hk:az l.f.vm x.xt=(q,0))(hq:¬300<=q)(ho:(jh x q&&!bK l.f)=false)(hi:(bK l.f&&decide (x.flags%2=0))=false):i8 l x=(jN l x.xt,true):=by
 unfold i8
 rw[hk]
 dsimp only
 rw[if_neg (by decide),ho,if_neg (by decide),hi,if_neg (by decide),if_neg hq]
end
open Go.RowKit
section
variable {v : VVm} {L : Nat} {g : Int -> Int} {n : Int}
def bQ(v:VVm)(n:Int):VVm:={v with mem:=stM v.mem v.here n,here:=v.here+8}
structure jY (v:VVm) (L:Nat) (g:Int->Int):Prop where
 m:il v L g
 h0:0<=v.here
 h8:v.here%8=0
def Fa(R:jY v L g)(h:v.here+8<=(L:Int)):q9 v n=(bQ v n,0):=by
 have hl:=R.m.mem.len
 have h0:=R.h0
 unfold q9 ct
 rw[if_pos (by rw[Int.tmod_eq_emod_of_nonneg h0];exact R.h8)]
 unfold cZ
 rw[if_neg (by rw[k9,hl];omega),IN n h0 (by rw[hl];exact h)]
 rfl
def jl(R:jY v L g)(h:v.here+8<=(L:Int))(hn:ae n):jY (bQ v n) L (dg g v.here n):=by
 have ha:okA L v.here=true:=ei.2 ⟨R.h0,R.h8,h⟩
 have h0:=R.h0
 have h8:=R.h8
 exact⟨⟨R.m.mem.store hn ha,R.m.hL,R.m.hl,R.m.data,R.m.ret⟩,by show 0<=v.here+8;omega,by show(v.here+8)%8=0;omega⟩
def iL{w:CW}(R:jY w.v L g)(h:w.v.here+8<=(L:Int))(hb:w.bad=0):gN w n={w with v:=bQ w.v n}:=by
 rw[SI hb,Fa R h,<-hb]
def af9:oP [40,108,105,116,41]=40:=by decide +kernel
def WM(R:jY v L g)(h:v.here+16<=(L:Int)):Ik v n=(bQ (bQ v 40) n,0):=by
 have R1:=jl (n:=40) R (by omega) (by unfold ae;omega)
 unfold Ik
 have e1:cv (lF v) [40,108,105,116,41]=⟨bQ v 40,[],0⟩:=by
  unfold cv
  rw[af9]
  exact iL (w:=lF v) R (by show v.here+8<=_;omega) rfl
 rw[e1,iL (w:=⟨bQ v 40,[],0⟩) R1 (by show v.here+8+8<=_;omega) rfl]
 rfl
end
open Go.RowKit
section
variable {f : aa} {v : VVm} {L : Nat} {g : Int -> Int} {n : Int} {name : Str}
def Ds(R:jY v L g)(h:v.here<=(L:Int)):aO v.mem v.here=(v.mem,v.here,0):=by
 have hl:=R.m.mem.len
 have e:((8-v.here.tmod 8).tmod 8).toNat=0:=by
  rw[Int.tmod_eq_emod_of_nonneg R.h0,R.h8];decide
 unfold aO
 rw[e]
 unfold cZ cg bq
 rw[if_neg (by simp;omega),if_pos (by simp)]
 simp
def Yh{l:List aP}{xt flags limit:Int}(hn:eS name=0)(h:(l.length:Int)<limit)(h2:(l.length:Int)<1024):cD l name xt flags limit=(l++[⟨name,xt,flags⟩],0):=by
 unfold cD
 rw[if_neg (fun z=>z hn),if_neg (by split<;>omega)]
def nG(v:VVm)(name:Str)(flags:Int):VVm:={v with dict:=v.dict++[⟨name,v.here,flags⟩]}
def ye(R:jY v L g)(flags:Int):jY (nG v name flags) L g:=⟨⟨R.m.mem,R.m.hL,R.m.hl,R.m.data,R.m.ret⟩,R.h0,R.h8⟩
def OP{w:FW}(R:jY w.f.vm L g)(hb:w.bad=0)(h:w.f.vm.here<=(L:Int))(hn:eS name=0)(hw:(w.f.vm.dict.length:Int)<w.f.vm.conf.words)(hw2:(w.f.vm.dict.length:Int)<1024)(flags:Int):
  fL w (aO w.f.vm.mem w.f.vm.here) (cD w.f.vm.dict name (aO w.f.vm.mem w.f.vm.here).2.1 flags w.f.vm.conf.words)={w with f:={w.f with vm:=nG w.f.vm name flags}}:=by
 rw[Ds R h,Yh hn hw hw2]
 obtain⟨f,b⟩:=w
 simp only at hb
 subst hb
 rfl
def Dk{w:FW}(R:jY w.f.vm L g)(h:w.f.vm.here+8<=(L:Int))(hb:w.bad=0):ce w n={w with f:={w.f with vm:=bQ w.f.vm n}}:=by
 rw[V2 hb]
 unfold FW.lay
 rw[Fa R h,<-hb]
def Am{w:FW}(M:dL w.f.vm.mem L g)(hL:16<=L)(hb:w.bad=0):dT w n={w with f:={w.f with vm:={w.f.vm with mem:=stM w.f.vm.mem 8 n}}}:=by
 unfold dT
 rw[M.put (a:=8) (ei.2 ⟨by decide,by decide,by omega⟩),XN (by exact hb),<-hb]
def wN(f:aa)(name:Str):aa:=⟨{bQ (nG f.vm name 2) 256 with mem:=stM (bQ (nG f.vm name 2) 256).mem 8 (-1)},⟨f.vm.here,[],f.vm.here,f.vm.dict.length,f.vm.last,false,0⟩⟩
def Ps(R:jY f.vm L g)(hx:f.comp.xt=0)(h:f.vm.here+8<=(L:Int))(hL:16<=L)(hn:eS name=0)(hw:(f.vm.dict.length:Int)<f.vm.conf.words)(hw2:(f.vm.dict.length:Int)<1024):ik f name false 0=(wN f name,0):=by
 have hb:aN f=⟨f,0⟩:=by unfold aN;rw[if_pos hx]
 have hc:fY f false 0=⟨f,0⟩:=by unfold fY;rw[if_pos rfl,hb]
 have e1:eM ⟨f,0⟩ name 2 [256]=(⟨⟨bQ (nG f.vm name 2) 256,f.comp⟩,0⟩,f.vm.here):=by
  have R1:=ye (name:=name) R 2
  unfold eM
  rw[OP (w:=⟨f,0⟩) R rfl (by show f.vm.here<=_;omega) hn hw hw2]
  refine Prod.ext ?_ ?_
  ·show ce ⟨⟨nG f.vm name 2,f.comp⟩,0⟩ 256=_
   rw[Dk (w:=⟨⟨nG f.vm name 2,f.comp⟩,0⟩) R1 h rfl]
  show(aO f.vm.mem f.vm.here).2.1=_
  rw[Ds R (by omega)]
 have R2:=jl (n:=256) (ye (name:=name) R 2) h (by unfold ae;omega)
 unfold ik
 rw[hc,if_neg (fun z=>z rfl)]
 unfold vj
 rw[e1]
 rw[Am (w:=⟨⟨bQ (nG f.vm name 2) 256,f.comp⟩,0⟩) R2.m.mem hL rfl]
 rfl
end
open Go.RowKit
section
variable {f : aa} {v : VVm} {L : Nat} {g : Int -> Int} {n : Int} {name : Str}
def Ql{D:List aP}{w:aP}{a fl:Int}(ha:a=(D.length:Int)):cH (D++[w]) a fl=(D++[{w with flags:=fl}],0):=by
 unfold cH
 rw[if_neg (by rw[List.length_append,List.length_singleton];omega)]
 have e:a.toNat=D.length:=by omega
 rw[e,show(D++[w]).getD D.length default=w by rw[List.getD_eq_getElem?_getD,List.getElem?_append_right (Nat.le_refl _),Nat.sub_self];rfl,List.set_append_right _ _ (Nat.le_refl _),Nat.sub_self]
 rfl
def Tf(f:aa)(D:List aP)(w:aP):aa:=⟨{bQ f.vm 32 with dict:=D++[{w with flags:=js w.flags}],mem:=stM (bQ f.vm 32).mem 8 0},kV⟩
def Yv{D:List aP}{w:aP}(R:jY f.vm L g)(hx:f.comp.xt≠0)(hcf:f.comp.cf=[])(ho:f.comp.on=false)(hd:f.vm.dict=D++[w])(hi:f.comp.dict=(D.length:Int))(h:f.vm.here+8<=(L:Int))(hL:16<=L):
  kZ f=(Tf f D w,0):=by
 have hE:mF f=0:=by
  unfold mF
  rw[if_neg hx,hcf,if_neg (by decide),ho,if_neg (by simp)]
 have R1:=jl (n:=32) R h (by unfold ae;omega)
 have e1:ce ⟨f,0⟩ 32=⟨⟨bQ f.vm 32,f.comp⟩,0⟩:=by rw[Dk (w:=⟨f,0⟩) R h rfl]
 have e2:sY ⟨⟨bQ f.vm 32,f.comp⟩,0⟩ f.comp=(D++[{w with flags:=js w.flags}],0):=by
  unfold sY
  show cH f.vm.dict f.comp.dict (js (f.vm.dict.getD f.comp.dict.toNat default).flags)=_
  rw[hd,show f.comp.dict.toNat=D.length by omega,show(D++[w]).getD D.length default=w by rw[List.getD_eq_getElem?_getD,List.getElem?_append_right (Nat.le_refl _),Nat.sub_self];rfl,Ql hi]
 have e3:yC f=⟨⟨{bQ f.vm 32 with dict:=D++[{w with flags:=js w.flags}],mem:=stM (bQ f.vm 32).mem 8 0},f.comp⟩,0⟩:=by
  unfold yC
  rw[e1,e2]
  have e4:ng ⟨⟨bQ f.vm 32,f.comp⟩,0⟩ (D++[{w with flags:=js w.flags}],0)=⟨⟨{bQ f.vm 32 with dict:=D++[{w with flags:=js w.flags}]},f.comp⟩,0⟩:=rfl
  rw[e4,Am (w:=⟨⟨{bQ f.vm 32 with dict:=D++[{w with flags:=js w.flags}]},f.comp⟩,0⟩) R1.m.mem hL rfl]
  unfold jb
  rw[if_neg (by rw[ho];decide)]
 unfold kZ
 rw[if_neg (fun z=>z hE),e3]
 rfl
end
open Go.RowKit
def Dm(l:List aP)(w:aP)(name:Str):∀k,k<=l.length->mL (l++[w]) name k=mL l name k
 | 0,_=>rfl
 | k+1,hk=>by
  unfold mL
  rw[show(l++[w]).getD k default=l.getD k default by rw[List.getD_eq_getElem?_getD,List.getElem?_append_left (by omega),<-List.getD_eq_getElem?_getD],Dm l w name k (by omega)]
def xz(l:List aP)(w:aP)(name:Str):bL (l++[w]) name=if qa w name=true then(w,(l.length:Int),true)else bL l name:=by
 unfold bL
 rw[List.length_append,List.length_singleton]
 rw[mL,show(l++[w]).getD l.length default=w by rw[List.getD_eq_getElem?_getD,List.getElem?_append_right (Nat.le_refl _),Nat.sub_self];rfl,Dm l w name l.length (Nat.le_refl _)]
def QO:((List.range 167).all fun i=>tR (cR i)||decide (bL (dX 167) (ez.getD i [])=(cR i,(i:Int),true)))=true:=by kernel_rfl
def an1{i:Nat}(hi:i<167)(hh:tR (cR i)=false):bL (dX 167) (ez.getD i [])=(cR i,(i:Int),true):=by
 have:=List.all_eq_true.1 QO i (List.mem_range.2 hi)
 rw[hh,Bool.false_or]at this
 exact oT this
def Qf{l:ag}{g g':Int->Int}{L:Nat}{u:VVm}{d':List Int}{i:Nat}(M:il l.f.vm L g)(S:Std g)(M':il u L g')(S':Std g')(h1:23<=i)(h2:i<=129)(hd:doS (mk l.f.vm l.f.vm.d [] []) i=(mk u d' [] [],0))(hf:2<=l.fuel/\l.fuel<=300000)(he:l.err=0):
  jN l (32+8*(i:Int))={l with f:={l.f with vm:=mk u d' [] []},fuel:=l.fuel-2}:=by
 have g1:Go1 (mw l.f.vm l.f.vm.d [] [] 16 (32+8*(i:Int)) l.fuel) (mr u d' [] [] 16 (l.fuel-1)) :=
  ad5 M ⟨by omega,by omega⟩ (Is M (by omega)) (S.prim i (by omega)) (lT (by omega)) (SU (by omega) (by omega) hd)
 have g2:=Gp (d:=d') (r:=[]) (f:=[]) (fu:=l.fuel-1) M' S' ⟨by omega,by omega⟩
 refine(DB (n:=1) (s:=mr u d' [] [] 16 (l.fuel-1)) (GoE.cons g1 rfl (by show ¬l.fuel<1;omega) (.nil _)) g2 rfl (by show ¬l.fuel-1<1;omega) (by omega) (by omega) he).trans ?_
 show({l with f:={l.f with vm:=zV (mk u d' [] [])},fuel:=l.fuel-1-1}:ag)=_
 rw[show l.fuel-1-1=l.fuel-2 by omega];rfl
def KR{l:ag}{g g':Int->Int}{L n:Nat}{u:VVm}{d':List Int}{xt:Int}(M:il l.f.vm L g)(hx:okA L xt=true)(hq:g xt=256)(M':il u L g')(S':Std g')
  (hr:GoE n (mr l.f.vm l.f.vm.d [16] [] (xt+8) (l.fuel-1)) (mr u d' [] [] 16 (l.fuel-1-n))) (hf:(n:Int)+2<=l.fuel/\l.fuel<=300000) (he:l.err=0) :
  jN l xt={l with f:={l.f with vm:=mk u d' [] []},fuel:=l.fuel-(n+2:Nat)}:=by
 have g1:Go1 (mw l.f.vm l.f.vm.d [] [] 16 xt l.fuel) (mr l.f.vm l.f.vm.d ([]++[16]) [] (xt+8) (l.fuel-1)):=Rc M ⟨by omega,by omega⟩ hx hq (by decide)
 have g2:=Gp (d:=d') (r:=[]) (f:=[]) (fu:=l.fuel-1-n) M' S' ⟨by omega,by omega⟩
 refine(DB (n:=n+1) (s:=mr u d' [] [] 16 (l.fuel-1-n)) (GoE.cons g1 rfl (by show ¬l.fuel<1;omega) hr) g2 rfl (by show ¬l.fuel-1-n<1;omega) (by omega) (by omega) he).trans ?_
 show({l with f:={l.f with vm:=zV (mk u d' [] [])},fuel:=l.fuel-1-n-1}:ag)=_
 rw[show l.fuel-1-n-1=l.fuel-(n+2:Nat) by omega];rfl
def vp{w:CW}{L:Nat}{g:Int->Int}{a:Int}(M:dL w.v.mem L g)(ha:okA L a=true)(hb:w.bad=0):iU w a={w with v:={w.v with mem:=stM w.v.mem a w.v.here}}:=by
 rw[jM hb,M.put ha,<-hb]
def oB{w:CW}{c:VCf}(h:w.l.length<32):jZ w c={w with l:=w.l++[c]}:=by
 unfold jZ;rw[if_neg (by omega)]
def mg{w:CW}{D:List VCf}{c:VCf}{kind:Int}(h:w.l=D++[c])(hk:c.kind=kind):bb w kind=({w with l:=D},c):=by
 have e:(D++[c]).getD ((D++[c]).length-1) zCf=c:=by rw[List.length_append,List.length_singleton,Nat.add_sub_cancel,List.getD_eq_getElem?_getD,List.getElem?_append_right (Nat.le_refl _),Nat.sub_self];rfl
 unfold bb
 rw[h,if_neg (fun z=>z.elim (fun q=>by simp at q) (fun q=>q (by rw[e];exact hk))),e]
 simp
def jK{w:CW}{v:VVm}{l:List VCf}(hb:w.bad=0):oH w v l=(w.v,w.l,0):=by
 unfold oH;rw[if_neg (fun z=>z hb)]
def qO{w:CW}{L:Nat}{g:Int->Int}{name:Str}(R:jY w.v L g)(h:w.v.here+16<=(L:Int))(hx:ae (oP name))(hb:w.bad=0):fN w name={w with v:=bQ (bQ w.v (oP name)) 0}:=by
 unfold fN cv
 rw[iL R (by omega) hb]
 have R1:=jl (n:=oP name) R (by omega) hx
 rw[iL (w:={w with v:=bQ w.v (oP name)}) R1 (by show w.v.here+8+8<=_;omega) hb]
section
variable {v : VVm} {l D : List VCf} {L : Nat} {g : Int -> Int} {a : Int}
def Bz:oP [40,48,98,114,97,110,99,104,41]=56:=by decide +kernel
def Jn:oP [40,98,114,97,110,99,104,41]=48:=by decide +kernel
def xj:ae 56:=by unfold ae;omega
def xn:ae 48:=by unfold ae;omega
def aU8(R:jY v L g)(h:v.here+16<=(L:Int))(hl:l.length<32):bo v l [73,70]=(bQ (bQ v 56) 0,l++[⟨1,v.here+8,[]⟩],0):=by
 rw[oa (g:=ifC) rfl (by unfold ke;rw[if_pos (.inl rfl)];simp;omega)]
 unfold ifC
 have e:(cv ⟨v,l,0⟩ [40,48,98,114,97,110,99,104,41]).v.here=v.here+8:=by
  unfold cv;rw[iL (w:=⟨v,l,0⟩) R (by show v.here+8<=_;omega) rfl];rfl
 rw[e,qO (w:=⟨v,l,0⟩) R h (by rw[Bz];exact xj) rfl,Bz,oB (by exact hl),jK rfl]
def ap8(R:jY v L g)(hl:l=D++[⟨1,a,[]⟩])(ha:okA L a=true):bo v l [84,72,69,78]=({v with mem:=stM v.mem a v.here},D,0):=by
 rw[oa (g:=Bu) rfl (by unfold ke;rw[if_neg (by decide)];decide)]
 unfold Bu
 rw[mg (w:=⟨v,l,0⟩) hl rfl,vp (w:=⟨v,D,0⟩) R.m.mem ha rfl,jK rfl]
def al8(R:jY v L g)(h:v.here+16<=(L:Int))(hl:l=D++[⟨1,a,[]⟩])(ha:okA L a=true)(hD:D.length<32)(hs:v.here<=1000000):
  bo v l [69,76,83,69]=({bQ (bQ v 48) 0 with mem:=stM (bQ (bQ v 48) 0).mem a (v.here+16)},D++[⟨1,v.here+8,[]⟩],0):=by
 rw[oa (g:=xS) rfl (by unfold ke;rw[if_neg (by decide)];decide)]
 unfold xS
 rw[mg (w:=⟨v,l,0⟩) hl rfl]
 dsimp only
 have e:(cv ⟨v,D,0⟩ [40,98,114,97,110,99,104,41]).v.here=v.here+8:=by
  unfold cv;rw[iL (w:=⟨v,D,0⟩) R (by show v.here+8<=_;omega) rfl];rfl
 have R2:=jl (n:=0) (jl (n:=48) R (by omega) xn) (by show v.here+8+8<=_;omega) bC
 rw[e,qO (w:=⟨v,D,0⟩) R h (by rw[Jn];exact xn) rfl,Jn,vp (w:=⟨bQ (bQ v 48) 0,D,0⟩) R2.m.mem ha rfl,oB (by exact hD),jK rfl]
 have e2:(bQ (bQ v 48) 0).here=v.here+16:=by show v.here+8+8=_;omega
 dsimp only
 rw[e2]
end
open Go.RowKit
abbrev Tk:=Str×Str
def wM:List Tk->Str
 | []=>[]
 | [t]=>t.1++t.2
 | t::u::ws=>t.1++(t.2++(32::wM (u::ws)))
def okT(t:Tk):Prop:=(∀c∈t.1,c.toNat<=32)/\t.2≠[]/\∀c∈t.2,32<c.toNat
def nxT(p:Str)(t:Tk)(ws:List Tk):Str:=if ws=[]then p++(t.1++t.2)else p++(t.1++t.2)++[32]
def Lk(p:Str)(t:Tk)(ws:List Tk):p++wM (t::ws)=nxT p t ws++wM ws:=by
 unfold nxT
 cases ws with
 | nil=>rw[if_pos rfl];show p++(t.1++t.2)=_++[];rw[List.append_nil]
 | cons u ws=>rw[if_neg (by simp)];show p++(t.1++(t.2++(32::wM (u::ws))))=_;simp
def yX(p:Str){t:Tk}(ws:List Tk)(h:okT t):bt (p++wM (t::ws)) p.length=(t.2,((nxT p t ws).length:Int)):=by
 unfold nxT
 cases ws with
 | nil =>
  have w:=zi p t.1 t.2 [] h.1 h.2.1 h.2.2 (.inl rfl)
  rw[List.append_nil]at w
  rw[if_pos rfl]
  show bt (p++(t.1++t.2)) p.length=_
  rw[w]
  refine Prod.ext rfl ?_
  show min (((p.length+t.1.length+t.2.length:Nat):Int)+1) ((p.length+t.1.length+t.2.length+0:Nat):Int)=_
  simp only[List.length_append];omega
 | cons u ws =>
  have w:=zi p t.1 t.2 (32::wM (u::ws)) h.1 h.2.1 h.2.2 (.inr ⟨32,_,rfl,by decide⟩)
  rw[if_neg (by simp)]
  show bt (p++(t.1++(t.2++(32::wM (u::ws))))) p.length=_
  rw[w]
  refine Prod.ext rfl ?_
  show min (((p.length+t.1.length+t.2.length:Nat):Int)+1) ((p.length+t.1.length+t.2.length+(wM (u::ws)).length.succ:Nat):Int)=_
  simp only[List.length_append,List.length_singleton];omega
def WQ(p:Str):(bt (p++wM []) p.length).1=[]:=Hw p [] (fun c hc=>by cases hc)
def wL(f0:aa)(tx:Str)(x y:LS)(k:Nat):Prop:=∀n,iI f0 tx (n+k) x=iI f0 tx n y
def wL.rf(f0:aa)(tx:Str)(x:LS):wL f0 tx x x 0:=fun n=>rfl
def wL.tr{f0:aa}{tx:Str}{x y z:LS}{j k:Nat}(h:wL f0 tx x y j)(g:wL f0 tx y z k):wL f0 tx x z (j+k):=fun n=>by
 rw[show n+(j+k)=(n+k)+j by omega,h (n+k),g n]
def wL.one{f0 f:aa}{tx:Str}{x:LS}{a u:Int}(h:iJ x.f tx x.at_ x.left=(f,a,u,true,0)):wL f0 tx x ⟨f,a,u⟩ 1:=fun n=>by
 have e:lnR x tx=(f,a,u,true,0):=h
 rw[iI,e,if_neg (fun z=>z rfl),if_neg (fun z=>absurd (show true=false from z) (by decide))]
def RG{f0:aa}{tx:Str}{fuel a u:Int}{k:Nat}{f1:aa}(h:wL f0 tx ⟨f0,0,max fuel 0⟩ ⟨f1,a,u⟩ k)(hk:k<=tx.length+1)(hu:0<=u)(hw:(bt tx a).1=[]):cE f0 tx fuel=(lK f1,u,0):=by
 have e:lnR ⟨f1,a,u⟩ tx=(f1,(tx.length:Int),u,false,0):=by
  show iJ f1 tx a u=_
  rw[MI hw,show max u 0=u by omega]
 unfold cE
 rw[show tx.length+2=(tx.length+1-k+1)+k by omega,h,iI,e,if_neg (fun z=>z rfl),if_pos rfl]
def Vf{f0:aa}{tx:Str}{fuel a u a2 u2 e:Int}{k:Nat}{f1 f2:aa}(h:wL f0 tx ⟨f0,0,max fuel 0⟩ ⟨f1,a,u⟩ k)(hk:k<=tx.length+1)(hw:iJ f1 tx a u=(f2,a2,u2,true,e))(he:e≠0):cE f0 tx fuel=(lK (NY f0 f2),u2,e):=by
 have e':lnR ⟨f1,a,u⟩ tx=(f2,a2,u2,true,e):=hw
 unfold cE
 rw[show tx.length+2=(tx.length+1-k+1)+k by omega,h,iI,e',if_pos he]
def gT(a:Int):Int:=if a=0 then 10 else if a=8 then 0 else if a=16 then 96 else if a=24 then 104 else if 32<=a/\a<1368/\a%8=0 then(gq ((a-32)/8).toNat:Int)else gO a
def aR8{a:Int}:gO a=gT a:=by
 unfold gT
 by_cases h0:a=0
 ·rw[if_pos h0,h0];exact X2.c0
 rw[if_neg h0]
 by_cases h1:a=8
 ·rw[if_pos h1,h1];exact aT3
 rw[if_neg h1]
 by_cases h2:a=16
 ·rw[if_pos h2,h2];exact X2.c16
 rw[if_neg h2]
 by_cases h3:a=24
 ·rw[if_pos h3,h3];exact X2.c24
 rw[if_neg h3]
 by_cases h4:32<=a/\a<1368/\a%8=0
 ·rw[if_pos h4]
  have:=X2.prim ((a-32)/8).toNat (by omega)
  rw[show 32+8*((((a-32)/8).toNat:Nat):Int)=a by omega]at this
  exact this
 rw[if_neg h4]
def gL:List (Int×Int)->Int->Int
 | []=>gT
 | p::l=>dg (gL l) p.1 p.2
structure rR (g:Int->Int):Prop where
 prim:∀i:Nat,i<167->g (32+8*(i:Int))=(gq i:Int)
 c16:g 16=96
 c24:g 24=104
def rR.std{g:Int->Int}(S:rR g):Std g:=⟨fun i h=>by rw[S.prim i (by omega)];unfold gq;rw[if_neg (by omega)],S.c16,S.c24⟩
def rR.set{g:Int->Int}(S:rR g){a n:Int}(h:1368<=a\/a<=8):rR (dg g a n):=by
 refine⟨fun i hi=>?_,?_,?_⟩
 ·unfold dg;rw[if_neg (by omega)];exact S.prim i hi
 ·unfold dg;rw[if_neg (by omega)];exact S.c16
 unfold dg;rw[if_neg (by omega)];exact S.c24
def aM0:rR gT:=by
 refine⟨fun i hi=>?_,rfl,rfl⟩
 unfold gT
 rw[if_neg (by omega),if_neg (by omega),if_neg (by omega),if_neg (by omega),if_pos (by omega),show((32+8*(i:Int)-32)/8).toNat=i by omega]
structure SS where
 d:List Int
 cs:List (Int×Int)
 here:Int
 ext:List aP
 last:Int
 out:Str
 comp:xU
def vS(s:SS)(m:bh):VVm:={vO with mem:=m,d:=s.d,here:=s.here,dict:=dX 167++s.ext,last:=s.last,out:=s.out}
structure At (f:aa) (s:SS):Prop where
 ex:∃m,f=⟨vS s m,s.comp⟩/\dL m 4096 (gL s.cs)
 std:rR (gL s.cs)
 h0:1368<=s.here
 h1:s.here<=4096
 h8:s.here%8=0
 ext:s.ext.length<=80
def sO:SS:=⟨[],[],1368,[],0,[],kV⟩
def Zs:At fO sO:=by
 refine⟨⟨vO.mem,?_,L9.mem.len,fun a h0 h1 h2=>?_⟩,aM0,by decide,by decide,by decide,by decide⟩
 ·show fO=⟨{vO with mem:=vO.mem,d:=[],here:=1368,dict:=dX 167++[],last:=0,out:=[]},kV⟩
  rw[List.append_nil];rfl
 rw[L9.mem.cell a h0 h1 h2,aR8];rfl
def At.mach{s:SS}{m:bh}(h:dL m 4096 (gL s.cs)):il (vS s m) 4096 (gL s.cs):=⟨h,by decide,by decide,rfl,rfl⟩
def At.room{f:aa}{s:SS}(h:At f s){m:bh}(hm:dL m 4096 (gL s.cs)):jY (vS s m) 4096 (gL s.cs):=⟨At.mach hm,by have:=h.h0;show 0<=s.here;omega,h.h8⟩
def SS.cmp(s:SS):Bool:=decide (s.comp.xt≠0/\gL s.cs 8≠0)
section
variable {f : aa} {s : SS}
def BP(h:At f s){a:Int}(ha:okA 4096 a=true):am f.vm.mem a=(gL s.cs a,0):=by
 obtain⟨m,rfl,hm⟩:=h.ex
 have q:=ei.1 ha
 exact hm.cell a q.1 q.2.1 q.2.2
def kU(h:At f s):bK f=s.cmp:=by
 unfold bK SS.cmp
 rw[BP h (a:=8) rfl]
 obtain⟨m,rfl,hm⟩:=h.ex
 rfl
def mm(h:At f s){xt:Int}(ha:okA 4096 xt=true)(hk:d7 (gL s.cs xt)):az f.vm xt=(gL s.cs xt,0):=by
 unfold az
 rw[BP h ha,if_pos rfl,if_pos hk]
def jC(h:At f s):f.vm.dict=dX 167++s.ext:=by obtain⟨m,rfl,hm⟩:=h.ex;rfl
def wC(h:At f s):(am f.vm.mem 0).1=gL s.cs 0:=by rw[BP h (a:=0) rfl]
end
def SW(s:SS)(w:Str)(s':SS)(c:Int):Prop:=∀f,At f s->∃f',At f' s'/\∀(tx:Str) (p a u:Int),bt tx p=(w,a)->w≠[]->0<=u->c<=u->u<=5000->iJ f tx p u=(f',a,u-c,true,0)
def SS.lay(s:SS)(n:Int):SS:={s with cs:=(s.here,n)::s.cs,here:=s.here+8}
def EC{l:List (Int×Int)}(h:rR (gL l)){a n:Int}(ha:1368<=a):rR (gL ((a,n)::l)):=h.set (.inl ha)
def ky{f:aa}{s:SS}(h:At f s){n:Int}(hn:ae n)(hr:s.here+8<=4096):q9 f.vm n=(bQ f.vm n,0)/\At {f with vm:=bQ f.vm n} (s.lay n):=by
 obtain⟨m,rfl,hm⟩:=h.ex
 have R:=h.room hm
 have e:=Fa (n:=n) R (by show s.here+8<=_;exact hr)
 have R2:=jl (n:=n) R (by show s.here+8<=_;exact hr) hn
 exact⟨e,⟨stM m s.here n,rfl,R2.m.mem⟩,EC h.std h.h0,by have:=h.h0;show 1368<=s.here+8;omega,by show s.here+8<=4096;exact hr,by have:=h.h8;show(s.here+8)%8=0;omega,h.ext⟩
def J6{s:SS}{w:Str}{n:Int}(hf:(bL (dX 167++s.ext) w).2.2=false)(hn:dw w (gL s.cs 0)=(n,true))(hc:s.cmp=false)(hd:s.d.length<32):SW s w {s with d:=s.d++[n]} 0:=by
 intro f h
 have ed:=jC h
 have ec:=kU h
 have eb:=wC h
 obtain⟨m,rfl,hm⟩:=h.ex
 refine⟨⟨vS {s with d:=s.d++[n]} m,s.comp⟩,⟨⟨m,rfl,hm⟩,h.std,h.h0,h.h1,h.h8,h.ext⟩,fun tx p a u hw h0 u0 cu u9=>?_⟩
 have q:=ZQ (f:=⟨vS s m,s.comp⟩) (fuel:=u) hw h0 (by rw[ed];exact hf) (by rw[eb];exact hn) (by rw[ec];exact hc) (by show(s.d.length:Int)<32;omega)
 rw[q,show max u 0=u-0 by omega];rfl
def SN{s:SS}{w:Str}{n:Int}(hf:(bL (dX 167++s.ext) w).2.2=false)(hn:dw w (gL s.cs 0)=(n,true))(hc:s.cmp=true)(hr:s.here+16<=4096):SW s w ((s.lay 40).lay n) 0:=by
 intro f h
 have ed:=jC h
 have ec:=kU h
 have eb:=wC h
 have fn:ae n:=by have:=CE w (gL s.cs 0);rw[hn]at this;exact this
 have a1:=ky h (n:=40) (by unfold ae;omega) (by omega)
 have a2:=ky a1.2 (n:=n) fn (by show s.here+8+8<=_;omega)
 obtain⟨m,rfl,hm⟩:=h.ex
 have R:=h.room hm
 refine⟨_,a2.2,fun tx p a u hw h0 u0 cu u9=>?_⟩
 have q:=af7 (f:=⟨vS s m,s.comp⟩) (fuel:=u) hw h0 (by rw[ed];exact hf) (by rw[eb];exact hn) (by rw[ec];exact hc) (WM (n:=n) R (by show s.here+16<=_;exact hr))
 rw[q,show max u 0=u-0 by omega]
def zx{s s':SS}{w:Str}{x:aP}{i c:Int}(hf:bL (dX 167++s.ext) w=(x,i,true))
  (hk:∀f,At f s->∃f',At f' s'/\∀(tx:Str) (a u:Int),0<=u->c<=u->u<=5000->∃o,i8 (av f tx a u) x=(⟨f',tx,a,u-c,0⟩,o)):SW s w s' c:=by
 intro f h
 obtain⟨f',a',k⟩:=hk f h
 refine⟨f',a',fun tx p a u hw h0 u0 cu u9=>?_⟩
 obtain⟨o,ho⟩:=k tx a u u0 cu u9
 have e:j5 (av f tx a (max u 0)) w=(⟨f',tx,a,u-c,0⟩,o):=by
  rw[show max u 0=u by omega,kG (x:=x) (i:=i) (by show bL f.vm.dict w=_;rw[jC h];exact hf)]
  exact ho
 exact VA hw h0 e rfl
structure XI where
 x:aP
 k:Int
def xiS(s:SS)(w:Str):Option XI :=
 if (bL (dX 167++s.ext) w).2.2=true/\okA 4096 (bL (dX 167++s.ext) w).1.xt=true/\d7 (gL s.cs (bL (dX 167++s.ext) w).1.xt)then some ⟨(bL (dX 167++s.ext) w).1,gL s.cs (bL (dX 167++s.ext) w).1.xt⟩else none
def tX{s:SS}{w:Str}{y:XI}(h:xiS s w=some y):bL (dX 167++s.ext) w=(y.x,(bL (dX 167++s.ext) w).2.1,true)/\okA 4096 y.x.xt=true/\y.k=gL s.cs y.x.xt/\d7 y.k:=by
 unfold xiS at h
 split at h
 ·rename_i q
  injection h with h
  subst h
  exact⟨Prod.ext rfl (Prod.ext rfl q.1),q.2.1,rfl,q.2.2⟩
 cases h
def EU{s:SS}{w:Str}{y:XI}(h:xiS s w=some y)(hc:s.cmp=true)(hi:y.x.flags%2=0)(hr:s.here+8<=4096):SW s w (s.lay y.x.xt) 0:=by
 obtain⟨hf,ha,hk,hkk⟩:=tX h
 refine zx hf fun f a=>?_
 have ak:=ei.1 ha
 have l:=ky a (n:=y.x.xt) (by unfold ae;omega) hr
 refine⟨_,l.2,fun tx p u u0 cu u9=>⟨false,?_⟩⟩
 have ek:az f.vm y.x.xt=(y.k,0):=by rw[mm a ha (by rw[<-hk];exact hkk),hk]
 rw[an9 (l:=av f tx p u) ek (by rw[show bK (av f tx p u).f=bK f from rfl,kU a];exact hc) hi]
 refine Prod.ext ?_ rfl
 show rO (av f tx p u) y.x.xt=_
 unfold rO
 rw[do0 rfl,show(av f tx p u).f.vm=f.vm from rfl,l.1,tC rfl,show u-0=u by omega];rfl
def Mx{s s':SS}{w:Str}{y:XI}{name:Str}(h:xiS s w=some y)(hc:s.cmp=true)(hi:y.x.flags%2=1)(h3:300<=y.k)(hn:bJ.getD (y.k-300).toNat []=name)
  (hs:∀f,At f s->∃f',At f' s'/\∀(tx:Str) (a u:Int),rN (av f tx a u) name=av f' tx a u):SW s w s' 0:=by
 obtain⟨hf,ha,hk,hkk⟩:=tX h
 refine zx hf fun f a=>?_
 obtain⟨f',a',k⟩:=hs f a
 refine⟨f',a',fun tx p u u0 cu u9=>⟨false,?_⟩⟩
 have ek:az f.vm y.x.xt=(y.k,0):=by rw[mm a ha (by rw[<-hk];exact hkk),hk]
 have ec:bK (av f tx p u).f=true:=by rw[show bK (av f tx p u).f=bK f from rfl,kU a];exact hc
 rw[tm (l:=av f tx p u) ek h3 (by rw[ec];simp) (by rw[ec,hi];rfl),hn,k,show u-0=u by omega];rfl
open Go.RowKit
section
variable {v : VVm} {l D : List VCf} {L : Nat} {g : Int -> Int} {a o : Int}
def Gr:oP [40,63,100,111,41]=72:=by decide +kernel
def Mc:oP [40,108,111,111,112,41]=80:=by decide +kernel
def Ec:ae 72:=by unfold ae;omega
def Kc:ae 80:=by unfold ae;omega
def ZS(hl:l.length<32):bo v l [66,69,71,73,78]=(v,l++[⟨2,v.here,[]⟩],0):=by
 rw[oa (g:=uK) rfl (by unfold ke;rw[if_pos (.inr (.inl rfl))];simp;omega)]
 unfold uK
 rw[oB (by exact hl),jK rfl]
def ZY(R:jY v L g)(h:v.here+16<=(L:Int))(hl:l=D++[⟨2,a,[]⟩])(hD:D.length<31):bo v l [87,72,73,76,69]=(bQ (bQ v 56) 0,D++[⟨1,v.here+8,[]⟩]++[⟨2,a,[]⟩],0):=by
 rw[oa (g:=Eg) rfl (by unfold ke;rw[if_pos (.inr (.inr (.inl rfl)))];subst hl;simp;omega)]
 unfold Eg
 rw[mg (w:=⟨v,l,0⟩) hl rfl]
 dsimp only
 have e:(cv ⟨v,D,0⟩ [40,48,98,114,97,110,99,104,41]).v.here=v.here+8:=by
  unfold cv;rw[iL (w:=⟨v,D,0⟩) R (by show v.here+8<=_;omega) rfl];rfl
 rw[e,qO (w:=⟨v,D,0⟩) R h (by rw[Bz];exact xj) rfl,Bz,oB (w:=⟨bQ (bQ v 56) 0,D,0⟩) (c:=⟨1,v.here+8,[]⟩) (by show D.length<32;omega),oB (w:=⟨bQ (bQ v 56) 0,D++[(⟨1,v.here+8,[]⟩:VCf)],0⟩) (c:=⟨2,a,[]⟩) (by show(D++[(⟨1,v.here+8,[]⟩:VCf)]).length<32;rw[List.length_append,List.length_singleton];omega),jK rfl]
def Vm(R:jY v L g)(h:v.here+16<=(L:Int))(hl:l=D++[⟨1,o,[]⟩]++[⟨2,a,[]⟩])(ho:okA L o=true)(ha:ae a):
  bo v l [82,69,80,69,65,84]=({bQ (bQ v 48) a with mem:=stM (bQ (bQ v 48) a).mem o (v.here+16)},D,0):=by
 rw[oa (g:=yT) rfl (by unfold ke;rw[if_neg (by decide)];decide)]
 unfold yT
 rw[mg (w:=⟨v,l,0⟩) hl rfl]
 dsimp only
 rw[mg (w:=⟨v,D++[⟨1,o,[]⟩],0⟩) rfl rfl]
 dsimp only
 have R1:=jl (n:=48) R (by omega) xn
 have R2:=jl (n:=a) R1 (by show v.here+8+8<=_;omega) ha
 unfold cv
 rw[Jn,iL (w:=⟨v,D,0⟩) R (by show v.here+8<=_;omega) rfl,iL (w:=⟨bQ v 48,D,0⟩) R1 (by show v.here+8+8<=_;omega) rfl,vp (w:=⟨bQ (bQ v 48) a,D,0⟩) R2.m.mem ho rfl,jK rfl]
 have e2:(bQ (bQ v 48) a).here=v.here+16:=by show v.here+8+8=_;omega
 dsimp only
 rw[e2]
def aF2(R:jY v L g)(h:v.here+16<=(L:Int))(hl:l.length<32):bo v l [63,68,79]=(bQ (bQ v 72) 0,l++[⟨3,v.here+16,[v.here+8]⟩],0):=by
 rw[oa (g:=LM) rfl (by unfold ke;rw[if_pos (by decide)];simp;omega)]
 unfold LM
 have e:(cv ⟨v,l,0⟩ [40,63,100,111,41]).v.here=v.here+8:=by
  unfold cv;rw[iL (w:=⟨v,l,0⟩) R (by show v.here+8<=_;omega) rfl];rfl
 have e2:(bQ (bQ v 72) 0).here=v.here+16:=by show v.here+8+8=_;omega
 rw[e,qO (w:=⟨v,l,0⟩) R h (by rw[Gr];exact Ec) rfl,Gr,oB (by exact hl),jK rfl]
 dsimp only
 rw[e2]
def af5(R:jY v L g)(h:v.here+16<=(L:Int))(hl:l=D++[⟨3,a,[o]⟩])(ho:okA L o=true)(ha:ae a):
  bo v l [76,79,79,80]=({bQ (bQ v 80) a with mem:=stM (bQ (bQ v 80) a).mem o (v.here+16)},D,0):=by
 rw[oa (g:=yx [40,108,111,111,112,41]) rfl (by unfold ke;rw[if_neg (by decide)];decide)]
 unfold yx
 rw[mg (w:=⟨v,l,0⟩) hl rfl]
 dsimp only
 have R1:=jl (n:=80) R (by omega) Kc
 have R2:=jl (n:=a) R1 (by show v.here+8+8<=_;omega) ha
 unfold cv
 rw[Mc,iL (w:=⟨v,D,0⟩) R (by show v.here+8<=_;omega) rfl,iL (w:=⟨bQ v 80,D,0⟩) R1 (by show v.here+8+8<=_;omega) rfl]
 dsimp only[List.foldl]
 rw[vp (w:=⟨bQ (bQ v 80) a,D,0⟩) R2.m.mem ho rfl,jK rfl]
 have e2:(bQ (bQ v 80) a).here=v.here+16:=by show v.here+8+8=_;omega
 dsimp only
 rw[e2]
end
def DJ{l:ag}{v:VVm}{cf:List VCf}{name:Str}(h:bo l.f.vm l.f.comp.cf name=(v,cf,0))(he:l.err=0):j6 l name={l with f:=⟨v,{l.f.comp with cf:=cf}⟩}:=by
 unfold j6
 rw[h,tC he,if_pos he]
def SS.cf(s:SS)(l:List VCf):SS:={s with comp:={s.comp with cf:=l}}
def SS.put(s:SS)(a n:Int):SS:={s with cs:=(a,n)::s.cs}
def io(l:List VCf):VCf:=l.getD (l.length-1) zCf
def Bb(l:List VCf):List VCf:=l.take (l.length-1)
def ox{l:List VCf}{k:Int}(h:(io l).kind=k)(hk:k≠0):l=Bb l++[io l]:=by
 have h0:l.length≠0:=fun z=>hk (by rw[<-h];unfold io;rw[List.length_eq_zero_iff.1 z];rfl)
 have e:=List.dropLast_concat_getLast (l:=l) (fun z=>h0 (by rw[z];rfl))
 unfold Bb io
 rw[<-List.dropLast_eq_take,List.getD_eq_getElem?_getD,List.getElem?_eq_getElem (by omega)]
 rw[List.getLast_eq_getElem]at e
 exact e.symm
def bdr(a:Int):Bool:=decide (1368<=a)&&okA 4096 a
def cBr(s:SS)(name:Str):Option SS :=
 let l:=s.comp.cf
 let c:=io l
 let D:=Bb l
 if s.here+16<=4096/\l.length<20 then
  if name=[73,70]then some (((s.lay 56).lay 0).cf (l++[⟨1,s.here+8,[]⟩]))
  else if name=[66,69,71,73,78]then some (s.cf (l++[⟨2,s.here,[]⟩]))
  else if name=[63,68,79]then some (((s.lay 72).lay 0).cf (l++[⟨3,s.here+16,[s.here+8]⟩]))
  else if name=[84,72,69,78]then(if c.kind=1/\c.leaves=[]/\bdr c.at_=true then some ((s.put c.at_ s.here).cf D)else none)
  else if name=[69,76,83,69]then(if c.kind=1/\c.leaves=[]/\bdr c.at_=true then some ((((s.lay 48).lay 0).put c.at_ (s.here+16)).cf (D++[⟨1,s.here+8,[]⟩]))else none)
  else if name=[87,72,73,76,69]then(if c.kind=2/\c.leaves=[]then some (((s.lay 56).lay 0).cf (D++[⟨1,s.here+8,[]⟩]++[⟨2,c.at_,[]⟩]))else none)
  else if name=[82,69,80,69,65,84]then(if c.kind=2/\c.leaves=[]/\bdr c.at_=true/\(io D).kind=1/\(io D).leaves=[]/\bdr (io D).at_=true then some ((((s.lay 48).lay c.at_).put (io D).at_ (s.here+16)).cf (Bb D))else none)
  else if name=[76,79,79,80]then(if c.kind=3/\c.leaves=[c.leaves.getD 0 0]/\bdr c.at_=true/\bdr (c.leaves.getD 0 0)=true then some ((((s.lay 80).lay c.at_).put (c.leaves.getD 0 0) (s.here+16)).cf D)else none)
  else none
 else none
def ph{a:Int}(h:bdr a=true):1368<=a/\okA 4096 a=true/\ae a:=by
 unfold bdr at h
 rw[Bool.and_eq_true]at h
 have q:=ei.1 h.2
 exact⟨oT h.1,h.2,by unfold ae;omega⟩
def AA{f:aa}{s:SS}(h:At f s){a n:Int}(ha:bdr a=true)(hn:ae n):At {f with vm:={f.vm with mem:=stM f.vm.mem a n}} (s.put a n):=by
 have q:=ph ha
 obtain⟨m,rfl,hm⟩:=h.ex
 exact⟨⟨stM m a n,rfl,hm.store hn q.2.1⟩,EC h.std q.1,h.h0,h.h1,h.h8,h.ext⟩
def sj{f:aa}{s:SS}(h:At f s)(l:List VCf):At {f with comp:={f.comp with cf:=l}} (s.cf l):=by
 obtain⟨m,rfl,hm⟩:=h.ex
 exact⟨⟨m,rfl,hm⟩,h.std,h.h0,h.h1,h.h8,h.ext⟩
def qV{α:Type}{c:Prop}[Decidable c]{a r:α}(h:(if c then some a else none)=some r):c/\a=r:=by
 by_cases hc:c
 ·rw[if_pos hc]at h;exact⟨hc,Option.some.inj h⟩
 rw[if_neg hc]at h;cases h
def tq{α:Type}{c:Prop}[Decidable c]{a r:α}{b:Option α}(h:(if c then some a else b)=some r):(c/\a=r)\/(¬c/\b=some r):=by
 by_cases hc:c
 ·rw[if_pos hc]at h;exact .inl ⟨hc,Option.some.inj h⟩
 rw[if_neg hc]at h;exact .inr ⟨hc,h⟩
def xc{n:Int}(h0:0<=n)(h1:n<=1000000):ae n:=by unfold ae;omega
def aT9{s s':SS}{name:Str}(h:cBr s name=some s'){f:aa}(a:At f s):∃f',At f' s'/\bo f.vm f.comp.cf name=(f'.vm,f'.comp.cf,0)/\f'.comp={f.comp with cf:=f'.comp.cf}:=by
 have h0:=a.h0
 have h1:=a.h1
 obtain⟨m,rfl,hm⟩:=a.ex
 have R:=a.room hm
 unfold cBr at h
 dsimp only at h
 by_cases q:s.here+16<=4096/\s.comp.cf.length<20
 case neg=>rw[if_neg q]at h;cases h
 rw[if_pos q]at h
 have l56:=ky a (n:=56) xj (by omega)
 have l56':=ky l56.2 (n:=0) bC (by show s.here+8+8<=_;omega)
 have l48:=ky a (n:=48) xn (by omega)
 have hq:(vS s m).here+16<=((4096:Nat):Int):=q.1
 rcases tq h with ⟨rfl,rfl⟩|⟨n0,h⟩
 ·exact⟨_,sj l56'.2 _,aU8 R hq (by show s.comp.cf.length<32;omega),rfl⟩
 rcases tq h with ⟨rfl,rfl⟩|⟨n1,h⟩
 ·exact⟨_,sj a _,ZS (by show s.comp.cf.length<32;omega),rfl⟩
 rcases tq h with ⟨rfl,rfl⟩|⟨n2,h⟩
 ·have l72:=ky a (n:=72) Ec (by omega)
  have l72':=ky l72.2 (n:=0) bC (by show s.here+8+8<=_;omega)
  exact⟨_,sj l72'.2 _,aF2 R hq (by show s.comp.cf.length<32;omega),rfl⟩
 by_cases n3:name=[84,72,69,78]
 ·subst n3
  rw[if_pos rfl]at h
  rcases qV h with ⟨⟨k1,k2,k3⟩,rfl⟩
  have e:=ox k1 (by decide)
  have b:=ph k3
  have ec:io s.comp.cf=⟨1,(io s.comp.cf).at_,[]⟩:=by rw[<-k1,<-k2]
  rw[ec]at e
  exact⟨_,sj (AA a k3 (xc (by omega) (by omega))) _,ap8 R e b.2.1,rfl⟩
 rw[if_neg n3]at h
 by_cases n4:name=[69,76,83,69]
 ·subst n4
  rw[if_pos rfl]at h
  rcases qV h with ⟨⟨k1,k2,k3⟩,rfl⟩
  have e:=ox k1 (by decide)
  have b:=ph k3
  have ec:io s.comp.cf=⟨1,(io s.comp.cf).at_,[]⟩:=by rw[<-k1,<-k2]
  rw[ec]at e
  have l48':=ky l48.2 (n:=0) bC (by show s.here+8+8<=_;omega)
  exact⟨_,sj (AA l48'.2 k3 (xc (n:=s.here+16) (by omega) (by omega))) _,al8 R hq e b.2.1 (by show(Bb s.comp.cf).length<32;unfold Bb;rw[List.length_take];omega) (by show s.here<=_;omega),rfl⟩
 rw[if_neg n4]at h
 by_cases n5:name=[87,72,73,76,69]
 ·subst n5
  rw[if_pos rfl]at h
  rcases qV h with ⟨⟨k1,k2⟩,rfl⟩
  have e:=ox k1 (by decide)
  have ec:io s.comp.cf=⟨2,(io s.comp.cf).at_,[]⟩:=by rw[<-k1,<-k2]
  rw[ec]at e
  exact⟨_,sj l56'.2 _,ZY R hq e (by show(Bb s.comp.cf).length<31;unfold Bb;rw[List.length_take];omega),rfl⟩
 rw[if_neg n5]at h
 by_cases n6:name=[82,69,80,69,65,84]
 ·subst n6
  rw[if_pos rfl]at h
  rcases qV h with ⟨⟨k1,k2,k3,k4,k5,k6⟩,rfl⟩
  have e:=ox k1 (by decide)
  have e2:=ox k4 (by decide)
  have b:=ph k3
  have b2:=ph k6
  have ec:io s.comp.cf=⟨2,(io s.comp.cf).at_,[]⟩:=by rw[<-k1,<-k2]
  have ed:io (Bb s.comp.cf)=⟨1,(io (Bb s.comp.cf)).at_,[]⟩:=by rw[<-k4,<-k5]
  rw[ed]at e2
  rw[ec,e2]at e
  have l':=ky l48.2 (n:=(io s.comp.cf).at_) b.2.2 (by show s.here+8+8<=_;omega)
  exact⟨_,sj (AA l'.2 k6 (xc (n:=s.here+16) (by omega) (by omega))) _,Vm R hq e b2.2.1 b.2.2,rfl⟩
 rw[if_neg n6]at h
 by_cases n7:name=[76,79,79,80]
 ·subst n7
  rw[if_pos rfl]at h
  rcases qV h with ⟨⟨k1,k2,k3,k4⟩,rfl⟩
  have e:=ox k1 (by decide)
  have b:=ph k3
  have b2:=ph k4
  have ec:io s.comp.cf=⟨3,(io s.comp.cf).at_,[(io s.comp.cf).leaves.getD 0 0]⟩:=by rw[<-k1,<-k2]
  rw[ec]at e
  have l80:=ky a (n:=80) Kc (by omega)
  have l':=ky l80.2 (n:=(io s.comp.cf).at_) b.2.2 (by show s.here+8+8<=_;omega)
  exact⟨_,sj (AA l'.2 k4 (xc (n:=s.here+16) (by omega) (by omega))) _,af5 R hq e b2.2.1 b.2.2,rfl⟩
 rw[if_neg n7]at h
 cases h
open Go.RowKit
def tW(l:List aP):aP:=l.getD (l.length-1) default
def wi(l:List aP):List aP:=l.take (l.length-1)
def DM{l:List aP}(h0:l.length≠0):l=wi l++[tW l]:=by
 have e:=List.dropLast_concat_getLast (l:=l) (fun z=>h0 (by rw[z];rfl))
 unfold wi tW
 rw[<-List.dropLast_eq_take,List.getD_eq_getElem?_getD,List.getElem?_eq_getElem (by omega)]
 rw[List.getLast_eq_getElem]at e
 exact e.symm
def SS.begun(s:SS)(name:Str):SS:={s with ext:=s.ext++[⟨name,s.here,2⟩],cs:=(8,-1)::(s.here,256)::s.cs,here:=s.here+8,comp:=⟨s.here,[],s.here,((167+s.ext.length:Nat):Int),s.last,false,0⟩}
def SS.ended(s:SS):SS:={s with ext:=wi s.ext++[{tW s.ext with flags:=js (tW s.ext).flags}],cs:=(8,0)::(s.here,32)::s.cs,here:=s.here+8,comp:=kV}
def ag3:ae (-1):=by unfold ae;omega
def TI:ae 32:=by unfold ae;omega
def HI{l:List (Int×Int)}(h:rR (gL l))(n:Int):rR (gL ((8,n)::l)):=h.set (.inr (by show(8:Int)<=8;decide))
def Iz{f:aa}{s:SS}(h:At f s){name:Str}(hx:s.comp.xt=0)(hr:s.here+8<=4096)(hn:eS name=0)(he:s.ext.length<70):ik f name false 0=(wN f name,0)/\At (wN f name) (s.begun name):=by
 have h0:=h.h0
 have h8:=h.h8
 obtain⟨m,rfl,hm⟩:=h.ex
 have R:=h.room hm
 have hl:((dX 167++s.ext).length:Int)=167+s.ext.length:=by rw[List.length_append,qk];omega
 have e:=Ps (f:=⟨vS s m,s.comp⟩) R hx (by show s.here+8<=_;exact hr) (by decide) hn (by show((dX 167++s.ext).length:Int)<250;omega) (by show((dX 167++s.ext).length:Int)<1024;omega)
 have hm1:=hm.store W4 (a:=s.here) (ei.2 ⟨by omega,h8,hr⟩)
 have hm2:=hm1.store ag3 (a:=8) rfl
 refine⟨e,⟨⟨stM (stM m s.here 256) 8 (-1),?_,hm2⟩,HI (EC h.std h0) _,by show 1368<=s.here+8;omega,by show s.here+8<=4096;exact hr,by show(s.here+8)%8=0;omega,by show(s.ext++[_]).length<=80;rw[List.length_append,List.length_singleton];omega⟩⟩
 unfold wN vS SS.begun nG bQ
 dsimp only
 rw[List.append_assoc,List.length_append,qk]
def G0{f:aa}{s:SS}(h:At f s)(hx:s.comp.xt≠0)(hr:s.here+8<=4096)(hcf:s.comp.cf=[])(ho:s.comp.on=false)(he:s.ext.length≠0)(hd:s.comp.dict=((167+(s.ext.length-1):Nat):Int)):
  ∃f',At f' s.ended/\kZ f=(f',0):=by
 have h0:=h.h0
 have h8:=h.h8
 have hx8:=h.ext
 obtain⟨m,rfl,hm⟩:=h.ex
 have R:=h.room hm
 have hb:(wi s.ext).length=s.ext.length-1:=by unfold wi;rw[List.length_take];omega
 have e:=Yv (f:=⟨vS s m,s.comp⟩) (D:=dX 167++wi s.ext) (w:=tW s.ext) R hx hcf ho (by show dX 167++s.ext=_;rw[List.append_assoc,<-DM he]) (by rw[List.length_append,qk,hb];exact hd) (by show s.here+8<=_;exact hr) (by decide)
 have hm1:=hm.store TI (a:=s.here) (ei.2 ⟨by omega,h8,hr⟩)
 have hm2:=hm1.store bC (a:=8) rfl
 refine⟨_,⟨⟨stM (stM m s.here 32) 8 0,?_,hm2⟩,HI (EC h.std h0) _,by show 1368<=s.here+8;omega,by show s.here+8<=4096;exact hr,by show(s.here+8)%8=0;omega,by show(wi s.ext++[_]).length<=80;rw[List.length_append,List.length_singleton,hb];omega⟩,e⟩
 unfold Tf vS SS.ended bQ
 dsimp only
 rw[List.append_assoc]
def Xs:oP [40,100,111,101,115,41]=112:=by decide +kernel
def cW(s:SS)(w:Str):Option SS :=
 match xiS s w with
 | none=>if (bL (dX 167++s.ext) w).2.2=false/\(dw w (gL s.cs 0)).2=true/\s.cmp=true/\s.here+16<=4096 then some ((s.lay 40).lay (dw w (gL s.cs 0)).1)else none
 | some y =>
  if s.cmp=true/\s.here+24<=4096 then
   if y.x.flags%2=0 then some (s.lay y.x.xt)
   else if y.x.flags%2=1/\300<=y.k then
    if bJ.getD (y.k-300).toNat []=[59]then(if s.comp.cf.length=0/\s.comp.on=false/\s.ext.length≠0/\s.comp.dict=((167+(s.ext.length-1):Nat):Int)then some s.ended else none)
    else if bJ.getD (y.k-300).toNat []=[68,79,69,83,62]then some (s.lay 112)
    else if spF (bJ.getD (y.k-300).toNat [])=none then cBr s (bJ.getD (y.k-300).toNat [])else none
   else none
  else none
instance (name:Str):Decidable (spF name=none):=by
 cases h:spF name with
 | none=>exact .isTrue rfl
 | some g=>exact .isFalse (by simp)
def aP3{s s':SS}{w:Str}(h:cW s w=some s'):SW s w s' 0:=by
 unfold cW at h
 cases hx:xiS s w with
 | none =>
  rw[hx]at h
  obtain⟨⟨a,b,c,d⟩,rfl⟩:=qV h
  exact SN a (Prod.ext rfl b) c d
 | some y =>
  rw[hx]at h
  dsimp only at h
  by_cases q:s.cmp=true/\s.here+24<=4096
  case neg=>rw[if_neg q]at h;cases h
  rw[if_pos q]at h
  have hxt:s.comp.xt≠0:=by
   have:=q.1
   unfold SS.cmp at this
   exact(oT this).1
  rcases tq h with ⟨hi,rfl⟩|⟨hi,h⟩
  ·exact EU hx q.1 hi (by omega)
  by_cases h3:y.x.flags%2=1/\300<=y.k
  case neg=>rw[if_neg h3]at h;cases h
  rw[if_pos h3]at h
  generalize hn:bJ.getD (y.k-300).toNat []=name at h
  refine Mx hx q.1 h3.1 h3.2 hn fun f a=>?_
  by_cases n0:name=[59]
  ·rw[if_pos n0]at h
   obtain⟨⟨c1,c2,c3,c4⟩,rfl⟩:=qV h
   obtain⟨f',a',e⟩:=G0 a hxt (by omega) (List.length_eq_zero_iff.1 c1) c2 c3 c4
   refine⟨f',a',fun tx p u=>?_⟩
   rw[n0,uJ (g:=va) rfl]
   unfold va j8
   rw[show(av f tx p u).f=f from rfl,e,xB rfl,if_pos (show(av f tx p u).err=0 from rfl)];rfl
  rw[if_neg n0]at h
  by_cases n1:name=[68,79,69,83,62]
  ·rw[if_pos n1]at h
   injection h with h
   subst h
   have l:=ky a (n:=112) (by unfold ae;omega) (by omega)
   refine⟨_,l.2,fun tx p u=>?_⟩
   rw[n1,uJ (g:=Nd) rfl]
   unfold Nd x9 rO
   rw[Xs,do0 rfl,show(av f tx p u).f.vm=f.vm from rfl,l.1,tC rfl];rfl
  rw[if_neg n1]at h
  by_cases ns:spF name=none
  case neg=>rw[if_neg ns]at h;cases h
  rw[if_pos ns]at h
  obtain⟨f',a',e1,e2⟩:=aT9 h a
  refine⟨f',a',fun tx p u=>?_⟩
  rw[Tl ns,DJ (l:=av f tx p u) e1 rfl]
  show(⟨⟨f'.vm,{f.comp with cf:=f'.comp.cf}⟩,tx,p,u,0⟩:ag)=_
  rw[<-e2];rfl
structure LA (f0:aa) (tx:Str) (u0:Int) (k:Nat) (p:Str) (ws:List Tk) (s:SS) (u:Int):Prop where
 etx:tx=p++wM ws
 go:∃f,At f s/\wL f0 tx ⟨f0,0,max u0 0⟩ ⟨f,p.length,u⟩ k
 hu:0<=u/\u<=5000
def LA.start{f0:aa}{u0:Int}{ws:List Tk}{s:SS}(h:At f0 s)(hu:0<=u0/\u0<=5000):LA f0 (wM ws) u0 0 [] ws s u0 :=
 ⟨rfl,⟨f0,h,by rw[show max u0 0=u0 by omega];exact .rf _ _ _⟩,hu⟩
def LA.init{f0:aa}{tx:Str}{u0:Int}{ws:List Tk}{s:SS}(h:At f0 s)(hu:0<=u0/\u0<=5000)(e:tx=wM ws):LA f0 tx u0 0 [] ws s u0:=by rw[e];exact .start h hu
section
variable {f0 : aa} {tx p : Str} {u0 u c : Int} {k : Nat} {t : Tk} {ws : List Tk} {s s' : SS}
def LA.step(h:LA f0 tx u0 k p (t::ws) s u)(ht:okT t)(hw:SW s t.2 s' c)(hc:0<=c/\c<=u):LA f0 tx u0 (k+1) (nxT p t ws) ws s' (u-c):=by
 obtain⟨f,a,g⟩:=h.go
 have hu:=h.hu
 obtain⟨f',a',e⟩:=hw f a
 refine⟨h.etx.trans (Lk p t ws),⟨f',a',?_⟩,by omega⟩
 refine g.tr (.one (e tx _ _ u ?_ ht.2.1 hu.1 hc.2 hu.2))
 rw[h.etx];exact yX p ws ht
def LA.fin(h:LA f0 tx u0 k p [] s u)(hk:k<=tx.length+1):∃f,At f s/\cE f0 tx u0=(lK f,u,0):=by
 obtain⟨f,a,g⟩:=h.go
 exact⟨f,a,RG g hk h.hu.1 (by rw[h.etx];exact WQ p)⟩
def cWs(s:SS):List Tk->Option SS
 | []=>some s
 | t::ws=>match cW s t.2 with
  | none=>none
  | some s'=>cWs s' ws
def R9{s s':SS}{t:Tk}{ws:List Tk}(h:cWs s (t::ws)=some s'):∃s1,cW s t.2=some s1/\cWs s1 ws=some s':=by
 have h:(match cW s t.2 with|none=>none|some s1=>cWs s1 ws)=some s':=h
 generalize cW s t.2=o at h
 cases o with
 | none=>cases h
 | some s1=>exact⟨s1,rfl,h⟩
def LA.words:∀(ws:List Tk) {vs:List Tk} {p:Str} {s s':SS} {k:Nat},LA f0 tx u0 k p (ws++vs) s u->(∀t∈ws,okT t)->cWs s ws=some s'->∃q,LA f0 tx u0 (k+ws.length) q vs s' u
 | [],vs,p,s,s',k,h,_,hc=>by
  have e:s=s':=Option.some.inj (show some s=some s' from hc)
  rw[<-e];exact⟨p,h⟩
 | t::ws,vs,p,s,s',k,h,ht,hc=>by
  obtain⟨s1,hw,hc⟩:=R9 hc
  have h1:=LA.step (ws:=ws++vs) h (ht t (List.mem_cons_self ..)) (aP3 hw) ⟨Int.le_refl _,h.hu.1⟩
  rw[show u-0=u by omega]at h1
  obtain⟨q,r⟩:=LA.words ws h1 (fun x hx=>ht x (List.mem_cons_of_mem _ hx)) hc
  exact⟨q,by rw[show k+(t::ws).length=k+1+ws.length by rw[List.length_cons];omega];exact r⟩
end
open Go.RowKit
section
variable {v : VVm} {L : Nat} {g : Int -> Int} {d r : List Int} {f : List ig} {ip xt x : Int}
def aP8(M:il v L g)(h:okA L ip=true):cz (mz v d r f ip) xt 2=mz v d r f (g ip):=by
 have e:cz (mz v d r f ip) xt 2=dTo (mz v d r f ip):=by kernel_rfl
 rw[e,Mw M h]
def ax2(M:il v L g)(h:okA L ip=true)(hx:x=0):cz (mz v (d++[x]) r f ip) xt 3=mz v d r f (g ip):=by
 have e:cz (mz v (d++[x]) r f ip) xt 3=(if (dU (mz v (d++[x]) r f ip)).2=0 then dTo (dU (mz v (d++[x]) r f ip)).1 else gE (dU (mz v (d++[x]) r f ip)).1):=by kernel_rfl
 rw[e,qD];dsimp only;rw[if_pos hx,Mw M h]
def au4(M:il v L g)(h:okA L ip=true)(hx:x≠0):cz (mz v (d++[x]) r f ip) xt 3=mz v d r f (ip+8):=by
 have e:cz (mz v (d++[x]) r f ip) xt 3=(if (dU (mz v (d++[x]) r f ip)).2=0 then dTo (dU (mz v (d++[x]) r f ip)).1 else gE (dU (mz v (d++[x]) r f ip)).1):=by kernel_rfl
 rw[e,qD];dsimp only;rw[if_neg hx,vB M h]
end
def rS(s:SS)(m:bh)(r:List Int)(ip fu:Int):bH:=mr (vS s m) s.d r [] ip fu
def XS(n:Nat)(s:SS)(r:List Int)(ip:Int)(s':SS)(r':List Int)(ip':Int):Prop:=∀m,dL m 4096 (gL s.cs)->rR (gL s.cs)->∃m',dL m' 4096 (gL s'.cs)/\rR (gL s'.cs)/\∀fu:Int,(n:Int)<=fu->fu<=5000->GoE n (rS s m r ip fu) (rS s' m' r' ip' (fu-n))
section
variable {s s' s'' : SS} {r r' r'' : List Int} {ip ip' ip'' x n : Int} {d d' : List Int}
def XS.tr{a b:Nat}(h:XS a s r ip s' r' ip')(k:XS b s' r' ip' s'' r'' ip''):XS (a+b) s r ip s'' r'' ip'':=by
 intro m hm hs
 obtain⟨m',hm',hs',g⟩:=h m hm hs
 obtain⟨m'',hm'',hs'',g'⟩:=k m' hm' hs'
 refine⟨m'',hm'',hs'',fun fu h1 h2=>?_⟩
 have q:=GoE.trans (g fu (by omega) h2) (g' (fu-a) (by omega) (by omega))
 rw[show fu-(a:Int)-(b:Int)=fu-((a+b:Nat):Int) by omega,Nat.add_comm]at q
 exact q
def XS.rf:XS 0 s r ip s r ip:=fun m hm hs=>⟨m,hm,hs,fun fu _ _=>by rw[show fu-((0:Nat):Int)=fu by omega];exact .nil _⟩
def aw3{g1:∀m fu,dL m 4096 (gL s.cs)->rR (gL s.cs)->1<=fu/\fu<=300000->Go1 (rS s m r ip fu) (rS s' m r' ip' (fu-1))}(hc:gL s'.cs=gL s.cs):XS 1 s r ip s' r' ip':=fun m hm hs =>
 ⟨m,by rw[hc];exact hm,by rw[hc];exact hs,fun fu h1 h2=>.cons (g1 m fu hm hs ⟨h1,by omega⟩) rfl (by show ¬fu<1;omega) (.nil _)⟩
def aD7(i:Nat)(hi:i<130)(ha:okA 4096 ip=true)(hx:gL s.cs ip=32+8*(i:Int))(hk:∀m,dL m 4096 (gL s.cs)->cz (mz (vS s m) s.d r [] (ip+8)) (32+8*(i:Int)) (i:Int)=mz (vS s' m) s'.d r' [] ip')(hc:gL s'.cs=gL s.cs):XS 1 s r ip s' r' ip' :=
 aw3 (g1:=fun m fu hm hs hf=>aQ6 (At.mach hm) hs.std i hi hf ha hx (hk m hm)) hc
def SS.st(s:SS)(d:List Int):SS:={s with d:=d}
def aF3(i:Nat)(d':List Int)(h1:23<=i/\i<130)(ha:okA 4096 ip=true)(hx:gL s.cs ip=32+8*(i:Int))(hd:∀m,dL m 4096 (gL s.cs)->doS (mk (vS s m) s.d r []) (i:Int)=(mk (vS (s.st d') m) d' r [],0)):XS 1 s r ip (s.st d') r (ip+8) :=
 aD7 i h1.2 ha hx (fun m hm=>SU (by omega) (by omega) (hd m hm)) rfl
def XD(ha:okA 4096 ip=true)(hx:gL s.cs ip=32):XS 1 s (r++[x]) ip s r x :=
 aD7 0 (by decide) ha hx (fun m hm=>TY) rfl
end
def XR(s:SS)(xt:Int)(s':SS)(c:Int):Prop:=∀f,At f s->∃f',At f' s'/\∀(tx:Str) (a u:Int),0<=u->c<=u->u<=5000->jN (av f tx a u) xt=⟨f',tx,a,u-c,0⟩
def Sk(s s':SS):Prop:=s'.here=s.here/\s'.ext=s.ext/\s'.comp=s.comp
def Q8{f:aa}{s s':SS}(h:At f s){m:bh}(hm:dL m 4096 (gL s'.cs))(hs:rR (gL s'.cs))(k:Sk s s'):At ⟨vS s' m,s.comp⟩ s' :=
 ⟨⟨m,by rw[k.2.2],hm⟩,hs,by rw[k.1];exact h.h0,by rw[k.1];exact h.h1,by rw[k.1];exact h.h8,by rw[k.2.1];exact h.ext⟩
def Ml{s s':SS}(i:Nat)(h1:23<=i/\i<=129)(hc:gL s'.cs=gL s.cs)(k:Sk s s')(hd:∀m,dL m 4096 (gL s.cs)->doS (mk (vS s m) s.d [] []) (i:Int)=(mk (vS s' m) s'.d [] [],0)):XR s (32+8*(i:Int)) s' 2:=by
 intro f h
 have hstd:=h.std
 have cm:f.comp=s.comp:=by obtain⟨m,rfl,hm⟩:=h.ex;rfl
 obtain⟨m,e,hm⟩:=h.ex
 have hm':dL m 4096 (gL s'.cs):=by rw[hc];exact hm
 have hs':rR (gL s'.cs):=by rw[hc];exact hstd
 refine⟨⟨vS s' m,s.comp⟩,Q8 h hm' hs' k,fun tx a u u0 cu u9=>?_⟩
 subst e
 exact Qf (l:=av ⟨vS s m,s.comp⟩ tx a u) (u:=vS s' m) (d':=s'.d) (At.mach hm) hstd.std (At.mach hm') hs'.std h1.1 h1.2 (hd m hm) ⟨cu,by show u<=300000;omega⟩ rfl
def Ue{s s':SS}{n:Nat}{xt:Int}(hx:okA 4096 xt=true)(hq:gL s.cs xt=256)(k:Sk s s')(hr:XS n s [16] (xt+8) s' [] 16):XR s xt s' ((n+2:Nat):Int):=by
 intro f h
 have hstd:=h.std
 obtain⟨m,e,hm⟩:=h.ex
 obtain⟨m',hm',hs',g⟩:=hr m hm hstd
 refine⟨⟨vS s' m',s.comp⟩,Q8 h hm' hs' k,fun tx a u u0 cu u9=>?_⟩
 subst e
 exact KR (l:=av ⟨vS s m,s.comp⟩ tx a u) (u:=vS s' m') (d':=s'.d) (n:=n) (At.mach hm) hx hq (At.mach hm') hs'.std (g (u-1) (by omega) (by omega)) ⟨by show(n:Int)+2<=u;omega,by show u<=300000;omega⟩ rfl
def Ms{s s':SS}{w:Str}{y:XI}{c:Int}(h:xiS s w=some y)(hc:s.cmp=false)(ho:jh y.x y.k=false)(h3:¬300<=y.k)(hx:XR s y.x.xt s' c):SW s w s' c:=by
 obtain⟨hf,ha,hk,hkk⟩:=tX h
 refine zx hf fun f a=>?_
 obtain⟨f',a',e⟩:=hx f a
 refine⟨f',a',fun tx p u u0 cu u9=>⟨true,?_⟩⟩
 have ek:az f.vm y.x.xt=(y.k,0):=by rw[mm a ha (by rw[<-hk];exact hkk),hk]
 have ec:bK (av f tx p u).f=false:=by rw[show bK (av f tx p u).f=bK f from rfl,kU a];exact hc
 rw[Mu (l:=av f tx p u) ek h3 (by rw[ho];rfl) (by rw[ec];rfl),e tx p u u0 cu u9]
def Yt{f0:aa}{tx p:Str}{u0 u:Int}{k:Nat}{t n:Tk}{ws:List Tk}{s s':SS}{y:XI}{name:Str}(h:LA f0 tx u0 k p (t::n::ws) s u)(ht:okT t)(hn:okT n)
  (hx:xiS s t.2=some y) (hc:s.cmp=false) (ho:jh y.x y.k=false) (h3:300<=y.k) (hnm:bJ.getD (y.k-300).toNat []=name)
  (hs:∀f,At f s->∃f',At f' s'/\∀(tx:Str) (a a2 u:Int),bt tx a=(n.2,a2)->rN (av f tx a u) name=av f' tx a2 u):LA f0 tx u0 (k+1) (nxT (nxT p t (n::ws)) n ws) ws s' u:=by
 obtain⟨f,a,g⟩:=h.go
 have hu:=h.hu
 obtain⟨hf,ha,hk,hkk⟩:=tX hx
 obtain⟨f',a',e⟩:=hs f a
 have htx:=h.etx
 have w1:bt tx (p.length:Int)=(t.2,((nxT p t (n::ws)).length:Int)):=by rw[htx];exact yX p (n::ws) ht
 have t2:tx=nxT p t (n::ws)++wM (n::ws):=htx.trans (Lk p t (n::ws))
 have w2:bt tx ((nxT p t (n::ws)).length:Int)=(n.2,((nxT (nxT p t (n::ws)) n ws).length:Int)):=by rw[t2];exact yX _ ws hn
 refine⟨t2.trans (Lk _ n ws),⟨f',a',g.tr (.one ?_)⟩,hu⟩
 have ek:az f.vm y.x.xt=(y.k,0):=by rw[mm a ha (by rw[<-hk];exact hkk),hk]
 have ec:∀b,bK (av f tx b u).f=false:=fun b=>by rw[show bK (av f tx b u).f=bK f from rfl,kU a];exact hc
 have eo:j5 (av f tx ((nxT p t (n::ws)).length:Int) (max u 0)) t.2=(av f' tx ((nxT (nxT p t (n::ws)) n ws).length:Int) u,false):=by
  rw[show max u 0=u by omega,kG (x:=y.x) (i:=(bL (dX 167++s.ext) t.2).2.1) (by show bL f.vm.dict t.2=_;rw[jC a];exact hf)]
  rw[tm (l:=av f tx _ u) ek h3 (by rw[ho];rfl) (by rw[ec];rfl),hnm,e tx _ _ u w2]
 exact VA w1 ht.2.1 eo rfl
def Rv{f:aa}{tx n:Str}{a a2 u:Int}(h:bt tx a=(n,a2))(h0:n≠[]):bW (av f tx a u)=(av f tx a2 u,n):=by
 unfold bW
 rw[show(av f tx a u).s=tx from rfl,show(av f tx a u).at_=a from rfl,h,if_neg h0];rfl
def DG{f f':aa}{tx n:Str}{a a2 u:Int}(h:bt tx a=(n,a2))(h0:n≠[])(hb:ik f n false 0=(f',0)):rN (av f tx a u) [58]=av f' tx a2 u:=by
 rw[uJ (g:=Gd) rfl]
 unfold Gd uP
 rw[Rv h h0]
 dsimp only
 rw[if_pos (show(av f tx a2 u).err=0 from rfl),show(av f tx a2 u).f=f from rfl,hb]
 unfold j8
 rw[xB (show(av f tx a2 u).err=0 from rfl),if_pos (show(av f tx a2 u).err=0 from rfl)];rfl
def GD{f0:aa}{tx p:Str}{u0 u:Int}{k:Nat}{t n:Tk}{ws:List Tk}{s:SS}{y:XI}(h:LA f0 tx u0 k p (t::n::ws) s u)(ht:okT t)(hn:okT n)
  (hx:xiS s t.2=some y) (hk:y.k=300/\y.x.flags=0) (hxt:s.comp.xt=0) (hr:s.here+8<=4096) (hnm:eS n.2=0) (he:s.ext.length<70):LA f0 tx u0 (k+1) (nxT (nxT p t (n::ws)) n ws) ws (s.begun n.2) u:=by
 refine Yt h ht hn hx (by unfold SS.cmp;rw[hxt];rfl) (by unfold jh;rw[hk.1,hk.2];rfl) (by omega) (name:=[58]) (by rw[hk.1];decide +kernel) fun f a=>?_
 have b:=Iz a hxt hr hnm he
 exact⟨_,b.2,fun tx a1 a2 u hw=>DG hw hn.2.1 b.1⟩
open Go.RowKit
def aq5{v:VVm}{x b:Int}{r:List Int}(hb:(am v.mem 0).1=b)(s:Str)(hs:ir x b=(s,0))(hd:1<=v.conf.data)(ho:¬((s++[32]).length:Int)>v.conf.out-v.out.length):doS (mk v [x] r []) 110=(mk {v with out:=v.out++(s++[32])} [] r [],0):=by
 have e:doS (mk v [x] r []) 110=(if (cG (mk v [x] r []) (pu (ir x (am v.mem 0).1))).2.2≠0 then(mk v [x] r [],(cG (mk v [x] r []) (pu (ir x (am v.mem 0).1))).2.2)else if v.conf.data<((0+(cG (mk v [x] r []) (pu (ir x (am v.mem 0).1))).2.1.length:Nat):Int)then(mk v [x] r [],-3)else({(cG (mk v [x] r []) (pu (ir x (am v.mem 0).1))).1 with d:=[]++(cG (mk v [x] r []) (pu (ir x (am v.mem 0).1))).2.1},0)):=by kernel_rfl
 have p:cG (mk v [x] r []) (pu (ir x (am v.mem 0).1))=(mk {v with out:=v.out++(s++[32])} [x] r [],[],0):=by
  rw[hb,hs]
  unfold pu cG
  rw[if_pos rfl]
  unfold gF
  rw[if_neg (by exact ho)];rfl
 rw[e,p,if_neg (fun z=>z rfl),if_neg (by show ¬v.conf.data<((0:Nat):Int);omega)];rfl
def Fq{f:aa}{s:SS}(h:At f s):At (lK f) s:=by
 obtain⟨m,rfl,hm⟩:=h.ex
 exact⟨⟨⟨m.b,[]⟩,rfl,hm.bare⟩,h.std,h.h0,h.h1,h.h8,h.ext⟩
def LA.free{f0:aa}{tx p:Str}{u0 u:Int}{k:Nat}{s:SS}(h:LA f0 tx u0 k p [] s u)(hk:k<=tx.length+1):∃f,At f s/\cE f0 tx u0=(f,u,0):=by
 obtain⟨f,a,e⟩:=h.fin hk
 exact⟨_,Fq a,e⟩
def tk(w:Str):Tk:=([],w)
def wy{w:Str}(h:(!w.isEmpty&&w.all fun c=>decide (32<c.toNat))=true):okT (tk w):=by
 rw[Bool.and_eq_true,List.all_eq_true]at h
 refine⟨(fun c hc=>by cases hc),fun z=>?_,fun c hc=>oT (h.2 c hc)⟩
 have z:w=[]:=z
 rw[z]at h
 exact absurd h.1 (by decide)
def LX{l:List Str}(h:(l.all fun w=>!w.isEmpty&&w.all fun c=>decide (32<c.toNat))=true):∀t∈l.map tk,okT t:=fun t ht=>by
 obtain⟨w,hw,rfl⟩:=List.mem_map.1 ht
 exact wy (List.all_eq_true.1 h w hw)
def sA1:SS:=⟨[],[(8,0),(1392,32),(1384,360),(1376,216),(8,-1),(1368,256)],1400,[⟨[83,81],1368,0⟩],0,[],kV⟩
def sA:SS:={sA1 with out:=[50,53,32]}
def sQ:XI:=⟨⟨[83,81],1368,0⟩,256⟩
def aC5(s:SS)(n:Int)(hcs:s.cs=sA1.cs)(hd:s.d=[n]):XS 3 s [16] 1376 (s.st [wrap64 (n*n)]) [] 16:=by
 obtain⟨d,cs,here,ext,last,out,comp⟩:=s
 simp only at hcs hd
 subst hcs hd
 exact(aF3 23 [n,n] (by decide) rfl (by kernel_rfl) (fun m _=>by kernel_rfl)).tr ((aF3 41 [wrap64 (n*n)] (by decide) rfl (by kernel_rfl) (fun m _=>by kernel_rfl)).tr (XD (r:=[]) rfl (by kernel_rfl)))
def aA5{s s':SS}{m:bh}{x:Int}{t:Str}(hm:dL m 4096 (gL s.cs))(hb:gL s.cs 0=10)(hd:s.d=[x])(ht:ir x 10=(t,0))(ho:(s.out.length+t.length:Nat)<1999)(e:s'={s with d:=[],out:=s.out++(t++[32])}):doS (mk (vS s m) s.d [] []) 110=(mk (vS s' m) s'.d [] [],0):=by
 have hf:(am (vS s m).mem 0).1=10:=by rw[show(vS s m).mem=m from rfl,hm.cell 0 (by decide) (by decide) (by decide),hb]
 rw[hd,e]
 exact aq5 hf t ht (by show(1:Int)<=32;decide) (by show ¬((t++[32]).length:Int)>2000-(s.out.length:Int);rw[List.length_append,List.length_singleton];omega)
def aK9:∃f,At f sA/\cE fO [58,32,83,81,32,68,85,80,32,42,32,59,32,53,32,83,81,32,46] 100=(f,93,0):=by
 have h0:LA fO [58,32,83,81,32,68,85,80,32,42,32,59,32,53,32,83,81,32,46] 100 0 [] ([[58],[83,81],[68,85,80],[42],[59],[53],[83,81],[46]].map tk) sO 100:=.init Zs (by decide) rfl
 have h1:=GD (ws:=[[68,85,80],[42],[59],[53],[83,81],[46]].map tk) h0 (wy rfl) (wy rfl) (y:=⟨⟨[58],1072,0⟩,300⟩) (by kernel_rfl) ⟨rfl,rfl⟩ rfl (by decide) rfl (by decide)
 obtain⟨q,h2⟩:=LA.words ([[68,85,80],[42],[59]].map tk) (vs:=[[53],[83,81],[46]].map tk) (s':=sA1) h1 (LX rfl) (by kernel_rfl)
 have h3:=LA.step h2 (wy rfl) (J6 (n:=5) (by kernel_rfl) (by kernel_rfl) rfl (by decide)) (by decide)
 have run:XS 3 {sA1 with d:=[5]} [16] 1376 {sA1 with d:=[25]} [] 16:=by
  have q:=aC5 {sA1 with d:=[5]} 5 rfl rfl
  rw[show wrap64 (5*5)=25 by unfold wrap64;omega]at q
  exact q
 have h4:=LA.step (s':={sA1 with d:=[25]}) h3 (wy rfl) (Ms (y:=sQ) (c:=5) (by kernel_rfl) rfl rfl (by decide) (Ue (n:=3) (xt:=1368) rfl (by kernel_rfl) ⟨rfl,rfl,rfl⟩ run)) (by decide)
 have h5:=LA.step (s':=sA) h4 (wy rfl) (Ms (y:=⟨⟨[46],912,0⟩,110⟩) (c:=2) (by kernel_rfl) rfl rfl (by decide) (Ml 110 (by decide) rfl ⟨rfl,rfl,rfl⟩ fun m hm=>aA5 hm (by kernel_rfl) rfl (x:=25) (t:=[50,53]) (by kernel_rfl) (by decide) rfl)) (by decide)
 exact h5.free (by decide)
def sB:SS:=⟨[],[(1416,0),(1408,56),(8,-1),(1400,256),(8,0),(1392,32),(1384,360),(1376,216),(8,-1),(1368,256)],1424,[⟨[83,81],1368,0⟩,⟨[88],1400,2⟩],0,[50,53,32],⟨1400,[⟨1,1416,[]⟩],1400,168,0,false,0⟩⟩
def aB4{f:aa}(a:At f sA):∃f',At f' sB/\cE f [58,32,88,32,73,70] 100=(f',100,0):=by
 have h0:LA f [58,32,88,32,73,70] 100 0 [] ([[58],[88],[73,70]].map tk) sA 100:=.init a (by decide) rfl
 have h1:=GD (ws:=[[73,70]].map tk) h0 (wy rfl) (wy rfl) (y:=⟨⟨[58],1072,0⟩,300⟩) (by kernel_rfl) ⟨rfl,rfl⟩ rfl (by decide) rfl (by decide)
 obtain⟨q,h2⟩:=LA.words ([[73,70]].map tk) (vs:=[]) (s':=sB) h1 (LX rfl) (by kernel_rfl)
 exact h2.free (by decide)
def sC3:SS:=⟨[],[(8,0),(1424,32),(1416,1424),(1416,0),(1408,56),(8,-1),(1400,256),(8,0),(1392,32),(1384,360),(1376,216),(8,-1),(1368,256)],1432,[⟨[83,81],1368,0⟩,⟨[88],1400,0⟩],0,[50,53,32],kV⟩
def O4{f:aa}(h:f.comp.xt=0):kc f=f:=by unfold kc;rw[if_pos h]
def al5{f0 f:aa}{s0 s:SS}(h0:At f0 s0)(h:At f s)(hx:s.comp.xt=0):At (NY f0 f) {s with d:=[]}:=by
 obtain⟨m0,rfl,hm0⟩:=h0.ex
 obtain⟨m,rfl,hm⟩:=h.ex
 unfold NY
 rw[O4 (by exact hx)]
 exact⟨⟨m,rfl,hm⟩,h.std,h.h0,h.h1,h.h8,h.ext⟩
def YH{f:aa}{s:SS}(h:At f s){w tx:Str}{p a u:Int}(hw:bt tx p=(w,a))(h0:w≠[])(hu:0<=u)(hf:(bL (dX 167++s.ext) w).2.2=false)(hn:(dw w (gL s.cs 0)).2=false):iJ f tx p u=(f,p,u,true,-13):=by
 have e:j5 (av f tx a (max u 0)) w=(oOk (av f tx a (max u 0)) (-13),false):=by
  unfold j5
  rw[show(av f tx a (max u 0)).f=f from rfl,jC h,hf,if_neg (by decide)]
  unfold Ew
  rw[show(av f tx a (max u 0)).f=f from rfl,wC h,hn,if_pos rfl]
 have q:=BU (f:=f) (s:=tx) (a:=p) (fuel:=u) (r:=(oOk (av f tx a (max u 0)) (-13),false)) (by rw[hw];exact h0) (by rw[hw];exact e) (by rw[ok0 rfl];show(-13:Int)≠0;decide) rfl
 rw[q,ok0 rfl,show max u 0=u by omega]
def LA.none{f0:aa}{tx p:Str}{u0 u:Int}{k:Nat}{t:Tk}{ws:List Tk}{s s0:SS}(h:LA f0 tx u0 k p (t::ws) s u)(h0:At f0 s0)(ht:okT t)(hk:k<=tx.length+1)(hf:(bL (dX 167++s.ext) t.2).2.2=false)(hn:(dw t.2 (gL s.cs 0)).2=false)(hx:s.comp.xt=0):
  ∃f,At f {s with d:=[]}/\cE f0 tx u0=(f,u,-13):=by
 obtain⟨f,a,g⟩:=h.go
 have hw:bt tx (p.length:Int)=(t.2,((nxT p t ws).length:Int)):=by rw[h.etx];exact yX p ws ht
 exact⟨_,Fq (al5 h0 a hx),Vf g hk (YH a hw ht.2.1 h.hu.1 hf hn) (by decide)⟩
def au8{f:aa}(a:At f sB):∃f',At f' sC3/\cE f [84,72,69,78,32,59,32,110,111,112,101] 100=(f',100,-13):=by
 have h0:LA f [84,72,69,78,32,59,32,110,111,112,101] 100 0 [] ([[84,72,69,78],[59],[110,111,112,101]].map tk) sB 100:=.init a (by decide) rfl
 obtain⟨q,h2⟩:=LA.words ([[84,72,69,78],[59]].map tk) (vs:=[[110,111,112,101]].map tk) (s':=sC3) h0 (LX rfl) (by kernel_rfl)
 exact h2.none a (wy rfl) (by decide) (by kernel_rfl) (by kernel_rfl) rfl
def aK7{f:aa}(a:At f sA):∃f',At f' {sA with d:=[7]}/\iJ f [32,32,55,32,56] 0 9=(f',4,9,true,0):=by
 obtain⟨f',a',e⟩:=J6 (s:=sA) (w:=[55]) (n:=7) (by kernel_rfl) (by kernel_rfl) rfl (by decide) f a
 exact⟨f',a',e [32,32,55,32,56] 0 4 9 (by kernel_rfl) (by decide) (by decide) (by decide) (by decide)⟩
def aI0{f:aa}(a:At f {sA with d:=[7]}):∃f',At f' {sA with d:=[7,7]}/\M1 f 216 [] 0 9=(f',0,7,0):=by
 obtain⟨f',a',e⟩:=Ml (s:={sA with d:=[7]}) (s':={sA with d:=[7,7]}) 23 (by decide) rfl ⟨rfl,rfl,rfl⟩ (fun m _=>by kernel_rfl) f a
 refine⟨f',a',?_⟩
 have q:=e [] 0 9 (by decide) (by decide) (by decide)
 unfold M1
 rw[show max (9:Int) 0=9 from rfl]
 have q:jN (av f [] 0 9) 216=⟨f',[],0,7,0⟩:=q
 rw[q]
def Dh:ab prog 10 [] (bG fO):=by
 refine zH func10 fun B=>?_
 refine zC rfl func24 ((W1 cO Mz) _) ?_
 rfl
def okO:OkF 0 fO:=by
 refine zT Zq fun x hx=>?_
 obtain⟨i,hi,rfl⟩:=List.mem_map.1 (show x∈(List.range 167).map cR from hx)
 have:=List.mem_range.1 hi
 show ae ((32+8*i:Nat):Int)
 unfold ae;omega
def aa7{l l':List Int}(h:l=l')(hl:l'.length<=1000000):ab prog 20 [sq ao l,sq ao l'] (boo true):=by
 subst h
 have:=tj l l hl hl
 rwa [decide_eq_true rfl]at this
def PG(a:Addr)(f:FuncId)(args:List PV)(res:PV):Prop:=∀(H:List Ob),(∀o∈gH a,∃k:Nat,H[k]?=some o)->HC prog f args H res H
def VT(a:Addr)(f0 fA fB fC fD fE:aa)(n0:ab prog 10 [] (bG f0))(pA:PG a 12 [bG f0,str [58,32,83,81,32,68,85,80,32,42,32,59,32,53,32,83,81,32,46],i64 100] (rK (fA,93,0)))(pB:PG a 12 [bG fA,str [58,32,88,32,73,70],i64 100] (rK (fB,100,0)))
  (pC:PG a 12 [bG fB,str [84,72,69,78,32,59,32,110,111,112,101],i64 100] (rK (fC,100,-13))) (pD:PG a 21 [bG fA,str [32,32,55,32,56],i64 0,i64 9] (Nm (fD,4,9,true,0))) (pE:PG a 22 [bG fD,i64 216,str [],i64 0,i64 9] (L2 (fE,0,7,0)))
  (cA:ab prog 23 [bG fA] (boo false)) (cB:ab prog 23 [bG fB] (boo true)) (cC:ab prog 23 [bG fC] (boo false)) (oA:fA.vm.out=[50,53,32]) (dD:fD.vm.d=[7]) (dE:fE.vm.d=[7,7]):∀(H:List Ob),(∀o∈gH a,∃k:Nat,H[k]?=some o)->HC prog 9 [] H (boo true) H:=by
 refine gD (fF a) tG (rs:=[.tmp 0]) func9 rfl rfl rfl (by simp) (by simp) (fun B=>?_)
 refine zd ?_
 refine zC rfl func10 ((n0) _) ?_
 refine zC rfl func12 (pA _ (bS 0 1 rfl rfl)) ?_
 refine zC rfl func12 (pB _ (bS 0 1 rfl rfl)) ?_
 refine zC rfl func12 (pC _ (bS 0 1 rfl rfl)) ?_
 refine zC rfl func21 (pD _ (bS 0 1 rfl rfl)) ?_
 refine zc rfl func22 (pE _ (bS 0 1 rfl rfl)) ?_
 refine zy5 ?_
 refine zs5 ?_
 refine zp3 ?_
 refine cT 56 rfl (by rfl) ?_
 refine zd ?_
 refine Wd rfl rfl (cY (lO tG rfl) rfl (lO tG rfl) rfl (lO tG rfl) rfl rfl rfl) ?_
 refine z1 ?_
 refine zq 61 ?_
 refine zy2 ?_
 refine cT 63 rfl (by exact decide_eq_true oA) ?_
 refine zy4 ?_
 refine cT 67 rfl (by rfl) ?_
 refine z1 ?_
 refine zc rfl func23 ((cA) _) ?_
 refine zy3 ?_
 refine cT 72 rfl (by rfl) ?_
 refine zy4 ?_
 refine cT 76 rfl (by rfl) ?_
 refine z1 ?_
 refine zc rfl func23 ((cB) _) ?_
 refine zy2 ?_
 refine cT 80 rfl (by rfl) ?_
 refine zy4 ?_
 refine cT 84 rfl (by rfl) ?_
 refine z1 ?_
 refine zc rfl func23 ((cC) _) ?_
 refine zy3 ?_
 refine cT 89 rfl (by rfl) ?_
 refine zy4 ?_
 refine cT 93 rfl (by rfl) ?_
 refine zy3 ?_
 refine cT 96 rfl (by rfl) ?_
 refine zy4 ?_
 refine cT 100 rfl (by rfl) ?_
 refine zy4 ?_
 refine cT 104 rfl (by rfl) ?_
 refine zy4 ?_
 refine Wa 108 rfl (bsL ao [_] rfl rfl) ?_
 refine zc rfl func20 ((aa7 dD (by decide)) _) ?_
 refine zy2 ?_
 refine cT 111 rfl (by rfl) ?_
 refine zy4 ?_
 refine cT 115 rfl (by rfl) ?_
 refine zy4 ?_
 refine Wa 119 rfl (bsL ao [_,_] rfl rfl) ?_
 refine zC rfl func20 ((aa7 dE (by decide)) _) ?_
 rfl
def FX{f:aa}{s:SS}(h:At f s){b:Bool}(hb:s.cmp=b):ab prog 23 [bG f] (boo b):=by
 have hm:f.vm.mem.b.length<=140737488355328:=by
  obtain⟨m,rfl,hm⟩:=h.ex
  have:=hm.len
  show m.b.length<=_;omega
 have:=kg f hm
 rwa [kU h,hb]at this
def JO{f:aa}{s:SS}(h:At f s):f.vm.out=s.out/\f.vm.d=s.d/\f.comp=s.comp:=by obtain⟨m,rfl,hm⟩:=h.ex;exact⟨rfl,rfl,rfl⟩
def tv(a:Addr){f f':aa}{tx:Str}{fuel u e:Int}(h:OkF 0 f)(ht:tx.length<=1000)(hu:fuel<=5000)(hl:cE f tx fuel=(f',u,e)):PG a 12 [bG f,str tx,i64 fuel] (rK (f',u,e))/\OkF 0 f':=by
 have p:PG a 12 [bG f,str tx,i64 fuel] (rK (cE f tx fuel)):=ID a h ht hu (by decide)
 have o:=(Bp h ht hu (by decide)).2.1
 rw[hl]at p o
 exact⟨p,o⟩
def LY(a:Addr):∀(H:List Ob),(∀o∈gH a,∃k:Nat,H[k]?=some o)->HC prog 9 [] H (boo true) H:=by
 obtain⟨fA,aA,eA⟩:=aK9
 obtain⟨fB,aB,eB⟩:=aB4 aA
 obtain⟨fC,aC,eC⟩:=au8 aB
 obtain⟨fD,aD,eD⟩:=aK7 aA
 obtain⟨fE,aE,eE⟩:=aI0 aD
 obtain⟨pA,kA⟩:=tv a okO (by decide) (by decide) eA
 obtain⟨pB,kB⟩:=tv a kA (by decide) (by decide) eB
 obtain⟨pC,kC⟩:=tv a kB (by decide) (by decide) eC
 have wD:=okw (s:=[32,32,55,32,56]) (a:=0) (fuel:=9) kA (by decide) (by decide) (by decide) (by decide)
 have pD:PG a 21 _ _:=BR a fA [32,32,55,32,56] 0 9 0 ⟨Vu kA (by decide) (by decide),kA.g,by decide,by decide⟩
 rw[eD]at pD wD
 have pE:PG a 22 _ _:=Kj a fD 216 [] 0 9 _ wD.f.g (by unfold ae;omega) (by decide) (by show 0+270+3*Int.toNat 9-3*Int.toNat 9<=190000;decide) (by decide)
 rw[eE]at pE
 exact VT a fO fA fB fC fD fE Dh pA pB pC pD pE (FX aA rfl) (FX aB rfl) (FX aC rfl) (JO aA).1 (JO aD).2.1 (JO aE).2.1
def km{α:Type}(l:List α):l=[]\/∃a x,l=a++[x]:=by
 by_cases h:l=[]
 ·exact .inl h
 exact .inr ⟨l.dropLast,l.getLast h,(List.dropLast_concat_getLast h).symm⟩
def okI:List Nat:=[23,24,25,26,32,39,41,53,59,100,106,110]
def mo(v:VVm)(o:Str):VVm:={v with out:=o}
def V0(v:VVm){n:Int}(h1:23<=n)(h2:n<=129)(h:¬n<=38)(hk:¬v.d.length<aX n (aq.getD n.toNat [])){P:bh->Prop}(e:∀x,∃o l c,∀m,P m->bF (aU v m) n (aq.getD n.toNat []) x=({aU v m with out:=o},l,c)):∃o d c,∀m,P m->doS (aU v m) n=({aU v m with out:=o,d:=d},c):=by
 obtain⟨o,l,c,e⟩:=e (v.d.drop (v.d.length-aX n (aq.getD n.toNat [])))
 have b:∀m,P m->doS (aU v m) n=(if c≠0 then(aU v m,c)else if v.conf.data<((v.d.length-aX n (aq.getD n.toNat [])+l.length:Nat):Int)then(aU v m,-3)else({aU v m with out:=o,d:=v.d.take (v.d.length-aX n (aq.getD n.toNat []))++l},0)):=fun m hm=>by
  unfold doS
  rw[if_neg (by omega)]
  dsimp only
  rw[if_neg h,if_neg (show ¬(aU v m).d.length<aX n (aq.getD n.toNat []) from hk)]
  have q:=e m hm
  rw[show(aU v m).d=v.d from rfl,q];rfl
 by_cases hc:c≠0
 ·exact⟨v.out,v.d,c,fun m hm=>by rw[b m hm,if_pos hc];rfl⟩
 by_cases hd:v.conf.data<((v.d.length-aX n (aq.getD n.toNat [])+l.length:Nat):Int)
 ·exact⟨v.out,v.d,-3,fun m hm=>by rw[b m hm,if_neg hc,if_pos hd];rfl⟩
 exact⟨o,_,0,fun m hm=>by rw[b m hm,if_neg hc,if_neg hd]⟩
def am2(v:VVm){n:Int}(h1:23<=n)(h2:n<=72):∃o d c,∀m,doS (aU v m) n=({aU v m with out:=o,d:=d},c):=by
 by_cases h:n<=38
 ·refine⟨v.out,(dz (aq.getD n.toNat []) v.d v.conf.data).1,(dz (aq.getD n.toNat []) v.d v.conf.data).2.2,fun m=>?_⟩
  unfold doS
  rw[if_neg (by omega)]
  dsimp only
  rw[if_pos h];rfl
 by_cases hk:v.d.length<aX n (aq.getD n.toNat [])
 ·refine⟨v.out,v.d,-4,fun m=>?_⟩
  unfold doS
  rw[if_neg (by omega)]
  dsimp only
  rw[if_neg h,if_pos (show(aU v m).d.length<aX n (aq.getD n.toNat []) from hk)];rfl
 have e:∀x,∃l c,∀m,bF (aU v m) n (aq.getD n.toNat []) x=(aU v m,l,c):=fun x=>by
  by_cases h58:n<=58
  ·refine⟨[(lH (aq.getD n.toNat []) (xat x 0) (xat x 1)).1],(lH (aq.getD n.toNat []) (xat x 0) (xat x 1)).2.2,fun m=>?_⟩
   unfold bF;rw[if_pos h58]
  refine⟨[(uH (aq.getD n.toNat []) (xat x 0)).1],0,fun m=>?_⟩
  unfold bF;rw[if_neg h58,if_pos h2]
 obtain⟨o,d,c,q⟩:=V0 v (P:=fun _=>True) h1 (by omega) h hk (fun x=>by obtain⟨l,c,e⟩:=e x;exact⟨v.out,l,c,fun m _=>e m⟩)
 exact⟨o,d,c,fun m=>q m trivial⟩
def RY(v:VVm){n:Int}(h1:39<=n)(h2:n<=129){P:bh->Prop}(e:∀x,∃o l c,∀m,P m->bF (aU v m) n (aq.getD n.toNat []) x=({aU v m with out:=o},l,c)):∃o d c,∀m,P m->doS (aU v m) n=({aU v m with out:=o,d:=d},c):=by
 by_cases hk:v.d.length<aX n (aq.getD n.toNat [])
 ·refine⟨v.out,v.d,-4,fun m _=>?_⟩
  unfold doS
  rw[if_neg (by omega)]
  dsimp only
  rw[if_neg (by omega),if_pos (show(aU v m).d.length<aX n (aq.getD n.toNat []) from hk)];rfl
 exact V0 v (by omega) h2 (by omega) hk e
def L4(v:VVm)(r:Str×Int):∃o l c,∀m,cG (aU v m) r=({aU v m with out:=o},l,c):=by
 by_cases h:r.2=0
 ·by_cases h2:(r.1.length:Int)>v.conf.out-v.out.length
  ·exact⟨v.out,[],(gF v r.1).2,fun m=>by unfold cG gF;rw[if_pos h,if_pos (show(r.1.length:Int)>(aU v m).conf.out-(aU v m).out.length from h2),if_pos h2];rfl⟩
  exact⟨v.out++r.1,[],0,fun m=>by unfold cG gF;rw[if_pos h,if_neg (show ¬(r.1.length:Int)>(aU v m).conf.out-(aU v m).out.length from h2)];rfl⟩
 exact⟨v.out,[],r.2,fun m=>by unfold cG;rw[if_neg h];rfl⟩
def aE5(v:VVm){g:Int->Int}{L:Nat}(hL:8<=L){i:Nat}(h:i∈okI):∃o d c,∀m,dL m L g->doS (aU v m) (i:Int)=({aU v m with out:=o,d:=d},c):=by
 have lo:∀n:Int,23<=n->n<=72->∃o d c,∀m,dL m L g->doS (aU v m) n=({aU v m with out:=o,d:=d},c):=fun n h1 h2=>by
  obtain⟨o,d,c,e⟩:=am2 v h1 h2
  exact⟨o,d,c,fun m _=>e m⟩
 simp only[okI,List.mem_cons,List.not_mem_nil,or_false]at h
 rcases h with rfl|rfl|rfl|rfl|rfl|rfl|rfl|rfl|rfl|rfl|rfl|rfl
 ·exact lo _ (by decide) (by decide)
 ·exact lo _ (by decide) (by decide)
 ·exact lo _ (by decide) (by decide)
 ·exact lo _ (by decide) (by decide)
 ·exact lo _ (by decide) (by decide)
 ·exact lo _ (by decide) (by decide)
 ·exact lo _ (by decide) (by decide)
 ·exact lo _ (by decide) (by decide)
 ·exact lo _ (by decide) (by decide)
 ·exact RY v (by decide) (by decide) fun x=>⟨v.out,[-1],0,fun m _=>by kernel_rfl⟩
 ·refine RY v (by decide) (by decide) fun x=>?_
  obtain⟨o,l,c,e⟩:=L4 v ([10],0)
  refine⟨o,l,c,fun m _=>?_⟩
  have e2:bF (aU v m) ((106:Nat):Int) (aq.getD ((106:Nat):Int).toNat []) x=cG (aU v m) ([10],0):=by kernel_rfl
  rw[e2];exact e m
 refine RY v (by decide) (by decide) fun x=>?_
 obtain⟨o,l,c,e⟩:=L4 v (pu (ir (xat x 0) (g 0)))
 refine⟨o,l,c,fun m hm=>?_⟩
 have e2:bF (aU v m) ((110:Nat):Int) (aq.getD ((110:Nat):Int).toNat []) x=cG (aU v m) (pu (ir (xat x 0) (jO (aU v m)))):=by kernel_rfl
 have e3:jO (aU v m)=g 0:=by
  show(am m 0).1=_
  rw[hm.cell 0 (Int.le_refl _) (by decide) (by omega)]
 rw[e2,e3];exact e m
def ve{i:Nat}(h:i∈okI):23<=i/\i<=110:=by
 have:∀i∈okI,23<=i/\i<=110:=by decide
 exact this i h
def A0{k:VWk}{e0:Int}(h:k.bad=e0)(h0:e0≠0)(e:Int):(bV k e).bad=e0:=by unfold bV;rw[if_neg (by rw[h];exact h0)];exact h
def Sl{k:VWk}{e0:Int}(h:k.bad=e0)(h0:e0≠0):(dTo k).bad=e0:=A0 h h0 _
def xH{k:VWk}{e0:Int}(h:k.bad=e0)(h0:e0≠0)(n:Int):(cI k n).bad=e0:=A0 h h0 _
def XP{k:VWk}{e0:Int}(h:k.bad=e0)(h0:e0≠0):(dU k).1.bad=e0:=A0 h h0 _
section
variable {v : VVm} {L : Nat} {g : Int -> Int} {d r : List Int} {f : List ig} {ip fu xt x n : Int}
def D9(M:il v L g)(h:¬d.length<32):(gP (mz v d r f ip) n).bad = -3:=by
 have e:dZ (mk v d r f) n=(mk v d r f,-3):=by
  unfold dZ fR
  rw[if_pos (by show v.conf.data<=(d.length:Int);rw[M.data];omega)]
 show(bV (mz v d r f ip) (dZ (mk v d r f) n).2).bad = -3
 rw[e];rfl
def uR(M:il v L g)(h:¬r.length<32):(cI (mz v d r f ip) n).bad = -5:=by
 have e:fp (mk v d r f) n=(mk v d r f,-5):=by
  unfold fp
  rw[if_pos (by show v.conf.ret<=(r.length:Int);rw[M.ret];omega)]
 show(bV (mz v d r f ip) (fp (mk v d r f) n).2).bad = -5
 rw[e];rfl
def yZ:(dU (mz v [] r f ip)).1.bad = -4:=rfl
def Ut:(gG (mz v d [] f ip)).1.bad = -6:=rfl
end
def KO(v:VVm)(L:Nat)(g:Int->Int)(Q:List Int->Int->Prop)(k:bh->VWk):Prop :=
 (∃e,e≠0/\∀m,dL m L g->(k m).bad=e)\/∃o d r ip,Q r ip/\∀m,dL m L g->k m=mz (mo (aU v m) o) d r [] ip
def MF(v:VVm)(L:Nat)(g:Int->Int):Prop:=∀m,dL m L g->il (aU v m) L g
section
variable {v : VVm} {L : Nat} {g : Int -> Int} {d r : List Int} {o : Str} {ip fu xt x n q : Int} {Q : List Int -> Int -> Prop}
def fb(M:il v L g)(o:Str):il (mo v o) L g:=⟨M.mem,M.hL,M.hl,M.data,M.ret⟩
def OL{k:VWk}(h:k.bad≠0):BM (mr v d r [] ip fu) fu k=(mr v d r [] ip fu,false,k.bad):=by
 have e:bZ (mr v d r [] ip fu) k.bad=(mr v d r [] ip fu,k.bad):=by
  unfold bZ
  rw[if_pos (show(mr v d r [] ip fu).vm.f.length=0 from rfl)]
 unfold BM
 rw[if_neg h,e]
def SX{k:bh->VWk}(h:KO v L g Q k):∃o' d' r' ip' e,(e=0->Q r' ip')/\∀m,dL m L g->BM (mr (mo (aU v m) o) d r [] ip fu) fu (k m)=(mr (mo (aU v m) o') d' r' [] ip' fu,false,e):=by
 rcases h with ⟨e,h0,h⟩|⟨o',d',r',ip',hq,h⟩
 ·exact⟨o,d,r,ip,e,fun z=>absurd z h0,fun m hm=>by rw[OL (by rw[h m hm];exact h0),h m hm]⟩
 exact⟨o',d',r',ip',0,fun _=>hq,fun m hm=>by rw[h m hm];rfl⟩
def Nz{i:Nat}(hL:8<=L)(hi:i∈okI)(hq:Q r ip):KO v L g Q (fun m=>cz (mz (mo (aU v m) o) d r [] ip) xt (i:Int)):=by
 have ri:=ve hi
 obtain⟨o',d',c,e⟩:=aE5 (mk (mo v o) d r []) (g:=g) hL hi
 have ek:∀m,dL m L g->cz (mz (mo (aU v m) o) d r [] ip) xt (i:Int)={bV (mz (mo (aU v m) o) d r [] ip) c with v:=mk (mo (aU v m) o') d' r []}:=fun m hm=>by
  unfold cz
  rw[if_neg (by omega),if_neg (by omega),if_neg (by omega),if_neg (by omega),if_neg (by omega),if_neg (by omega),if_pos (by omega)]
  show({bV (mz (mo (aU v m) o) d r [] ip) (doS (aU (mk (mo v o) d r []) m) (i:Int)).2 with v:=(doS (aU (mk (mo v o) d r []) m) (i:Int)).1}:VWk)=_
  rw[e m hm];rfl
 by_cases hc:c=0
 ·subst hc;exact .inr ⟨o',d',r,ip,hq,fun m hm=>(ek m hm).trans rfl⟩
 refine .inl ⟨c,hc,fun m hm=>?_⟩
 dsimp only
 rw[ek m hm]
 show(bV (mz (mo (aU v m) o) d r [] ip) c).bad=c
 unfold bV
 rw[if_pos (show(mz (mo (aU v m) o) d r [] ip).bad=0 from rfl)]
def ZE(hq:∀r' x,r=r'++[x]->Q r' x):KO v L g Q (fun m=>cz (mz (mo (aU v m) o) d r [] ip) xt 0):=by
 rcases km r with rfl|⟨r',x,rfl⟩
 ·refine .inl ⟨-6,by decide,fun m _=>?_⟩
  dsimp only
  have e:cz (mz (mo (aU v m) o) d [] [] ip) xt 0={(gG (mz (mo (aU v m) o) d [] [] ip)).1 with ip:=(gG (mz (mo (aU v m) o) d [] [] ip)).2}:=by kernel_rfl
  rw[e];exact Ut
 exact .inr ⟨o,d,r',x,hq r' x rfl,fun m _=>TY⟩
def an8(M:MF v L g)(h:okA L ip=true)(hq:Q r (ip+8)):KO v L g Q (fun m=>cz (mz (mo (aU v m) o) d r [] ip) xt 1):=by
 by_cases hd:d.length<32
 ·exact .inr ⟨o,_,r,_,hq,fun m hm=>aE2 (fb (M m hm) o) h rfl hd⟩
 refine .inl ⟨-3,by decide,fun m hm=>?_⟩
 dsimp only
 have e:cz (mz (mo (aU v m) o) d r [] ip) xt 1=gE (gP (bm (mz (mo (aU v m) o) d r [] ip) ip).1 (bm (mz (mo (aU v m) o) d r [] ip) ip).2):=by kernel_rfl
 rw[e,vz (fb (M m hm) o) h]
 exact D9 (fb (M m hm) o) hd
def aN4(M:MF v L g)(h:okA L ip=true)(hq:Q r (g ip)):KO v L g Q (fun m=>cz (mz (mo (aU v m) o) d r [] ip) xt 2):=.inr ⟨o,d,r,_,hq,fun m hm=>aP8 (fb (M m hm) o) h⟩
def at9(M:MF v L g)(h:okA L ip=true)(hq:Q r (g ip))(hq2:Q r (ip+8)):KO v L g Q (fun m=>cz (mz (mo (aU v m) o) d r [] ip) xt 3):=by
 rcases km d with rfl|⟨d,x,rfl⟩
 ·refine .inl ⟨-4,by decide,fun m hm=>?_⟩
  dsimp only
  have e:cz (mz (mo (aU v m) o) [] r [] ip) xt 3=(if (dU (mz (mo (aU v m) o) [] r [] ip)).2=0 then dTo (dU (mz (mo (aU v m) o) [] r [] ip)).1 else gE (dU (mz (mo (aU v m) o) [] r [] ip)).1):=by kernel_rfl
  rw[e]
  split
  ·exact Sl yZ (by decide)
  exact yZ
 by_cases hx:x=0
 ·exact .inr ⟨o,d,r,_,hq,fun m hm=>ax2 (fb (M m hm) o) h hx⟩
 exact .inr ⟨o,d,r,_,hq2,fun m hm=>au4 (fb (M m hm) o) h hx⟩
def XX(h:d.length<2):(nE (mz v d r [] ip)).1.bad = -4:=by
 rcases km d with rfl|⟨d,x,rfl⟩
 ·exact XP yZ (by decide)
 rcases km d with rfl|⟨d,y,rfl⟩
 ·show(dU (dU (mz v ([]++[x]) r [] ip)).1).1.bad = -4
  rw[qD];exact yZ
 simp only[List.length_append,List.length_singleton]at h
 omega
def as8(M:MF v L g)(h:okA L ip=true)(hq:Q r (g ip))(hq2:∀l x,r.length+1<32->Q (r++[l]++[x]) (ip+8)):KO v L g Q (fun m=>cz (mz (mo (aU v m) o) d r [] ip) xt 5):=by
 have e:∀m,cz (mz (mo (aU v m) o) d r [] ip) xt 5=(let t:=nE (mz (mo (aU v m) o) d r [] ip);if t.2.1=t.2.2 then dTo t.1 else gE (cI (cI t.1 t.2.2) t.2.1)):=fun m=>by kernel_rfl
 by_cases h2:d.length<2
 ·refine .inl ⟨-4,by decide,fun m hm=>?_⟩
  dsimp only
  have b:=XX (v:=mo (aU v m) o) (r:=r) (ip:=ip) h2
  rw[e]
  dsimp only
  split
  ·exact Sl b (by decide)
  exact xH (xH b (by decide) _) (by decide) _
 rcases km d with rfl|⟨d,x,rfl⟩
 ·simp at h2
 rcases km d with rfl|⟨d,l,rfl⟩
 ·simp at h2
 by_cases hx:x=l
 ·exact .inr ⟨o,d,r,_,hq,fun m hm=>ai0 (fb (M m hm) o) h hx⟩
 by_cases hr:r.length+1<32
 ·exact .inr ⟨o,d,_,_,hq2 l x hr,fun m hm=>av8 (fb (M m hm) o) h hx hr⟩
 refine .inl ⟨-5,by decide,fun m hm=>?_⟩
 dsimp only
 have t:nE (mz (mo (aU v m) o) (d++[l]++[x]) r [] ip)=(mz (mo (aU v m) o) d r [] ip,x,l):=by
  unfold nE;rw[qD];dsimp only;rw[qD]
 rw[e,t]
 dsimp only
 rw[if_neg hx]
 show(cI (cI (mz (mo (aU v m) o) d r [] ip) l) x).bad = -5
 by_cases h31:r.length<32
 ·rw[sy (fb (M m hm) o) h31];exact uR (fb (M m hm) o) (by simp;omega)
 exact xH (uR (fb (M m hm) o) h31) (by decide) _
def Yw{l:Int}{r0:List Int}(M:MF v L g)(h:okA L ip=true)(hr:r0.length+1<32)(hq:Q r0 (ip+8))(hq2:∀x,Q (r0++[l]++[x]) (g ip)):KO v L g Q (fun m=>cz (mz (mo (aU v m) o) d (r0++[l]++[x]) [] ip) xt 6):=by
 by_cases hs:(ld x l 1).2=true
 ·exact .inr ⟨o,d,r0,_,hq,fun m hm=>by have e:=QG (d:=d) (f:=[]) (xt:=xt) (x:=x) (l:=l) (fb (M m hm) o) h hr;rw[if_pos hs]at e;exact e⟩
 exact .inr ⟨o,d,_,_,hq2 _,fun m hm=>by have e:=QG (d:=d) (f:=[]) (xt:=xt) (x:=x) (l:=l) (fb (M m hm) o) h hr;rw[if_neg hs]at e;exact e⟩
def aT2{r0:List Int}(M:MF v L g)(hq:Q (r0++[x]) ip):KO v L g Q (fun m=>cz (mz (mo (aU v m) o) d (r0++[x]) [] ip) xt 15):=by
 by_cases hd:d.length<32
 ·exact .inr ⟨o,_,_,_,hq,fun m hm=>k_I (fb (M m hm) o) hd⟩
 refine .inl ⟨-3,by decide,fun m hm=>?_⟩
 dsimp only
 have e:cz (mz (mo (aU v m) o) d (r0++[x]) [] ip) xt 15=gP (i6 (mz (mo (aU v m) o) d (r0++[x]) [] ip) 0).1 (i6 (mz (mo (aU v m) o) d (r0++[x]) [] ip) 0).2:=by kernel_rfl
 rw[e,Ej];exact D9 (fb (M m hm) o) hd
def Ht(M:MF v L g)(hx:okA L xt=true)(hq:Q (r++[ip]) (xt+8)):KO v L g Q (fun m=>cz (mz (mo (aU v m) o) d r [] ip) xt 256):=by
 by_cases hr:r.length<32
 ·exact .inr ⟨o,d,_,_,hq,fun m hm=>Mp (fb (M m hm) o) hx hr⟩
 refine .inl ⟨-5,by decide,fun m hm=>?_⟩
 dsimp only
 have e:cz (mz (mo (aU v m) o) d r [] ip) xt 256={cI (mz (mo (aU v m) o) d r [] ip) ip with ip:=W64 (xt+8)}:=by kernel_rfl
 rw[e];exact uR (fb (M m hm) o) hr
end
def VL(g:Int->Int)(T:Int->Nat)(p:Int):Prop:=T (p+8)=3/\T (g (p+8))=1/\T (p+16)=3/\g (p+16)=152/\T (p+24)=3/\g (p+24)=80/\T (p+32)=3/\g (p+32)=p+16/\T (p+40)=1
inductive ItP (g:Int->Int) (T:Int->Nat) (O:Int->Prop) (p:Int):Prop
 | prim (i:Nat):i∈okI->g p=32+8*(i:Int)->T (p+8)=1->ItP g T O p
 | exit:g p=32->ItP g T O p
 | def_:g p=1072->T (p+8)=1->ItP g T O p
 | lit:g p=40->T (p+8)=3->T (p+16)=1->ItP g T O p
 | br:g p=48->T (p+8)=2->T (g (p+8))=1\/O (p+8)->ItP g T O p
 | zbr:g p=56->T (p+8)=2->T (g (p+8))=1\/O (p+8)->T (p+16)=1->ItP g T O p
 | loop:g p=72->VL g T p->ItP g T O p
 | call (x:Int):g p=x->T x=4->g x=256->T (x+8)=1->T (p+8)=1->ItP g T O p
structure Snd (g:Int->Int) (T:Int->Nat):Prop where
 std:rR g
 adr:∀x,T x≠0->okA 4096 x=true
 item:∀p,T p=1->ItP g T (fun _=>False) p
def am6(T:Int->Nat)(x:Int):Prop:=x=16\/T x=1
def RI(g:Int->Int)(T:Int->Nat)(r:List Int)(ip:Int):Prop :=
 (am6 T ip/\∀x∈r,am6 T x)\/∃p r0 l x,r=r0++[l]++[x]/\VL g T p/\(ip=p+16\/ip=p+24)/\r0.length+1<32/\∀x∈r0,am6 T x
def aM1:kC≠300:=by decide +kernel
def Ct{r:bH}{xt q ip:Int}(h:az r.vm xt=(q,0))(hq:q<=300):(yz r xt ip).1=false:=by
 have:=Kn
 have:=aM1
 unfold yz
 rw[h]
 exact decide_eq_false fun z=>by have:=z.2;dsimp only at this;omega
section
variable {v : VVm} {g : Int -> Int} {T : Int -> Nat} {d r : List Int} {o : Str} {ip fu xt x q : Int}
def ab7{m:bh}(M:il (aU v m) 4096 g)(hi:okA 4096 ip=true)(hx:g ip=xt)(h2:okA 4096 xt=true)(hq:g xt=q)(ok:d7 q)(h3:q<=300):(bR (mr (mo (aU v m) o) d r [] ip fu)).1=false:=by
 obtain⟨a,b,c⟩:=ei.1 hi
 have em:am (mr (mo (aU v m) o) d r [] ip fu).vm.mem (mr (mo (aU v m) o) d r [] ip fu).ip=(xt,0):=by
  have:=M.mem.cell ip a b c
  rw[hx]at this
  exact this
 unfold bR
 rw[if_neg (show ¬(mr (mo (aU v m) o) d r [] ip fu).dof=true from fun z=>by cases z),em,if_neg (fun z=>z rfl)]
 exact Ct (Gf (fb M o) h2 hq ok) h3
def SO(g:Int->Int)(T:Int->Nat)(v:VVm)(o:Str)(d r:List Int)(ip fu:Int):Prop :=
 (∀m,dL m 4096 g->(bR (mr (mo (aU v m) o) d r [] ip fu)).1=false)/\(1<=fu->fu<=300000->∃o' d' r' ip' ov e,(ov=false->e=0->RI g T r' ip')/\∀m,dL m 4096 g->bz (mr (mo (aU v m) o) d r [] ip fu)=(mr (mo (aU v m) o') d' r' [] ip' (fu-1),ov,e))
def TZ(M:MF v 4096 g)(hi:okA 4096 ip=true)(hx:g ip=xt)(h2:okA 4096 xt=true)(hq:g xt=q)(ok:d7 q)(h3:q<=300)(hk:KO v 4096 g (RI g T) (fun m=>cz (mz (mo (aU v m) o) d r [] (ip+8)) xt q)):SO g T v o d r ip fu:=by
 refine⟨fun m hm=>ab7 (M m hm) hi hx h2 hq ok h3,fun f1 f2=>?_⟩
 obtain⟨o',d',r',ip',e,hr,h⟩:=SX (o:=o) (d:=d) (r:=r) (ip:=ip+8) (fu:=fu-1) hk
 exact⟨o',d',r',ip',false,e,fun _=>hr,fun m hm=>by rw[TE (fb (M m hm) o) ⟨f1,f2⟩ hi hx h2 hq ok];exact h m hm⟩
def QB{i:Nat}(hi:i<130):okA 4096 (32+8*(i:Int))=true:=ei.2 (by omega)
def Hy(S:Snd g T)(M:MF v 4096 g)(i:Nat)(hb:i<130)(hi:okA 4096 ip=true)(hx:g ip=32+8*(i:Int))(hk:KO v 4096 g (RI g T) (fun m=>cz (mz (mo (aU v m) o) d r [] (ip+8)) (32+8*(i:Int)) (i:Int))):SO g T v o d r ip fu :=
 TZ M hi hx (QB hb) (S.std.std.prim i hb) (lT hb) (by omega) hk
def Vv(S:Snd g T)(M:MF v 4096 g)(h:RI g T r ip):SO g T v o d r ip fu:=by
 rcases h with ⟨hp,hr⟩|⟨p,r0,l,x,rfl,hl,hi,hr,hx⟩
 ·rcases hp with rfl|ht
  ·have a16:okA 4096 16=true:=rfl
   refine⟨fun m hm=>ab7 (M m hm) a16 S.std.c16 (QB (i:=8) (by decide)) (S.std.std.prim 8 (by decide)) (lT (i:=8) (by decide)) (by decide),fun f1 f2=>?_⟩
   exact⟨o,d,r,24,true,0,(fun z=>by cases z),fun m hm=>Gp (fb (M m hm) o) S.std.std ⟨f1,f2⟩⟩
  have ai:=S.adr ip (by rw[ht];decide)
  have nx:T (ip+8)=1->RI g T r (ip+8):=fun z=>.inl ⟨.inr z,hr⟩
  cases S.item ip ht with
  | prim i hi hg hn=>exact Hy S M i (by have:=ve hi;omega) ai hg (Nz (by decide) hi (nx hn))
  | exit hg=>exact Hy S M 0 (by decide) ai hg (ZE fun r' x e=>.inl ⟨hr x (by rw[e];simp),fun y hy=>hr y (by rw[e];simp[hy])⟩)
  | def_ hg hn =>
   refine TZ (q:=300) M ai hg rfl (by have:=S.std.prim 130 (by decide);exact this) (.inr (.inr ⟨by decide,by decide⟩)) (by decide) (.inl ⟨-14,by decide,fun m hm=>?_⟩)
   dsimp only
   unfold cz
   rw[if_pos (show(300:Int)<=300 by decide)]
   rfl
  | lit hg h3 hn=>exact Hy S M 1 (by decide) ai hg (an8 M (S.adr _ (by rw[h3];decide)) (by rw[show ip+8+8=ip+16 by omega];exact .inl ⟨.inr hn,hr⟩))
  | br hg h2 hb=>exact Hy S M 2 (by decide) ai hg (aN4 M (S.adr _ (by rw[h2];decide)) (.inl ⟨.inr (hb.elim id fun z=>z.elim),hr⟩))
  | zbr hg h2 hb hn=>exact Hy S M 3 (by decide) ai hg (at9 M (S.adr _ (by rw[h2];decide)) (.inl ⟨.inr (hb.elim id fun z=>z.elim),hr⟩) (by rw[show ip+8+8=ip+16 by omega];exact .inl ⟨.inr hn,hr⟩))
  | loop hg hl=>exact Hy S M 5 (by decide) ai hg (as8 M (S.adr _ (by rw[hl.1];decide)) (.inl ⟨.inr hl.2.1,hr⟩) fun l x h32=>.inr ⟨ip,r,l,x,rfl,hl,.inl (by omega),h32,hr⟩)
  | call x hg h4 h256 h1 hn=>exact TZ M ai hg (S.adr _ (by rw[h4];decide)) h256 (.inr (.inl ⟨by decide,by decide⟩)) (by decide) (Ht M (S.adr _ (by rw[h4];decide)) (.inl ⟨.inr h1,fun y hy=>by
    rcases List.mem_append.1 hy with hy|hy
    ·exact hr y hy
    rw[List.mem_singleton.1 hy];exact .inr hn⟩))
 have h':=hl
 obtain⟨a1,a2,a3,a4,a5,a6,a7,a8,a9⟩:=hl
 rcases hi with rfl|rfl
 ·exact Hy S M 15 (by decide) (S.adr _ (by rw[a3];decide)) a4 (aT2 M (.inr ⟨p,r0,l,x,rfl,h',.inr (by omega),hr,hx⟩))
 have e8:p+24+8=p+32:=by omega
 exact Hy S M 6 (by decide) (S.adr _ (by rw[a5];decide)) a6 (Yw M (S.adr _ (by rw[e8,a7];decide)) hr (by rw[show p+24+8+8=p+40 by omega];exact .inl ⟨.inr a9,hx⟩) fun y=>by rw[e8,a8];exact .inr ⟨p,r0,l,y,rfl,h',.inl rfl,hr,hx⟩)
def Rz(S:Snd g T)(M:MF v 4096 g):∀(n:Nat) (o:Str) (d r:List Int) (ip fu:Int),RI g T r ip->0<=fu->fu<=300000->∃o' d' r' ip' fu' ov e,0<=fu'/\fu'<=fu/\∀m,dL m 4096 g->∀l,ja n ⟨l,mr (mo (aU v m) o) d r [] ip fu,false,0⟩=⟨l,mr (mo (aU v m) o') d' r' [] ip' fu',ov,e⟩
 | 0,o,d,r,ip,fu,_,h0,_=>⟨o,d,r,ip,fu,false,0,h0,Int.le_refl _,fun m _ l=>rfl⟩
 | n+1,o,d,r,ip,fu,h,h0,h9=>by
  obtain⟨hc,hs⟩:=Vv (o:=o) (d:=d) (fu:=fu) S M h
  have e1:∀m,dL m 4096 g->∀l,ja (n+1) ⟨l,mr (mo (aU v m) o) d r [] ip fu,false,0⟩=ja n ⟨l,(bz (mr (mo (aU v m) o) d r [] ip fu)).1,(bz (mr (mo (aU v m) o) d r [] ip fu)).2.1,(bz (mr (mo (aU v m) o) d r [] ip fu)).2.2⟩:=fun m hm l=>by
   rw[IM Mr,Jo (x:=⟨l,_,false,0⟩) (by show ¬(bR (mr (mo (aU v m) o) d r [] ip fu)).1=true;rw[hc m hm];decide)]
  by_cases hf:fu<1
  ·refine⟨o,d,r,ip,fu,false,-256,h0,Int.le_refl _,fun m hm l=>?_⟩
   have e2:bz (mr (mo (aU v m) o) d r [] ip fu)=(mr (mo (aU v m) o) d r [] ip fu,false,-256):=by unfold bz;rw[if_pos (show(mr (mo (aU v m) o) d r [] ip fu).fuel<1 from hf)]
   rw[e1 m hm,e2]
   exact rH (.inr (by show(-256:Int)≠0;decide)) n
  obtain⟨o',d',r',ip',ov,e,hq,e2⟩:=hs (by omega) h9
  by_cases hst:ov=true\/e≠0
  ·refine⟨o',d',r',ip',fu-1,ov,e,by omega,by omega,fun m hm l=>?_⟩
   rw[e1 m hm,e2 m hm]
   exact rH (x:=⟨l,mr (mo (aU v m) o') d' r' [] ip' (fu-1),ov,e⟩) hst n
  have ho:ov=false:=by cases ov with
   | false=>rfl
   | true=>exact absurd (.inl rfl) hst
  have he:e=0:=Decidable.not_not.1 fun z=>hst (.inr z)
  subst ho he
  obtain⟨o2,d2,r2,ip2,fu2,ov2,e3,g0,g1,ih⟩:=Rz S M n o' d' r' ip' (fu-1) (hq rfl rfl) (by omega) (by omega)
  exact⟨o2,d2,r2,ip2,fu2,ov2,e3,g0,by omega,fun m hm l=>by rw[e1 m hm,e2 m hm];exact ih m hm l⟩
end
def ad6(g:Int->Int)(T:Int->Nat)(xt:Int):Prop:=(∃i∈okI,xt=32+8*(i:Int))\/(T xt=4/\g xt=256/\T (xt+8)=1)
def U5{s:SS}{T:Int->Nat}{xt u:Int}(S:Snd (gL s.cs) T)(hx:ad6 (gL s.cs) T xt)(h0:0<=u)(h9:u<=300000):∃d o u' e,0<=u'/\u'<=u/\∀f,At f s->∃f',At f' {s with d:=d,out:=o}/\∀tx p,jN (av f tx p u) xt=⟨f',tx,p,u',e⟩:=by
 have M:MF (vS s vO.mem) 4096 (gL s.cs):=fun m hm=>At.mach hm
 have fin:∀(o:Str) (d r:List Int) (ip u':Int) (ov:Bool) (e:Int),0<=u'->u'<=u->(∀m,dL m 4096 (gL s.cs)->∀l,ja (u.toNat+2) ⟨l,g7 (vS s m) xt u,false,0⟩=⟨l,mr (mo (vS s m) o) d r [] ip u',ov,e⟩)->∃d o u' e,0<=u'/\u'<=u/\∀f,At f s->∃f',At f' {s with d:=d,out:=o}/\∀tx p,jN (av f tx p u) xt=⟨f',tx,p,u',e⟩:=fun o d r ip u' ov e a1 a2 h=>by
  refine⟨d,o,u',e,a1,a2,fun f a=>?_⟩
  have hstd:=a.std
  have hh0:=a.h0
  have hh1:=a.h1
  have hh8:=a.h8
  have hext:=a.ext
  obtain⟨m,rfl,hm⟩:=a.ex
  refine⟨⟨vS {s with d:=d,out:=o} m,s.comp⟩,⟨⟨m,rfl,hm⟩,hstd,hh0,hh1,hh8,hext⟩,fun tx p=>?_⟩
  unfold jN exR
  rw[show ja ((av ⟨vS s m,s.comp⟩ tx p u).fuel.toNat+2) (xO (av ⟨vS s m,s.comp⟩ tx p u) xt)=ja (u.toNat+2) ⟨av ⟨vS s m,s.comp⟩ tx p u,g7 (vS s m) xt u,false,0⟩ from rfl,h m hm,ok0 rfl]
  rfl
 have done:∀(q:Int),okA 4096 xt=true->gL s.cs xt=q->d7 q->q<=300->KO (vS s vO.mem) 4096 (gL s.cs) (RI (gL s.cs) T) (fun m=>cz (mz (mo (vS s m) s.out) s.d [] [] 16) xt q)->∃d o u' e,0<=u'/\u'<=u/\∀f,At f s->∃f',At f' {s with d:=d,out:=o}/\∀tx p,jN (av f tx p u) xt=⟨f',tx,p,u',e⟩:=fun q ha hq ok h3 hk=>by
  have e1:∀m,dL m 4096 (gL s.cs)->∀l,ja (u.toNat+2) ⟨l,g7 (vS s m) xt u,false,0⟩=ja (u.toNat+1) ⟨l,(bz (g7 (vS s m) xt u)).1,(bz (g7 (vS s m) xt u)).2.1,(bz (g7 (vS s m) xt u)).2.2⟩:=fun m hm l=>by
   have hc:(bR (g7 (vS s m) xt u)).1=false:=by
    unfold bR
    rw[if_pos (show(g7 (vS s m) xt u).dof=true from rfl)]
    exact Ct (Gf (d:=s.d) (r:=[]) (f:=[]) (M m hm) ha hq ok) h3
   rw[IM Mr,Jo (x:=⟨l,_,false,0⟩) (by show ¬(bR (g7 (vS s m) xt u)).1=true;rw[hc];decide)]
  by_cases hf:u<1
  ·refine⟨s.d,s.out,u,-256,h0,Int.le_refl _,fun f a=>⟨f,a,fun tx p=>?_⟩⟩
   obtain⟨m,rfl,hm⟩:=a.ex
   have e2:bz (g7 (vS s m) xt u)=(g7 (vS s m) xt u,false,-256):=by unfold bz;rw[if_pos (show(g7 (vS s m) xt u).fuel<1 from hf)]
   unfold jN exR
   rw[show ja ((av ⟨vS s m,s.comp⟩ tx p u).fuel.toNat+2) (xO (av ⟨vS s m,s.comp⟩ tx p u) xt)=ja (u.toNat+2) ⟨av ⟨vS s m,s.comp⟩ tx p u,g7 (vS s m) xt u,false,0⟩ from rfl,e1 m hm,e2,rH (.inr (by show(-256:Int)≠0;decide)),ok0 rfl]
   rfl
  have e2:∀m,dL m 4096 (gL s.cs)->bz (g7 (vS s m) xt u)=BM (mr (mo (vS s m) s.out) s.d [] [] 16 (u-1)) (u-1) (cz (mz (mo (vS s m) s.out) s.d [] [] 16) xt q):=fun m hm=>ac7 (v:=mo (vS s m) s.out) (d:=s.d) (r:=[]) (f:=[]) (ip:=16) (fb (M m hm) s.out) ⟨by omega,h9⟩ ha hq ok
  obtain⟨o',d',r',ip',e,hr,h⟩:=SX (o:=s.out) (d:=s.d) (r:=[]) (ip:=16) (fu:=u-1) hk
  have e3:∀m,dL m 4096 (gL s.cs)->bz (g7 (vS s m) xt u)=(mr (mo (vS s m) o') d' r' [] ip' (u-1),false,e):=fun m hm=>(e2 m hm).trans (h m hm)
  by_cases he:e=0
  ·subst he
   obtain⟨o2,d2,r2,ip2,fu2,ov2,e3',g0,g1,ih⟩:=Rz S M (u.toNat+1) o' d' r' ip' (u-1) (hr rfl) (by omega) (by omega)
   exact fin o2 d2 r2 ip2 fu2 ov2 e3' g0 (by omega) fun m hm l=>by rw[e1 m hm,e3 m hm];exact ih m hm l
  exact fin o' d' r' ip' (u-1) false e (by omega) (by omega) fun m hm l=>by rw[e1 m hm,e3 m hm];exact rH (.inr he) _
 rcases hx with ⟨i,hi,rfl⟩|⟨h4,hg,h1⟩
 ·have ri:=ve hi
  exact done (i:Int) (QB (by omega)) (S.std.std.prim i (by omega)) (lT (by omega)) (by omega) (Nz (by decide) hi (.inl ⟨.inl rfl,fun x hx=>by cases hx⟩))
 have ax:=S.adr xt (by rw[h4];decide)
 exact done 256 ax hg (.inr (.inl ⟨by decide,by decide⟩)) (by decide) (Ht M ax (.inl ⟨.inr h1,fun x hx=>by have hx:x∈[(16:Int)]:=hx;rw[List.mem_singleton.1 hx];exact .inl rfl⟩))
open Go.RowKit
structure Pv (k:Int) (s s':SS):Prop where
 d:s'.d=s.d
 ext:s'.ext=s.ext
 last:s'.last=s.last
 out:s'.out=s.out
 comp:∃l,s'.comp={s.comp with cf:=l}
 g8:∀x,x<=8->gL s'.cs x=gL s.cs x
 h0:s.here<=s'.here
 h1:s'.here<=s.here+k
def Pv.rf(s:SS):Pv 0 s s:=⟨rfl,rfl,rfl,rfl,⟨s.comp.cf,rfl⟩,fun _ _=>rfl,Int.le_refl _,by omega⟩
def Pv.tr{j k:Int}{a b c:SS}(h:Pv j a b)(g:Pv k b c):Pv (j+k) a c:=by
 obtain⟨l,e⟩:=h.comp
 obtain⟨l2,e2⟩:=g.comp
 exact⟨g.d.trans h.d,g.ext.trans h.ext,g.last.trans h.last,g.out.trans h.out,⟨l2,by rw[e2,e]⟩,fun x hx=>(g.g8 x hx).trans (h.g8 x hx),by have:=h.h0;have:=g.h0;omega,by have:=h.h1;have:=g.h1;omega⟩
def Pv.up{j k:Int}{a b:SS}(h:Pv j a b)(hk:j<=k):Pv k a b:=⟨h.d,h.ext,h.last,h.out,h.comp,h.g8,h.h0,by have:=h.h1;omega⟩
structure AW (w:CW) (s:SS):Prop where
 bad:w.bad=0
 l:w.l=s.comp.cf
 at_:At ⟨w.v,s.comp⟩ s
section
variable {w : CW} {s : SS}
def tf(h:AW w s):w.v.here=s.here:=by obtain⟨m,e,hm⟩:=h.at_.ex;have:=congrArg (fun f:aa=>f.vm.here) e;exact this
def yY(h:AW w s){n:Int}(hn:ae n)(hr:s.here+8<=4096):AW (gN w n) (s.lay n):=by
 have a:=ky h.at_ hn hr
 have e:gN w n={w with v:=bQ w.v n}:=by rw[SI h.bad];rw[a.1,<-h.bad]
 rw[e]
 exact⟨h.bad,h.l,a.2⟩
def KN(h:AW w s){a:Int}(ha:bdr a=true)(hs:s.here<=4096):AW (iU w a) (s.put a s.here):=by
 have q:=ph ha
 have e:=tf h
 have h0:=h.at_.h0
 have p:=AA h.at_ ha (n:=s.here) (xc (by omega) (by omega))
 obtain⟨m,em,hm⟩:=h.at_.ex
 have hmem:w.v.mem=m:=by have:=congrArg (fun f:aa=>f.vm.mem) em;exact this
 have e2:iU w a={w with v:={w.v with mem:=stM w.v.mem a s.here}}:=by
  rw[jM h.bad,e,hmem,hm.put q.2.1,<-h.bad]
 rw[e2]
 exact⟨h.bad,h.l,p⟩
def y6(h:AW w s){c:VCf}(hl:s.comp.cf.length<32):AW (jZ w c) (s.cf (s.comp.cf++[c])):=by
 rw[oB (by rw[h.l];exact hl)]
 exact⟨h.bad,by rw[h.l];rfl,sj h.at_ _⟩
def QU(h:AW w s){kind:Int}(hk:kind≠0):(∃D c,s.comp.cf=D++[c]/\c.kind=kind/\bb w kind=({w with l:=D},c)/\AW {w with l:=D} (s.cf D))\/(bb w kind).1.bad = -22:=by
 unfold bb
 by_cases q:w.l.length=0\/(w.l.getD (w.l.length-1) zCf).kind≠kind
 ·rw[if_pos q]
  right
  show(w.fail (-22)).bad = -22
  rw[cf0 h.bad]
 rw[if_neg q]
 left
 have q1:(io w.l).kind=kind:=Decidable.not_not.1 fun z=>q (.inr z)
 have e:=ox q1 hk
 refine⟨Bb w.l,io w.l,by rw[<-h.l];exact e,q1,rfl,⟨h.bad,rfl,sj h.at_ _⟩⟩
end
def vt{w:CW}(h:w.bad = -22)(n:Int):(gN w n).bad = -22:=by rw[ab5 (by rw[h];decide)];exact h
def IZ{w:CW}(h:w.bad = -22)(a:Int):(iU w a).bad = -22:=by rw[jP (by rw[h];decide)];exact h
def VN{w:CW}(h:w.bad = -22)(c:VCf):(jZ w c).bad = -22:=by
 unfold jZ
 split
 ·rw[cf1 (by rw[h];decide)];exact h
 exact h
def Jg{f:aa}{s:SS}(h:At f s){k:Int}(h0:0<=k)(h8:k%8=0)(hr:s.here+k+8<=4096):bdr (s.here+k)=true:=by
 have a:=h.h0
 have b:=h.h8
 unfold bdr
 rw[Bool.and_eq_true]
 exact⟨decide_eq_true (by omega),ei.2 ⟨by omega,by omega,by omega⟩⟩
section
variable {w : CW} {s : SS}
def tH(h:AW w s)(name:Str){x:Int}(hx:oP name=x)(hf:ae x)(hr:s.here+8<=4096):AW (cv w name) (s.lay x):=by
 unfold cv
 rw[hx];exact yY h hf hr
def xm(h:AW w s)(name:Str){x:Int}(hx:oP name=x)(hf:ae x)(hr:s.here+16<=4096):AW (fN w name) ((s.lay x).lay 0):=yY (tH h name hx hf (by omega)) bC (by show s.here+8+8<=4096;omega)
end
open Go.RowKit
def sR(l ext:List aP)(name:Str)(h:∀e∈ext,qa e name=false):bL (l++ext) name=bL l name:=by
 have k:∀(n:Nat) (ext:List aP),ext.length=n->(∀e∈ext,qa e name=false)->bL (l++ext) name=bL l name:=by
  intro n
  induction n with
  | zero=>intro ext hl _;rw[List.length_eq_zero_iff.1 hl,List.append_nil]
  | succ n ih =>
   intro ext hl he
   have e:=DM (l:=ext) (by omega)
   have hb:(wi ext).length=n:=by unfold wi;rw[List.length_take];omega
   have hx:qa (tW ext) name=false:=he _ (by rw[e];exact List.mem_append_right _ (by rw[<-e];exact List.mem_singleton.2 rfl))
   rw[e,<-List.append_assoc,xz,if_neg (by rw[hx];decide)]
   exact ih _ hb fun x hx=>he x (List.mem_of_mem_take hx)
 exact k _ ext rfl h
def yI{s:SS}{i:Nat}(hi:i<167)(hh:tR (cR i)=false)(hs:rR (gL s.cs))(he:∀e∈s.ext,qa e (ez.getD i [])=false):xiS s (ez.getD i [])=some ⟨cR i,(gq i:Int)⟩:=by
 have e1:bL (dX 167++s.ext) (ez.getD i [])=(cR i,(i:Int),true):=by rw[sR _ _ _ he];exact an1 hi hh
 have ex:(cR i).xt=32+8*(i:Int):=by show((32+8*i:Nat):Int)=_;omega
 have ek:gL s.cs (cR i).xt=(gq i:Int):=by rw[ex];exact hs.prim i hi
 have ok:d7 (gq i:Int):=by unfold d7 gq;split<;>omega
 unfold xiS
 rw[e1]
 dsimp only
 rw[ek,if_pos ⟨rfl,ei.2 (by rw[ex];omega),ok⟩]
def WC:oP [40,101,120,105,116,41]=32:=by decide +kernel
def Tg{f:aa}{s:SS}(a:At f s)(hc:s.cmp=true)(hcf:s.comp.cf.length≠0){y:XI}(h:xiS s [59]=some y)(hi:y.x.flags%2=1)(h3:300<=y.k)(hn:bJ.getD (y.k-300).toNat []=[59]){tx:Str}{p b u:Int}(hw:bt tx p=([59],b))(u0:0<=u)(u9:u<=5000):iJ f tx p u=(f,p,u,true,-22):=by
 have ecf:f.comp=s.comp:=by obtain⟨m,rfl,hm⟩:=a.ex;rfl
 have hxt:s.comp.xt≠0:=by have:=hc;unfold SS.cmp at this;exact(oT this).1
 obtain⟨hf,ha,hk,hkk⟩:=tX h
 have ek:az f.vm y.x.xt=(y.k,0):=by rw[mm a ha (by rw[<-hk];exact hkk),hk]
 have ec:bK (av f tx b u).f=true:=by rw[show bK (av f tx b u).f=bK f from rfl,kU a];exact hc
 have ee:kZ f=(f,-22):=by
  have e:mF f = -22:=by unfold mF;rw[ecf,if_neg hxt,if_pos (by omega)]
  unfold kZ
  rw[e,if_pos (by decide)]
 have eo:j5 (av f tx b (max u 0)) [59]=(oOk (av f tx b u) (-22),false):=by
  rw[show max u 0=u by omega,kG (x:=y.x) (i:=(bL (dX 167++s.ext) [59]).2.1) (by show bL f.vm.dict _=_;rw[jC a];exact hf)]
  rw[tm (l:=av f tx b u) ek h3 (by rw[ec];simp) (by rw[ec,hi];rfl),hn,uJ (g:=va) rfl]
  unfold va j8
  rw[show(av f tx b u).f=f from rfl,ee,ok0 (show(av f tx b u).err=0 from rfl)]
  rfl
 have q:=BU (f:=f) (s:=tx) (a:=p) (fuel:=u) (r:=(oOk (av f tx b u) (-22),false)) (by rw[hw];exact List.cons_ne_nil _ _) (by rw[hw];exact eo) (by rw[ok0 rfl];show(-22:Int)≠0;decide) rfl
 rw[q,ok0 rfl,show max u 0=u by omega]
end Go.Proofs.YtjcminooghmpeaaGreatDoor
