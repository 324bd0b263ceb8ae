import Derived.Laws.Tables
import Derived.Still
import Derived.Test.YtjcminooghmpeaaGreatDoorPk0
set_option linter.all false
set_option maxRecDepth 100000
set_option maxHeartbeats 40000000
namespace Go.Proofs.YtjcminooghmpeaaGreatDoor
open Go.RowKit
section
variable {P : Program} {B : Nat -> Nat -> Prop} {o : Oper} {T : Nat -> PV} {H : List Ob}
def CC(k:Nat):PV->Nat->List PV->Prop
 | .seq m ys _,n,zs=>n=m/\zs=ys/\ys.length=m*k/\∀y∈ys,okC y=true
 | .val (.string s),n,zs=>n=s.size/\k=1/\zs=s.data.toList.map fun b=>kH b.toNat
 | _,_,_=>False
def tJ{c:Cx}:∀{xs:List PV} {vs:List Value},(∀x∈xs,okC x=true)->au c xs vs->∀v∈vs,v.oneCell'=true
 | [],vs,_,h,v,hv=>by rw[aG]at h;subst h;cases hv
 | x::xs,[],_,h,v,hv=>by cases hv
 | x::xs,u::us,ho,h,v,hv=>by
  rw[af]at h
  cases hv with
  | head=>exact M5 (ho x (by simp)) h.1
  | tail _ hv=>exact tJ (fun y hy=>ho y (by simp[hy])) h.2 v hv
def I8{c:Cx}(l:List UInt8):au c (l.map fun b=>kH b.toNat) (l.map fun b=>Value.int .u8 b.toNat):=by
 induction l with
 | nil=>exact aG.2 rfl
 | cons x l ih=>exact af.2 ⟨ar _ _,ih⟩
def ah4{c:Cx}{k m:Nat}{x:PV}{v:Value}{ys:List PV}{tx:TypeId}(h:CC k x m ys)(hr:Rep c x v)(hk:(∃e',P.underlying tx=some (.slice e'))\/P.underlying tx=some .string)(hs:∀s,x=.val (.string s)->P.underlying tx=some .string)(hq:∀n zs s,x=.seq n zs s->∃e',P.underlying tx=some (.slice e')):
  ∃news:List Value,au c ys news/\Src P k tx v m news c.w:=by
 cases x with
 | seq m' ys' s =>
  obtain⟨rfl,rfl,hl,hok⟩:=h
  obtain⟨a,cap,vs,rfl,hle,hnil,hrl,hlies,_⟩:=gJ hr
  obtain⟨e',he⟩:=hq _ _ _ rfl
  cases a with
  | none =>
   obtain⟨rfl,rfl,rfl⟩:=hnil rfl
   exact⟨[],hrl,Src.ofNil c.w he 0⟩
  | some b =>
   refine⟨vs,hrl,Src.ofSlice c.w he b m cap vs (by rw[au.length hrl];exact hl) (fun j u hj=>?_) (tJ hok hrl)⟩
   have hl2:=(hlies b rfl).resolve_right (by rintro⟨_,h3⟩;rw[h3]at hj;simp at hj)
   rw[gY hl2,Addr.add_lit];exact(hl2.2 j u hj).1
 | val u =>
  cases u<;>first|exact h.elim|skip
  obtain⟨rfl,rfl,rfl⟩:=h
  unfold Rep at hr
  subst hr
  exact⟨_,I8 _,Src.ofString c.w (hs _ rfl) _⟩
 | _=>exact h.elim
def LI{w:World}(t tx ty e:TypeId)(i:TypeInfo)(ht:P.underlying t=some (.slice e))(hi:P.info? e=some i)(a:Option Addr)(sLen sCap:Nat)(x:Value)(hs:Src P i.size tx x 0 [] w)(hroom:sLen<=sCap):
  (Builtin.append_ #[t,tx] ty #[.slice a sLen sCap,x]).run P w=.ok (.slice a sLen sCap) w:=by
 rcases hs.kind with ⟨e',hk⟩|hk<;>cases a<;>simp[Builtin.append_,run_underlying ht,run_underlying hk,sizeOf,typeInfo,hi,hs.len,hroom,hs.cells,storeCells]
def Af{w:World}(t tx ty e:TypeId)(i:TypeInfo)(z:Value)(ht:P.underlying t=some (.slice e))(hi:P.info? e=some i)(hz:i.zero=some z)(a:Option Addr)(sLen sCap:Nat)(olds:List Value)(hlo:olds.length=sLen*i.size)(hnil:a=none->sLen=0)
  (hold:∀b,a=some b->∀j v,olds[j]?=some v->w.cell? (b.add j)=some v) (x:Value) (m:Nat) (news:List Value) (hs:Src P i.size tx x m news w) (hg:sCap<sLen+m) (hb:(sLen+m)*i.bytes<=140737488355328) (h63:sLen+m<=9223372036854775807) :
  (Builtin.append_ #[t,tx] ty #[.slice a sLen sCap,x]).run P w=.ok (.slice (some ⟨w.heap.size,0,none⟩) (sLen+m) (grownCap w (sLen+m) sCap e))
   (w.drew.alloc (.cells ((olds++news).toArray++Builtin.zeroCells z.cells (grownCap w (sLen+m) sCap e-(sLen+m))) e)):=by
 refine run_append_grow_src w t tx ty e i z ht hi hz a sLen sCap olds ?_ x m news hs hg (by omega) (growslice_fits (by omega) hb)
 cases a with
 | none =>
  have:=hnil rfl
  subst this
  have:olds=[]:=List.eq_nil_of_length_eq_zero (by simpa using hlo)
  subst this
  exact run_firstCells_none w.drew i.size 0 0 sCap
 | some b=>exact run_firstCells_some w.drew i.size sLen b sLen sCap olds hlo (by simpa using hold b rfl)
def Ro{σ:Nat->Option Nat}{w:World}(s:Sim B H σ w){t b m m':Nat}(ht:H[t]?=some (.free m))(hb:σ t=some b){cur:Array Value}{e:TypeId}(hg:w.heap[b]?=some (Obj.cells cur e (0,0))){us:List Value}(hl:us.length=cur.size)(hkeep:∀j,j<m->us[j]?=cur[j]?)(hm:m<=m')(hm':m'<=cur.size):
  Sim B (H.set t .dead++[.free m']) (ext σ H.length (some b)) (w.setRow b us.toArray)/\eH B H σ w (H.set t .dead++[.free m']) (ext σ H.length (some b)) (w.setRow b us.toArray):=by
 have hlen:=cM ht
 have get:∀j o,(H.set t .dead++[.free m'])[j]?=some o->(j=H.length/\o=.free m')\/(j=t/\o=.dead)\/(j<H.length/\j≠t/\H[j]?=some o):=by
  intro j o h
  rcases fI h with ⟨h1,h2⟩|⟨rfl,rfl⟩
  ·rw[List.length_set]at h1
   by_cases hj:j=t
   ·subst hj;rw[List.getElem?_set_self hlen]at h2;cases h2;exact .inr (.inl ⟨rfl,rfl⟩)
   rw[List.getElem?_set_ne (Ne.symm hj)]at h2;exact .inr (.inr ⟨h1,hj,h2⟩)
  rw[List.length_set];exact .inl ⟨rfl,rfl⟩
 have own:∀x off,kM (ext σ H.length (some b)) (H.set t .dead++[.free m']) x off->kM σ H x off:=by
  rintro x off ⟨j,oj,h1,h2,h3⟩
  rcases get j oj h1 with ⟨rfl,rfl⟩|⟨rfl,rfl⟩|⟨h4,h5,h6⟩
  ·rw[bx]at h2;cases h2
   exact⟨t,_,ht,hb,Nat.le_trans hm h3⟩
  ·cases h3
  rw[bY h4]at h2;exact⟨j,oj,h6,h2,h3⟩
 have le:(cx B H σ w).Le (cx B (H.set t .dead++[.free m']) (ext σ H.length (some b)) (w.setRow b us.toArray)):=by
  refine⟨by simp[cx],fun i hi=>bY hi,fun x off u h1 h2=>⟨?_,fun h=>h1 (h.imp id (own x off))⟩,fun x es clk h1 h2=>⟨?_,fun h=>h1 (h.imp id (own x 0))⟩,fun x cs t' fr h1=>?_⟩
  ·by_cases hx:x=b
   ·subst hx
    have hoff:off<m:=by
     rcases Nat.lt_or_ge off m with h3|h3
     ·exact h3
     exact absurd (.inr ⟨t,_,ht,hb,h3⟩) h1
    have h3:w.cell? ⟨x,off,none⟩=cur[off]?:=by simp[World.cell?,hg]
    have h4:(w.setRow x us.toArray).cell? ⟨x,off,none⟩=us[off]?:=by simp[World.cell?,fV hg]
    show(w.setRow x us.toArray).cell? ⟨x,off,none⟩=some u
    rw[h4,hkeep off hoff,<-h3];exact h2
   exact(oV w b _ x off hx).trans h2
  ·have hx:x≠b:=by rintro rfl;simp only[cx]at h2;rw[hg]at h2;cases h2
   exact(cV w b _ x hx).trans h2
  by_cases hx:x=b
  ·subst hx
   simp only[cx]at h1
   rw[hg]at h1;cases h1
   exact⟨_,fV hg,by simpa using hl⟩
  exact⟨cs,(cV w b _ x hx).trans h1,rfl⟩
 refine⟨⟨?_,?_,fun x off h=>by rw[o8];exact s.base x off h,?_⟩,⟨le,rfl,rfl,rfl,by rw[o8];exact Nat.le_refl _,?_,?_⟩⟩
 ·intro j k x oj ok h1 h2 l1 l2 e1 e2
  rcases get j oj h1 with ⟨rfl,rfl⟩|⟨rfl,rfl⟩|⟨a4,a5,a6⟩<;>rcases get k ok h2 with ⟨rfl,rfl⟩|⟨rfl,rfl⟩|⟨b4,b5,b6⟩<;>first|rfl|(cases l1;done)|(cases l2;done)|skip
  ·rw[bx]at e1;cases e1
   rw[bY b4]at e2
   exact absurd (s.inj k t b ok _ b6 ht l2 rfl e2 hb) b5
  ·rw[bx]at e2;cases e2
   rw[bY a4]at e1
   exact absurd (s.inj j t b oj _ a6 ht l1 rfl e1 hb) a5
  rw[bY a4]at e1
  rw[bY b4]at e2
  exact s.inj j k x oj ok a6 b6 l1 l2 e1 e2
 ·intro j x oj h1 l1 e1 off
  rcases get j oj h1 with ⟨rfl,rfl⟩|⟨rfl,rfl⟩|⟨a4,a5,a6⟩
  ·rw[bx]at e1;cases e1;exact s.sep t b _ ht rfl hb off
  ·cases l1
  rw[bY a4]at e1;exact s.sep j x oj a6 l1 e1 off
 ·intro j oj h1
  rcases get j oj h1 with ⟨rfl,rfl⟩|⟨rfl,rfl⟩|⟨a4,a5,a6⟩
  ·intro x hx
   simp only[cx]at hx
   rw[bx]at hx;cases hx
   exact⟨_,e,fV hg,by simpa[hl]using hm'⟩
  ·trivial
  have k:=s.holds j oj a6
  cases oj with
  | cells zs t' =>
   obtain⟨x,ws,fr,h5,h6,hf,h7⟩:=k
   have hx:x≠b:=fun hx=>a5 (s.inj j t b _ _ a6 ht rfl rfl (hx▸h5) hb)
   exact⟨x,ws,fr,(bY a4).trans h5,(cV w b _ x hx).trans h6,hf,h7.mono le⟩
  | free m2 =>
   intro x hx
   obtain⟨cs,t',h5,h6⟩:=k x ((bY a4).symm.trans hx)
   have hne:x≠b:=fun h=>a5 (s.inj j t b _ _ a6 ht rfl rfl (h▸((bY a4).symm.trans hx)) hb)
   exact⟨cs,t',(cV w b _ x hne).trans h5,h6⟩
  | dead=>trivial
  | glob g u=>obtain⟨q1,q2⟩:=k;exact le.cell g 0 u q2 q1
  | iter s2 pos =>
   obtain⟨x,h5,h6⟩:=k
   have hx:x≠b:=fun hx=>a5 (s.inj j t b _ _ a6 ht rfl rfl (hx▸h5) hb)
   exact⟨x,(bY a4).trans h5,(cV w b _ x hx).trans h6⟩
  | smap ks ms =>
   obtain⟨x,es,clk,h5,h6,h7,h8⟩:=k
   have hx:x≠b:=fun hx=>a5 (s.inj j t b _ _ a6 ht rfl rfl (hx▸h5) hb)
   exact⟨x,es,clk,(bY a4).trans h5,(cV w b _ x hx).trans h6,h7,au.mono le h8⟩
 ·intro j oj x h1 h2 h3
  rcases get j oj h1 with ⟨rfl,rfl⟩|⟨rfl,rfl⟩|⟨a4,a5,a6⟩
  ·rw[bx]at h3;cases h3;exact .inr ⟨t,_,ht,rfl,hb⟩
  ·cases h2
  rw[bY a4]at h3;exact .inr ⟨j,oj,a6,h2,h3⟩
 intro x hx hn
 exact cV w b _ x (fun h=>hn t _ ht rfl (h▸hb))
def lY{σ:Nat->Option Nat}{w:World}(s:Sim B H σ w){t:Nat}{ob:Ob}(ht:H[t]?=some ob):Sim B (H.set t .dead) σ w/\eH B H σ w (H.set t .dead) σ w:=by
 have hlen:=cM ht
 have get:∀j o,(H.set t .dead)[j]?=some o->(j=t/\o=.dead)\/(j≠t/\H[j]?=some o):=by
  intro j o h
  by_cases hj:j=t
  ·subst hj;rw[List.getElem?_set_self hlen]at h;cases h;exact .inl ⟨rfl,rfl⟩
  rw[List.getElem?_set_ne (Ne.symm hj)]at h;exact .inr ⟨hj,h⟩
 have own:∀x off,kM σ (H.set t .dead) x off->kM σ H x off:=by
  rintro x off ⟨j,o,h1,h2,h3⟩
  rcases get j o h1 with ⟨rfl,rfl⟩|⟨_,h4⟩
  ·cases h3
  exact⟨j,o,h4,h2,h3⟩
 have le:(cx B H σ w).Le (cx B (H.set t .dead) σ w):=⟨by simp[cx],fun _ _=>rfl,fun x off u h1 h2=>⟨h2,fun h=>h1 (h.imp id (own x off))⟩,fun x es clk h1 h2=>⟨h2,fun h=>h1 (h.imp id (own x 0))⟩,fun x cs e fr h1=>⟨cs,h1,rfl⟩⟩
 refine⟨⟨?_,?_,s.base,?_⟩,⟨le,rfl,rfl,rfl,Nat.le_refl _,?_,fun _ _ _=>rfl⟩⟩
 ·intro j k x oj ok h1 h2 l1 l2 e1 e2
  rcases get j oj h1 with ⟨rfl,rfl⟩|⟨_,h3⟩
  ·cases l1
  rcases get k ok h2 with ⟨rfl,rfl⟩|⟨_,h4⟩
  ·cases l2
  exact s.inj j k x oj ok h3 h4 l1 l2 e1 e2
 ·intro j x oj h1 l1 e1
  rcases get j oj h1 with ⟨rfl,rfl⟩|⟨_,h3⟩
  ·cases l1
  exact s.sep j x oj h3 l1 e1
 ·intro j oj h1
  rcases get j oj h1 with ⟨rfl,rfl⟩|⟨_,h3⟩
  ·trivial
  have k:=s.holds j oj h3
  cases oj with
  | cells zs t'=>obtain⟨x,ws,fr,h5,h6,hf,h7⟩:=k;exact⟨x,ws,fr,h5,h6,hf,h7.mono le⟩
  | free m2=>exact k
  | dead=>trivial
  | glob g u=>obtain⟨q1,q2⟩:=k;exact le.cell g 0 u q2 q1
  | iter s2 pos=>exact k
  | smap ks ms=>obtain⟨x,es,clk,h5,h6,h7,h8⟩:=k;exact⟨x,es,clk,h5,h6,h7,au.mono le h8⟩
 intro j oj x h1 h2 h3
 rcases get j oj h1 with ⟨rfl,rfl⟩|⟨_,h4⟩
 ·cases h2
 exact .inr ⟨j,oj,h4,h2,h3⟩
def r7{w w':World}{H':List Ob}{σ':Nat->Option Nat}{n k cap:Nat}{xs:List PV}{vs:List Value}{cs:Array Value}{e:TypeId}{t:Nat}(hr:au (cx B H' σ' w') xs vs)(ht:t<H'.length)(hσ:σ' t=some w.heap.size)(hg:w'.heap[w.heap.size]?=some (Obj.cells cs e (0,0)))(hl:xs.length=n*k)(hn:n<=cap)(hc:cap*k<=cs.size)
  (hcs:∀j,j<vs.length->cs[j]?=vs[j]?) (hw:∀off,off<vs.length->¬(cx B H' σ' w').Wr w.heap.size off):Rep (cx B H' σ' w') (.seq n xs (.own t k)) (.slice (some ⟨w.heap.size,0,none⟩) n cap):=by
 unfold Rep
 refine⟨_,cap,vs,rfl,hn,(fun h=>by cases h),hr,fun b hb=>?_,ht,hl,.inr ⟨_,cs,e,hσ,rfl,hg,hc⟩⟩
 cases hb
 refine .inl ⟨rfl,fun j u hj=>?_⟩
 have hjl:=cM hj
 refine⟨?_,by rw[Nat.zero_add];exact hw j hjl⟩
 show w'.cell? ⟨w.heap.size,0+j,none⟩=some u
 rw[Nat.zero_add]
 simp only[World.cell?,hg,Option.isSome_none,Bool.false_eq_true,if_false]
 rw[hcs j hjl];exact hj
def sg{σ:Nat->Option Nat}{w:World}(s:Sim B H σ w){t tx ty e:TypeId}{d de:TD}(f:ap P t d)(hd:d.sh=.slice e)(fe:ap P e de){n m cap:Nat}{xs ys:List PV}{ad:Option Addr}{vs news:List Value}{x:Value}
  (hle:n<=cap) (hnil:ad=none->n=0/\cap=0/\vs=[]) (hrl:au (cx B H σ w) xs vs) (hlies:∀b,ad=some b->rP (cx B H σ w) b vs\/(cap=0/\vs=[])) (hl:xs.length=n*de.size) (hnr:au (cx B H σ w) ys news) (hsrc:Src P de.size tx x m news w)
  (hb:(n+m)*de.bytes<=140737488355328) (h63:n+m<=9223372036854775807) (hc:(m=0/\cap=n)\/cap<n+m) :
  ∃v' w' σ',(Builtin.append_ #[t,tx] ty #[.slice ad n cap,x]).run P w=.ok v' w'/\Rep (cx B (H++[.free ((n+m)*de.size)]) σ' w') (.seq (n+m) (xs++ys) (.own H.length de.size)) v'/\Sim B (H++[.free ((n+m)*de.size)]) σ' w'/\eH B H σ w (H++[.free ((n+m)*de.size)]) σ' w'/\bj w w':=by
 obtain⟨i,z,hi,hsz,hby,hz,hzr⟩:=fe.info
 rw[<-hsz]at hsrc
 have hnl:news.length=m*i.size:=hsrc.newsLen
 rcases hc with ⟨rfl,rfl⟩|hc
 ·have hn0:news=[]:=List.eq_nil_of_length_eq_zero (by simpa using hnl)
  subst hn0
  have hr:=LI (P:=P) (w:=w) t tx ty e i (f.slice hd) hi ad cap cap _ hsrc (Nat.le_refl _)
  obtain⟨s',st⟩:=fv s (bj.refl w) (.free ((cap+0)*de.size)) none (fun b hb=>by cases hb) (fun b hb=>by simp only[cx]at hb;rw[bx]at hb;cases hb)
  have hy0:ys=[]:=List.eq_nil_of_length_eq_zero (by have:=au.length hnr;simpa using this.symm)
  subst hy0
  refine⟨_,w,_,hr,?_,s',st,bj.refl w⟩
  unfold Rep
  exact⟨ad,cap,vs,rfl,by omega,(fun h0=>by have:=hnil h0;exact⟨by omega,this.2⟩),by rw[List.append_nil];exact au.mono st.le hrl,fun b hb=>(hlies b hb).imp (·.mono st.le) id,by simp[cx],by simpa using hl,.inl (by omega)⟩
 have hvl:vs.length=n*i.size:=by rw[au.length hrl,hsz];exact hl
 have hr:=Af (P:=P) (w:=w) t tx ty e i z (f.slice hd) hi hz ad n cap vs hvl (fun h0=>(hnil h0).1) (fun b hb j v hj=>by
  have hl2:=(hlies b hb).resolve_right (by rintro⟨_,h3⟩;rw[h3]at hj;simp at hj)
  rw[gY hl2,Addr.add_lit];exact(hl2.2 j v hj).1) _ m news hsrc hc (by rw[hby];exact hb) h63
 have hzl:z.cells.size=de.size:=by have:=au.length (hzr (cx B H σ w));rw[Array.length_toList]at this;rw[this];exact fe.zlen
 have hge:=grownCap_ge w (n+m) cap e
 have hsize:((vs++news).toArray++Builtin.zeroCells z.cells (grownCap w (n+m) cap e-(n+m))).size=grownCap w (n+m) cap e*de.size:=by
  rw[Array.size_append,size_zeroCells,hzl,List.size_toArray,List.length_append,hvl,hnl,hsz,<-Nat.add_mul,<-Nat.add_mul]
  congr 1;omega
 have gr:bj w (w.drew.alloc (.cells ((vs++news).toArray++Builtin.zeroCells z.cells (grownCap w (n+m) cap e-(n+m))) e)):=(bj.drew w).trans (bj.alloc _ _)
 have hheap:(w.drew.alloc (.cells ((vs++news).toArray++Builtin.zeroCells z.cells (grownCap w (n+m) cap e-(n+m))) e)).heap[w.heap.size]?=some (Obj.cells ((vs++news).toArray++Builtin.zeroCells z.cells (grownCap w (n+m) cap e-(n+m))) e (0,0)):=by
  show(w.heap.push _)[w.heap.size]?=_;simp
 obtain⟨s',st⟩:=fv s gr (.free ((n+m)*de.size)) (some w.heap.size) (fun b hb=>by cases hb;exact Nat.le_refl _) (fun b hb=>by
  simp only[cx]at hb;rw[bx]at hb;cases hb
  exact⟨_,e,hheap,by rw[hsize];exact Nat.mul_le_mul_right _ hge⟩)
 refine⟨_,_,_,hr,?_,s',st,gr⟩
 refine r7 (vs:=vs++news) ((au.mono st.le hrl).append (au.mono st.le hnr)) (by simp) (bx _ _ _) hheap ?_ hge (by rw[hsize];exact Nat.le_refl _) (fun j hj=>?_) (fun off hoff=>?_)
 ·rw[List.length_append,hl,<-au.length hnr,hnl,hsz,<-Nat.add_mul]
 ·rw[Array.getElem?_append_left (by simpa using hj)];simp
 have hoff':off<(n+m)*de.size:=by rw[List.length_append,hvl,hnl,hsz,<-Nat.add_mul]at hoff;exact hoff
 rintro(h|⟨j,oj,h1,h2,h3⟩)
 ·exact absurd (s.base _ _ h) (by simp)
 rcases fI h1 with ⟨h4,h5⟩|⟨rfl,rfl⟩
 ·rw[bY h4]at h2
  have hlv:oj.live=true:=by cases oj<;>first|rfl|cases h3
  have:=(s.holds j oj h5).lt hlv h2
  simp[cx]at this
 simp only[Ob.wr]at h3;omega
def nU{w:World}{a:Act}{x y:Operand}{t tx:TypeId}{v v':Value}{w':World}(ho:o.op=.call {callee:=.builtin .append,args:=#[x,y],argTypes:=#[t,tx]})(hv:a.eval x=v)(hr:(Builtin.append_ #[t,tx] o.type #[v,a.eval y]).run P w=.ok v' w'):(execOp a.eval o).run P w=.ok (.value v') w':=by
 unfold execOp
 simp only[ho,resolve,invoke,builtin,Sem.run_bind,Sem.run_pure,Result.andThen_ok,List.map_toArray,List.map_cons,List.map_nil,hv,hr]
def GJ(dx:TD):PV->Prop
 | .seq _ _ _=>∃e',dx.sh=.slice e'
 | .val (.string _)=>dx.sh=.str
 | _=>False
def Fv{tx:TypeId}{dx:TD}{c:Cx}{k m:Nat}{x:PV}{v:Value}{ys:List PV}(fx:ap P tx dx)(ht:GJ dx x)(h:CC k x m ys)(hr:Rep c x v):∃news:List Value,au c ys news/\Src P k tx v m news c.w:=by
 refine ah4 h hr ?_ (fun s hs=>?_) (fun n zs s hs=>?_)
 ·cases x with
  | seq n zs s=>obtain⟨e',h1⟩:=ht;exact .inl ⟨e',fx.slice h1⟩
  | val u=>cases u<;>first|exact ht.elim|exact .inr (fx.str ht)
  | _=>exact ht.elim
 ·subst hs;exact fx.str ht
 subst hs;obtain⟨e',h1⟩:=ht;exact⟨e',fx.slice h1⟩
def cd{t tx e:TypeId}{d de dx:TD}{x y:Operand}{n m:Nat}{xs ys:List PV}(f:ap P t d)(hd:d.sh=.slice e)(fe:ap P e de)(fx:ap P tx dx)
  (ho:o.op=.call {callee:=.builtin .append,args:=#[x,y],argTypes:=#[t,tx]}) (hx:opv T x=.seq n xs .clip) (ht:GJ dx (opv T y)) (hy:CC de.size (opv T y) m ys) (hl:xs.length=n*de.size)
  (hb:(n+m)*de.bytes<=140737488355328) (h63:n+m<=9223372036854775807) :
  bM P B o T H (.seq (n+m) (xs++ys) (.own H.length de.size)) (H++[.free ((n+m)*de.size)]):=by
 intro σ w a s h
 have k1:=h x (by simp[ho,Op.operands,Call.operands])
 have k2:=h y (by simp[ho,Op.operands,Call.operands])
 rw[hx]at k1
 obtain⟨ad,cap,vs,hv,hle,hnil,hrl,hlies,hk⟩:=gJ k1
 have hcap:cap=n:=hk
 subst hcap
 obtain⟨news,hnr,hsrc⟩:=Fv fx ht hy k2
 obtain⟨v',w',σ',h1,h2,h3,h4,_⟩:=sg (ty:=o.type) s f hd fe hle hnil hrl hlies hl hnr hsrc hb h63 (by omega)
 exact⟨v',w',σ',.inl (nU ho hv h1),h2,h3,h4⟩
def fy{t tx e:TypeId}{d de dx:TD}{x y:Operand}{n m k q mt:Nat}{xs ys:List PV}(f:ap P t d)(hd:d.sh=.slice e)(fe:ap P e de)(fx:ap P tx dx)
  (ho:o.op=.call {callee:=.builtin .append,args:=#[x,y],argTypes:=#[t,tx]}) (hx:opv T x=.seq n xs (.own q k)) (hq:H[q]?=some (.free mt)) (hk:k=de.size) (hmt:mt<=n*k) (ht:GJ dx (opv T y)) (hy:CC de.size (opv T y) m ys)
  (hb:(n+m)*de.bytes<=140737488355328) (h63:n+m<=9223372036854775807) :
  bM P B o T H (.seq (n+m) (xs++ys) (.own H.length de.size)) (H.set q .dead++[.free ((n+m)*de.size)]):=by
 intro σ w a s h
 subst hk
 have k1:=h x (by simp[ho,Op.operands,Call.operands])
 have k2:=h y (by simp[ho,Op.operands,Call.operands])
 rw[hx]at k1
 obtain⟨ad,cap,vs,hv,hle,hnil,hrl,hlies,hqN,hl,hown⟩:=gJ k1
 obtain⟨news,hnr,hsrc0⟩:=Fv fx ht hy k2
 have hsrc:Src P de.size tx (a.eval y) m news w:=hsrc0
 clear hsrc0
 have viaNew:((m=0/\cap=n)\/cap<n+m)->∃v' w' σ',((execOp a.eval o).run P w=.ok (.value v') w'\/(execOp a.eval o).run P w=.ok .skip w'/\v'=undef)/\Rep (cx B (H.set q .dead++[.free ((n+m)*de.size)]) σ' w') (.seq (n+m) (xs++ys) (.own H.length de.size)) v'/\Sim B (H.set q .dead++[.free ((n+m)*de.size)]) σ' w'/\eH B H σ w (H.set q .dead++[.free ((n+m)*de.size)]) σ' w':=by
  intro hc
  obtain⟨s1,st1⟩:=lY s hq
  obtain⟨v',w',σ',h1,h2,h3,h4,_⟩:=sg (ty:=o.type) s1 f hd fe hle hnil (au.mono st1.le hrl) (fun b hb=>(hlies b hb).imp (·.mono st1.le) id) hl (au.mono st1.le hnr) hsrc hb h63 hc
  rw[List.length_set]at h2
  exact⟨v',w',σ',.inl (nU ho hv h1),h2,h3,st1.trans h4⟩
 rcases hown with hcap|⟨b,cs,e',hσ,rfl,hg,hcs⟩
 ·exact viaNew (by omega)
 simp only[cx]at hσ hg
 by_cases hroom:n+m<=cap
 ·obtain⟨i,z,hi,hsz,hby,hz,hzr⟩:=fe.info
  rw[<-hsz]at hsrc
  have hnl:news.length=m*de.size:=by rw[hsrc.newsLen,hsz]
  have hvl:vs.length=n*de.size:=by rw[au.length hrl];exact hl
  have hfit:(n+m)*de.size<=cs.size:=Nat.le_trans (Nat.mul_le_mul_right _ hroom) hcs
  have hfit':n*de.size+news.length<=cs.size:=by rw[hnl,<-Nat.add_mul];exact hfit
  have hst:=run_storeCells_at P b (n*de.size) e' news 0 cs w hg (by simpa using hfit') hsrc.one
  simp only[Nat.add_zero]at hst
  have hr:(Builtin.append_ #[t,tx] o.type #[.slice (some ⟨b,0,none⟩) n cap,a.eval y]).run P w=.ok (.slice (some ⟨b,0,none⟩) (n+m) cap) (w.setRow b (cs.toList.take (n*de.size)++news++cs.toList.drop (n*de.size+news.length)).toArray):=by
   have hcl:=hsrc.cells
   rw[hsz]at hcl
   rw[List.append_assoc]at hst ⊢
   rcases hsrc.kind with ⟨e2,hk⟩|hk<;>simp[Builtin.append_,run_underlying (f.slice hd),run_underlying hk,sizeOf,typeInfo,hi,hsrc.len,hroom,hcl,Addr.add_lit,hsz,hst]
  have hul:(cs.toList.take (n*de.size)++news++cs.toList.drop (n*de.size+news.length)).length=cs.size:=by
   simp only[List.length_append,List.length_take,List.length_drop,Array.length_toList];omega
  obtain⟨s',st⟩:=Ro s (m':=(n+m)*de.size) hq hσ hg hul (fun j hj=>by
   rw[List.append_assoc,List.getElem?_append_left (by simp only[List.length_take,Array.length_toList];omega),List.getElem?_take,if_pos (by omega)];simp) (Nat.le_trans hmt (Nat.mul_le_mul_right _ (by omega))) hfit
  refine⟨_,_,_,.inl (nU ho hv hr),?_,s',st⟩
  have hl2:∀j u,vs[j]?=some u->(cx B H σ w).w.cell? ⟨b,0+j,none⟩=some u/\¬(cx B H σ w).Wr b (0+j):=fun j u hj=>((hlies _ rfl).resolve_right (by rintro⟨_,h3⟩;rw[h3]at hj;simp at hj)).2 j u hj
  have hheap:=fV (cs':=(cs.toList.take (n*de.size)++news++cs.toList.drop (n*de.size+news.length)).toArray) hg
  have hvs:∀j,j<vs.length->cs[j]?=vs[j]?:=fun j hj=>by
   have h1:=(hl2 j vs[j] (List.getElem?_eq_getElem hj)).1
   simp only[cx,World.cell?,Nat.zero_add,hg,Option.isSome_none,Bool.false_eq_true,if_false]at h1
   rw[h1,List.getElem?_eq_getElem hj]
  unfold Rep
  refine⟨_,cap,vs++news,rfl,hroom,(fun h=>by cases h),(au.mono st.le hrl).append (au.mono st.le hnr),fun b1 hb1=>?_,by simp[cx],?_,.inr ⟨b,_,e',by simp only[cx];exact bx _ _ _,rfl,hheap,by rw[List.size_toArray,hul];exact hcs⟩⟩
  ·cases hb1
   refine .inl ⟨rfl,fun j u hj=>?_⟩
   have hjl:=cM hj
   rw[List.length_append,hvl,hnl,<-Nat.add_mul]at hjl
   refine⟨?_,?_⟩
   ·show(w.setRow b _).cell? ⟨b,0+j,none⟩=some u
    rw[Nat.zero_add]
    simp only[World.cell?,hheap,Option.isSome_none,Bool.false_eq_true,if_false]
    rw[List.getElem?_toArray,List.append_assoc]
    by_cases hjn:j<n*de.size
    ·rw[List.getElem?_append_left (by simp only[List.length_take,Array.length_toList];omega),List.getElem?_take,if_pos hjn]
     rw[List.getElem?_append_left (by omega)]at hj
     rw[Array.getElem?_toList,hvs j (by omega)];exact hj
    rw[List.getElem?_append_right (by omega)]at hj
    rw[List.getElem?_append_right (by simp only[List.length_take,Array.length_toList];omega)]
    have e1:j-(cs.toList.take (n*de.size)).length=j-vs.length:=by simp only[List.length_take,Array.length_toList];omega
    have hjl':j<n*de.size+m*de.size:=by rw[<-Nat.add_mul];exact hjl
    rw[e1,List.getElem?_append_left (by rw[hnl,hvl];omega)]
    exact hj
   rintro(h'|⟨j',oj,h1,h2,h3⟩)
   ·exact s.sep q b _ hq rfl hσ _ h'
   rcases fI h1 with ⟨h4,h5⟩|⟨rfl,rfl⟩
   ·rw[List.length_set]at h4
    by_cases hj':j'=q
    ·subst hj'
     rw[List.getElem?_set_self h4]at h5;cases h5;cases h3
    rw[List.getElem?_set_ne (Ne.symm hj')]at h5
    rw[bY h4]at h2
    have hlv:oj.live=true:=by cases oj<;>first|rfl|cases h3
    exact hj' (s.inj j' q b oj _ h5 hq hlv rfl h2 hσ)
   simp only[Ob.wr,Nat.zero_add]at h3;omega
  rw[List.length_append,hl,<-au.length hnr,hnl,<-Nat.add_mul]
 exact viaNew (by omega)
end
open Go.RowKit
def yn{c:Cx}:∀{xs:List PV} {vs:List Value} (_:vs.length=xs.length) (_:∀(j:Nat) (x:PV),xs[j]?=some x->∃u,vs[j]?=some u/\Rep c x u),au c xs vs
 | [],[],_,_=>aG.2 rfl
 | x::xs,v::vs,hl,h=>by
  refine af.2 ⟨?_,yn (by simpa using hl) (fun j y hj=>by have:=h (j+1) y (by simpa using hj);simpa using this)⟩
  obtain⟨u,h1,h2⟩:=h 0 x rfl
  cases h1;exact h2
 | [],v::vs,hl,_=>by simp at hl
 | x::xs,[],hl,_=>by simp at hl
def fP(n:Nat)(d:TD):List PV:=(List.replicate n d.zero).flatten
def xQ{α:Type}(z:List α):∀(n j:Nat),(List.replicate n z).flatten[j]?=if j<n*z.length then z[j%z.length]? else none
 | 0,j=>by simp
 | n+1,j=>by
  rw[List.replicate_succ,List.flatten_cons]
  by_cases h:j<z.length
  ·rw[List.getElem?_append_left h,if_pos (by rw[Nat.add_mul];omega),Nat.mod_eq_of_lt h]
  rw[List.getElem?_append_right (by omega),xQ z n (j-z.length)]
  have e:(n+1)*z.length=n*z.length+z.length:=by rw[Nat.add_mul,Nat.one_mul]
  by_cases h2:j<(n+1)*z.length
  ·rw[if_pos h2,if_pos (by omega)]
   congr 1
   rw[Nat.mod_eq_sub_mod (a:=j) (by omega)]
  rw[if_neg h2,if_neg (by omega)]
def mS(n:Nat)(d:TD)(h:d.zero.length=d.size):(fP n d).length=n*d.size:=by
 unfold fP;rw[List.length_flatten];simp[h]
def wT{P:Program}{e:TypeId}{de:TD}(fe:ap P e de)(n:Nat)(z:Value)(hz:∀c,au c de.zero z.cells.toList)(c:Cx):au c (fP n de) (madeCells z.cells (n*de.size)).toList:=by
 have hzl:z.cells.size=de.size:=by have:=au.length (hz c);rw[Array.length_toList]at this;rw[this];exact fe.zlen
 refine yn (by rw[Array.length_toList,size_madeCells,mS _ _ fe.zlen]) (fun j x hj=>?_)
 unfold fP at hj
 rw[xQ]at hj
 rw[fe.zlen]at hj
 split at hj
 ·rename_i hlt
  obtain⟨u,hu,hr⟩:=(hz c).get hj
  refine⟨u,?_,hr⟩
  unfold madeCells
  rw[hzl]
  rw[Array.getElem?_toList]at hu
  obtain⟨h1,h2⟩:=Array.getElem?_eq_some_iff.1 hu
  simp[hlt]
  rw[getElem!_pos z.cells (j%de.size) h1,h2]
 cases hj
section
variable {P : Program} {B : Nat -> Nat -> Prop} {o : Oper} {T : Nat -> PV} {H : List Ob}
def jv{b:Builtin}{w:World}{a:Act}{args:Array Operand}{ats:Array TypeId}{r:Result Next}(ho:o.op=.call {callee:=.builtin b,args:=args,argTypes:=ats})(hr:(builtin b ats o.type (args.map fun|.const _=>true|_=>false) (args.map a.eval)).run P w=r):(execOp a.eval o).run P w=r:=by
 unfold execOp
 simp only[ho,resolve,invoke,Sem.run_bind,Sem.run_pure,Result.andThen_ok]
 exact hr
def Gb{t:TypeId}{d:TD}{e:Nat}{x:Operand}{n:Nat}{xs:List PV}{s:SK}(f:ap P t d)(hd:d.sh=.slice e)(ho:o.op=.call {callee:=.builtin .len,args:=#[x],argTypes:=#[t]})(hx:opv T x=.seq n xs s):bM P B o T H (.val (.int .i64 n)) H :=
 aM fun σ w a s' h=>by
  have k1:=h x (by simp[ho,Op.operands,Call.operands])
  rw[hx]at k1
  obtain⟨ad,cap,vs,hv,_⟩:=gJ k1
  refine⟨.int .i64 n,jv ho ?_,ar _ _⟩
  simp[builtin,Builtin.len_,run_underlying (f.slice hd),hv,goInt]
def E3{t:TypeId}{d:TD}{e:Nat}{x:Operand}{id off n cap:Nat}(f:ap P t d)(hd:d.sh=.slice e)(ho:o.op=.call {callee:=.builtin .len,args:=#[x],argTypes:=#[t]})(hx:opv T x=.arr id off n cap):bM P B o T H (.val (.int .i64 n)) H :=
 aM fun σ w a s' h=>by
  have k1:=h x (by simp[ho,Op.operands,Call.operands])
  rw[hx]at k1
  unfold Rep at k1
  obtain⟨_,b,_,hv⟩:=k1
  refine⟨.int .i64 n,jv ho ?_,ar _ _⟩
  simp[builtin,Builtin.len_,run_underlying (f.slice hd),hv,goInt]
def FG{t:TypeId}{d:TD}{e:Nat}{x:Operand}{id off n:Nat}(f:ap P t d)(hd:d.sh=.slice e)(ho:o.op=.call {callee:=.builtin .len,args:=#[x],argTypes:=#[t]})(hx:opv T x=.arw id off n):bM P B o T H (.val (.int .i64 n)) H :=
 aM fun σ w a s' h=>by
  have k1:=h x (by simp[ho,Op.operands,Call.operands])
  rw[hx]at k1
  unfold Rep at k1
  obtain⟨_,b,cap,_,_,hv⟩:=k1
  refine⟨.int .i64 n,jv ho ?_,ar _ _⟩
  simp[builtin,Builtin.len_,run_underlying (f.slice hd),hv,goInt]
def F8{t:TypeId}{d:TD}{x:Operand}{s:ByteArray}(f:ap P t d)(hd:d.sh=.str)(ho:o.op=.call {callee:=.builtin .len,args:=#[x],argTypes:=#[t]})(hx:opv T x=.val (.string s)):bM P B o T H (.val (.int .i64 s.size)) H :=
 aM fun σ w a s' h=>by
  have k1:=h x (by simp[ho,Op.operands,Call.operands])
  rw[hx]at k1
  unfold Rep at k1
  refine⟨.int .i64 s.size,jv ho ?_,ar _ _⟩
  simp[builtin,Builtin.len_,run_underlying (f.str hd),k1,goInt]
def SQ{ats:Array TypeId}{x y:Operand}{u v r:Value}(ho:o.op=.call {callee:=.builtin .min,args:=#[x,y],argTypes:=ats})(hx:opv T x=.val u)(hy:opv T y=.val v)(hr:po (Builtin.min_ ats o.type #[u,v])=some r):bM P B o T H (.val r) H :=
 aM fun σ w a s' h=>by
  have k1:=h x (by simp[ho,Op.operands,Call.operands])
  have k2:=h y (by simp[ho,Op.operands,Call.operands])
  rw[hx]at k1
  rw[hy]at k2
  unfold Rep at k1 k2
  refine⟨r,jv ho ?_,ar _ _⟩
  simp[builtin,k1,k2,nY hr P w]
def VK{ats:Array TypeId}{x y:Operand}{u v r:Value}(ho:o.op=.call {callee:=.builtin .max,args:=#[x,y],argTypes:=ats})(hx:opv T x=.val u)(hy:opv T y=.val v)(hr:po (Builtin.max_ ats o.type #[u,v])=some r):bM P B o T H (.val r) H :=
 aM fun σ w a s' h=>by
  have k1:=h x (by simp[ho,Op.operands,Call.operands])
  have k2:=h y (by simp[ho,Op.operands,Call.operands])
  rw[hx]at k1
  rw[hy]at k2
  unfold Rep at k1 k2
  refine⟨r,jv ho ?_,ar _ _⟩
  simp[builtin,k1,k2,nY hr P w]
def C8(off:Nat):∀(l:List Value) (k:Nat) (cs:Array Value),off+k+l.length<=cs.size->((l.zipIdx k).foldl (fun cs (p:Value×Nat)=>cs.setIfInBounds (off+p.2) p.1) cs).toList=cs.toList.take (off+k)++l++cs.toList.drop (off+k+l.length)
 | [],k,cs,_=>by simp
 | v::l,k,cs,h=>by
  simp only[List.zipIdx_cons,List.foldl_cons]
  rw[C8 off l (k+1) (cs.setIfInBounds (off+k) v) (by simp at h ⊢;omega)]
  simp only[Array.toList_setIfInBounds]
  have hk:off+k<cs.toList.length:=by simp at h ⊢;omega
  have e1:(cs.toList.set (off+k) v).take (off+(k+1))=cs.toList.take (off+k)++[v]:=by
   rw[<-Nat.add_assoc,List.take_succ_eq_append_getElem (by simpa using hk),List.take_set_of_le (Nat.le_refl _)]
   simp
  have e2:(cs.toList.set (off+k) v).drop (off+(k+1)+l.length)=cs.toList.drop (off+k+(v::l).length):=by
   rw[List.drop_set_of_lt (by omega)]
   congr 1
   simp only[List.length_cons];omega
  rw[e1,e2];simp
def qz(pl:Nat->Option (Nat×Nat))(T:Nat->PV):List (Nat×Operand)->List PV->Option (List PV)
 | [],cells=>some cells
 | (i,x)::rest,cells=>match pl i with
  | some (of,z)=>match rm (opv T x)with
   | some ys=>match Nat.beq ys.length z with
    | true=>match Nat.ble (of+z) cells.length with
     | true=>qz pl T rest (cy cells of ys)
     | false=>none
    | false=>none
   | none=>none
  | none=>none
def vW{c:Cx}{ρ:Operand->Value}(pl:Nat->Option (Nat×Nat)):∀(parts:List (Nat×Operand)) (cells out:List PV) (cs:Array Value),au c cells cs.toList->qz pl T parts cells=some out->(∀p∈parts,Rep c (opv T p.2) (ρ p.2)) ->
  ∃cs',Instr.fill pl cs (parts.map fun p=>(p.1,ρ p.2))=some cs'/\au c out cs'.toList
 | [],cells,out,cs,h,hf,_=>by injection hf with hf;subst hf;exact⟨cs,rfl,h⟩
 | (i,x)::rest,cells,out,cs,h,hf,hp=>by
  simp only[qz]at hf
  split at hf
  ·rename_i of z hpl
   split at hf
   ·rename_i ys hys
    split at hf
    ·rename_i hz
     split at hf
     ·rename_i hle
      rw[Nat.beq_eq]at hz
      rw[Nat.ble_eq]at hle
      have hx:=sV hys (hp (i,x) (by simp))
      have hl:(ρ x).cells.size=ys.length:=by have:=au.length hx;rwa [Array.length_toList]at this
      have hcl:=au.length h
      rw[Array.length_toList]at hcl
      have hfit:of+0+(ρ x).cells.toList.length<=cs.size:=by rw[Array.length_toList];omega
      have hs:=C8 of (ρ x).cells.toList 0 cs hfit
      simp only[Nat.add_zero,Array.length_toList]at hs
      have hr:au c (cy cells of ys) ((ρ x).cells.zipIdx.foldl (fun cs (p:Value×Nat)=>cs.setIfInBounds (of+p.2) p.1) cs).toList:=by
       rw[<-Array.foldl_toList,Array.toList_zipIdx,hs]
       unfold cy
       rw[hl]
       exact((h.take of).append hx).append (h.drop _)
      obtain⟨cs',h1,h2⟩:=vW pl rest _ out _ hr hf (fun p hp'=>hp p (by simp[hp']))
      refine⟨cs',?_,h2⟩
      simp only[List.map_cons,Instr.fill,hpl]
      rw[if_neg (by simp;omega)]
      exact h1
     cases hf
    cases hf
   cases hf
  cases hf
def P4{F:List Field}:∀{fs:List (Nat×Nat×Bool)},F.length=fs.length->(F.zip fs).all (yS P)=true->F.mapM (fun f=>(P.info? f.type).map fun i=>(f.offset,i.size))=some (fs.map fun q=>(q.1,q.2.1)):=by
 induction F with
 | nil=>intro fs hl _;cases fs with|nil=>rfl|cons _ _=>simp at hl
 | cons f F ih =>
  intro fs hl h
  cases fs with
  | nil=>simp at hl
  | cons q fs =>
   obtain⟨of,z,g⟩:=q
   simp only[List.zip_cons_cons,List.all_cons,Bool.and_eq_true]at h
   obtain⟨h1,h2⟩:=h
   have h3:=ih (by simpa using hl) h2
   simp only[yS,Bool.and_eq_true,decide_eq_true_eq]at h1
   obtain⟨⟨⟨h6,h7⟩,h8⟩,h9⟩:=h1
   cases hi:P.info? f.type with
   | none=>rw[hi]at h8;cases h8
   | some i=>rw[hi]at h8;simp at h8;simp[List.mapM_cons,hi,h3,h6,h8]
def o7{t:TypeId}{d:TD}{fs:List (Nat×Nat×Bool)}{parts:Array (Nat×Operand)}{out:List PV}(f:ap P t d)(hd:d.sh=.struct fs)(ho:o.op=.build t parts)(hf:qz (fun i=>match fs[i]? with|some (of,z,_)=>some (of,z)|none=>none) T parts.toList d.zero=some out):bM P B o T H (.agg out) H :=
 aM fun σ w a s h=>by
  obtain⟨i,z,hi,hsz,hby,hz,hzr⟩:=f.info
  obtain⟨u,hu,hsh⟩:=f.under
  rw[hd]at hsh
  cases u with
  | struct F =>
   simp only[K0,Bool.and_eq_true,decide_eq_true_eq]at hsh
   have hpl:=P4 (P:=P) (F:=F.toList) (fs:=fs) (by simpa using hsh.1) hsh.2
   obtain⟨cs',h1,h2⟩:=vW (c:=cx B H σ w) (ρ:=a.eval) _ parts.toList d.zero out z.cells (hzr _) hf (fun p hp=>h p.2 (by
    simp only[ho,Op.operands]
    exact List.mem_map.2 ⟨p,hp,rfl⟩))
   refine⟨.agg cs',?_,by unfold Rep;exact⟨cs'.toList,by simp,h2⟩⟩
   have hb:P.built t (parts.map fun p=>(p.1,a.eval p.2)).toList=some cs':=by
    unfold Program.built
    rw[hi,hu]
    simp only[hz,hpl]
    rw[Array.toList_map]
    rw[<-h1]
    congr 1
    funext j
    simp only[List.getElem?_toArray,List.getElem?_map]
    cases fs[j]? with
    | none=>rfl
    | some q=>rfl
   have:=run_build (P:=P) w t (parts.map fun p=>(p.1,a.eval p.2)) cs' hb
   simp[execOp,ho,this]
  | _=>cases hsh
def xf{t e:TypeId}{d de:TD}{n:Nat}{parts:Array (Nat×Operand)}{out:List PV}(f:ap P t d)(hd:d.sh=.array n e)(fe:ap P e de)(ho:o.op=.build t parts)(hf:qz (fun i=>some (i*de.size,de.size)) T parts.toList d.zero=some out):bM P B o T H (.agg out) H :=
 aM fun σ w a s h=>by
  obtain⟨i,z,hi,hsz,hby,hz,hzr⟩:=f.info
  obtain⟨ie,ze,hie,hsze,_⟩:=fe.info
  obtain⟨cs',h1,h2⟩:=vW (c:=cx B H σ w) (ρ:=a.eval) _ parts.toList d.zero out z.cells (hzr _) hf (fun p hp=>h p.2 (by
   simp only[ho,Op.operands]
   exact List.mem_map.2 ⟨p,hp,rfl⟩))
  refine⟨.agg cs',?_,by unfold Rep;exact⟨cs'.toList,by simp,h2⟩⟩
  have hb:P.built t (parts.map fun p=>(p.1,a.eval p.2)).toList=some cs':=by
   unfold Program.built
   rw[hi,f.array hd]
   simp only[hz,hie]
   rw[Array.toList_map,<-h1,hsze]
  have:=run_build (P:=P) w t (parts.map fun p=>(p.1,a.eval p.2)) cs' hb
  simp[execOp,ho,this]
def yG{t e:TypeId}{d de:TD}{n:Nat}{parts:Array (Nat×Operand)}{out:List PV}(f:ap P t d)(hd:d.sh=.slice e)(fe:ap P e de)(ho:o.op=.buildSlice t n parts)(hn:Nat.ble (n*de.size) 16777216=true)(hf:qz (fun i=>some (i*de.size,de.size)) T parts.toList (fP n de)=some out):bM P B o T H (.seq n out .clip) H:=by
 intro σ w a s h
 obtain⟨i,z,hi,hsz,hby,hz,hzr⟩:=fe.info
 rw[Nat.ble_eq]at hn
 obtain⟨cs',h1,h2⟩:=vW (c:=cx B H σ w) (ρ:=a.eval) _ parts.toList _ out (madeCells z.cells (n*de.size)) (wT fe n z hzr _) hf (fun p hp=>h p.2 (by
  simp only[ho,Op.operands]
  exact List.mem_map.2 ⟨p,hp,rfl⟩))
 obtain⟨s',st⟩:=gU s (bj.alloc w (.cells cs' e))
 refine⟨.slice (some ⟨w.heap.size,0,none⟩) n n,w.alloc (.cells cs' e),σ,.inl ?_,?_,s',st⟩
 ·have hg:¬(16777216<n*de.size):=by omega
  have hmk:madeCells z.cells (n*de.size)=Array.map (fun x=>z.cells[x%z.cells.size]!) (Array.range (n*de.size)):=rfl
  by_cases h0:n*de.size=0
  ·have hm0:madeCells z.cells (n*de.size)=#[]:=by rw[h0];simp[madeCells]
   rw[hm0]at h1
   simp[execOp,ho,Instr.buildSlice,run_underlying (f.slice hd),fe.sizeOf,h0,newRow]
   rw[Array.range_zero',Array.map_empty,h1]
   simp
  rw[hmk]at h1
  simp[execOp,ho,Instr.buildSlice,run_underlying (f.slice hd),fe.sizeOf,hg,h0,zeroValue,typeInfo,hi,hz,newRow]
  rw[h1]
  simp
 unfold Rep
 refine⟨_,n,cs'.toList,rfl,Nat.le_refl _,(fun h=>by cases h),au.mono st.le h2,fun b hb=>?_,rfl⟩
 cases hb
 refine .inl ⟨rfl,fun j u hj=>⟨?_,?_⟩⟩
 ·show(w.alloc (.cells cs' e)).cell? ⟨w.heap.size,0+j,none⟩=_
  rw[oG _ _ _ _ _ _ rfl,Nat.zero_add]
  rw[<-Array.getElem?_toList];exact hj
 rintro(h'|⟨i',oi,h3,h4,h5⟩)
 ·exact absurd (s.base _ _ h') (by simp)
 have hl:oi.live=true:=by cases oi<;>first|rfl|cases h5
 have:=(s.holds i' oi h3).lt hl h4
 simp[cx]at this
def AM{t e:TypeId}{d de:TD}{x y:Operand}{k k':IntKind}{n:Int}(f:ap P t d)(hd:d.sh=.slice e)(fe:ap P e de)(ho:o.op=.makeSlice t x y)(hx:opv T x=.val (.int k n))(hy:opv T y=.val (.int k' n))(h0:0<=n)(hb:(de.bytes:Int)*n<=281474976710656)(h63:n<=9223372036854775807):
  bM P B o T H (.arr H.length 0 n.toNat n.toNat) (H++[.cells (fP n.toNat de) e]):=by
 intro σ w a s h
 have k1:=h x (by simp[ho,Op.operands])
 have k2:=h y (by simp[ho,Op.operands])
 rw[hx]at k1
 rw[hy]at k2
 unfold Rep at k1 k2
 obtain⟨i,z,hi,hsz,hby,hz,hzr⟩:=fe.info
 have hr:=run_make (P:=P) w t e i z (f.slice hd) hi hz k k' n n h0 (Int.le_refl _) (by rw[hby];exact hb) h63
 obtain⟨s',st⟩:=uh s (fP n.toNat de) (madeCells z.cells (n.toNat*de.size)).toList e (wT fe n.toNat z hzr _)
 rw[Array.toArray_toList]at s' st
 rw[hsz]at hr
 refine⟨_,_,_,.inl (by simp[execOp,ho,k1,k2,hr];rfl),?_,s',st⟩
 unfold Rep
 exact⟨by simp[cx],w.heap.size,by simp only[cx];exact bx _ _ _,rfl⟩
def nL{t tx e:TypeId}{d de:TD}{x y:Operand}{id off n cap m:Nat}{xs ys:List PV}{et:TypeId}{s:SK}(f:ap P t d)(hd:d.sh=.slice e)(fe:ap P e de)(ho:o.op=.call {callee:=.builtin .copy,args:=#[x,y],argTypes:=#[t,tx]})
  (hx:opv T x=.arr id off n cap) (hi:H[id]?=some (.cells xs et)) (hy:opv T y=.seq m ys s) (hl:ys.length=m*de.size) (hok:∀z∈ys,okC z=true) (hfit:off+n*de.size<=xs.length) :
  bM P B o T H (.val (.int .i64 (min m n:Nat))) (H.set id (.cells (cy xs off (ys.take (min m n*de.size))) et)):=by
 intro σ w a s' h
 have k1:=h x (by simp[ho,Op.operands,Call.operands])
 have k2:=h y (by simp[ho,Op.operands,Call.operands])
 rw[hx]at k1
 rw[hy]at k2
 unfold Rep at k1
 obtain⟨hN,b,hb,hv⟩:=k1
 obtain⟨ad,cap',vs,hv2,hle,hnil,hrl,hlies,_⟩:=gJ k2
 obtain⟨b',ws,fr,hb',hg,hfr,hwp⟩:=s'.holds id _ hi
 simp only[cx]at hb hb' hg
 rw[hb]at hb'
 cases hb'
 have hvl:vs.length=m*de.size:=by rw[au.length hrl];exact hl
 have hmn:min m n*de.size<=m*de.size:=Nat.mul_le_mul_right _ (Nat.min_le_left _ _)
 have hmn2:min m n*de.size<=n*de.size:=Nat.mul_le_mul_right _ (Nat.min_le_right _ _)
 have htl:(vs.take (min m n*de.size)).length=min m n*de.size:=by rw[List.length_take];omega
 have hytl:(ys.take (min m n*de.size)).length=min m n*de.size:=by rw[List.length_take];omega
 have hfc:(Builtin.firstCells de.size (min m n) (a.eval y)).run P w=.ok (vs.take (min m n*de.size)).toArray w:=by
  rw[hv2]
  cases ad with
  | none =>
   obtain⟨rfl,_,rfl⟩:=hnil rfl
   simpa using run_firstCells_none w de.size (min 0 n) 0 cap'
  | some bd =>
   refine run_firstCells_some w de.size (min m n) bd m cap' _ htl (fun j u hj=>?_)
   rw[List.getElem?_take]at hj
   have hl2:=(hlies bd rfl).resolve_right (by rintro⟨_,h3⟩;rw[h3]at hj;simp at hj)
   rw[gY hl2,Addr.add_lit]
   split at hj
   ·exact(hl2.2 j u hj).1
   cases hj
 have hwsl:=hwp.le
 have hst:=my P b off et fr (vs.take (min m n*de.size)) 0 ws.toArray w hg (by simpa using hfr) (by rw[Nat.add_zero,htl,List.size_toArray];omega) (tJ (fun z hz=>hok z (List.mem_of_mem_take hz)) (hrl.take _))
 simp only[Nat.add_zero]at hst
 obtain⟨s2,st⟩:=lV s' (ys:=cy xs off (ys.take (min m n*de.size))) hi hb hg hfr (us:=ws.take off++vs.take (min m n*de.size)++ws.drop (off+(vs.take (min m n*de.size)).length)) (by
  simp only[List.length_append,List.length_drop,htl]
  rw[List.length_take];omega) (by
  unfold cy
  rw[hytl,htl]
  obtain⟨p,q,hpq,hd⟩:=hwp.drop (off+min m n*de.size)
  exact⟨ws.take off++vs.take (min m n*de.size)++p,q,by rw[hpq];simp,((hwp.take (by omega)).append (hrl.take _)).append hd⟩)
 refine⟨.int .i64 (min m n:Nat),_,σ,.inl (jv ho ?_),ar _ _,s2,st⟩
 have hlen:(Builtin.lenOf (a.eval y)).run P w=.ok m w:=by rw[hv2];rfl
 have hcp:(Builtin.copy_ #[t,tx] o.type #[a.eval x,a.eval y]).run P w=.ok (.int .i64 (min m n:Nat)) (w.setRow b (ws.take off++vs.take (min m n*de.size)++ws.drop (off+(vs.take (min m n*de.size)).length)).toArray):=by
  have e1:Nat.min m n=min m n:=rfl
  simp only[Builtin.copy_,hv,List.getElem?_toArray,List.getElem?_cons_zero,List.getElem?_cons_succ,Sem.run_bind,run_underlying (f.slice hd),Result.andThen_ok,hlen,fe.sizeOf,e1,hfc,hst,goInt,Sem.run_pure]
 simp only[builtin,List.map_toArray,List.map_cons,List.map_nil,Sem.run_bind,hcp,Result.andThen_ok,Sem.run_pure]
end
open Go.RowKit
def HC(P:Program)(f:FuncId)(args:List PV)(H:List Ob)(res:PV)(H':List Ob):Prop :=
 ∀(B:Nat->Nat->Prop) (σ:Nat->Option Nat) (w:World) (vs:List Value),Sim B H σ w->au (cx B H σ w) args vs ->
  Calls P f vs.toArray w fun e w'=>∃v σ',e=.returned v/\Rep (cx B H' σ' w') res v/\Sim B H' σ' w'/\eH B H σ w H' σ' w'
abbrev k_(f:FuncId)(a c:List PV)(t:TypeId)(r:PV)(d:List PV):Prop:=∀(H:List Ob)(i:Nat),H[i]?=some (.cells c t)->HC Tryz.prog f (.ptr i 0::a) H r (H.set i (.cells d t))
theorem j_{a b:Int}(h:a=b):PV.val (.int .i64 a)=PV.val (.int .i64 b):=h▸rfl
def ab(P:Program)(f:FuncId)(args:List PV)(res:PV):Prop:=∀H,HC P f args H res H
section
variable {P : Program} {B : Nat -> Nat -> Prop} {o : Oper} {T : Nat -> PV} {H : List Ob}
def AK{c:Cx}{ρ:Operand->Value}:∀(l:List Operand),(∀y∈l,Rep c (opv T y) (ρ y))->au c (l.map (opv T)) (l.map ρ)
 | [],_=>aG.2 rfl
 | y::l,h=>af.2 ⟨h y (by simp),AK l (fun z hz=>h z (by simp[hz]))⟩
def mX {f : FuncId} {fn : Func} (hf : P.funcs[f]? = some fn) (hb : fn.body.isNone = false) (hn : (fn.name == "runtime.NumGoroutine") = false) (args : Array Value) (w : World) : (callFunc f args).run P w = .ok (.enter f args) w := by
 unfold callFunc
 simp only[Sem.run_bind,run_program,Result.andThen_ok,hf,hn,hb]
 rfl
def Ko {f : FuncId} {fn : Func} {args : Array Operand} {ats : Array TypeId} {res : PV} {H' : List Ob} (ho : o.op = .call { callee := .value (.func f), args := args, argTypes := ats }) (hf : P.funcs[f]? = some fn) (hb : fn.body.isNone = false) (hn : (fn.name == "runtime.NumGoroutine") = false)
  (h:HC P f (args.toList.map (opv T)) H res H'):ly P B o T H res H':=by
 intro σ w a s ha
 refine⟨f,(args.toList.map a.eval).toArray,?_,h B σ w _ s (AK _ (fun y hy=>ha y ?_))⟩
 ·unfold execOp
  simp only[ho,resolve,Act.eval,Deferred.ofValue,invoke,Sem.run_bind,Sem.run_pure,Result.andThen_ok]
  rw[mX hf hb hn]
  simp
  rw[<-Array.toList_map]
 rw[ho];simp[Op.operands,Call.operands];exact .inr (by simpa using hy)
def GY {f : FuncId} {fn : Func} {x : Operand} {first cap : List PV} {args : Array Operand} {ats : Array TypeId} {res : PV} {H' : List Ob} (ho : o.op = .call { callee := .value x, args := args, argTypes := ats }) (hx : opv T x = .fn (.func f) first cap) (hf : P.funcs[f]? = some fn) (hb : fn.body.isNone = false) (hn : (fn.name == "runtime.NumGoroutine") = false)
  (h:HC P f (first++args.toList.map (opv T)++cap) H res H'):ly P B o T H res H':=by
 intro σ w a s ha
 have k1:=ha x (by rw[ho];simp[Op.operands,Call.operands])
 rw[hx]at k1
 unfold Rep at k1
 obtain⟨fs,cs,hv,h1,h2⟩:=k1
 refine⟨f,(fs++args.toList.map a.eval++cs).toArray,?_,h B σ w _ s ((h1.append (AK _ (fun y hy=>ha y ?_))).append h2)⟩
 ·unfold execOp
  simp only[ho,resolve,hv,Deferred.ofValue,invoke,Sem.run_bind,Sem.run_pure,Result.andThen_ok]
  rw[mX hf hb hn]
  simp
 rw[ho];simp[Op.operands,Call.operands];exact .inr (by simpa using hy)
def Imp(x y:PV):Prop:=∀c v,Rep c x v->Rep c y v
def cP{x y:PV}(h:x=y):Imp x y:=fun _ _ k=>h▸k
def Imp.refl(x:PV):Imp x x:=fun _ _ h=>h
def oU(n:Nat)(xs:List PV)(s:SK):Imp (.seq n xs s) (.seq n xs .any):=fun c v h=>by
 unfold Rep at h ⊢
 obtain⟨a,cap,vs,h1,h2,h3,h4,h5,_⟩:=h
 exact⟨a,cap,vs,h1,h2,h3,h4,h5,trivial⟩
def r8:List PV->List PV->Prop
 | [],[]=>True
 | x::xs,y::ys=>Imp x y/\r8 xs ys
 | _,_=>False
def pr{c:Cx}:∀{xs ys:List PV} {vs:List Value},r8 xs ys->au c xs vs->au c ys vs
 | [],[],vs,_,h=>h
 | x::xs,y::ys,[],_,h=>by unfold au at h;obtain⟨u,us,h1,_⟩:=h;cases h1
 | x::xs,y::ys,v::vs,hi,h=>by rw[af]at h ⊢;exact⟨hi.1 c v h.1,pr hi.2 h.2⟩
 | [],y::ys,_,hi,_=>hi.elim
 | x::xs,[],_,hi,_=>hi.elim
def Yj{xs ys:List PV}(h:r8 xs ys):Imp (.tup xs) (.tup ys):=fun c v k=>by
 unfold Rep at k ⊢;obtain⟨vs,h1,h2⟩:=k;exact⟨vs,h1,pr h h2⟩
def L3{xs ys:List PV}(h:r8 xs ys):Imp (.agg xs) (.agg ys):=fun c v k=>by
 unfold Rep at k ⊢;obtain⟨vs,h1,h2⟩:=k;exact⟨vs,h1,pr h h2⟩
def pV:∀xs:List PV,r8 xs xs
 | []=>trivial
 | x::xs=>⟨Imp.refl x,pV xs⟩
def yE(args:List PV):Nat->PV:=fun i=>(args[i]?).getD (.val undef)
def tM{c:Cx}:∀{args:List PV} {vs:List Value} (_:au c args vs) (n:Nat) (i:Nat),Rep c (yE args i) ((vs.toArray++Array.replicate (n-vs.toArray.size) undef).getD i undef):=by
 intro args vs h n i
 unfold yE
 have hl:=au.length h
 cases ha:args[i]? with
 | none =>
  have hge:args.length<=i:=by rcases Nat.lt_or_ge i args.length with h1|h1;rw[List.getElem?_eq_getElem h1]at ha;cases ha;exact h1
  have:(vs.toArray++Array.replicate (n-vs.toArray.size) undef).getD i undef=undef:=by
   rw[Array.getD_eq_getD_getElem?,Array.getElem?_append_right (by simp;omega),Array.getElem?_replicate]
   split<;>rfl
  rw[this];exact ar _ _
 | some x =>
  obtain⟨u,hu,hr⟩:=h.get ha
  have:(vs.toArray++Array.replicate (n-vs.toArray.size) undef).getD i undef=u:=by
   rw[Array.getD_eq_getD_getElem?,Array.getElem?_append_left (by simpa using cM hu)]
   simp[hu]
  rw[this];exact hr
mutual
def aR:PV->Prop
 | .val _=>True
 | .any=>True
 | .agg cs=>aF cs
 | .tup cs=>aF cs
 | .seq _ xs s=>aF xs/\(s=.any\/s=.clip)
 | .row xs=>aF xs
 | .fn _ a b=>aF a/\aF b
 | .ptr _ _=>False
 | .arr _ _ _ _=>False
 | .mapv _=>False
 | .arw _ _ _=>False
 | .smap _ xs=>aF xs
 | .ifc _ x=>aR x
def aF:List PV->Prop
 | []=>True
 | x::xs=>aR x/\aF xs
end
mutual
def oI{c c':Cx}(hw:c'.w=c.w)(hr:∀b off,c'.Wr b off->c.Wr b off):∀{x:PV} {v:Value},aR x->Rep c x v->Rep c' x v
 | .val u,v,_,k=>by unfold Rep at k ⊢;exact k
 | .any,_,_,_=>by unfold Rep;trivial
 | .agg cs,v,f,k=>by unfold Rep at k ⊢;unfold aR at f;obtain⟨vs,h1,h2⟩:=k;exact⟨vs,h1,dv hw hr f h2⟩
 | .tup cs,v,f,k=>by unfold Rep at k ⊢;unfold aR at f;obtain⟨vs,h1,h2⟩:=k;exact⟨vs,h1,dv hw hr f h2⟩
 | .seq n xs s,v,f,k=>by
  unfold Rep at k ⊢;unfold aR at f
  obtain⟨a,cap,vs,h1,h2,h3,h4,h5,h6⟩:=k
  refine⟨a,cap,vs,h1,h2,h3,dv hw hr f.1 h4,fun b hb=>(h5 b hb).imp (fun hl=>⟨hl.1,fun j u hj=>⟨by rw[hw];exact(hl.2 j u hj).1,fun h=>(hl.2 j u hj).2 (hr _ _ h)⟩⟩) id,?_⟩
  rcases f.2 with rfl|rfl
  ·trivial
  exact h6
 | .row xs,v,f,k=>by
  unfold Rep at k ⊢;unfold aR at f
  obtain⟨b,vs,h1,h2,h3⟩:=k
  exact⟨b,vs,h1,dv hw hr f h2,h3.1,fun j u hj=>⟨by rw[hw];exact(h3.2 j u hj).1,fun h=>(h3.2 j u hj).2 (hr _ _ h)⟩⟩
 | .fn g a b,v,f,k=>by unfold Rep at k ⊢;unfold aR at f;obtain⟨fs,cs,h1,h2,h3⟩:=k;exact⟨fs,cs,h1,dv hw hr f.1 h2,dv hw hr f.2 h3⟩
 | .ptr _ _,_,f,_=>by unfold aR at f;exact f.elim
 | .arr _ _ _ _,_,f,_=>by unfold aR at f;exact f.elim
 | .mapv _,_,f,_=>by unfold aR at f;exact f.elim
 | .arw _ _ _,_,f,_=>by unfold aR at f;exact f.elim
 | .smap ks xs,v,f,k=>by
  unfold Rep at k ⊢;unfold aR at f
  obtain⟨b,es,clk,h1,h2,h3,h4,h5⟩:=k
  exact⟨b,es,clk,h1,by rw[hw];exact h2,fun h=>h3 (hr _ _ h),h4,dv hw hr f h5⟩
 | .ifc t x,v,f,k=>by unfold Rep at k ⊢;unfold aR at f;obtain⟨u,h1,h2⟩:=k;exact⟨u,h1,oI hw hr f h2⟩
def dv{c c':Cx}(hw:c'.w=c.w)(hr:∀b off,c'.Wr b off->c.Wr b off):∀{xs:List PV} {vs:List Value},aF xs->au c xs vs->au c' xs vs
 | [],vs,_,k=>by unfold au at k ⊢;exact k
 | x::xs,vs,f,k=>by unfold au at k ⊢;unfold aF at f;obtain⟨u,us,h1,h2,h3⟩:=k;exact⟨u,us,h1,oI hw hr f.1 h2,dv hw hr f.2 h3⟩
end
def DS{α:Type}(g:α->PV)(h:∀x,aR (g x)):∀l:List α,aF (l.map g)
 | []=>by rw[List.map_nil];unfold aF;trivial
 | x::l=>by rw[List.map_cons];unfold aF;exact⟨h x,DS g h l⟩
def BoW(B:Nat->Nat->Prop)(σ:Nat->Option Nat)(H:List Ob):Nat->Nat->Prop:=fun b off=>B b off\/kM σ H b off
def Di{σ:Nat->Option Nat}{w:World}{R:List Ob}(hRg:∀o∈R,∃g u,o=.glob g u)(hRH:∀o∈R,∃k:Nat,H[k]?=some o)(s:Sim B H σ w):Sim (BoW B σ H) R σ w:=by
 have dull:∀{j:Nat} {oj:Ob},R[j]?=some oj->oj.live=true->False:=fun h1 h2=>by
  obtain⟨g,u,rfl⟩:=hRg _ (List.mem_of_getElem? h1);cases h2
 refine⟨fun i j b oi oj h _ l=>(dull h l).elim,fun i b oi h l=>(dull h l).elim,fun b off h=>?_,fun i oi h=>?_⟩
 ·rcases h with h|⟨i,oi,h1,h2,h3⟩
  ·exact s.base b off h
  have hl:oi.live=true:=by cases oi<;>first|rfl|cases h3
  exact(s.holds i oi h1).lt hl h2
 have hm:=List.mem_of_getElem? h
 obtain⟨g,u,rfl⟩:=hRg _ hm
 obtain⟨k,hk⟩:=hRH _ hm
 obtain⟨q1,q2⟩:=s.holds k _ hk
 refine⟨q1,fun q=>?_⟩
 rcases q with q|⟨i,oi,h1,_,h3⟩
 ·exact q2 q
 obtain⟨g,u,rfl⟩:=hRg _ (List.mem_of_getElem? h1);cases h3
def L6{σ:Nat->Option Nat}{w:World}(s:Sim B H σ w):Sim (BoW B σ H) [] σ w:=Di (R:=[]) (by simp) (by simp) s
def yr{R:List Ob}(hRg:∀o∈R,∃g u,o=.glob g u){f:FuncId}{args:List PV}{res:PV}(ha:aF args)(hres:aR res)(h:∀B σ w vs,Sim B R σ w->au (cx B R σ w) args vs->Calls P f vs.toArray w fun e w'=>∃v H' σ',e=.returned v/\Rep (cx B H' σ' w') res v/\eH B R σ w H' σ' w')
  (H:List Ob) (hRH:∀o∈R,∃k:Nat,H[k]?=some o):HC P f args H res H:=by
 intro B σ w vs s hr
 have s0:=Di hRg hRH s
 have hr0:au (cx (BoW B σ H) R σ w) args vs:=dv (c:=cx B H σ w) (c':=cx (BoW B σ H) R σ w) rfl (fun b off h=>by
  rcases h with h|⟨i,oi,h1,_,h3⟩
  ·exact h
  obtain⟨g,u,rfl⟩:=hRg _ (List.mem_of_getElem? h1);cases h3) ha hr
 refine Calls.mono (h (BoW B σ H) σ w vs s0 hr0) ?_
 rintro e w' ⟨v,H',σ',rfl,h1,h2⟩
 have g:bj w w':=⟨h2.os,h2.tape,h2.output,h2.size,fun b hb=>h2.block b hb (fun i oi h hl=>by obtain⟨g,u,rfl⟩:=hRg _ (List.mem_of_getElem? h);cases hl)⟩
 obtain⟨s',st⟩:=gU s g
 exact⟨v,σ,rfl,oI (c:=cx (BoW B σ H) H' σ' w') (c':=cx B H σ w') rfl (fun b off h=>.inl h) hres h1,s',st⟩
def J0{f:FuncId}{args:List PV}{res:PV}(ha:aF args)(hres:aR res)(h:∀B σ w vs,Sim B [] σ w->au (cx B [] σ w) args vs->Calls P f vs.toArray w fun e w'=>∃v H' σ',e=.returned v/\Rep (cx B H' σ' w') res v/\eH B [] σ w H' σ' w'):ab P f args res :=
 fun H=>yr (R:=[]) (by simp) ha hres h H (by simp)
def sZ{c:Cx}:∀{l vs:List Value},au c (l.map .val) vs->vs=l
 | [],vs,h=>by rw[List.map_nil,aG]at h;exact h
 | x::l,[],h=>by rw[List.map_cons]at h;unfold au at h;obtain⟨u,us,h1,_⟩:=h;cases h1
 | x::l,v::vs,h=>by
  rw[List.map_cons,af]at h
  have h1:=h.1
  unfold Rep at h1
  rw[h1,sZ h.2]
def dY{f:FuncId}{args:List Value}{r:PV}{v:Value}(hr:∀c,Rep c r v)(h:∀w,Calls P f args.toArray w fun e w'=>e=.returned v/\bj w w'):ab P f (args.map .val) r:=by
 intro H B σ w vs s hv
 have hvs:=sZ hv
 subst hvs
 refine Calls.mono (h w) ?_
 rintro e w' ⟨rfl,g⟩
 obtain⟨s',st⟩:=gU s g
 exact⟨v,σ,rfl,hr _,s',st⟩
end
open Go.RowKit
def lm(G:List (Nat×TD))(t:Nat):Option TD:=match G with
 | []=>none
 | (u,d)::r=>match Nat.beq u t with
  | true=>some d
  | false=>lm r t
def fh(P:Program)(G:List (Nat×TD)):Bool:=G.all fun q=>ai3 P q.1 q.2
def lO{P:Program}:∀{G:List (Nat×TD)} (_:fh P G=true) {t:Nat} {d:TD} (_:lm G t=some d),ap P t d
 | [],_,t,d,h=>by cases h
 | (u,d')::r,hG,t,d,h=>by
  unfold fh at hG
  simp only[List.all_cons,Bool.and_eq_true]at hG
  unfold lm at h
  split at h
  ·rename_i hu
   rw[Nat.beq_eq]at hu
   injection h with h;subst h;subst hu
   exact Ow hG.1
  exact lO (G:=r) hG.2 h
def nf1:PV->Option PV
 | .val v=>some (.val v)
 | .any=>some .any
 | .agg cs=>some (.agg cs)
 | .tup cs=>some (.tup cs)
 | .ptr i off=>some (.ptr i off)
 | .seq n xs s=>some (.seq n xs s)
 | .row xs=>some (.row xs)
 | .arr i off n cap=>some (.arr i off n cap)
 | .fn f a b=>some (.fn f a b)
 | .mapv i=>some (.mapv i)
 | .arw i off n=>some (.arw i off n)
 | .smap ks xs=>some (.smap ks xs)
 | .ifc t x=>some (.ifc t x)
def at8{x y:PV}(h:nf1 x=some y):y=x:=by cases x<;>(injection h with h;exact h.symm)
def nfl:List PV->Option (List PV)
 | []=>some []
 | x::xs=>match nf1 x with
  | some y=>match nfl xs with
   | some ys=>some (y::ys)
   | none=>none
  | none=>none
def w6:∀{xs ys:List PV},nfl xs=some ys->ys=xs
 | [],ys,h=>by injection h with h;exact h.symm
 | x::xs,ys,h=>by
  simp only[nfl]at h
  split at h
  ·rename_i y hy
   split at h
   ·rename_i zs hz
    injection h with h
    rw[<-h,at8 hy,w6 hz]
   cases h
  cases h
def nf:PV->Option PV
 | .val v=>some (.val v)
 | .any=>some .any
 | .agg cs=>match nfl cs with
  | some ds=>some (.agg ds)
  | none=>none
 | .tup cs=>match nfl cs with
  | some ds=>some (.tup ds)
  | none=>none
 | .ptr i off=>some (.ptr i off)
 | .seq n xs s=>some (.seq n xs s)
 | .row xs=>some (.row xs)
 | .arr i off n cap=>some (.arr i off n cap)
 | .fn f a b=>some (.fn f a b)
 | .mapv i=>some (.mapv i)
 | .arw i off n=>some (.arw i off n)
 | .smap ks xs=>some (.smap ks xs)
 | .ifc t x=>some (.ifc t x)
def aa9{x y:PV}(h:nf x=some y):y=x:=by
  cases x<;>simp only[nf]at h<;>first
    | (injection h with h;exact h.symm)
    | (split at h
       · rename_i ds hd
         injection h with h
         rw[<-h,w6 hd]
       cases h)
abbrev Ev:=Option (PV×List Ob×Prop)
section
variable (G : List (Nat × TD)) (T : Nat -> PV) (H : List Ob)
def Ly:PV->PV->PV->Ev
 | .val (.bool true),x,_=>some (x,H,True)
 | .val (.bool false),_,y=>some (y,H,True)
 | _,_,_=>none
def aa8(op:BinOp)(a b:ByteArray):Ev:=match op with
 | .eql=>some (.val (.bool (nc a b)),H,True)
 | .neq=>some (.val (.bool (!nc a b)),H,True)
 | .add=>some (.val (.string (a++b)),H,a.size+b.size<=9223372036854775807)
 | _=>none
def Qz(op:BinOp)(t:TypeId)(x y:Operand):Ev:=match opv T x,opv T y with
 | .val (.string a),.val (.string b)=>aa8 H op a b
 | .val (.bool a),.val (.bool b)=>match lm G t with
  | some d=>match d.sh with
   | .bool=>match op with
    | .eql=>some (.val (.bool (a==b)),H,True)
    | .neq=>some (.val (.bool (!(a==b))),H,True)
    | _=>none
   | _=>none
  | none=>none
 | .val u,.val v=>match Ky op t x y u v with
  | some r=>some (.val r,H,True)
  | none=>none
 | _,_=>none
def ap3(op:UnOp)(x:Operand):Ev:=match opv T x with
 | .val u=>match po (Op.unary op u)with
  | some r=>some (.val r,H,True)
  | none=>none
 | _=>none
def wY(x:Operand)(i:Nat):Ev:=match opv T x with
 | .tup cs=>match cs[i]? with
  | some r=>some (r,H,True)
  | none=>none
 | _=>none
def Q5(x:Operand):Ev:=match opv T x with
 | .ptr i off=>some (.ptr i off,H,True)
 | .row xs=>some (.row xs,H,True)
 | _=>none
def KS(t:TypeId)(x:Operand):Ev:=match lm G t with
 | some d=>match opv T x with
  | .ptr i off=>match H[i]? with
   | some (.cells xs _)=>match kY d xs off with
    | some r=>some (r,H,True)
    | none=>none
   | _=>none
  | .row xs=>match kY d xs 0 with
   | some r=>some (r,H,True)
   | none=>none
  | _=>none
 | none=>none
def EI(t:TypeId)(x y:Operand):Ev:=match lm G t with
 | some d=>match opv T x with
  | .ptr i off=>match H[i]? with
   | some (.cells xs e)=>match rm (opv T y)with
    | some ys=>match Nat.beq ys.length d.size with
     | true=>match ys.all okC with
      | true=>match Nat.ble (off+ys.length) xs.length with
       | true=>match nfl (cy xs off ys)with
        | some zs=>some (.val undef,H.set i (.cells zs e),True)
        | none=>none
       | false=>none
      | false=>none
     | false=>none
    | none=>none
   | _=>none
  | _=>none
 | none=>none
def sr(s:TypeId)(x:Operand)(k:Nat):Ev:=match lm G s with
 | some d=>match d.sh with
  | .struct fs=>match fs[k]? with
   | some (fo,_,_)=>match opv T x with
    | .ptr i off=>some (.ptr i (off+fo),H,True)
    | .row xs=>some (.row (xs.drop fo),H,True)
    | _=>none
   | none=>none
  | _=>none
 | none=>none
def FB(s:TypeId)(x:Operand)(k:Nat):Ev:=match lm G s with
 | some d=>match d.sh with
  | .struct fs=>match fs[k]? with
   | some (fo,z,g)=>match opv T x with
    | .agg cs=>match zk cs fo z g with
     | some r=>some (r,H,True)
     | none=>none
    | _=>none
   | none=>none
  | _=>none
 | none=>none
def sn(t:TypeId)(x ix:Operand):Ev:=match lm G t with
 | some d=>match d.sh with
  | .slice e=>match lm G e with
   | some de=>match opv T x,opv T ix with
    | .seq n xs _,.val (.int _ i)=>some (.row (xs.drop (i.toNat*de.size)),H,0<=i/\i<n)
    | .arr id off n _,.val (.int _ i)=>some (.ptr id (off+i.toNat*de.size),H,0<=i/\i<n)
    | .arw id off n,.val (.int _ i)=>some (.ptr id (off+i.toNat*de.size),H,0<=i/\i<n)
    | _,_=>none
   | none=>none
  | .array n e=>match lm G e with
   | some de=>match opv T x,opv T ix with
    | .ptr id off,.val (.int _ i)=>some (.ptr id (off+i.toNat*de.size),H,0<=i/\i<n)
    | .row xs,.val (.int _ i)=>some (.row (xs.drop (i.toNat*de.size)),H,0<=i/\i<n)
    | _,_=>none
   | none=>none
  | _=>none
 | none=>none
def EY(t:TypeId)(x ix:Operand):Ev:=match lm G t with
 | some d=>match d.sh with
  | .str=>match opv T x,opv T ix with
   | .val (.string s),.val (.int _ i)=>some (.val (.int .u8 (uN s i.toNat)),H,0<=i/\i<s.size)
   | _,_=>none
  | .array n e=>match lm G e with
   | some de=>match de.agg with
    | false=>match opv T x,opv T ix with
     | .agg cs,.val (.int _ i)=>match cs[i.toNat*de.size]? with
      | some r=>some (r,H,0<=i/\i<n)
      | none=>none
     | _,_=>none
    | true=>none
   | none=>none
  | _=>none
 | none=>none
def SZ(t:TypeId)(x:Operand):Ev:=match rm (opv T x)with
 | some xs=>match nfl xs with
  | some zs=>some (.ptr H.length 0,H++[.cells zs t],True)
  | none=>none
 | none=>none
def EK(t:TypeId):Ev:=match lm G t with
 | some d=>some (.ptr H.length 0,H++[.cells d.zero t],True)
 | none=>none
def Ga(t:TypeId)(parts:Array (Nat×Operand)):Ev:=match lm G t with
 | some d=>match d.sh with
  | .struct fs=>match qz (fun i=>match fs[i]? with|some (of,z,_)=>some (of,z)|none=>none) T parts.toList d.zero with
   | some out=>some (.agg out,H,True)
   | none=>none
  | .array _ e=>match lm G e with
   | some de=>match qz (fun i=>some (i*de.size,de.size)) T parts.toList d.zero with
    | some out=>some (.agg out,H,True)
    | none=>none
   | none=>none
  | _=>none
 | none=>none
def rC(t:TypeId)(n:Nat)(parts:Array (Nat×Operand)):Ev:=match lm G t with
 | some d=>match d.sh with
  | .slice e=>match lm G e with
   | some de=>match Nat.ble (n*de.size) 16777216 with
    | true=>match qz (fun i=>some (i*de.size,de.size)) T parts.toList (fP n de)with
     | some out=>some (.seq n out .clip,H,True)
     | none=>none
    | false=>none
   | none=>none
  | _=>none
 | none=>none
def bnd(dflt:Nat):Option Operand->Option (Nat×Prop)
 | none=>some (dflt,True)
 | some z=>match opv T z with
  | .val (.int _ i)=>some (i.toNat,0<=i)
  | _=>none
def qE{T:Nat->PV}{dflt v:Nat}{y:Option Operand}{p:Prop}(h:bnd T dflt y=some (v,p))(hp:p):lJ T y dflt v:=by
 unfold bnd at h
 split at h
 ·cases h;rfl
 split at h
 ·rename_i k i hz
  cases h
  exact⟨_,_,hz,hp,rfl⟩
 cases h
def EZ(t:TypeId)(x:Operand)(lo hi mx:Option Operand):Ev:=match lm G t with
 | some d=>match d.sh with
  | .slice e=>match lm G e with
   | some de=>match opv T x with
    | .seq n xs _=>match bnd T 0 lo,bnd T n hi,mx with
     | some (l,p),some (h,q),none=>some (.seq (h-l) ((xs.drop (l*de.size)).take ((h-l)*de.size)) .any,H,p/\q/\l<=h/\h<=n)
     | some (l,p),some (h,q),some z=>match hi,bnd T n (some z)with
      | some _,some (m,r)=>some (.seq (h-l) ((xs.drop (l*de.size)).take ((h-l)*de.size)) .clip,H,p/\q/\r/\m=h/\l<=h/\h<=n)
      | _,_=>none
     | _,_,_=>none
    | .arr id off n cap=>match bnd T 0 lo,bnd T n hi,mx with
     | some (l,p),some (h,q),none=>some (.arr id (if cap=l then off else off+l*de.size) (h-l) (cap-l),H,p/\q/\l<=h/\h<=n/\n<=cap)
     | _,_,_=>none
    | _=>none
   | none=>none
  | .str=>match opv T x with
   | .val (.string s)=>match bnd T 0 lo,bnd T s.size hi,mx with
    | some (l,p),some (h,q),none=>some (.val (.string (s.extract l h)),H,p/\q/\l<=h/\h<=s.size)
    | _,_,_=>none
   | _=>none
  | .array n e=>match lm G e with
   | some de=>match opv T x,lo,hi,mx with
    | .ptr id off,none,none,none=>some (.arr id off n n,H,True)
    | _,_,_,_=>none
   | none=>none
  | _=>none
 | none=>none
def xu(src dst:TypeId)(x:Operand):Ev:=match lm G src,lm G dst with
 | some ds,some dd=>match dd.sh,opv T x with
  | .int k,.val (.int _ i)=>some (.val (.int k (k.wrap i)),H,True)
  | .str,.val (.string s)=>some (.val (.string s),H,True)
  | .slice e,.val (.string s)=>match lm G e with
   | some de=>match ds.sh,de.sh with
    | .str,.int .u8=>some (.seq s.size (s.data.toList.map fun b=>kH b.toNat) .any,H,True)
    | _,_=>none
   | none=>none
  | _,_=>none
 | _,_=>none
def LF(t:TypeId)(x y:Operand):Ev:=match lm G t with
 | some d=>match d.sh with
  | .slice e=>match lm G e with
   | some de=>match opv T x,opv T y with
    | .val (.int _ n),.val (.int _ m)=>some (.arr H.length 0 n.toNat n.toNat,H++[.cells (fP n.toNat de) e],m=n/\0<=n/\(de.bytes:Int)*n<=281474976710656/\n<=9223372036854775807)
    | _,_=>none
   | none=>none
  | _=>none
 | none=>none
def SJ(ts:List TypeId)(xs:List Operand):Ev:=match ts,xs with
 | [t],[x]=>match lm G t with
  | some d=>match d.sh,opv T x with
   | .slice _,.seq n _ _=>some (.val (.int .i64 n),H,True)
   | .slice _,.arr _ _ n _=>some (.val (.int .i64 n),H,True)
   | .slice _,.arw _ _ n=>some (.val (.int .i64 n),H,True)
   | .str,.val (.string s)=>some (.val (.int .i64 s.size),H,True)
   | _,_=>none
  | none=>none
 | _,_=>none
def vy(mx:Bool)(ats:Array TypeId)(ty:TypeId)(xs:List Operand):Ev:=match xs with
 | [x,y]=>match opv T x,opv T y with
  | .val u,.val v=>match (match mx with|true=>po (Builtin.max_ ats ty #[u,v])|false=>po (Builtin.min_ ats ty #[u,v]))with
   | some r=>some (.val r,H,True)
   | none=>none
  | _,_=>none
 | _=>none
end
section
variable {P : Program} {B : Nat -> Nat -> Prop} {o : Oper} {G : List (Nat × TD)} {T : Nat -> PV} {H : List Ob} {x : PV} {H' : List Ob} {p : Prop}
def N5{c a b:Operand}(ho:o.op=.pick c a b)(h:Ly H (opv T c) (opv T a) (opv T b)=some (x,H',p)):bM P B o T H x H':=by
 unfold Ly at h
 split at h
 ·rename_i hc;cases h;exact CF (b:=true) ho hc
 ·rename_i hc;cases h;exact CF (b:=false) ho hc
 cases h
def TX(hG:fh P G=true){op:BinOp}{t yt:TypeId}{a b:Operand}(ho:o.op=.binOp op t a b yt)(h:Qz G T H op t a b=some (x,H',p))(hp:p):bM P B o T H x H':=by
 unfold Qz at h
 split at h
 ·rename_i u v hu hv
  unfold aa8 at h
  split at h
  ·cases h;exact Fs ho hu hv
  ·cases h;exact Fr ho hu hv
  ·cases h;exact Fz ho hu hv hp
  cases h
 ·rename_i u v hu hv
  split at h
  ·rename_i d hd
   split at h
   ·rename_i hs
    split at h
    ·cases h;exact Cg (lO hG hd) hs ho hu hv
    ·cases h;exact Ch (lO hG hd) hs ho hu hv
    cases h
   cases h
  cases h
 ·rename_i u v _ _ hu hv
  split at h
  ·rename_i r hr;cases h;exact Ah ho hu hv hr
  cases h
 cases h
def Xt{op:UnOp}{t:TypeId}{a:Operand}(ho:o.op=.unOp op t a)(h:ap3 T H op a=some (x,H',p)):bM P B o T H x H':=by
 unfold ap3 at h
 split at h
 ·rename_i u hu
  split at h
  ·rename_i r hr;cases h;exact XY ho hu hr
  cases h
 cases h
def FF{a:Operand}{i:Nat}(ho:o.op=.extract a i)(h:wY T H a i=some (x,H',p)):bM P B o T H x H':=by
 unfold wY at h
 split at h
 ·rename_i cs hc
  split at h
  ·rename_i r hr;cases h;exact EP ho hc hr
  cases h
 cases h
def Vr{a:Operand}(ho:o.op=.nilCheck a)(h:Q5 T H a=some (x,H',p)):bM P B o T H x H':=by
 unfold Q5 at h
 split at h
 ·rename_i i off hc;cases h;exact vP ho hc
 ·rename_i xs hc;cases h;exact vX ho hc
 cases h
def P9(hG:fh P G=true){t:TypeId}{a:Operand}(ho:o.op=.load t a)(h:KS G T H t a=some (x,H',p)):bM P B o T H x H':=by
 unfold KS at h
 split at h
 ·rename_i d hd
  split at h
  ·rename_i i off hx
   split at h
   ·rename_i xs e hi
    split at h
    ·rename_i r hr;cases h;exact cq (lO hG hd) ho hx hi hr
    cases h
   cases h
  ·rename_i xs hx
   split at h
   ·rename_i r hr;cases h;exact B6 (lO hG hd) ho hx hr
   cases h
  cases h
 cases h
def Ka(hG:fh P G=true){t:TypeId}{a b:Operand}(ho:o.op=.store t a b)(h:EI G T H t a b=some (x,H',p)):bM P B o T H x H':=by
 unfold EI at h
 split at h
 ·rename_i d hd
  split at h
  ·rename_i i off hx
   split at h
   ·rename_i xs e hi
    split at h
    ·rename_i ys hy
     split at h
     ·rename_i hl
      split at h
      ·rename_i hok
       split at h
       ·rename_i hle
        split at h
        ·rename_i zs hz
         cases h
         rw[w6 hz]
         exact bP (lO hG hd) ho hx hi hy hl hok hle
        cases h
       cases h
      cases h
     cases h
    cases h
   cases h
  cases h
 cases h
def Bt(hG:fh P G=true){s:TypeId}{a:Operand}{k:Nat}(ho:o.op=.fieldAddr s a k)(h:sr G T H s a k=some (x,H',p)):bM P B o T H x H':=by
 unfold sr at h
 split at h
 ·rename_i d hd
  split at h
  ·rename_i fs hs
   split at h
   ·rename_i fo z g hk
    split at h
    ·rename_i i off hx;cases h;exact uM (lO hG hd) ho hs hk hx
    ·rename_i xs hx;cases h;exact uq (lO hG hd) ho hs hk hx
    cases h
   cases h
  cases h
 cases h
def LJ(hG:fh P G=true){s:TypeId}{a:Operand}{k:Nat}(ho:o.op=.field s a k)(h:FB G T H s a k=some (x,H',p)):bM P B o T H x H':=by
 unfold FB at h
 split at h
 ·rename_i d hd
  split at h
  ·rename_i fs hs
   split at h
   ·rename_i fo z g hk
    split at h
    ·rename_i cs hx
     split at h
     ·rename_i r hr;cases h;exact KH (lO hG hd) ho hs hk hx hr
     cases h
    cases h
   cases h
  cases h
 cases h
def Br(hG:fh P G=true){t:TypeId}{a b:Operand}(ho:o.op=.indexAddr t a b)(h:sn G T H t a b=some (x,H',p))(hp:p):bM P B o T H x H':=by
 unfold sn at h
 split at h
 ·rename_i d hd
  split at h
  ·rename_i e hs
   split at h
   ·rename_i de he
    split at h
    ·rename_i hx hi;cases h;exact ue (lO hG hd) hs (lO hG he) ho hx hi hp
    ·rename_i hx hi;cases h;exact uj (lO hG hd) hs (lO hG he) ho hx hi hp
    ·rename_i hx hi;cases h;exact uX (lO hG hd) hs (lO hG he) ho hx hi hp
    cases h
   cases h
  ·rename_i n e hs
   split at h
   ·rename_i de he
    split at h
    ·rename_i hx hi;cases h;exact uG (lO hG hd) hs (lO hG he) ho hx hi hp
    ·rename_i hx hi;cases h;exact t8 (lO hG hd) hs (lO hG he) ho hx hi hp
    cases h
   cases h
  cases h
 cases h
def Ll(hG:fh P G=true){t:TypeId}{a b:Operand}(ho:o.op=.index t a b)(h:EY G T H t a b=some (x,H',p))(hp:p):bM P B o T H x H':=by
 unfold EY at h
 split at h
 ·rename_i d hd
  split at h
  ·rename_i hs
   split at h
   ·rename_i hx hi;cases h;exact zN (lO hG hd) hs ho hx hi hp
   cases h
  ·rename_i n e hs
   split at h
   ·rename_i de he
    split at h
    ·rename_i ha
     split at h
     ·rename_i hx hi
      split at h
      ·rename_i r hr;cases h;exact Ay (lO hG hd) hs (lO hG he) ha ho hx hi hp hr
      cases h
     cases h
    cases h
   cases h
  cases h
 cases h
def US{t:TypeId}{a:Operand}(ho:o.op=.box t a)(h:SZ T H t a=some (x,H',p)):bM P B o T H x H':=by
 unfold SZ at h
 split at h
 ·rename_i xs hx
  split at h
  ·rename_i zs hz
   cases h
   rw[w6 hz]
   exact VQ ho hx
  cases h
 cases h
def JT(hG:fh P G=true){t:TypeId}(ho:o.op=.alloc t)(h:EK G H t=some (x,H',p)):bM P B o T H x H':=by
 unfold EK at h
 split at h
 ·rename_i d hd;cases h;exact Ke (lO hG hd) ho
 cases h
def KK(hG:fh P G=true){t:TypeId}{parts:Array (Nat×Operand)}(ho:o.op=.build t parts)(h:Ga G T H t parts=some (x,H',p)):bM P B o T H x H':=by
 unfold Ga at h
 split at h
 ·rename_i d hd
  split at h
  ·rename_i fs hs
   split at h
   ·rename_i out hf;cases h;exact o7 (lO hG hd) hs ho hf
   cases h
  ·rename_i n e hs
   split at h
   ·rename_i de he
    split at h
    ·rename_i out hf;cases h;exact xf (lO hG hd) hs (lO hG he) ho hf
    cases h
   cases h
  cases h
 cases h
def yA(hG:fh P G=true){t:TypeId}{n:Nat}{parts:Array (Nat×Operand)}(ho:o.op=.buildSlice t n parts)(h:rC G T H t n parts=some (x,H',p)):bM P B o T H x H':=by
 unfold rC at h
 split at h
 ·rename_i d hd
  split at h
  ·rename_i e hs
   split at h
   ·rename_i de he
    split at h
    ·rename_i hn
     split at h
     ·rename_i out hf;cases h;exact yG (lO hG hd) hs (lO hG he) ho hn hf
     cases h
    cases h
   cases h
  cases h
 cases h
def Kr(hG:fh P G=true){t:TypeId}{a:Operand}{lo hi mx:Option Operand}(ho:o.op=.slice t a lo hi mx)(h:EZ G T H t a lo hi mx=some (x,H',p))(hp:p):bM P B o T H x H':=by
 unfold EZ at h
 split at h
 ·rename_i d hd
  split at h
  ·rename_i e hs
   split at h
   ·rename_i de he
    split at h
    ·rename_i n xs s hx
     split at h
     ·rename_i l p1 h1 q1 e1 e2
      cases h
      obtain⟨p1,q1,p2,p3⟩:=hp
      exact AF (lO hG hd) hs (lO hG he) ho hx (qE e1 p1) (qE e2 q1) rfl p2 p3
     ·rename_i l p1 h1 q1 z e1 e2
      split at h
      ·rename_i y m r1 e3
       cases h
       obtain⟨p1,q1,r1,p0,p2,p3⟩:=hp
       subst p0
       exact yH (lO hG hd) hs (lO hG he) ho hx (qE e1 p1) (qE e2 q1) (qE e3 r1) p2 p3
      cases h
     cases h
    ·rename_i id off n cap hx
     split at h
     ·rename_i l p1 h1 q1 e1 e2
      cases h
      obtain⟨p1,q1,p2,p3,p4⟩:=hp
      exact Bc (lO hG hd) hs (lO hG he) ho hx (qE e1 p1) (qE e2 q1) p2 p3 p4
     cases h
    cases h
   cases h
  ·rename_i hs
   split at h
   ·rename_i s hx
    split at h
    ·rename_i l p1 h1 q1 e1 e2
     cases h
     obtain⟨p1,q1,p2,p3⟩:=hp
     exact zw (lO hG hd) hs ho hx (qE e1 p1) (qE e2 q1) p2 p3
    cases h
   cases h
  ·rename_i n e hs
   split at h
   ·rename_i de he
    split at h
    ·rename_i id off hx
     cases h
     exact BC (lO hG hd) hs (lO hG he) ho hx
    cases h
   cases h
  cases h
 cases h
def E0(hG:fh P G=true){src dst:TypeId}{a:Operand}(ho:o.op=.convert src dst a)(h:xu G T H src dst a=some (x,H',p)):bM P B o T H x H':=by
 unfold xu at h
 split at h
 ·rename_i ds dd hs hd
  split at h
  ·rename_i hk hx;cases h;exact xk (lO hG hs) (lO hG hd) hk ho hx
  ·rename_i hk hx;cases h;exact xl (lO hG hs) (lO hG hd) hk ho hx
  ·rename_i e s hk hx
   split at h
   ·rename_i de he
    split at h
    ·rename_i h1 h2;cases h;exact sU (lO hG hs) h1 (lO hG hd) hk (lO hG he) h2 ho hx
    cases h
   cases h
  cases h
 cases h
def Oj(hG:fh P G=true){t:TypeId}{a b:Operand}(ho:o.op=.makeSlice t a b)(h:LF G T H t a b=some (x,H',p))(hp:p):bM P B o T H x H':=by
 unfold LF at h
 split at h
 ·rename_i d hd
  split at h
  ·rename_i e hs
   split at h
   ·rename_i de he
    split at h
    ·rename_i hx hy
     cases h
     obtain⟨rfl,p1,p2,p3⟩:=hp
     exact AM (lO hG hd) hs (lO hG he) ho hx hy p1 p2 p3
    cases h
   cases h
  cases h
 cases h
def Ua(hG:fh P G=true){args:Array Operand}{ats:Array TypeId}(ho:o.op=.call {callee:=.builtin .len,args:=args,argTypes:=ats})(h:SJ G T H ats.toList args.toList=some (x,H',p)):bM P B o T H x H':=by
 unfold SJ at h
 split at h
 ·rename_i t a ht ha
  obtain rfl:ats=#[t]:=by rw[<-Array.toArray_toList (xs:=ats),ht]
  obtain rfl:args=#[a]:=by rw[<-Array.toArray_toList (xs:=args),ha]
  split at h
  ·rename_i d hd
   split at h
   ·rename_i hs hx;cases h;exact Gb (lO hG hd) hs ho hx
   ·rename_i hs hx;cases h;exact E3 (lO hG hd) hs ho hx
   ·rename_i hs hx;cases h;exact FG (lO hG hd) hs ho hx
   ·rename_i hs hx;cases h;exact F8 (lO hG hd) hs ho hx
   cases h
  cases h
 cases h
def xP{mx:Bool}{args:Array Operand}{ats:Array TypeId}(ho:o.op=.call {callee:=.builtin (match mx with|true=>.max|false=>.min),args:=args,argTypes:=ats})(h:vy T H mx ats o.type args.toList=some (x,H',p)):bM P B o T H x H':=by
 unfold vy at h
 split at h
 ·rename_i a b ha
  obtain rfl:args=#[a,b]:=by rw[<-Array.toArray_toList (xs:=args),ha]
  split at h
  ·rename_i u v hx hy
   split at h
   ·rename_i r hr
    cases h
    cases mx with
    | true=>exact VK ho hx hy hr
    | false=>exact SQ ho hx hy hr
   cases h
  cases h
 cases h
def QV(G:List (Nat×TD))(T:Nat->PV)(H:List Ob)(ty:TypeId)(c:Call):Ev:=match c.callee with
 | .builtin .len=>SJ G T H c.argTypes.toList c.args.toList
 | .builtin .max=>vy T H true c.argTypes ty c.args.toList
 | .builtin .min=>vy T H false c.argTypes ty c.args.toList
 | _=>none
def Qe(G:List (Nat×TD))(T:Nat->PV)(H:List Ob)(ty:TypeId):Op->Ev
 | .move x=>some (opv T x,H,True)
 | .assign x=>some (opv T x,H,True)
 | .pick c a b=>Ly H (opv T c) (opv T a) (opv T b)
 | .binOp op t x y _=>Qz G T H op t x y
 | .unOp op _ x=>ap3 T H op x
 | .extract x i=>wY T H x i
 | .nilCheck x=>Q5 T H x
 | .load t x=>KS G T H t x
 | .store t x y=>EI G T H t x y
 | .fieldAddr s x k=>sr G T H s x k
 | .field s x k=>FB G T H s x k
 | .indexAddr t x y=>sn G T H t x y
 | .index t x y=>EY G T H t x y
 | .box t x=>SZ T H t x
 | .alloc t=>EK G H t
 | .build t ps=>Ga G T H t ps
 | .buildSlice t n ps=>rC G T H t n ps
 | .makeFunc f a b=>some (.fn f (a.toList.map (opv T)) (b.toList.map (opv T)),H,True)
 | .slice t x l h m=>EZ G T H t x l h m
 | .convert s d x=>xu G T H s d x
 | .makeSlice t x y=>LF G T H t x y
 | .call c=>QV G T H ty c
 | _=>none
def nk(hG:fh P G=true){op:Op}(ho:o.op=op)(h:Qe G T H o.type op=some (x,H',p))(hp:p):bM P B o T H x H':=by
 cases op<;>simp only[Qe]at h
 case move a=>cases h;exact Oa ho
 case assign a=>cases h;exact I4 ho
 case pick c a b=>exact N5 ho h
 case binOp op t a b yt=>exact TX hG ho h hp
 case unOp op t a=>exact Xt ho h
 case extract a i=>exact FF ho h
 case nilCheck a=>exact Vr ho h
 case load t a=>exact P9 hG ho h
 case store t a b=>exact Ka hG ho h
 case fieldAddr s a k=>exact Bt hG ho h
 case field s a k=>exact LJ hG ho h
 case indexAddr t a b=>exact Br hG ho h hp
 case index t a b=>exact Ll hG ho h hp
 case box t a=>exact US ho h
 case alloc t=>exact JT hG ho h
 case build t ps=>exact KK hG ho h
 case buildSlice t n ps=>exact yA hG ho h
 case makeFunc f a b=>cases h;exact Cn ho
 case slice t a l hh m=>exact Kr hG ho h hp
 case convert s d a=>exact E0 hG ho h
 case makeSlice t a b=>exact Oj hG ho h hp
 case call c =>
  obtain⟨callee,args,ats⟩:=c
  unfold QV at h
  split at h
  ·rename_i hc;simp only at hc;subst hc;exact Ua hG ho h
  ·rename_i hc;simp only at hc;subst hc;exact xP (mx:=true) ho h
  ·rename_i hc;simp only at hc;subst hc;exact xP (mx:=false) ho h
  cases h
 all_goals cases h
end
def nfH:List Ob->Option (List Ob)
 | []=>some []
 | x::xs=>match nfH xs with
  | some ys=>some (x::ys)
  | none=>none
def sK:∀{xs ys:List Ob},nfH xs=some ys->ys=xs
 | [],ys,h=>by injection h with h;exact h.symm
 | x::xs,ys,h=>by
  simp only[nfH]at h
  split at h
  ·rename_i zs hz
   injection h with h
   rw[<-h,sK hz]
  cases h
def evN(G:List (Nat×TD))(T:Nat->PV)(H:List Ob)(ty:TypeId)(op:Op):Ev:=match Qe G T H ty op with
 | some (x,H',p)=>match nf x with
  | some y=>match nfH H' with
   | some H2=>some (y,H2,p)
   | none=>none
  | none=>none
 | none=>none
def evS(G:List (Nat×TD))(T:Nat->PV)(H:List Ob)(ty:TypeId)(op:Op):Ev:=match Qe G T H ty op with
 | some (x,H',p)=>match nf x with
  | some y=>some (y,H',p)
  | none=>none
 | none=>none
section
variable {P : Program} {B : Nat -> Nat -> Prop} {o : Oper} {G : List (Nat × TD)} {T : Nat -> PV} {H : List Ob} {x : PV} {H' : List Ob} {p : Prop}
def Aj{ty:TypeId}{op:Op}(h:evN G T H ty op=some (x,H',p)):Qe G T H ty op=some (x,H',p):=by
 unfold evN at h
 split at h
 ·rename_i y H1 q he
  split at h
  ·rename_i z hz
   split at h
   ·rename_i H2 hH
    cases h
    rw[he,aa9 hz,sK hH]
   cases h
  cases h
 cases h
def EJ{ty:TypeId}{op:Op}(h:evS G T H ty op=some (x,H',p)):Qe G T H ty op=some (x,H',p):=by
 unfold evS at h
 split at h
 ·rename_i y H1 q he
  split at h
  ·rename_i z hz
   cases h
   rw[he,aa9 hz]
  cases h
 cases h
variable {n : Nat} {all : Array Oper} {l : List Oper} {K : (Nat -> PV) -> List Ob -> Prop}
def We[DL](hG:fh P G=true)(hw:bf all T o=some true){d:Option Tmp}(hd:nfD n o.dst=some d)(h:evN G T H o.type o.op=some (x,H',p))(hp:p)(k:WO P B n all l (d8 d x T) H' K):WO P B n all (o::l) T H K :=
 Wd hd hw (nk hG rfl (Aj h) hp) k
end
open Go.RowKit
section
variable {P : Program} {B : Nat -> Nat -> Prop} {n : Nat} {H : List Ob} {md : Region.Mode} {ops : Array Oper}
def Qu(i j:Nat)(x y:PV)(T:Nat->PV)(h:i≠j):upd i x (upd j y T)=upd j y (upd i x T):=by
 funext k
 by_cases h1:k=i
 ·subst h1;rw[fJ,dG _ _ _ _ h,fJ]
 rw[dG _ _ _ _ h1]
 by_cases h2:k=j
 ·subst h2;rw[fJ,fJ]
 rw[dG _ _ _ _ h2,dG _ _ _ _ h2,dG _ _ _ _ h1]
def Ol{a b:Option Tmp}(x y:PV)(T:Nat->PV)(h:∀d,a=some d->b≠some d):d8 a x (d8 b y T)=d8 b y (d8 a x T):=by
 cases a with
 | none=>rfl
 | some i =>
  cases b with
  | none=>rfl
  | some j=>exact Qu i j x y T (fun e=>h i rfl (by rw[e]))
def CR{d:Option Tmp}{x:PV}{T:Nat->PV}{t:Nat}(h:∀i,d=some i->t≠i):d8 d x T t=T t:=by
 cases d with
 | none=>rfl
 | some i=>exact dG _ _ _ _ (h i rfl)
def Yld(P:Program)(B:Nat->Nat->Prop)(ops:Array Oper)(H:List Ob)(o:Oper)(T:Nat->PV)(x:PV):Prop :=
 (bf ops T o=some true/\(bM P B o T H x H\/ly P B o T H x H))\/(bf ops T o=some false/\x=.val undef)
def Dq{T T':Nat->PV}{y:Operand}(h:∀t,y=.tmp t->T' t=T t):opv T' y=opv T y:=by
 cases y with
 | tmp t=>exact h t rfl
 | const v=>rfl
 | global g=>rfl
 | func f=>rfl
def HJ{o:Oper}{t:Nat}(h:Operand.tmp t∈o.op.operands.toList):t∈o.looksAt ops:=by
 unfold Oper.looksAt
 rw[List.mem_append]
 exact .inl (List.mem_filterMap.2 ⟨_,h,rfl⟩)
def xN{o:Oper}{g d:Nat}{b:Bool}(h:o.guard=some (g,b))(hd:(ops[g]?).bind (·.dst)=some d):d∈o.looksAt ops:=by
 unfold Oper.looksAt
 rw[List.mem_append]
 refine .inr ?_
 rw[h]
 simp[hd]
def Yld.congr{o:Oper}{T T':Nat->PV}{x:PV}(h:∀t∈o.looksAt ops,T' t=T t)(y:Yld P B ops H o T x):Yld P B ops H o T' x:=by
 have hw:bf ops T' o=bf ops T o:=by
  unfold bf
  cases hg:o.guard with
  | none=>rfl
  | some q =>
   obtain⟨g,b⟩:=q
   simp only
   cases hd:(ops[g]?).bind (·.dst)with
   | none=>rfl
   | some d=>simp only;rw[h d (xN hg hd)]
 have ho:∀z∈o.op.operands.toList,opv T' z=opv T z:=fun z hz=>Dq fun t ht=>h t (HJ (by rw[<-ht];exact hz))
 rcases y with ⟨h1,h2|h2⟩|⟨h1,h2⟩
 ·exact .inl ⟨by rw[hw];exact h1,.inl fun σ w a s k=>h2 σ w a s (fun z hz=>by rw[<-ho z hz];exact k z hz)⟩
 ·exact .inl ⟨by rw[hw];exact h1,.inr fun σ w a s k=>h2 σ w a s (fun z hz=>by rw[<-ho z hz];exact k z hz)⟩
 exact .inr ⟨by rw[hw];exact h1,h2⟩
def He{x y:Oper}(h:x.apart ops y=true):(∀t∈y.looksAt ops,∀i,x.dst=some i->t≠i)/\(∀t∈x.looksAt ops,∀i,y.dst=some i->t≠i)/\(∀d,x.dst=some d->y.dst≠some d):=by
 obtain⟨h1,h2,h3⟩:=Oper.apart_spec h
 exact⟨fun t ht i hi e=>h1 i hi (e▸ht),fun t ht i hi e=>h3 i hi (e▸ht),h2⟩
variable {T : Nat -> PV} {Q : Exit -> (Nat -> PV) -> List Ob -> Prop}
variable {o : Oper} {l : List Oper} {K : (Nat -> PV) -> Prop} {x : PV} {G : List (Nat × TD)} {p : Prop}
def co{t tx e:TypeId}{d de dx:TD}{a b:Operand}{k m:Nat}{xs ys:List PV}(f:ap P t d)(hd:d.sh=.slice e)(fe:ap P e de)(fx:ap P tx dx)
  (ho:o.op=.call {callee:=.builtin .append,args:=#[a,b],argTypes:=#[t,tx]}) (hx:opv T a=.seq k xs .clip) (ht:GJ dx (opv T b)) (hy:CC de.size (opv T b) m ys) (hl:xs.length=k*de.size)
  (hb:(k+m)*de.bytes<=140737488355328) (h63:k+m<=9223372036854775807) (hf:aF (xs++ys)) :
  bM P B o T H (.seq (k+m) (xs++ys) .any) H:=by
 intro σ w ac s h
 have k1:=h a (by simp[ho,Op.operands,Call.operands])
 have k2:=h b (by simp[ho,Op.operands,Call.operands])
 rw[hx]at k1
 obtain⟨ad,cap,vs,hv,hle,hnil,hrl,hlies,hk⟩:=gJ k1
 have hcap:cap=k:=hk
 subst hcap
 obtain⟨news,hnr,hsrc⟩:=Fv fx ht hy k2
 obtain⟨v',w',σ',h1,h2,h3,h4,h5⟩:=sg (ty:=o.type) s f hd fe hle hnil hrl hlies hl hnr hsrc hb h63 (by omega)
 obtain⟨s',st⟩:=gU s h5
 refine⟨v',w',σ,.inl (nU ho hv h1),?_,s',st⟩
 refine oI (c:=cx B (H++[.free ((cap+m)*de.size)]) σ' w') (c':=cx B H σ w') rfl (fun b off hw=>?_) (by unfold aR;exact⟨hf,.inl rfl⟩) (oU _ _ _ _ _ h2)
 rcases hw with hw|⟨i,oi,h6,h7,h8⟩
 ·exact .inl hw
 have hlt:=cM h6
 exact .inr ⟨i,oi,by rw[List.getElem?_append_left hlt];exact h6,(h4.le.σ i hlt).trans h7,h8⟩
end
open Go.RowKit
def wk1:PV->PV
 | .seq n xs _=>.seq n xs .any
 | x=>x
def wk:PV->PV
 | .seq n xs _=>.seq n xs .any
 | .agg cs=>.agg (cs.map wk1)
 | x=>x
def Ex(x:PV):Imp x (wk1 x):=by cases x<;>first|exact oU _ _ _|exact Imp.refl _
def qc{g:PV->PV}(h:∀x,Imp x (g x)):∀l:List PV,r8 l (l.map g)
 | []=>trivial
 | x::l=>⟨h x,qc h l⟩
def Ts(x:PV):Imp x (wk x):=by
 cases x<;>first|exact oU _ _ _|exact L3 (qc Ex _)|exact Imp.refl _
section
variable {P : Program} {B : Nat -> Nat -> Prop} {o : Oper} {T : Nat -> PV} {H : List Ob} {n : Nat} {all : Array Oper} {K : (Nat -> PV) -> List Ob -> Prop} {Q : Exit -> (Nat -> PV) -> List Ob -> Prop}
def UP{f:FuncId}{args args':List PV}{res:PV}{H':List Ob}(h:r8 args args')(k:HC P f args' H res H'):HC P f args H res H' :=
 fun B σ w vs s hr=>k B σ w vs s (pr h hr)
def dC {f : FuncId} {fn : Func} {args : Array Operand} {ats : Array TypeId} {res : PV} {H' : List Ob} (ho : o.op = .call { callee := .value (.func f), args := args, argTypes := ats }) (hf : P.funcs[f]? = some fn) (hb : fn.body.isNone = false) (hn : (fn.name == "runtime.NumGoroutine") = false)
  (h:HC P f (args.toList.map fun y=>wk (opv T y)) H res H'):ly P B o T H res H' :=
 Ko ho hf hb hn (UP (by
  have:=qc Ts (args.toList.map (opv T))
  rw[List.map_map]at this
  exact this) h)
def ey {f : FuncId} {fn : Func} {x : Operand} {first cap : List PV} {args : Array Operand} {ats : Array TypeId} {res : PV} {H' : List Ob} (ho : o.op = .call { callee := .value x, args := args, argTypes := ats }) (hx : opv T x = .fn (.func f) first cap) (hf : P.funcs[f]? = some fn) (hb : fn.body.isNone = false) (hn : (fn.name == "runtime.NumGoroutine") = false)
  (h:HC P f (first++(args.toList.map fun y=>wk (opv T y))++cap) H res H'):ly P B o T H res H' :=
 GY ho hx hf hb hn (UP (by
  have h1:=qc Ts (args.toList.map (opv T))
  rw[List.map_map]at h1
  have app:∀(a b c d:List PV),r8 a b->r8 c d->r8 (a++c) (b++d):=by
   intro a
   induction a with
   | nil=>intro b c d h1 h2;cases b with
    | nil=>exact h2
    | cons y b=>exact h1.elim
   | cons x a ih=>intro b c d h1 h2;cases b with
    | nil=>exact h1.elim
    | cons y b=>exact⟨h1.1,ih b c d h1.2 h2⟩
  exact app _ _ _ _ (app _ _ _ _ (pV first) h1) (pV cap)) h)
def Wm[DL]{l:List Oper}(d:Nat){x y:PV}(hT:T d=x)(hxy:Imp x y)(h1:WO P B n all l (upd d y T) H K):WO P B n all l T H K:=by
 intro hall σ w a g
 refine h1 hall σ w a ⟨g.sim,fun i=>?_,g.size,g.defers⟩
 by_cases hi:i=d
 ·subst hi;rw[fJ];have:=g.rep i;rw[hT]at this;exact hxy _ _ this
 rw[dG _ _ _ _ hi];exact g.rep i
def jQ[DL]{l:List Oper}{H':List Ob}(hH:H'=H)(h1:WO P B n all l T H' K):WO P B n all l T H K:=by subst hH;exact h1
def as0[DL]{c:Code}{H':List Ob}(hH:H'=H)(h1:W P B n c T H' Q):W P B n c T H Q:=by subst hH;exact h1
def IY[DL]{σ:Nat->Option Nat}{w:World}{a:Act}(g:mO B n T H σ w a){d i m q:Nat}{xs:List PV}{e:TypeId}(hT:T d=.arw i 0 m)(hi:H[i]?=some (.cells xs e))(hq:q<=xs.length):
  mO B n (upd d (.seq m (xs.take q) .any) T) (H.set i .dead) σ w a/\eH B H σ w (H.set i .dead) σ w:=by
 obtain⟨s',st⟩:=lY g.sim hi
 refine⟨⟨s',fun j=>?_,g.size,mn st g.defers⟩,st⟩
 by_cases hj:j=d
 ·subst hj
  rw[fJ]
  have h1:=g.rep j
  rw[hT]at h1
  unfold Rep at h1
  obtain⟨_,b,cap,hb,hmc,hv⟩:=h1
  obtain⟨b',vs,fr,hb',hg,_,hp⟩:=g.sim.holds i _ hi
  simp only[cx]at hb hb' hg
  rw[hb]at hb'
  cases hb'
  rw[hv]
  unfold Rep
  refine⟨_,cap,vs.take q,rfl,hmc,(fun h=>by cases h),au.mono st.le (hp.take hq),fun b1 hb1=>.inl ?_,trivial⟩
  cases hb1
  refine⟨rfl,fun j' u hu=>⟨?_,?_⟩⟩
  ·rw[List.getElem?_take]at hu
   split at hu
   ·show w.cell? ⟨b,0+j',none⟩=some u
    rw[Nat.zero_add,fa hg];exact hu
   cases hu
  rintro(h2|⟨k,ok,h2,h3,h4⟩)
  ·exact g.sim.sep i b _ hi rfl hb _ h2
  have hlk:ok.live=true:=by cases ok<;>first|rfl|cases h4
  by_cases hki:k=i
  ·subst hki
   rw[List.getElem?_set_self (cM hi)]at h2;cases h2;cases h4
  rw[List.getElem?_set_ne (Ne.symm hki)]at h2
  exact hki (g.sim.inj k i b _ _ h2 hi hlk rfl h3 hb)
 rw[dG _ _ _ _ hj];exact(g.rep j).mono st.le
def p8[DL]{l:List Oper}(d i m q:Nat){xs:List PV}{e:TypeId}(hT:T d=.arw i 0 m)(hi:H[i]?=some (.cells xs e))(hq:q<=xs.length)(h1:WO P B n all l (upd d (.seq m (xs.take q) .any) T) (H.set i .dead) K):WO P B n all l T H K:=by
 intro hall σ w a g
 obtain⟨g',st⟩:=IY g hT hi hq
 exact gi (fun _ _ _ h=>ia st (fun _ _ _ h=>h) h) _ _ _ (h1 hall σ w a g')
def SG(G:List (Nat×TD))(T:Nat->PV)(H:List Ob):ResultVar->Option PV
 | .tmp t=>some (T t)
 | .cell ad ty=>match lm G ty with
  | some d=>match T ad with
   | .ptr i off=>match H[i]? with
    | some (.cells xs _)=>kY d xs off
    | _=>none
   | _=>none
  | none=>none
def rF(G:List (Nat×TD))(T:Nat->PV)(H:List Ob):List ResultVar->Option (List PV)
 | []=>some []
 | r::rs=>match SG G T H r with
  | some x=>match rF G T H rs with
   | some xs=>some (x::xs)
   | none=>none
  | none=>none
def pQ(G:List (Nat×TD))(T:Nat->PV)(H:List Ob):List ResultVar->Option PV
 | [r]=>SG G T H r
 | rs=>match rF G T H rs with
  | some xs=>some (.tup xs)
  | none=>none
def at2[D:DL]{G:List (Nat×TD)}(hG:fh P G=true){σ:Nat->Option Nat}{w:World}{a:Act}{n:Nat}(g:mO B n T H σ w a){r:ResultVar}{x:PV}(h:SG G T H r=some x):
  ∃v,((match r with|.tmp t=>pure (a.tmps.getD t undef)|.cell ad t=>do loadVar t (<-asAddr (a.tmps.getD ad undef)):Sem Value)).run P w=.ok v w/\Rep (cx B H σ w) x v:=by
 cases r with
 | tmp t=>simp only[SG,Option.some.injEq]at h;subst h;exact⟨_,rfl,g.rep t⟩
 | cell ad t =>
  unfold SG at h
  split at h
  ·rename_i hd h0
   cases h0
  rename_i ad' ty' h0
  cases h0
  split at h
  ·rename_i d hd
   split at h
   ·rename_i i off hx
    split at h
    ·rename_i xs e hi
     have h1:=g.rep ad
     rw[hx]at h1
     unfold Rep at h1
     obtain⟨_,b,hb,h1⟩:=h1
     obtain⟨b',vs0,fr,hb',hv,_,vs,q,rfl,hrl⟩:=g.sim.holds i _ hi
     simp only[cx]at hb hb' hv
     rw[hb]at hb'
     cases hb'
     obtain⟨v,h2,h3⟩:=ki (P:=P) (w:=w) (b:=b) (off:=0) (lO hG hd) hrl (fun j u hj=>by rw[Nat.zero_add,fa hv];exact v6 hj) h
     rw[Nat.zero_add]at h2
     exact⟨v,by simp[h1,asAddr,h2],h3⟩
    cases h
   cases h
  cases h
def Ar[DL]{G:List (Nat×TD)}(hG:fh P G=true){σ:Nat->Option Nat}{w:World}{a:Act}{n:Nat}(g:mO B n T H σ w a):∀{rs:List ResultVar} {xs:List PV},rF G T H rs=some xs ->
  ∃vs,(rs.mapM fun r=>(match r with|.tmp t=>pure (a.tmps.getD t undef)|.cell ad t=>do loadVar t (<-asAddr (a.tmps.getD ad undef)):Sem Value)).run P w=.ok vs w/\au (cx B H σ w) xs vs
 | [],xs,h=>by simp only[rF,Option.some.injEq]at h;subst h;exact⟨[],rfl,aG.2 rfl⟩
 | r::rs,xs,h=>by
  simp only[rF]at h
  split at h
  ·rename_i x hx
   split at h
   ·rename_i ys hy
    cases h
    obtain⟨v,h1,h2⟩:=at2 hG g hx
    obtain⟨vs,h3,h4⟩:=Ar hG g hy
    refine⟨v::vs,?_,af.2 ⟨h2,h4⟩⟩
    rw[List.mapM_cons]
    simp only[Sem.run_bind,h1,Result.andThen_ok,h3,Sem.run_pure]
   cases h
  cases h
def uZ[D:DL]{G:List (Nat×TD)}(hG:fh P G=true){fn:Func}{rs:List ResultVar}(hr:fn.results=rs.toArray){σ:Nat->Option Nat}{w:World}{a:Act}{n:Nat}(g:mO B n T H σ w a){x:PV}(h:pQ G T H rs=some x):
  ∃v,(results fn a.tmps).run P w=.ok v w/\Rep (cx B H σ w) x v:=by
 have gen:∀xs,rF G T H rs=some xs->∃vs,(fn.results.mapM fun|.tmp t=>pure (a.tmps.getD t undef)|.cell ad t=>do loadVar t (<-asAddr (a.tmps.getD ad undef)):Sem (Array Value)).run P w=.ok vs.toArray w/\au (cx B H σ w) xs vs:=by
  intro xs hx
  obtain⟨vs,h1,h2⟩:=Ar hG g hx
  refine⟨vs,?_,h2⟩
  rw[hr,List.mapM_toArray,<-bind_pure_comp]
  simp only[Sem.run_bind]
  erw [h1]
  rfl
 unfold results
 match rs,h,gen with
 | [r],h,gen =>
  simp only[pQ]at h
  obtain⟨vs,h1,h2⟩:=gen [x] (by simp only[rF,h])
  match vs,h2 with
  | [v],h2 =>
   refine⟨v,?_,(af.1 h2).1⟩
   simp only[Sem.run_bind]
   erw [h1]
   simp
  | [],h2=>exact absurd (au.length h2) (by simp)
  | v::v'::vs,h2=>exact absurd (au.length h2) (by simp)
 | [],h,gen =>
  simp only[pQ,rF,Option.some.injEq]at h
  subst h
  obtain⟨vs,h1,h2⟩:=gen [] rfl
  rw[aG]at h2
  subst h2
  refine⟨.tuple #[],?_,?_⟩
  ·simp only[Sem.run_bind]
   erw [h1]
   simp
  unfold Rep;exact⟨[],rfl,aG.2 rfl⟩
 | r::r'::rs,h,gen =>
  simp only[pQ]at h
  split at h
  ·rename_i xs hx
   cases h
   obtain⟨vs,h1,h2⟩:=gen xs hx
   have hl:2<=xs.length:=by
    simp only[rF]at hx
    split at hx
    ·split at hx
     ·rename_i h8
      split at h8
      ·split at h8
       ·cases h8;cases hx;simp
       cases h8
      cases h8
     cases hx
    cases hx
   refine⟨.tuple vs.toArray,?_,?_⟩
   ·simp only[Sem.run_bind]
    erw [h1]
    have:=au.length h2
    simp only[Result.andThen_ok]
    rw[dif_neg (by simp;omega)]
    rfl
   unfold Rep;exact⟨vs,rfl,h2⟩
  cases h
def ah6(G:List (Nat×TD))(rs:List ResultVar)(res:PV)(H':List Ob):Exit->(Nat->PV)->List Ob->Prop
 | .normal,T,H=>∃x,pQ G T H rs=some x/\Imp x res/\H=H'
 | .ret,T,H=>∃x,pQ G T H rs=some x/\Imp x res/\H=H'
 | _,_,_=>False
def zr(G:List (Nat×TD))(rs:List ResultVar)(res:PV):Exit->(Nat->PV)->List Ob->Prop
 | .normal,T,H=>∃x,pQ G T H rs=some x/\Imp x res
 | .ret,T,H=>∃x,pQ G T H rs=some x/\Imp x res
 | _,_,_=>False
def GC(G:List (Nat×TD))(rs:List ResultVar)(res:PV)(ys:List PV)(e:TypeId):Exit->(Nat->PV)->List Ob->Prop
 | .normal,T,H=>∃x,pQ G T H rs=some x/\Imp x res/\∃zs,H[0]?=some (.cells zs e)/\r8 zs ys
 | .ret,T,H=>∃x,pQ G T H rs=some x/\Imp x res/\∃zs,H[0]?=some (.cells zs e)/\r8 zs ys
 | _,_,_=>False
def mQ{G:List (Nat×TD)}(hG:fh P G=true){f:FuncId}{fn:Func}{c:Code}{args:List PV}{res:PV}{H':List Ob}{rs:List ResultVar}(hf:P.funcs[f]?=some fn)(hb:fn.body=some c)(hr:fn.results=rs.toArray)(hn0:Nat.ble args.length fn.ntmps=true)
  (h:∀B,W P B fn.ntmps c (yE args) H (ah6 G rs res H')):HC P f args H res H':=by
 intro B σ w vs s ha
 have hn:=Nat.le_of_ble_eq_true hn0
 have hl:=au.length ha
 refine calls_of_wp hf hb (wp_mono (h B σ w {tmps:=vs.toArray++Array.replicate (fn.ntmps-vs.toArray.size) undef,defers:=[]} ⟨s,tM ha _,by simp;omega,⟨Nat.zero_le _,rfl⟩⟩) ?_)
 rintro e a' w' ⟨T',H1,σ',h1,h2,h3⟩
 replace h2:=MM h2
 have fin:∀(h4:∃x,pQ G T' H1 rs=some x/\Imp x res/\H1=H'),a'.defers=[]/\∃v,(results fn a'.tmps).run P w'=.ok v w'/\∃v' σ',Ending.returned v=Ending.returned v'/\Rep (cx B H' σ' w') res v'/\Sim B H' σ' w'/\eH B H σ w H' σ' w':=by
  rintro⟨x,hx,h4,rfl⟩
  obtain⟨v,h5,h6⟩:=uZ hG hr h2 hx
  exact⟨h2.defers.2,v,h5,v,σ',rfl,h4 _ _ h6,h2.sim,h3⟩
 cases e<;>first|exact fin h1|exact False.elim h1
def gD{R:List Ob}(hRg:∀o∈R,∃g u,o=.glob g u){G:List (Nat×TD)}(hG:fh P G=true){f:FuncId}{fn:Func}{c:Code}{args:List PV}{res:PV}{rs:List ResultVar}(hf:P.funcs[f]?=some fn)(hb:fn.body=some c)(hr:fn.results=rs.toArray)(hn0:Nat.ble args.length fn.ntmps=true)(ha:aF args)(hres:aR res)
  (h:∀B,W P B fn.ntmps c (yE args) R (zr G rs res)) (H:List Ob) (hRH:∀o∈R,∃k:Nat,H[k]?=some o):HC P f args H res H:=by
 have hn:=Nat.le_of_ble_eq_true hn0
 refine yr hRg ha hres (fun B σ w vs s hv=>?_) H hRH
 have hl:=au.length hv
 refine calls_of_wp hf hb (wp_mono (h B σ w {tmps:=vs.toArray++Array.replicate (fn.ntmps-vs.toArray.size) undef,defers:=[]} ⟨s,tM hv _,by simp;omega,⟨Nat.zero_le _,rfl⟩⟩) ?_)
 rintro e a' w' ⟨T',H1,σ',h1,h2,h3⟩
 replace h2:=MM h2
 have fin:∀(h4:∃x,pQ G T' H1 rs=some x/\Imp x res),a'.defers=[]/\∃v,(results fn a'.tmps).run P w'=.ok v w'/\∃v' H' σ',Ending.returned v=Ending.returned v'/\Rep (cx B H' σ' w') res v'/\eH B R σ w H' σ' w':=by
  rintro⟨x,hx,h4⟩
  obtain⟨v,h5,h6⟩:=uZ hG hr h2 hx
  exact⟨h2.defers.2,v,h5,v,H1,σ',rfl,h4 _ _ h6,h3⟩
 cases e<;>first|exact fin h1|exact False.elim h1
def bw{G:List (Nat×TD)}(hG:fh P G=true){f:FuncId}{fn:Func}{c:Code}{args:List PV}{res:PV}{rs:List ResultVar}(hf:P.funcs[f]?=some fn)(hb:fn.body=some c)(hr:fn.results=rs.toArray)(hn0:Nat.ble args.length fn.ntmps=true)(ha:aF args)(hres:aR res)
  (h:∀B,W P B fn.ntmps c (yE args) [] (zr G rs res)):ab P f args res :=
 fun H=>gD (R:=[]) (by simp) hG hf hb hr hn0 ha hres h H (by simp)
def nf2:PV->Option PV
 | .seq n xs _=>some (.seq n xs .any)
 | .agg cs=>match nfl (cs.map wk1)with
  | some ds=>some (.agg ds)
  | none=>none
 | .val v=>some (.val v)
 | .any=>some .any
 | .tup cs=>some (.tup cs)
 | .ptr i off=>some (.ptr i off)
 | .row xs=>some (.row xs)
 | .arr i off n cap=>some (.arr i off n cap)
 | .fn f a b=>some (.fn f a b)
 | .mapv i=>some (.mapv i)
 | .arw i off n=>some (.arw i off n)
 | .smap ks xs=>some (.smap ks xs)
 | .ifc t x=>some (.ifc t x)
def Qd:List PV->Option (List PV)
 | []=>some []
 | x::xs=>match nf2 x with
  | some y=>match Qd xs with
   | some ys=>some (y::ys)
   | none=>none
  | none=>none
def nfR(x:PV):Option PV:=match x with
 | .tup cs=>match Qd cs with
  | some ds=>some (.tup ds)
  | none=>none
 | x=>nf2 x
def MN{x y:PV}(h:nf2 x=some y):Imp x y:=by
  cases x<;>simp only[nf2]at h<;>first
    | (injection h with h;subst h;first|exact oU _ _ _|exact Imp.refl _)
    | (split at h
       · rename_i ds hd
         injection h with h
         subst h
         rw[w6 hd]
         exact L3 (qc Ex _)
       cases h)
def vC:∀{xs ys:List PV},Qd xs=some ys->r8 xs ys
 | [],ys,h=>by injection h with h;subst h;trivial
 | x::xs,ys,h=>by
  simp only[Qd]at h
  split at h
  ·rename_i y hy
   split at h
   ·rename_i zs hz
    injection h with h
    subst h
    exact⟨MN hy,vC hz⟩
   cases h
  cases h
def Xw{x y:PV}(h:nfR x=some y):Imp x y:=by
 unfold nfR at h
 split at h
 ·split at h
  ·rename_i ds hd
   injection h with h
   subst h
   exact Yj (vC hd)
  cases h
 exact MN h
def Cm(G:List (Nat×TD))(T:Nat->PV)(H:List Ob)(rs:List ResultVar):Option PV:=match pQ G T H rs with
 | some x=>nfR x
 | none=>none
def qt{G:List (Nat×TD)}{rs:List ResultVar}{y:PV}(h:Cm G T H rs=some y):∃x,pQ G T H rs=some x/\Imp x y:=by
 unfold Cm at h
 split at h
 ·rename_i x hx;exact⟨x,hx,Xw h⟩
 cases h
def lP{G:List (Nat×TD)}{rs:List ResultVar}{x res:PV}(h:Cm G T H rs=some x)(h2:x=res):zr G rs res .ret T H:=by
 subst h2;exact qt h
def AV{G:List (Nat×TD)}{rs:List ResultVar}{x res:PV}{H':List Ob}(h:Cm G T H rs=some x)(h2:x=res)(h3:H=H'):ah6 G rs res H' .ret T H:=by
 subst h2;obtain⟨y,h4,h5⟩:=qt h;exact⟨y,h4,h5,h3⟩
def VJ{G:List (Nat×TD)}{rs:List ResultVar}{x res:PV}{H':List Ob}(h:Cm G T H rs=some x)(h2:x=res)(h3:H=H'):ah6 G rs res H' .normal T H:=by
 subst h2;obtain⟨y,h4,h5⟩:=qt h;exact⟨y,h4,h5,h3⟩
def MP(H:List Ob)(e:TypeId):Option (List PV):=match (H[0]?:Option Ob)with
 | some (.cells zs e')=>match Nat.beq e' e with
  | true=>nfl (zs.map wk1)
  | false=>none
 | _=>none
def Ih{e:TypeId}{ys:List PV}(h:MP H e=some ys):∃zs,H[0]?=some (.cells zs e)/\r8 zs ys:=by
 unfold MP at h
 split at h
 ·rename_i zs e' h0
  split at h
  ·rename_i he
   rw[Nat.beq_eq]at he
   subst he
   exact⟨zs,h0,by rw[w6 h];exact qc Ex _⟩
  cases h
 cases h
def aQ{G:List (Nat×TD)}{rs:List ResultVar}{x res:PV}{e:TypeId}{zs ys:List PV}(h:Cm G T H rs=some x)(h1:MP H e=some zs)(h2:x=res)(h3:zs=ys):GC G rs res ys e .ret T H:=by
 subst h2 h3;obtain⟨y,h4,h5⟩:=qt h;exact⟨y,h4,h5,Ih h1⟩
def aV{G:List (Nat×TD)}{rs:List ResultVar}{x res:PV}{e:TypeId}{zs ys:List PV}(h:Cm G T H rs=some x)(h1:MP H e=some zs)(h2:x=res)(h3:zs=ys):GC G rs res ys e .normal T H:=by
 subst h2 h3;obtain⟨y,h4,h5⟩:=qt h;exact⟨y,h4,h5,Ih h1⟩
def kx{G:List (Nat×TD)}{rs:List ResultVar}{x res:PV}{e:TypeId}{zs ys:List PV}(h:Cm G T H rs=some x)(h1:H[0]?=some (.cells zs e))(h2:x=res)(h3:zs=ys):GC G rs res ys e .ret T H:=by
 subst h2 h3;obtain⟨y,h4,h5⟩:=qt h;exact⟨y,h4,h5,zs,h1,pV _⟩
def bn{G:List (Nat×TD)}{rs:List ResultVar}{x res:PV}{e:TypeId}{zs ys:List PV}(h:Cm G T H rs=some x)(h1:H[0]?=some (.cells zs e))(h2:x=res)(h3:zs=ys):GC G rs res ys e .normal T H:=by
 subst h2 h3;obtain⟨y,h4,h5⟩:=qt h;exact⟨y,h4,h5,zs,h1,pV _⟩
def y4{α:Type}{H:List α}{i j:Nat}{x y:α}(hi:i<H.length)(h:(H.set i x)[j]?=some y):(j=i/\y=x)\/(j≠i/\H[j]?=some y):=by
 by_cases hj:j=i
 ·subst hj;rw[List.getElem?_set_self hi]at h;cases h;exact .inl ⟨rfl,rfl⟩
 rw[List.getElem?_set_ne (Ne.symm hj)]at h;exact .inr ⟨hj,h⟩
def l7{G:List (Nat×TD)}{f:FuncId}{fn:Func}{c:Code}{rest:List PV}{res:PV}{rs:List ResultVar}{off:Nat}{xs ys:List PV}{e:TypeId}{R:List Ob}(hRg:∀o∈R,∃g u,o=.glob g u)(hG:fh P G=true)(hf:P.funcs[f]?=some fn)(hb:fn.body=some c)(hr:fn.results=rs.toArray)(hn0:Nat.ble (rest.length+1) fn.ntmps=true)
  (ha:aF rest) (hres:aR res) (hxs:aF xs) (hys:aF ys)
  (h:∀B,W P B fn.ntmps c (yE (.ptr 0 off::rest)) (.cells xs e::R) (GC G rs res ys e)) (H:List Ob) (i:Nat) (hi:H[i]?=some (.cells xs e)) (hRH:∀o∈R,∃k:Nat,H[k]?=some o):HC P f (.ptr i off::rest) H res (H.set i (.cells ys e)):=by
 intro B σ w vs s hv
 have hilt:=cM hi
 match vs,hv with
 | [],hv=>unfold au at hv;obtain⟨u,us,h1,_⟩:=hv;cases h1
 | v0::vs,hv =>
 rw[af]at hv
 obtain⟨hv0,hvr⟩:=hv
 unfold Rep at hv0
 obtain⟨_,b,hσ,rfl⟩:=hv0
 simp only[cx]at hσ
 have hl:(Ob.cells xs e).live=true:=rfl
 have dull:∀{j:Nat} {oj:Ob},(Ob.cells xs e::R)[j+1]?=some oj->oj.live=true->False:=fun h1 h2=>by
  obtain⟨g,u,rfl⟩:=hRg _ (List.mem_of_getElem? (by simpa using h1));cases h2
 let B':Nat->Nat->Prop:=BoW B σ (H.set i .dead)
 let σ0:Nat->Option Nat:=fun k=>if k=0 then some b else none
 have other:∀j oj,(H.set i .dead)[j]?=some oj->oj.live=true->j≠i/\H[j]?=some oj:=by
  intro j oj h1 h2
  rcases y4 hilt h1 with ⟨rfl,rfl⟩|h3
  ·cases h2
  exact h3
 have hB':∀b' off,B' b' off->b'≠b:=by
  rintro b' off (h1|⟨j,oj,h1,h2,h3⟩) rfl
  ·exact s.sep i _ _ hi hl hσ off h1
  have hlj:oj.live=true:=by cases oj<;>first|rfl|cases h3
  obtain⟨h4,h5⟩:=other j oj h1 hlj
  exact h4 (s.inj j i _ _ _ h5 hi hlj hl h2 hσ)
 have wrB:∀b' off,(cx B' (.cells xs e::R) σ0 w).Wr b' off->(cx B H σ w).Wr b' off:=by
  rintro b' off ((h1|⟨j,oj,h1,h2,h3⟩)|⟨j,oj,h1,h2,h3⟩)
  ·exact .inl h1
  ·have hlj:oj.live=true:=by cases oj<;>first|rfl|cases h3
   exact .inr ⟨j,oj,(other j oj h1 hlj).2,h2,h3⟩
  match j,h1,h2 with
  | 0,h1,h2 =>
   simp only[σ0,if_true,Option.some.injEq]at h2
   subst h2
   exact .inr ⟨i,_,hi,hσ,trivial⟩
  | j+1,h1,_=>exact(dull h1 (by cases oj<;>first|rfl|cases h3)).elim
 have s0:Sim B' (.cells xs e::R) σ0 w:=by
  refine⟨?_,?_,?_,?_⟩
  ·intro j k b' oj ok h1 h2 l1 l2 _ _
   match j,k,h1,h2 with
   | 0,0,_,_=>rfl
   | j+1,_,h1,_=>exact(dull h1 l1).elim
   | 0,k+1,_,h2=>exact(dull h2 l2).elim
  ·intro j b' oj h1 l1 h2 off h3
   match j,h1,h2 with
   | 0,_,h2 =>
    simp only[σ0,if_true,Option.some.injEq]at h2
    exact hB' _ _ h3 h2.symm
   | j+1,h1,_=>exact(dull h1 l1).elim
  ·rintro b' off (h1|⟨j,oj,h1,h2,h3⟩)
   ·exact s.base _ _ h1
   have hlj:oj.live=true:=by cases oj<;>first|rfl|cases h3
   exact(s.holds j oj (other j oj h1 hlj).2).lt hlj h2
  intro j oj h1
  match j,h1 with
  | 0,h1 =>
   simp only[List.getElem?_cons_zero,Option.some.injEq]at h1
   subst h1
   obtain⟨b1,vs1,fr,h2,h3,hf,p,q,hpq,h4⟩:=s.holds i _ hi
   simp only[cx]at h2 h3
   rw[hσ]at h2;cases h2
   exact⟨b,vs1,fr,by simp[cx,σ0],h3,hf,p,q,hpq,dv (c:=cx B H σ w) (c':=cx B' (.cells xs e::R) σ0 w) rfl wrB hxs h4⟩
  | j+1,h1 =>
   have hm:=List.mem_of_getElem? (show R[j]?=some oj by simpa using h1)
   obtain⟨g,u,rfl⟩:=hRg _ hm
   obtain⟨k,hk⟩:=hRH _ hm
   obtain⟨q1,q2⟩:=s.holds k _ hk
   exact⟨q1,fun q=>q2 (wrB _ _ q)⟩
 have hr0:au (cx B' (.cells xs e::R) σ0 w) (.ptr 0 off::rest) (.pointer (some ⟨b,off,none⟩)::vs):=by
  refine af.2 ⟨?_,dv (c:=cx B H σ w) (c':=cx B' (.cells xs e::R) σ0 w) rfl wrB ha hvr⟩
  unfold Rep
  exact⟨by simp[cx],b,by simp[cx,σ0],rfl⟩
 have hn:=Nat.le_of_ble_eq_true hn0
 have hvl:=au.length hvr
 refine calls_of_wp hf hb (wp_mono (h B' σ0 w {tmps:=(Value.pointer (some ⟨b,off,none⟩)::vs).toArray++Array.replicate (fn.ntmps-(Value.pointer (some ⟨b,off,none⟩)::vs).toArray.size) undef,defers:=[]} ⟨s0,tM hr0 _,by simp;omega,⟨Nat.zero_le _,rfl⟩⟩) ?_)
 rintro e1 a' w' ⟨T',H1,σ',h1,h2,h3⟩
 replace h2:=MM h2
 have fin:∀(h4:∃x,pQ G T' H1 rs=some x/\Imp x res/\∃zs,H1[0]?=some (.cells zs e)/\r8 zs ys),a'.defers=[]/\∃v,(results fn a'.tmps).run P w'=.ok v w'/\∃v' σ',Ending.returned v=Ending.returned v'/\Rep (cx B (H.set i (.cells ys e)) σ' w') res v'/\Sim B (H.set i (.cells ys e)) σ' w'/\eH B H σ w (H.set i (.cells ys e)) σ' w':=by
  rintro⟨x,hx,h4,zs,h5,hzy⟩
  obtain⟨v,h6,h7⟩:=uZ hG hr h2 hx
  have hσ':σ' 0=some b:=by have:=h3.le.σ 0 (by simp[cx]);simpa[cx,σ0]using this
  have get:∀j oj,(H.set i (.cells ys e))[j]?=some oj->(j=i/\oj=.cells ys e)\/(j≠i/\H[j]?=some oj):=fun j oj hj=>y4 hilt hj
  have wrN:∀b' off,(cx B (H.set i (.cells ys e)) σ w').Wr b' off->(cx B' H1 σ' w').Wr b' off:=by
   rintro b' off (k1|⟨j,oj,k1,k2,k3⟩)
   ·exact .inl (.inl k1)
   rcases get j oj k1 with ⟨rfl,rfl⟩|⟨k4,k5⟩
   ·rw[hσ]at k2;cases k2
    exact .inr ⟨0,_,h5,hσ',trivial⟩
   exact .inl (.inr ⟨j,oj,by rw[List.getElem?_set_ne (Ne.symm k4)];exact k5,k2,k3⟩)
  have wrO:∀b' off,(cx B (H.set i (.cells ys e)) σ w').Wr b' off->(cx B H σ w).Wr b' off:=by
   rintro b' off (k1|⟨j,oj,k1,k2,k3⟩)
   ·exact .inl k1
   rcases get j oj k1 with ⟨rfl,rfl⟩|⟨k4,k5⟩
   ·exact .inr ⟨_,_,hi,k2,trivial⟩
   exact .inr ⟨j,oj,k5,k2,k3⟩
  have le:(cx B H σ w).Le (cx B (H.set i (.cells ys e)) σ w'):=by
   refine⟨by simp[cx],fun _ _=>rfl,fun b' off u k1 k2=>?_,fun b' es clk k1 k2=>?_,h3.le.shape⟩
   ·have k3:=h3.le.cell b' off u (fun k=>k1 (wrB _ _ k)) k2
    exact⟨k3.1,fun k=>k1 (wrO _ _ k)⟩
   have k3:=h3.le.mapo b' es clk (fun k=>k1 (wrB _ _ k)) k2
   exact⟨k3.1,fun k=>k1 (wrO _ _ k)⟩
  have keep:∀b',b'<w.heap.size->b'≠b->w'.heap[b']?=w.heap[b']?:=by
   intro b' k1 k2
   refine h3.block b' k1 (fun j oj k3 kl k4=>?_)
   match j,k3,k4 with
   | 0,_,k4=>simp only[σ0,if_true,Option.some.injEq]at k4;exact k2 k4.symm
   | j+1,k3,_=>exact(dull k3 kl).elim
  have s':Sim B (H.set i (.cells ys e)) σ w':=by
   refine⟨?_,?_,fun b' off k=>Nat.lt_of_lt_of_le (s.base b' off k) h3.size,?_⟩
   ·intro j k b' oj ok k1 k2 l1 l2 e1 e2
    rcases get j oj k1 with ⟨rfl,rfl⟩|⟨_,k3⟩<;>rcases get k ok k2 with ⟨rfl,rfl⟩|⟨_,k4⟩
    ·rfl
    ·exact s.inj _ _ b' _ _ hi k4 rfl l2 e1 e2
    ·exact s.inj _ _ b' _ _ k3 hi l1 rfl e1 e2
    exact s.inj _ _ b' _ _ k3 k4 l1 l2 e1 e2
   ·intro j b' oj k1 l1 e1 off
    rcases get j oj k1 with ⟨rfl,rfl⟩|⟨_,k3⟩
    ·exact s.sep _ b' _ hi rfl e1 off
    exact s.sep _ b' _ k3 l1 e1 off
   intro j oj k1
   rcases get j oj k1 with ⟨rfl,rfl⟩|⟨hj,k3⟩
   ·obtain⟨b1,vs1,fr,k4,k5,hf,p,q,hpq,k6⟩:=h2.sim.holds 0 _ h5
    simp only[cx]at k4 k5
    rw[hσ']at k4;cases k4
    exact⟨b,vs1,fr,hσ,k5,hf,p,q,hpq,dv (c:=cx B' H1 σ' w') (c':=cx B (H.set j (.cells ys e)) σ w') rfl wrN hys (pr hzy k6)⟩
   have k:=s.holds j oj k3
   cases oj with
   | cells zs t =>
    obtain⟨x,ws,fr,k5,k6,hf,k7⟩:=k
    have hx:x≠b:=fun hx=>hj (s.inj j i b _ _ k3 hi rfl rfl (hx▸k5) hσ)
    exact⟨x,ws,fr,k5,(keep x (Array.getElem?_eq_some_iff.1 k6).1 hx).trans k6,hf,k7.mono le⟩
   | free m =>
    intro x hx
    obtain⟨cs,t,k5,k6⟩:=k x hx
    have hne:x≠b:=fun h=>hj (s.inj j i b _ _ k3 hi rfl rfl (h▸hx) hσ)
    exact⟨cs,t,(keep x (Array.getElem?_eq_some_iff.1 k5).1 hne).trans k5,k6⟩
   | dead=>trivial
   | glob g u=>obtain⟨q1,q2⟩:=k;exact le.cell g 0 u q2 q1
   | iter s2 pos =>
    obtain⟨x,k5,k6⟩:=k
    have hx:x≠b:=fun hx=>hj (s.inj j i b _ _ k3 hi rfl rfl (hx▸k5) hσ)
    exact⟨x,k5,(keep x (Array.getElem?_eq_some_iff.1 k6).1 hx).trans k6⟩
   | smap ks ms =>
    obtain⟨x,es,clk,k5,k6,k7,k8⟩:=k
    have hx:x≠b:=fun hx=>hj (s.inj j i b _ _ k3 hi rfl rfl (hx▸k5) hσ)
    exact⟨x,es,clk,k5,(keep x (Array.getElem?_eq_some_iff.1 k6).1 hx).trans k6,k7,au.mono le k8⟩
  refine⟨h2.defers.2,v,h6,v,σ,rfl,?_,s',⟨le,h3.os,h3.tape,h3.output,h3.size,?_,?_⟩⟩
  ·exact oI (c:=cx B' H1 σ' w') (c':=cx B (H.set i (.cells ys e)) σ w') rfl wrN hres (h4 _ _ h7)
  ·intro j oj b' k1 k2 k3
   rcases get j oj k1 with ⟨rfl,rfl⟩|⟨_,k4⟩
   ·exact .inr ⟨_,_,hi,rfl,k3⟩
   exact .inr ⟨j,oj,k4,k2,k3⟩
  intro b' k1 k2
  exact keep b' k1 (fun k=>k2 i _ hi rfl (k▸hσ))
 cases e1<;>first|exact fin h1|exact False.elim h1
def jt{G:List (Nat×TD)}(hG:fh P G=true){f:FuncId}{fn:Func}{c:Code}{rest:List PV}{res:PV}{rs:List ResultVar}{off:Nat}{xs ys:List PV}{e:TypeId}(hf:P.funcs[f]?=some fn)(hb:fn.body=some c)(hr:fn.results=rs.toArray)(hn0:Nat.ble (rest.length+1) fn.ntmps=true)
  (ha:aF rest) (hres:aR res) (hxs:aF xs) (hys:aF ys)
  (h:∀B,W P B fn.ntmps c (yE (.ptr 0 off::rest)) [.cells xs e] (GC G rs res ys e)) (H:List Ob) (i:Nat) (hi:H[i]?=some (.cells xs e)):HC P f (.ptr i off::rest) H res (H.set i (.cells ys e)) :=
 l7 (R:=[]) (by simp) hG hf hb hr hn0 ha hres hxs hys h H i hi (by simp)
end
open Go.RowKit
def sq{α:Type}(enc:α->List PV)(l:List α):PV:=.seq l.length (l.flatMap enc) .any
def an{α:Type}(enc:α->List PV)(k:Nat)(hk:∀x,(enc x).length=k):∀l:List α,(l.flatMap enc).length=l.length*k
 | []=>by simp
 | x::l=>by rw[List.flatMap_cons,List.length_append,an enc k hk l,hk,List.length_cons,Nat.succ_mul,Nat.add_comm]
def iC{α:Type}(enc:α->List PV)(k:Nat)(hk:∀x,(enc x).length=k):∀(i:Nat) (l:List α),(l.flatMap enc).drop (i*k)=(l.drop i).flatMap enc
 | 0,l=>by simp
 | i+1,[]=>by simp
 | i+1,x::l=>by
  rw[List.flatMap_cons,List.drop_append,Nat.succ_mul]
  have h1:(enc x).drop (i*k+k)=[]:=by rw[List.drop_eq_nil_iff,hk];omega
  have h2:i*k+k-(enc x).length=i*k:=by rw[hk];omega
  rw[h1,h2,List.nil_append,iC enc k hk i l,List.drop_succ_cons]
def nD{α:Type}(enc:α->List PV)(k:Nat)(hk:∀x,(enc x).length=k):∀(i:Nat) (l:List α),(l.flatMap enc).take (i*k)=(l.take i).flatMap enc
 | 0,l=>by simp
 | i+1,[]=>by simp
 | i+1,x::l=>by
  rw[List.flatMap_cons,List.take_append,Nat.succ_mul]
  have h1:(enc x).take (i*k+k)=enc x:=List.take_of_length_le (by rw[hk];omega)
  have h2:i*k+k-(enc x).length=i*k:=by rw[hk];omega
  rw[h1,h2,nD enc k hk i l,List.take_succ_cons,List.flatMap_cons]
def iR{α:Type}(enc:α->List PV)(k:Nat)(hk:∀x,(enc x).length=k)(d:α){l:List α}{i:Nat}(h:i<l.length):Imp (.row ((l.flatMap enc).drop (i*k))) (.row (enc (l.getD i d))):=by
 intro c v hv
 rw[iC enc k hk]at hv
 rw[List.drop_eq_getElem_cons h,List.flatMap_cons]at hv
 have e:l.getD i d=l[i]:=by simp[List.getD,h]
 rw[e]
 unfold Rep at hv ⊢
 obtain⟨b,vs,h1,h2,h3⟩:=hv
 have h4:=h2.take (enc l[i]).length
 rw[List.take_left]at h4
 exact⟨b,_,h1,h4,rP.take h3 _⟩
def cK{α:Type}(enc:α->List PV)(k:Nat)(hk:∀x,(enc x).length=k){l:List α}{a b:Nat}{s:SK}(hb:b<=l.length):PV.seq (b-a) (((l.flatMap enc).drop (a*k)).take ((b-a)*k)) s=.seq ((l.take b).drop a).length (((l.take b).drop a).flatMap enc) s:=by
 rw[iC enc k hk,nD enc k hk,List.length_drop,List.length_take,Nat.min_eq_left hb]
 congr 2
 rw[List.drop_take]
def cw{α:Type}(enc:α->List PV){l m:List α}{s:SK}:PV.seq (l.length+m.length) (l.flatMap enc++m.flatMap enc) s=.seq (l++m).length ((l++m).flatMap enc) s:=by
 rw[List.length_append,List.flatMap_append]
def Vh{α:Type}(enc:α->List PV)(x:α){s:SK}:PV.seq (0+1) ([]++enc x) s=.seq [x].length ([x].flatMap enc) s:=by simp
def gQ{α:Type}{enc:α->List PV}(h:∀x,aF (enc x))(l:List α):aR (sq enc l):=by
 unfold sq aR
 refine⟨?_,.inl rfl⟩
 induction l with
 | nil=>rw[List.flatMap_nil];unfold aF;trivial
 | cons x l ih =>
  rw[List.flatMap_cons]
  have app:∀a b:List PV,aF a->aF b->aF (a++b):=by
   intro a b ha hb
   induction a with
   | nil=>exact hb
   | cons y a iha=>unfold aF at ha;rw[List.cons_append];unfold aF;exact⟨ha.1,iha ha.2⟩
  exact app _ _ (h x) ih
def bD{α:Type}(enc:α->List PV)(h:∀x,((enc x).all okC)=true):∀l:List α,∀x∈l.flatMap enc,okC x=true:=by
 intro l x hx
 obtain⟨y,_,hy⟩:=List.mem_flatMap.1 hx
 exact List.all_eq_true.1 (h y) x hy
@[simp] theorem Qq (v : Value) : aR (.val v) := by unfold aR; trivial
@[simp] theorem aB0 (cs : List PV) : aR (.tup cs) ↔ aF cs := by rw [aR]
@[simp] theorem aG9 (cs : List PV) : aR (.agg cs) ↔ aF cs := by rw [aR]
@[simp] theorem az4 : aF [] := by unfold aF; trivial
@[simp] theorem af6 (x : PV) (xs : List PV) : aF (x :: xs) ↔ aR x /\ aF xs := by rw [aF]
def ao(n:Int):List PV:=[.val (.int .i64 n)]
def aH(b:UInt8):List PV:=[.val (.int .u8 (b.toNat:Int))]
abbrev Str:=List UInt8
def str(l:Str):PV:=.val (.string ⟨l.toArray⟩)
def gj(l:Str):List PV:=[str l]
def i64(n:Int):PV:=.val (.int .i64 n)
def boo(b:Bool):PV:=.val (.bool b)
@[simp] theorem aF8 (n : Int) : aR (i64 n) := by unfold i64 aR; trivial
@[simp] theorem aL9 (n : Bool) : aR (boo n) := by unfold boo aR; trivial
@[simp] theorem Tr (n : Str) : aR (str n) := by unfold str aR; trivial
@[simp] theorem D6 (n : Int) : aF (ao n) := by unfold ao aF; exact ⟨by unfold aR; trivial, by unfold aF; trivial⟩
@[simp] theorem oN (n : UInt8) : aF (aH n) := by unfold aH aF; exact ⟨by unfold aR; trivial, by unfold aF; trivial⟩
@[simp] theorem D3 (n : Str) : aF (gj n) := by unfold gj aF; exact ⟨Tr n, by unfold aF; trivial⟩
@[simp] theorem az5 (l : List Int) : aR (sq ao l) := gQ D6 l
@[simp] theorem ag0 (l : List UInt8) : aR (sq aH l) := gQ oN l
@[simp] theorem ax8 (l : List Str) : aR (sq gj l) := gQ D3 l
def bU(x:Int):IntKind.i64.wrap x=wrap64 x:=IntWalk.i64_left _
def xK{a b:ByteArray}(h:a.data.toList=b.data.toList):a=b:=by
 cases a;cases b;simp only at h;congr 1;exact Array.toList_inj.1 h
def NE(a b:Str):PV.val (.bool (nc ⟨a.toArray⟩ ⟨b.toArray⟩))=.val (.bool (decide (a=b))):=by
 rw[QJ]
 have:decide ((⟨a.toArray⟩:ByteArray)=⟨b.toArray⟩)=decide (a=b):=by
  rw[Bool.eq_iff_iff];simp[ByteArray.mk.injEq]
 rw[this]
def vZ(a b:Str):PV.val (.bool (!nc ⟨a.toArray⟩ ⟨b.toArray⟩))=.val (.bool (!decide (a=b))):=by
 have:=NE a b
 simp only[PV.val.injEq,Value.bool.injEq]at this
 rw[this]
def ou(a b:Str):PV.val (.string ((⟨a.toArray⟩:ByteArray)++⟨b.toArray⟩))=str (a++b):=by
 unfold str
 rw[show(⟨a.toArray⟩:ByteArray)++⟨b.toArray⟩=⟨(a++b).toArray⟩ from xK (by rw[ByteArray.data_append];simp)]
def jk(l:Str)(a b:Nat):PV.val (.string ((⟨l.toArray⟩:ByteArray).extract a b))=str ((l.take b).drop a):=by
 unfold str
 rw[show(⟨l.toArray⟩:ByteArray).extract a b=⟨((l.take b).drop a).toArray⟩ from xK (by rw[ByteArray.data_extract];simp[List.drop_take])]
def VZ(l:Str)(i:Nat):PV.val (.int .u8 (uN ⟨l.toArray⟩ i))=.val (.int .u8 ((l.getD i 0).toNat:Int)):=by
 unfold uN
 simp
def dc(l:Str):(⟨l.toArray⟩:ByteArray).size=l.length:=by
 show l.toArray.size=_
 simp
def s4(l:Str)(k:Nat):PV.val (.int .u8 (uN ⟨l.toArray⟩ ((k:Int)).toNat))=.val (.int .u8 ((l.getD k 0).toNat:Int)):=VZ l k
def iN{α:Type}(enc:α->List PV)(k:Nat)(hk:∀x,(enc x).length=k)(d:α){l:List α}{i:Nat}(h:i<l.length):Imp (.row ((l.flatMap enc).drop (((i:Int)).toNat*k))) (.row (enc (l.getD i d))):=iR enc k hk d h
def iA{α:Type}(l:List α)(k:Nat)(d:α)(h:k<l.length):l.take (k+1)=l.take k++[l.getD k d]:=by
 rw[List.take_succ_eq_append_getElem h];simp[List.getD,h]
def eQ{α:Type}(l:List α)(k:Nat)(h:l.length<=k):l.take k=l:=List.take_of_length_le h
def ax3{α:Type}(enc:α->List PV)(hk:∀x,(enc x).length=1)(d:α){l:List α}{i:Nat}(h:i<l.length):(l.flatMap enc)[i]?=(enc (l.getD i d))[0]?:=by
 have h1:=iC enc 1 hk i l
 rw[Nat.mul_one]at h1
 have h2:(l.flatMap enc)[i]?=((l.flatMap enc).drop i)[0]?:=by rw[List.getElem?_drop];simp
 rw[h2,h1,List.drop_eq_getElem_cons h,List.flatMap_cons]
 have e:l.getD i d=l[i]:=by simp[List.getD,h]
 rw[e,List.getElem?_append_left (by rw[hk];omega)]
def Fh{t:TD}(ht:t.agg=false){l:List UInt8}{i:Nat}(h:i<l.length):kY t (l.flatMap aH) i=some (.val (.int .u8 ((l.getD i 0).toNat:Int))):=by
 unfold kY
 rw[ht]
 exact ax3 aH (fun _=>rfl) 0 h
def PY{α:Type}(enc:α->List PV)(k:Nat)(hk:∀x,(enc x).length=k){l:List α}{i:Nat}(h:i<l.length)(x:α):cy (l.flatMap enc) (i*k) (enc x)=(l.set i x).flatMap enc:=by
 unfold cy
 rw[nD enc k hk,hk,<-Nat.succ_mul,iC enc k hk]
 rw[List.set_eq_take_append_cons_drop,if_pos h,List.flatMap_append,List.flatMap_cons,List.append_assoc]
def yc{l:List UInt8}{i:Nat}(h:i<l.length)(x:UInt8):cy (l.flatMap aH) i [.val (.int .u8 (x.toNat:Int))]=(l.set i x).flatMap aH:=by
 have:=PY aH 1 (fun _=>rfl) h x
 rw[Nat.mul_one]at this
 exact this
def gC(l:Str):PV.val (.int .i64 ((⟨l.toArray⟩:ByteArray).size:Int))=.val (.int .i64 (l.length:Int)):=by rw[dc]
def IG(l:List UInt8):strOfNums (l.map fun b=>(b.toNat:Int))=⟨l.toArray⟩:=by
 apply xK
 rw[strOfNums_data]
 simp only[List.map_map]
 induction l with
 | nil=>rfl
 | cons x l ih =>
  simp only[List.map_cons,List.toList_toArray,List.cons.injEq,Function.comp]
  refine⟨?_,by simpa using ih⟩
  rw[<-UInt8.toNat_inj,UInt8.toNat_ofNat']
  have:=x.toNat_lt
  omega
def kK(l:List UInt8):l.flatMap aH=(l.map fun b=>(b.toNat:Int)).map kH:=by
 induction l with
 | nil=>rfl
 | cons x l ih=>rw[List.flatMap_cons,ih];rfl
def cY{P:Program}{B:Nat->Nat->Prop}{o:Oper}{T:Nat->PV}{H:List Ob}{src dst e:TypeId}{ds dd de:TD}{x:Operand}{l:List UInt8}{s:SK}(f:ap P src ds)(hs:ds.sh=.slice e)(fe:ap P e de)(he:de.sh=.int .u8)(g:ap P dst dd)(hd:dd.sh=.str)(ho:o.op=.convert src dst x)(hx:opv T x=.seq l.length (l.flatMap aH) s):
  bM P B o T H (str l) H:=by
 rw[kK]at hx
 have:=ua (B:=B) (H:=H) (s:=s) f hs fe he g hd ho hx (by simp)
 rw[IG]at this
 exact this
def Fd{P:Program}{B:Nat->Nat->Prop}{o:Oper}{T:Nat->PV}{H:List Ob}{src dst e et:TypeId}{ds dd de:TD}{x:Operand}{l:List UInt8}{i n:Nat}(f:ap P src ds)(hs:ds.sh=.slice e)(fe:ap P e de)(he:de.sh=.int .u8)(g:ap P dst dd)(hd:dd.sh=.str)(ho:o.op=.convert src dst x)(hx:opv T x=.arw i 0 n)(hi:H[i]?=some (.cells (l.flatMap aH) et))(hn:l.length=n):
  bM P B o T H (str l) H:=by
 have:=w5 (B:=B) (zs:=l.map fun b=>(b.toNat:Int)) f hs fe he g hd ho hx hi (by
  rw[List.drop_zero,kK,List.take_of_length_le (by simp;omega)]) (by simpa using hn)
 rw[IG]at this
 exact this
def wO(l:Str):PV.seq (⟨l.toArray⟩:ByteArray).size ((⟨l.toArray⟩:ByteArray).data.toList.map fun b=>kH b.toNat) .any=sq aH l:=by
 unfold sq
 rw[dc,kK]
 simp[List.map_map]
section
variable {P : Program} {B : Nat -> Nat -> Prop} {n : Nat} {T : Nat -> PV} {H : List Ob} {o : Oper} {l : List Oper} {x y : PV} {H' : List Ob} {p : Prop} {G : List (Nat × TD)} {all : Array Oper}
def bM.imp(h:bM P B o T H x H')(hi:Imp x y):bM P B o T H y H':=by
 intro σ w a s k
 obtain⟨v,w',σ',h1,h2,h3,h4⟩:=h σ w a s k
 exact⟨v,w',σ',h1,hi _ _ h2,h3,h4⟩
def ly.imp(h:ly P B o T H x H')(hi:Imp x y):ly P B o T H y H':=by
 intro σ w a s k
 obtain⟨f,args,h1,h2⟩:=h σ w a s k
 refine⟨f,args,h1,Calls.mono h2 ?_⟩
 rintro e w' ⟨v,σ',he,h3,h4⟩
 exact⟨v,σ',he,hi _ _ h3,h4⟩
def Wv[DL]{K:(Nat->PV)->List Ob->Prop}{d:Option Tmp}(hG:fh P G=true)(hd:nfD n o.dst=some d)(hw:bf all T o=some true)(h:evN G T H o.type o.op=some (x,H',p))(hp:p)(hi:Imp x y)(k:WO P B n all l (d8 d y T) H' K):WO P B n all (o::l) T H K :=
 Wd hd hw ((nk hG rfl (Aj h) hp).imp hi) k
end
end Go.Proofs.YtjcminooghmpeaaGreatDoor
