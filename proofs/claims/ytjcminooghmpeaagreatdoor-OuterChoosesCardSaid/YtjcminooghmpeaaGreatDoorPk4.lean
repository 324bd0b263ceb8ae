import Derived.Laws.RangeAny
import Derived.Lib.IndexBytes
import Derived.Lib.OwnBridge
import Derived.Maps.AppendAt
import Derived.RegionTactic
import Derived.Shelf.SlGeneric
import Derived.Shelf.SlicesE.Reverse
import Derived.Test.YtjcminooghmpeaaGreatDoorPk3
set_option linter.all false
set_option maxRecDepth 100000
set_option maxHeartbeats 40000000
open Go.Proofs.Tryz
namespace Go.Proofs.YtjcminooghmpeaaGreatDoor
open Go.RowKit
def gZ{n:Int}(h0 : -9223372036854775808<=n)(h1:n<=9223372036854775807):IntKind.i64.wrap n=n:=by rw[bU];unfold wrap64;omega
def rc{f:Int}(h0:0<=f)(h7:f<=7):f=0\/f=1\/f=2\/f=3\/f=4\/f=5\/f=6\/f=7:=by omega
def ax5{f:Int}(h0:0<=f)(h7:f<=7):(IntKind.i64.wrap ↑(BitVec.ofInt IntKind.i64.bits f &&& BitVec.ofInt IntKind.i64.bits 2).toNat==0) = !decide (f/2%2=1):=by
 rcases rc h0 h7 with rfl|rfl|rfl|rfl|rfl|rfl|rfl|rfl<;>decide
def av8(x:aS)(name:Str)(hx:x.name.length<=9223372036854775807)(hn:name.length<=9223372036854775807)(h0:0<=x.flags)(h7:x.flags<=7):ab prog 65 [yB x,.row [str name]] (boo (yN x name)):=by
 have hl:=ax5 h0 h7
 refine bz tG (rs:=[.tmp 3]) func65 rfl rfl rfl (by(simp[aU,aw];done)) (by(simp;done)) (fun B=>?_)
 refine zu2 ?_
 refine zp5 ?_
 refine Wb 8 rfl (fun hg1=>?_) (fun hg1=>?_)
 ·refine zy3 ?_
  refine zc rfl func66 ((NU x.name name hx hn) _) ?_
  refine zs2 ?_
  refine zR ?_
  exact congrArg boo (by unfold yN af9;rw[hg1]at hl;rw[<-hl];simp)
 refine z6 ?_
 iterate 3 refine z6 ?_
 refine zs2 ?_
 refine zR ?_
 exact congrArg boo (by unfold yN af9;rw[hg1]at hl;rw[<-hl];simp)
def Uy{α:Type}(enc:α->List PV)(n:Nat)(hk:∀x,(enc x).length=n)(d:α):∀(l:List α) (j k:Nat),j<l.length->k<n->(l.flatMap enc)[j*n+k]?=(enc (l.getD j d))[k]?
 | [],j,k,h,_=>by simp at h
 | x::l,0,k,_,h=>by
  rw[List.flatMap_cons,Nat.zero_mul,Nat.zero_add,List.getElem?_append_left (by rw[hk];exact h)];rfl
 | x::l,j+1,k,h,h2=>by
  rw[List.flatMap_cons,List.getElem?_append_right (by rw[hk,Nat.succ_mul];omega),hk,show(j+1)*n+k-n=j*n+k by rw[Nat.succ_mul];omega,Uy enc n hk d l j k (by simpa using h) h2]
  rfl
def kh(l:List aS):Prop:=l.length<=1000000/\∀w∈l,w.name.length<=9223372036854775807/\0<=w.flags/\w.flags<=7
def kh.get{l:List aS}(h:kh l){j:Nat}(hj:j<l.length):(l.getD j default).name.length<=9223372036854775807/\0<=(l.getD j default).flags/\(l.getD j default).flags<=7 :=
 h.2 _ (by rw[List.getD_eq_getElem?_getD,List.getElem?_eq_getElem hj];exact List.getElem_mem _)
def zOf(l:List aS)(j:Nat):WX:=if h:(l.getD j default).name.length<=9223372036854775807/\0<=(l.getD j default).flags/\(l.getD j default).flags<=7 then
  ⟨(⟨(l.getD j default).name.toArray⟩,(l.getD j default).xt,(l.getD j default).flags),by simpa[ByteArray.size]using h.1,h.2⟩else⟨(⟨#[]⟩,0,0),by decide,by decide,by decide⟩
def zQ{l:List aS}(h:kh l){j:Nat}(hj:j<l.length):(zOf l j).1=(⟨(l.getD j default).name.toArray⟩,(l.getD j default).xt,(l.getD j default).flags):=by
 unfold zOf;rw[dif_pos (h.get hj)]
def wOf(x:WX):aS:=⟨x.1.1.data.toList,x.1.2.1,x.1.2.2⟩
def RJ{l:List aS}(h:kh l){j:Nat}(hj:j<l.length):wOf (zOf l j)=l.getD j default:=by
 unfold wOf;rw[zQ h hj]
def AQ{l:List aS}{name:Str}:∀k,(∀j,j<k->yN (l.getD j default) name=false)->mv l name k=(⟨[],0,0⟩,0,false)
 | 0,_=>rfl
 | k+1,h=>by unfold mv;rw[h k (by omega)];simp;exact AQ k (fun j hj=>h j (by omega))
def Bn{l:List aS}{name:Str}{m:Nat}(hm:yN (l.getD m default) name=true):∀k,m<k->(∀j,m<j->j<k->yN (l.getD j default) name=false)->mv l name k=(l.getD m default,(m:Int),true)
 | 0,h,_=>by omega
 | k+1,h,h2=>by
  unfold mv
  by_cases e:m=k
  ·subst e;rw[hm];rfl
  rw[h2 k (by omega) (by omega)];simp;exact Bn hm k (by omega) (fun j h3 h4=>h2 j h3 (by omega))
def xN(c:Cx)(x:aS):Rep c (yB x) (.agg #[.string ⟨x.name.toArray⟩,.int .i64 x.xt,.int .i64 x.flags]):=by
 unfold yB Rep
 exact⟨[_,_,_],rfl,aj.2 ⟨aq _ _,aj.2 ⟨aq _ _,aj.2 ⟨aq _ _,az.2 rfl⟩⟩⟩⟩
def Ol(l:List aS)(name:Str)(hl:kh l)(hn:name.length<=9223372036854775807):ab prog 64 [sq cT l,.fn (.func 65) [] [.row [str name]]] (B9 (dc l name)):=by
 intro H B σ w vs s hr
 match vs,hr with
 | [v0,v1],hr =>
  obtain⟨h0,hr⟩:=aj.1 hr
  obtain⟨h1,_⟩:=aj.1 hr
  unfold sq Rep at h0
  obtain⟨a,cap,us,rfl,hle,hnil,hrep,hlies,_⟩:=h0
  unfold Rep at h1
  obtain⟨fs,cs,rfl,hf,hc⟩:=h1
  rw[az]at hf;subst hf
  match cs,hc with
  | [u],hc =>
   obtain⟨hu,_⟩:=aj.1 hc
   unfold Rep at hu
   obtain⟨nb,us',rfl,hn',hln⟩:=hu
   have hcell:∀j k,j<l.length->k<3->∃u,us[j*3+k]?=some u/\∃x,(cT (l.getD j default))[k]?=some x/\Rep (cx B H σ w) x u:=fun j k hj hk=>by
    have e:=Uy cT 3 (fun _=>rfl) default l j k hj hk
    have:∃x,(cT (l.getD j default))[k]?=some x:=by match k,hk with|0,_=>exact⟨_,rfl⟩|1,_=>exact⟨_,rfl⟩|2,_=>exact⟨_,rfl⟩
    obtain⟨x,hx⟩:=this
    rw[hx]at e
    obtain⟨u,h5,h6⟩:=au.get hrep e
    exact⟨u,h5,x,hx,h6⟩
   have hI:ua w.heap.size w (.slice a l.length cap) l.length (zOf l):=by
    by_cases hz:l.length=0
    ·rw[hz];exact .inl ⟨a,cap,rfl,rfl⟩
    match a,hnil,hlies with
    | none,hnil,_=>exact absurd (hnil rfl).1 hz
    | some b,_,hlies =>
     rcases hlies b rfl with hL|⟨h9,_⟩
     ·obtain⟨hs,hL⟩:=hL
      obtain⟨blk,off,spot⟩:=b
      simp only at hs hL
      subst hs
      obtain⟨u0,q0,x0,q1,q2⟩:=hcell 0 0 (by omega) (by omega)
      have hb:blk<w.heap.size:=by
       have:=(hL _ _ q0).1
       simp only[cx]at this
       unfold World.cell? at this
       by_cases hh:blk<w.heap.size
       ·exact hh
       simp[Array.getElem?_eq_none (Nat.le_of_not_lt hh)]at this
      refine .inr ⟨blk,off,cap,rfl,hb,fun j hj=>?_,fun j hj=>?_,fun j hj=>?_⟩
      ·obtain⟨u,g1,x,g2,g3⟩:=hcell j 0 hj (by omega)
       cases g2
       unfold str Rep at g3
       subst g3
       have:=(hL _ _ g1).1
       rw[zQ hl hj];exact this
      ·obtain⟨u,g1,x,g2,g3⟩:=hcell j 1 hj (by omega)
       cases g2
       unfold i64 Rep at g3
       subst g3
       have:=(hL _ _ g1).1
       rw[zQ hl hj];rw[<-Nat.add_assoc]at this;exact this
      obtain⟨u,g1,x,g2,g3⟩:=hcell j 2 hj (by omega)
      cases g2
      unfold i64 Rep at g3
      subst g3
      have:=(hL _ _ g1).1
      rw[zQ hl hj];rw[<-Nat.add_assoc]at this;exact this
     omega
   have hname:∀W,Below w.heap.size w W->sb ⟨W,0,fun _=>none,fun _ _=>False⟩ nb us':=fun W hB=>by
    refine⟨hln.1,fun j u hj=>⟨?_,fun k=>k⟩⟩
    have:=(hln.2 j u hj).1
    exact(ba.of_below hB).cell this
   have key:=callsIn_wide.1 (Xp a l.length cap nb (zOf l) (fun x=>yN (wOf x) name) (by have:=hl.1;omega) w hI (fun W hB x=>by
    have f:=av8 (wOf x) name (by show x.1.1.data.toList.length<=_;have q:=x.2.1;unfold ByteArray.size at q;rw[Array.length_toList];exact q) hn x.2.2.1 x.2.2.2 [] (fun _ _=>False) (fun _=>none) W [wv x,.pointer (some nb)] ⟨fun i j b oi oj h=>by simp at h,fun i b oi h=>by simp at h,fun b off h=>h.elim,fun i oi h=>by simp at h⟩
     (aj.2 ⟨by have:=xN (cx (fun _ _=>False) [] (fun _=>none) W) (wOf x);simpa[wOf]using this,aj.2 ⟨by
      unfold Rep
      refine⟨nb,us',rfl,?_,?_⟩
      ·exact dz (c:=cx B H σ w) (c':=⟨w,0,fun _=>none,fun b off=>(cx B H σ w).Wr b off⟩) rfl (fun _ _ k=>k) (by simp[aw]) hn' |> fun h=>by
        match us',h with
        | [u'],h=>obtain⟨h5,_⟩:=aj.1 h;unfold str Rep at h5;subst h5;exact aj.2 ⟨aq _ _,az.2 rfl⟩
      refine⟨(hname W hB).1,fun j u hj=>⟨((hname W hB).2 j u hj).1,fun k=>?_⟩⟩
      rcases k with k|⟨i,oi,k,_⟩
      ·exact k
      simp at k,az.2 rfl⟩⟩)
    refine Calls.mono f ?_
    rintro e W' ⟨v,σ',rfl,g1,_,g3⟩
    unfold boo Rep at g1
    subst g1
    exact⟨rfl,g3.os,g3.tape,g3.output,g3.size,fun b hb=>g3.block b hb (fun i oi h=>by simp at h)⟩))
   refine Calls.mono key ?_
   rintro e W' ⟨he,hB⟩
   obtain⟨s',st⟩:=gc s (ba.of_below hB)
   rcases he with ⟨rfl,hno⟩|⟨k,hk,rfl,hy,hno⟩
   ·refine⟨_,σ,rfl,?_,s',st⟩
    have:dc l name=(⟨[],0,0⟩,0,false):=AQ l.length (fun j hj=>by have:=hno j hj;rw[RJ hl hj]at this;exact this)
    rw[this]
    unfold B9 kg Rep
    exact⟨[_,_,_],rfl,aj.2 ⟨xN _ _,aj.2 ⟨aq _ _,aj.2 ⟨aq _ _,az.2 rfl⟩⟩⟩⟩
   refine⟨_,σ,rfl,?_,s',st⟩
   have:dc l name=(l.getD k default,(k:Int),true):=Bn (by rw[<-RJ hl hk];exact hy) l.length hk (fun j h1 h2=>by have:=hno j h1 h2;rw[RJ hl h2]at this;exact this)
   rw[this]
   unfold B9 kg Rep
   refine⟨[_,_,_],rfl,aj.2 ⟨?_,aj.2 ⟨aq _ _,aj.2 ⟨aq _ _,az.2 rfl⟩⟩⟩⟩
   have:=xN (cx B H σ W') (l.getD k default)
   show Rep _ _ (.agg #[.string (zOf l k).1.1,.int .i64 (zOf l k).1.2.1,.int .i64 (zOf l k).1.2.2])
   rw[zQ hl hk];exact this
def xv(l:List aS)(name:Str)(hl:kh l)(hn:name.length<=9223372036854775807):ab prog 37 [sq cT l,str name] (B9 (dc l name)):=by
 refine zY func37 fun B=>?_
 refine zp1 ?_
 refine bR 3 _ rfl rfl rfl ?_
 refine zs3 ?_
 refine zp2 ?_
 refine zc rfl func64 ((Ol l name hl hn) _) ?_
 refine zy5 ?_
 refine zs1 ?_
 refine zR ?_
 rfl
namespace V
section
variable {P : Program} {B : Nat -> Nat -> Prop} {n : Nat} {md : Region.Mode} {ops : Array Oper} {cl : Nat -> Nat}
def YU(P:Program)(B:Nat->Nat->Prop)(ops:Array Oper)(o:Oper)(T:Nat->PV)(H:List Ob)(x:PV)(H':List Ob):Prop :=
 (ar ops T o=some true/\(bK P B o T H x H'\/js P B o T H x H'))\/(ar ops T o=some false/\x=.val undef/\H'=H)
def FU(P:Program)(B:Nat->Nat->Prop)(ops:Array Oper)(c:Nat)(o:Oper)(T:Nat->PV)(H:List Ob)(x:PV)(H':List Ob):Prop :=
 match c with
 | 0=>H'=H/\∀H2,YU P B ops o T H2 x H2
 | 1=>H'=H/\∀E,YU P B ops o T (H++E) x (H++E)
 | 2=>∃E,H'=H++E
 | 3=>True
 | c+4=>match Nat.beq (c%2) 0 with
  | true=>H'=H/\c/2<H.length/\∀H2:List Ob,H2[c/2]?=H[c/2]?->YU P B ops o T H2 x H2
  | false=>∃ob,H'=H.set (c/2) ob
def rdB(c:Nat):Bool:=Nat.ble 4 c&&Nat.beq (c%2) 0
def wrB(c:Nat):Bool:=Nat.ble 4 c&&Nat.beq (c%2) 1
def blk(c:Nat):Nat:=(c-4)/2
def ly(a b:Nat):Bool:=Nat.beq a 0||Nat.beq b 0||(Nat.beq a 1&&Nat.ble b 2)||(rdB a&&(Nat.ble b 2||rdB b||(wrB b&&!Nat.beq (blk a) (blk b))))||(wrB a&&rdB b&&!Nat.beq (blk a) (blk b))
def YU.congr{o:Oper}{T T':Nat->PV}{H H':List Ob}{x:PV}(h:∀t∈o.looksAt ops,T' t=T t)(y:YU P B ops o T H x H'):YU P B ops o T' H x H':=by
 have hw:ar ops T' o=ar ops T o:=by
  unfold ar
  cases hg:o.guard with
  | none=>rfl
  | some q =>
   obtain⟨g,b⟩:=q
   simp only
   cases hd:(ops[g]?).bind (·.dst)with
   | none=>rfl
   | some d=>simp only;rw[h d (oP hg hd)]
 have ho:∀z∈o.op.operands.toList,opv T' z=opv T z:=fun z hz=>tR fun t ht=>h t (v8 (by rw[<-ht];exact hz))
 rcases y with ⟨h1,h2|h2⟩|⟨h1,h2⟩
 ·exact .inl ⟨by rw[hw];exact h1,.inl fun σ w a s k=>h2 σ w a s (fun z hz=>by rw[<-ho z hz];exact k z hz)⟩
 ·exact .inl ⟨by rw[hw];exact h1,.inr fun σ w a s k=>h2 σ w a s (fun z hz=>by rw[<-ho z hz];exact k z hz)⟩
 exact .inr ⟨by rw[hw];exact h1,h2⟩
def FU.congr{c:Nat}{o:Oper}{T T':Nat->PV}{H H':List Ob}{x:PV}(h:∀t∈o.looksAt ops,T' t=T t)(y:FU P B ops c o T H x H'):FU P B ops c o T' H x H':=by
 match c,y with
 | 0,y=>exact⟨y.1,fun H2=>(y.2 H2).congr h⟩
 | 1,y=>exact⟨y.1,fun E=>(y.2 E).congr h⟩
 | 2,y=>exact y
 | 3,_=>trivial
 | c+4,y =>
  simp only[FU]at y ⊢
  split at y
  ·exact⟨y.1,y.2.1,fun H2 h2=>(y.2.2 H2 h2).congr h⟩
  exact y
def FU.rd{c:Nat}{o:Oper}{T:Nat->PV}{H H':List Ob}{x:PV}(hc:rdB c=true)(f:FU P B ops c o T H x H'):H'=H/\blk c<H.length/\∀H2:List Ob,H2[blk c]?=H[blk c]?->YU P B ops o T H2 x H2:=by
 simp only[rdB,Bool.and_eq_true,Nat.ble_eq,Nat.beq_eq]at hc
 obtain⟨d,rfl⟩:∃d,c=d+4:=⟨c-4,by omega⟩
 have hd:Nat.beq (d%2) 0=true:=by rw[Nat.beq_eq];omega
 simp only[FU,hd]at f
 exact f
def FU.of_rd{c:Nat}{o:Oper}{T:Nat->PV}{H H':List Ob}{x:PV}(hc:rdB c=true)(f:H'=H/\blk c<H.length/\∀H2:List Ob,H2[blk c]?=H[blk c]?->YU P B ops o T H2 x H2):FU P B ops c o T H x H':=by
 simp only[rdB,Bool.and_eq_true,Nat.ble_eq,Nat.beq_eq]at hc
 obtain⟨d,rfl⟩:∃d,c=d+4:=⟨c-4,by omega⟩
 have hd:Nat.beq (d%2) 0=true:=by rw[Nat.beq_eq];omega
 simp only[FU,hd]
 exact f
def FU.wr{c:Nat}{o:Oper}{T:Nat->PV}{H H':List Ob}{x:PV}(hc:wrB c=true)(f:FU P B ops c o T H x H'):∃ob,H'=H.set (blk c) ob:=by
 simp only[wrB,Bool.and_eq_true,Nat.ble_eq,Nat.beq_eq]at hc
 obtain⟨d,rfl⟩:∃d,c=d+4:=⟨c-4,by omega⟩
 have hd:Nat.beq (d%2) 0=false:=by rw[<-Bool.not_eq_true,Nat.beq_eq];omega
 simp only[FU,hd]at f
 exact f
def FU.of_wr{c:Nat}{o:Oper}{T:Nat->PV}{H H':List Ob}{x:PV}(hc:wrB c=true)(f:∃ob,H'=H.set (blk c) ob):FU P B ops c o T H x H':=by
 simp only[wrB,Bool.and_eq_true,Nat.ble_eq,Nat.beq_eq]at hc
 obtain⟨d,rfl⟩:∃d,c=d+4:=⟨c-4,by omega⟩
 have hd:Nat.beq (d%2) 0=false:=by rw[<-Bool.not_eq_true,Nat.beq_eq];omega
 simp only[FU,hd]
 exact f
def qU(P:Program)(B:Nat->Nat->Prop)(ops:Array Oper)(cl:Nat->Nat)(i:Nat)(K:(Nat->PV)->List Ob->Prop)(T:Nat->PV)(H:List Ob):Prop :=
 match ops[i]? with
 | none=>K T H
 | some o=>∃x H',YU P B ops o T H x H'/\FU P B ops (cl i) o T H x H'/\K (bM o.dst x T) H'
def uK(P:Program)(B:Nat->Nat->Prop)(md:Region.Mode)(ops:Array Oper)(cl:Nat->Nat)(Q:(Nat->PV)->List Ob->Prop):Nat->Array Bool->(Nat->PV)->List Ob->Prop
 | 0,listed,T,H=>Region.ready md ops listed=[]/\Q T H
 | fuel+1,listed,T,H=>(Region.ready md ops listed=[]->Q T H)/\∀i∈Region.ready md ops listed,qU P B ops cl i (uK P B md ops cl Q fuel (listed.setIfInBounds i true)) T H
def gn(hall:gG n ops=true){Q':Exit->Act->World->Prop}{Q:(Nat->PV)->List Ob->Prop}{H0:List Ob}{σ0:Nat->Option Nat}{w0:World}(hQ:∀T H σ w a,lY B n T H σ w a->dR B H0 σ0 w0 H σ w->Q T H->Q' .normal a w):
  ∀(fuel:Nat) (listed:Array Bool) (T:Nat->PV) (H:List Ob) (σ:Nat->Option Nat) (w:World) (a:Act),lY B n T H σ w a->dR B H0 σ0 w0 H σ w->uK P B md ops cl Q fuel listed T H->wpAny P md ops Q' fuel listed a w
 | 0,_,_,_,_,_,_,g,st,h=>⟨h.1,hQ _ _ _ _ _ g st h.2⟩
 | fuel+1,listed,T,H,σ,w,a,g,st,h=>by
  refine⟨fun h0=>hQ _ _ _ _ _ g st (h.1 h0),fun i hi=>?_⟩
  have h1:=h.2 i hi
  unfold qU at h1
  unfold wpOp
  cases ho:ops[i]? with
  | none=>simp only[ho]at h1 ⊢;exact gn hall hQ fuel _ T H σ w a g st h1
  | some o =>
   simp only[ho]at h1 ⊢
   obtain⟨x,H',hy,_,hk⟩:=h1
   have hd:∀j,o.dst=some j->Nat.blt j n=true:=fun j hj=>fV hall i j (by rw[ho];exact hj)
   have hgd:∀q,ar ops T o=some q->Region.wanted o (yielded ops a.tmps)=q:=fun q hq=>oe (fV hall) g hq
   rcases hy with ⟨hw,hdo|hdo⟩|⟨hw,rfl,rfl⟩
   ·rw[if_pos (hgd true hw)]
    refine .inl ?_
    obtain⟨v,w',σ',h2,h3,h4,h5⟩:=hdo σ w a g.sim (fun y _=>mb g.rep y)
    have k:=gn hall hQ fuel _ _ _ σ' w' _ (ik hd g h3 h4 h5) (st.trans h5) hk
    unfold Oper.wp
    rcases h2 with h2|⟨h2,rfl⟩
    ·rw[h2];exact k
    rw[h2];exact k
   ·rw[if_pos (hgd true hw)]
    refine .inl ?_
    obtain⟨f,args,h2,hc⟩:=hdo σ w a g.sim (fun y _=>mb g.rep y)
    unfold Oper.wp
    rw[h2]
    refine Calls.mono hc ?_
    rintro e w' ⟨v,σ',rfl,h3,h4,h5⟩
    exact gn hall hQ fuel _ _ _ σ' w' _ (ik hd g h3 h4 h5) (st.trans h5) hk
   rw[if_neg (by rw[hgd false hw];simp)]
   exact gn hall hQ fuel _ _ _ σ w _ (ik hd g (aq _ _) g.sim (dR.refl _ _ _ _)) st hk
def RM{ci cj:Nat}{oi oj:Oper}{T:Nat->PV}{H Hi Hj:List Ob}{x y:PV}(hc:ly ci cj=true)(h1:∀t∈oj.looksAt ops,bM oi.dst x T t=T t)(h2:∀t∈oi.looksAt ops,bM oj.dst y T t=T t)
  (yi:YU P B ops oi T H x Hi) (fi:FU P B ops ci oi T H x Hi) (yj:YU P B ops oj (bM oi.dst x T) Hi y Hj) (fj:FU P B ops cj oj (bM oi.dst x T) Hi y Hj) :
  ∃H',YU P B ops oj T H y H'/\FU P B ops cj oj T H y H'/\YU P B ops oi (bM oj.dst y T) H' x Hj/\FU P B ops ci oi (bM oj.dst y T) H' x Hj:=by
 have b1:∀t∈oj.looksAt ops,T t=bM oi.dst x T t:=fun t ht=>(h1 t ht).symm
 have yj':=yj.congr b1
 have fj':=fj.congr b1
 simp only[ly,Bool.or_eq_true,Bool.and_eq_true,Nat.beq_eq,Nat.ble_eq]at hc
 rcases hc with (((rfl|rfl)|⟨rfl,hj⟩)|⟨hr,hj⟩)|⟨⟨hw,hr⟩,hne⟩
 ·obtain⟨rfl,hl⟩:=fi
  exact⟨Hj,yj',fj',(hl Hj).congr h2,rfl,fun H2=>(hl H2).congr h2⟩
 ·obtain⟨rfl,hl⟩:=fj'
  exact⟨H,hl H,⟨rfl,hl⟩,yi.congr h2,fi.congr h2⟩
 ·obtain⟨rfl,hl⟩:=fi
  have:∃E,Hj=Hi++E:=by
   match cj,hj,fj' with
   | 0,_,fj'=>exact⟨[],by rw[fj'.1];simp⟩
   | 1,_,fj'=>exact⟨[],by rw[fj'.1];simp⟩
   | 2,_,fj'=>exact fj'
   | c+3,hj,_=>omega
  obtain⟨E,rfl⟩:=this
  exact⟨Hi++E,yj',fj',(hl E).congr h2,rfl,fun E2=>by rw[List.append_assoc];exact(hl (E++E2)).congr h2⟩
 ·obtain⟨rfl,hlt,hl⟩:=fi.rd hr
  have key:Hj[blk ci]?=Hi[blk ci]?/\blk ci<Hj.length:=by
   rcases hj with (hj|hj)|⟨hj,hne⟩
   ·have:∃E,Hj=Hi++E:=by
     match cj,hj,fj' with
     | 0,_,fj'=>exact⟨[],by rw[fj'.1];simp⟩
     | 1,_,fj'=>exact⟨[],by rw[fj'.1];simp⟩
     | 2,_,fj'=>exact fj'
     | c+3,hj,_=>omega
    obtain⟨E,rfl⟩:=this
    exact⟨List.getElem?_append_left hlt,by simp;omega⟩
   ·obtain⟨rfl,_⟩:=fj'.rd hj
    exact⟨rfl,hlt⟩
   obtain⟨ob,rfl⟩:=fj'.wr hj
   refine⟨List.getElem?_set_ne ?_,by simpa using hlt⟩
   intro h;rw[h]at hne;simp at hne
  exact⟨Hj,yj',fj',(hl Hj key.1).congr h2,FU.of_rd hr ⟨rfl,key.2,fun H2 h3=>(hl H2 (h3.trans key.1)).congr h2⟩⟩
 obtain⟨ob,rfl⟩:=fi.wr hw
 obtain⟨rfl,hlt,hl⟩:=fj'.rd hr
 have hk:H[blk cj]?=(H.set (blk ci) ob)[blk cj]?:=by
  rw[List.getElem?_set_ne]
  intro h;rw[h]at hne;simp at hne
 exact⟨H,hl H hk,FU.of_rd hr ⟨rfl,by simpa using hlt,fun H2 h3=>hl H2 (h3.trans hk)⟩,yi.congr h2,fi.congr h2⟩
def uV{Q:(Nat->PV)->List Ob->Prop}{i:Nat}{oi:Oper}{x:PV}(hi:ops[i]?=some oi):∀(fuel:Nat) (listed:Array Bool) (T:Nat->PV) (H Hi:List Ob),
  (∀j oj,ops[j]?=some oj->j≠i->listed.getD j true=false->(∀e∈oj.after,Region.binds md e=true->e.on≠i)->oi.apart ops oj=true/\ly (cl i) (cl j)=true) ->
  i∈Region.ready md ops listed->YU P B ops oi T H x Hi->FU P B ops (cl i) oi T H x Hi->uK P B md ops cl Q fuel (listed.setIfInBounds i true) (bM oi.dst x T) Hi->uK P B md ops cl Q (fuel+1) listed T H:=by
 intro fuel
 have self:∀(fuel:Nat) (listed:Array Bool) (T:Nat->PV) (H Hi:List Ob),YU P B ops oi T H x Hi->FU P B ops (cl i) oi T H x Hi->uK P B md ops cl Q fuel (listed.setIfInBounds i true) (bM oi.dst x T) Hi->qU P B ops cl i (uK P B md ops cl Q fuel (listed.setIfInBounds i true)) T H:=by
  intro fuel listed T H Hi hy hf h
  unfold qU
  simp only[hi]
  exact⟨x,Hi,hy,hf,h⟩
 induction fuel with
 | zero =>
  intro listed T H Hi _ hr hy hf h
  refine⟨fun h0=>(by rw[h0]at hr;cases hr),fun j hj=>?_⟩
  by_cases hji:j=i
  ·subst hji;exact self 0 listed T H Hi hy hf h
  have:=ready_mono hj hji
  rw[h.1]at this
  cases this
 | succ fuel ih =>
  intro listed T H Hi hfree hr hy hf h
  refine⟨fun h0=>(by rw[h0]at hr;cases hr),fun j hj=>?_⟩
  by_cases hji:j=i
  ·subst hji;exact self (fuel+1) listed T H Hi hy hf h
  have h1:=h.2 j (ready_mono hj hji)
  obtain⟨hjun,oj,hoj,hall⟩:=mem_ready.1 hj
  have hnot:∀e∈oj.after,Region.binds md e=true->e.on≠i:=fun e he hb heq=>by
   have a1:=hall e he hb
   have a0:=(mem_ready.1 hr).1
   rw[heq]at a1
   rcases Nat.lt_or_ge i listed.size with h'|h'
   ·simp[h']at a0 a1;rw[a0]at a1;cases a1
   simp[Array.getElem?_eq_none h']at a1
  obtain⟨hap,hcp⟩:=hfree j oj hoj hji hjun hnot
  obtain⟨l1,l2,l3⟩:=sx hap
  unfold qU at h1 ⊢
  simp only[hoj]at h1 ⊢
  obtain⟨y,Hj,hyj,hfj,hk⟩:=h1
  obtain⟨H',k1,k2,k3,k4⟩:=RM hcp (fun t ht=>nQ (l1 t ht)) (fun t ht=>nQ (l2 t ht)) hy hf hyj hfj
  refine⟨y,H',k1,k2,ih (listed.setIfInBounds j true) _ H' Hj (fun k ok hk hki hun hno=>?_) (ready_mono hr (Ne.symm hji)) k3 k4 ?_⟩
  ·refine hfree k ok hk hki ?_ hno
   by_cases hjk:j=k
   ·subst hjk;exact hjun
   rw[getD_set_ne true hjk]at hun;exact hun
  rw[Array.setIfInBounds_comm _ _ hji,xi _ _ _ l3]
  exact hk
def F0(md:Region.Mode)(ops:Array Oper)(cl:Nat->Nat)(listed:Array Bool)(i:Nat)(oi:Oper):Bool :=
 ops.toList.zipIdx.all fun q=>Nat.beq q.2 i||listed.getD q.2 true||(q.1.after.any fun e=>Region.binds md e&&Nat.beq e.on i)||(oi.apart ops q.1&&ly (cl i) (cl q.2))
def Ab(md:Region.Mode)(ops:Array Oper)(cl:Nat->Nat):List Nat->Array Bool->Bool
 | [],listed=>(Region.ready md ops listed).isEmpty
 | i::l,listed=>(Region.ready md ops listed).contains i&&(match ops[i]? with|some oi=>F0 md ops cl listed i oi|none=>false)&&Ab md ops cl l (listed.setIfInBounds i true)
def vb{listed:Array Bool}{i:Nat}{oi:Oper}(h:F0 md ops cl listed i oi=true):∀j oj,ops[j]?=some oj->j≠i->listed.getD j true=false->(∀e∈oj.after,Region.binds md e=true->e.on≠i)->oi.apart ops oj=true/\ly (cl i) (cl j)=true:=by
 intro j oj hj hji hun hno
 have h1:=List.all_eq_true.1 h (oj,j) (Eo (by rw[Array.getElem?_toList];exact hj))
 simp only[Bool.or_eq_true,Bool.and_eq_true,Nat.beq_eq]at h1
 rcases h1 with ((h1|h1)|h1)|h1
 ·exact absurd h1 hji
 ·rw[hun]at h1;cases h1
 ·obtain⟨e,he,h3⟩:=Array.any_eq_true'.1 h1
  simp only[Bool.and_eq_true,Nat.beq_eq]at h3
  exact absurd h3.2 (hno e he h3.1)
 exact h1
def WU(P:Program)(B:Nat->Nat->Prop)(n:Nat)(ops:Array Oper)(cl:Nat->Nat):List Nat->(Nat->PV)->List Ob->((Nat->PV)->List Ob->Prop)->Prop
 | [],T,H,K=>K T H
 | i::l,T,H,K=>∃o,ops[i]?=some o/\∃x H',YU P B ops o T H x H'/\FU P B ops (cl i) o T H x H'/\WU P B n ops cl l (bM o.dst x T) H' K
def tm{Q:(Nat->PV)->List Ob->Prop}:∀(l:List Nat) (listed:Array Bool) (T:Nat->PV) (H:List Ob),Ab md ops cl l listed=true->WU P B n ops cl l T H Q->uK P B md ops cl Q l.length listed T H
 | [],listed,T,H,hB,h=>⟨by simpa[Ab]using hB,h⟩
 | i::l,listed,T,H,hB,h=>by
  simp only[Ab,Bool.and_eq_true]at hB
  obtain⟨⟨hr,hf⟩,hB'⟩:=hB
  obtain⟨o,ho,x,H',hy,hfu,hK⟩:=h
  rw[ho]at hf
  exact uV ho l.length listed T H H' (vb hf) (by simpa using hr) hy hfu (tm l _ _ _ hB' hK)
def RP(l:List Nat)(i:Nat):Nat:=l.getD i 3
def GI(md:Region.Mode)(ops:Array Oper)(cl:List Nat)(ord:List Nat):Bool:=Nat.beq ord.length ops.size&&Ab md ops (RP cl) ord (Array.replicate ops.size false)
variable {T : Nat -> PV} {H : List Ob} {Q : Exit -> (Nat -> PV) -> List Ob -> Prop}
def ax{id:Nat}(cl ord:List Nat)(hm:P.follows .mixedOrders=true)(hall:gG n ops=true)(hB:GI .any ops cl ord=true)(h:WU P B n ops (RP cl) ord T H (fun T' H'=>Q .normal T' H')):W P B n (.region id ops true) T H Q:=by
 intro σ w a g
 simp only[GI,Bool.and_eq_true,Nat.beq_eq]at hB
 refine wp_region_any hm ?_
 have hd:ba w {w with drawn:=w.drawn+1}:=ba.drew w
 obtain⟨s',st⟩:=gc g.sim hd
 have hA:=tm (P:=P) (B:=B) (n:=n) (md:=.any) ord (Array.replicate ops.size false) T H hB.2 h
 rw[hB.1]at hA
 exact gn (P:=P) (md:=.any) hall (H0:=H) (σ0:=σ) (w0:=w) (Q':=Hd B n H σ w Q) (fun T' H' σ' w' a' g' st' hq=>⟨T',H',σ',hq,g',st'⟩) ops.size _ T H σ _ a ⟨s',fun i=>(g.rep i).mono st.le,g.size,g.defers⟩ st hA
variable {o : Oper} {l : List Nat} {i : Nat} {K : (Nat -> PV) -> List Ob -> Prop} {x : PV} {H' : List Ob} {G : List (Nat × TD)} {p : Prop} {d : Option Tmp}
def aQ(h:K T H):WU P B n ops cl [] T H K:=h
def im(h0:ops[i]?=some o)(hc:cl i=0)(hd:nfD n o.dst=some d)(hw:ar ops T o=some true)(h:∀H2,bK P B o T H2 x H2)(k:WU P B n ops cl l (bM d x T) H K):WU P B n ops cl (i::l) T H K :=
 ⟨o,h0,x,H,.inl ⟨hw,.inl (h H)⟩,by rw[hc];exact⟨rfl,fun H2=>.inl ⟨hw,.inl (h H2)⟩⟩,(cU hd).1▸k⟩
def Xc(h0:ops[i]?=some o)(hc:cl i=0)(hd:nfD n o.dst=some d)(hw:ar ops T o=some true)(h:∀H2,js P B o T H2 x H2)(k:WU P B n ops cl l (bM d x T) H K):WU P B n ops cl (i::l) T H K :=
 ⟨o,h0,x,H,.inl ⟨hw,.inr (h H)⟩,by rw[hc];exact⟨rfl,fun H2=>.inl ⟨hw,.inr (h H2)⟩⟩,(cU hd).1▸k⟩
def Xe(hG:dt P G=true)(h0:ops[i]?=some o)(hc:cl i=0)(hd:nfD n o.dst=some d)(hw:ar ops T o=some true)(h:∀H2,evS G T H2 o.type o.op=some (x,H2,p))(hp:p)(k:WU P B n ops cl l (bM d x T) H K):WU P B n ops cl (i::l) T H K :=
 im h0 hc hd hw (fun H2=>eH hG rfl (mT (h H2)) hp) k
def Xi{y:PV}(hG:dt P G=true)(h0:ops[i]?=some o)(hc:cl i=0)(hd:nfD n o.dst=some d)(hw:ar ops T o=some true)(h:∀H2,evS G T H2 o.type o.op=some (x,H2,p))(hp:p)(hi:Imp x y)(k:WU P B n ops cl l (bM d y T) H K):WU P B n ops cl (i::l) T H K :=
 im h0 hc hd hw (fun H2=>(eH hG rfl (mT (h H2)) hp).imp hi) k
def E0(h0:ops[i]?=some o)(hc:Nat.ble (cl i) 3=true)(hd:nfD n o.dst=some d)(hw:ar ops T o=some false)(k:WU P B n ops cl l (bM d (.val undef) T) H K):WU P B n ops cl (i::l) T H K:=by
 refine⟨o,h0,_,H,.inr ⟨hw,rfl,rfl⟩,?_,(cU hd).1▸k⟩
 generalize cl i=q at hc
 match q,hc with
 | 0,_=>exact⟨rfl,fun H2=>.inr ⟨hw,rfl,rfl⟩⟩
 | 1,_=>exact⟨rfl,fun E=>.inr ⟨hw,rfl,rfl⟩⟩
 | 2,_=>exact⟨[],by simp⟩
 | 3,_=>trivial
 | c+4,hc=>rw[Nat.ble_eq]at hc;omega
def Xf(hG:dt P G=true)(h0:ops[i]?=some o)(hc:cl i=1)(hd:nfD n o.dst=some d)(hw:ar ops T o=some true)(h:∀E,evS G T (H++E) o.type o.op=some (x,H++E,p))(hp:p)(k:WU P B n ops cl l (bM d x T) H K):WU P B n ops cl (i::l) T H K :=
 ⟨o,h0,x,H,.inl ⟨hw,.inl (by have:=eH (P:=P) (B:=B) (o:=o) hG rfl (mT (h [])) hp;rwa [List.append_nil]at this)⟩,by rw[hc];exact⟨rfl,fun E=>.inl ⟨hw,.inl (eH hG rfl (mT (h E)) hp)⟩⟩,(cU hd).1▸k⟩
def vp{E:List Ob}(hG:dt P G=true)(h0:ops[i]?=some o)(hc:cl i=2)(hd:nfD n o.dst=some d)(hw:ar ops T o=some true)(h:evN G T H o.type o.op=some (x,H',p))(hp:p)(hH:H'=H++E)(k:WU P B n ops cl l (bM d x T) H' K):WU P B n ops cl (i::l) T H K :=
 ⟨o,h0,x,H',.inl ⟨hw,.inl (eH hG rfl (pj h) hp)⟩,by rw[hc];exact⟨E,hH⟩,(cU hd).1▸k⟩
def dH(hG:dt P G=true)(h0:ops[i]?=some o)(hc:cl i=3)(hd:nfD n o.dst=some d)(hw:ar ops T o=some true)(h:evN G T H o.type o.op=some (x,H',p))(hp:p)(k:WU P B n ops cl l (bM d x T) H' K):WU P B n ops cl (i::l) T H K :=
 ⟨o,h0,x,H',.inl ⟨hw,.inl (eH hG rfl (pj h) hp)⟩,by rw[hc];trivial,(cU hd).1▸k⟩
def mD(h0:ops[i]?=some o)(hc:cl i=3)(hd:nfD n o.dst=some d)(hw:ar ops T o=some true)(h:bK P B o T H x H')(k:WU P B n ops cl l (bM d x T) H' K):WU P B n ops cl (i::l) T H K :=
 ⟨o,h0,x,H',.inl ⟨hw,.inl h⟩,by rw[hc];trivial,(cU hd).1▸k⟩
def sM(h0:ops[i]?=some o)(hc:cl i=3)(hd:nfD n o.dst=some d)(hw:ar ops T o=some true)(h:js P B o T H x H')(k:WU P B n ops cl l (bM d x T) H' K):WU P B n ops cl (i::l) T H K :=
 ⟨o,h0,x,H',.inl ⟨hw,.inr h⟩,by rw[hc];trivial,(cU hd).1▸k⟩
def oz(d:Nat){b:Bool}(hT:T d=.val (.bool b))(h1:b=true->WU P B n ops cl l (upd d (.val (.bool true)) T) H K)(h2:b=false->WU P B n ops cl l (upd d (.val (.bool false)) T) H K):WU P B n ops cl l T H K:=by
 have e:∀q,b=q->upd d (.val (.bool q)) T=T:=by
  rintro q rfl
  funext i
  by_cases hi:i=d
  ·subst hi;rw[dT,hT]
  rw[cJ _ _ _ _ hi]
 cases hb:b with
 | true=>have:=h1 hb;rwa [e true hb]at this
 | false=>have:=h2 hb;rwa [e false hb]at this
def Xa(d:Nat){x y:PV}(hT:T d=x)(hxy:x=y)(h1:WU P B n ops cl l (upd d y T) H K):WU P B n ops cl l T H K:=by
 have e:upd d y T=T:=by
  funext i
  by_cases hi:i=d
  ·subst hi;rw[dT,hT,hxy]
  rw[cJ _ _ _ _ hi]
 rwa [e]at h1
def UF{H':List Ob}(hH:H'=H)(h1:WU P B n ops cl l T H' K):WU P B n ops cl l T H K:=by subst hH;exact h1
def Gw(b:Nat){ob:Ob}(h0:ops[i]?=some o)(hc:cl i=4+2*b)(hd:nfD n o.dst=some d)(hw:ar ops T o=some true)(hb:H[b]?=some ob)(h:∀H2:List Ob,H2[b]?=some ob->bK P B o T H2 x H2)(k:WU P B n ops cl l (bM d x T) H K):WU P B n ops cl (i::l) T H K:=by
 have hk:blk (4+2*b)=b:=by unfold blk;omega
 exact⟨o,h0,x,H,.inl ⟨hw,.inl (h H hb)⟩,by rw[hc];exact FU.of_rd (by simp only[rdB,Bool.and_eq_true,Nat.ble_eq,Nat.beq_eq];omega) ⟨rfl,by rw[hk];exact cX hb,fun H2 h2=>.inl ⟨hw,.inl (h H2 (by rw[hk,hb]at h2;exact h2))⟩⟩,(cU hd).1▸k⟩
def SA(b:Nat){ob:Ob}(hG:dt P G=true)(h0:ops[i]?=some o)(hc:cl i=5+2*b)(hd:nfD n o.dst=some d)(hw:ar ops T o=some true)(h:evN G T H o.type o.op=some (x,H',p))(hp:p)(hH:H'=H.set b ob)(k:WU P B n ops cl l (bM d x T) H' K):WU P B n ops cl (i::l) T H K:=by
 have hk:blk (5+2*b)=b:=by unfold blk;omega
 exact⟨o,h0,x,H',.inl ⟨hw,.inl (eH hG rfl (pj h) hp)⟩,by rw[hc];exact FU.of_wr (by simp only[wrB,Bool.and_eq_true,Nat.ble_eq,Nat.beq_eq];omega) ⟨ob,by rw[hk];exact hH⟩,(cU hd).1▸k⟩
def Z8(b:Nat){ob:Ob}(h0:ops[i]?=some o)(hc:cl i=5+2*b)(hd:nfD n o.dst=some d)(hw:ar ops T o=some true)(h:js P B o T H x H')(hH:H'=H.set b ob)(k:WU P B n ops cl l (bM d x T) H' K):WU P B n ops cl (i::l) T H K:=by
 have hk:blk (5+2*b)=b:=by unfold blk;omega
 exact⟨o,h0,x,H',.inl ⟨hw,.inr h⟩,by rw[hc];exact FU.of_wr (by simp only[wrB,Bool.and_eq_true,Nat.ble_eq,Nat.beq_eq];omega) ⟨ob,by rw[hk];exact hH⟩,(cU hd).1▸k⟩
end
section
variable {B : Nat -> Nat -> Prop} {n : Nat} {all ops : Array Oper} {cl : Nat -> Nat} {i : Nat} {li : List Nat} {T : Nat -> PV} {H H' : List Ob} {K : (Nat -> PV) -> List Ob -> Prop} {Q : Exit -> (Nat -> PV) -> List Ob -> Prop} {l : List Oper} {o : Oper} {x : PV} {d : Option Tmp} {p : Prop}
def z3(k:WU prog B n ops cl li (bM d x T) H K)(h0:ops[i]?=some o:=by exact rfl)(hc:cl i=0:=by exact rfl)(hd:nfD n o.dst=some d:=by exact rfl)(hw:ar ops T o=some true:=by exact rfl)(h:∀H2,evS tys T H2 o.type o.op=some (x,H2,True):=by exact fun _=>rfl):WU prog B n ops cl (i::li) T H K :=
 Xe tG h0 hc hd hw h trivial k
def z4(k:WU prog B n ops cl li (bM d x T) H K)(h0:ops[i]?=some o:=by exact rfl)(hc:cl i=0:=by exact rfl)(hd:nfD n o.dst=some d:=by exact rfl)(hw:ar ops T o=some true:=by exact rfl)(h:∀H2,evS tys T H2 o.type o.op=some (x,H2,p):=by exact fun _=>rfl)(q:p):WU prog B n ops cl (i::li) T H K :=
 Xe tG h0 hc hd hw h q k
def z5(k:WU prog B n ops cl li (bM d x T) H K)(h0:ops[i]?=some o:=by exact rfl)(hc:cl i=1:=by exact rfl)(hd:nfD n o.dst=some d:=by exact rfl)(hw:ar ops T o=some true:=by exact rfl)(h:∀E,evS tys T (H++E) o.type o.op=some (x,H++E,True):=by exact fun _=>rfl):WU prog B n ops cl (i::li) T H K :=
 Xf tG h0 hc hd hw h trivial k
def z7(k:WU prog B n ops cl li (bM d (.val undef) T) H K)(h0:ops[i]?=some o:=by exact rfl)(hc:Nat.ble (cl i) 3=true:=by exact rfl)(hd:nfD n o.dst=some d:=by exact rfl)(hw:ar ops T o=some false:=by exact rfl):WU prog B n ops cl (i::li) T H K :=
 E0 h0 hc hd hw k
end
end V
open Go.RowKit
section
variable {P : Program}
def Ty(P:Program)(f:FuncId)(args:List PV)(res:Nat->PV)(xs:List PV)(e:TypeId):Prop:=∀H,HC P f args H (res H.length) (H++[.cells xs e])
def yr(k:Nat){H1:List Ob}{f:FuncId}{args:List PV}{res:Nat->PV}{xs:List PV}{e:TypeId}(ha:aw args)(hxs:aw xs)(hres:(∃n,∀i,res i=.arw i 0 n)\/∀i,res i=.ptr i 0)
  (hk:H1[k]?=some (.cells xs e)) (h:HC P f args [] (res k) H1):Ty P f args res xs e:=by
 intro H B σ w vs s hr
 have s0:=Lh s
 have hr0:au (cx (BoW B σ H) [] σ w) args vs:=dz (c:=cx B H σ w) (c':=cx (BoW B σ H) [] σ w) rfl (fun b off h=>by
  rcases h with h|⟨i,oi,h1,_⟩
  ·exact h
  simp at h1) ha hr
 refine Calls.mono (h (BoW B σ H) σ w vs s0 hr0) ?_
 rintro e' w' ⟨v,σ',rfl,h1,h3,h2⟩
 have g:ba w w':=⟨h2.os,h2.tape,h2.output,h2.size,fun b hb=>h2.block b hb (fun i oi h=>by simp at h)⟩
 obtain⟨b,ws,fr,h4,h5,h6,h7⟩:=h3.holds k _ hk
 have hnew:w.heap.size<=b:=by
  rcases h2.new k _ b hk rfl h4 with h8|⟨j,oj,h8,_⟩
  ·exact h8
  simp at h8
 have wr:∀x off,(cx B (H++[.cells xs e]) (ext σ H.length (some b)) w').Wr x off->(cx (BoW B σ H) H1 σ' w').Wr x off:=by
  rintro x off (h|⟨j,oj,k3,k4,k5⟩)
  ·exact .inl (.inl h)
  rcases fL k3 with ⟨k6,k7⟩|⟨rfl,rfl⟩
  ·rw[bY k6]at k4;exact .inl (.inr ⟨j,oj,k7,k4,k5⟩)
  rw[bA]at k4;cases k4;exact .inr ⟨k,_,hk,h4,trivial⟩
 obtain⟨p,q,hpq,hp⟩:=h7
 obtain⟨s',st⟩:=fq s g (.cells xs e) (some b) (fun b' hb=>by cases hb;exact hnew) ⟨b,ws,fr,by simp only[cx];rw[bA],h5,h6,p,q,hpq,dz (c:=cx (BoW B σ H) H1 σ' w') (c':=cx B (H++[.cells xs e]) (ext σ H.length (some b)) w') rfl wr hxs hp⟩
 refine⟨v,_,rfl,?_,s',st⟩
 rcases hres with ⟨n,hres⟩|hres
 ·rw[hres]at h1 ⊢
  unfold Rep at h1 ⊢
  obtain⟨_,b',cap,k1,k2,k3⟩:=h1
  simp only[cx]at h4 k1
  rw[h4]at k1;cases k1
  exact⟨by simp[cx],b,cap,by simp only[cx];rw[bA],k2,k3⟩
 rw[hres]at h1 ⊢
 unfold Rep at h1 ⊢
 obtain⟨_,b',k1,k2⟩:=h1
 simp only[cx]at h4 k1
 rw[h4]at k1;cases k1
 exact⟨by simp[cx],b,by simp only[cx];rw[bA],k2⟩
def zS{f:FuncId}{args:List PV}{res:Nat->PV}{xs:List PV}{e:TypeId}(ha:aw args)(hxs:aw xs)(hres:(∃n,∀i,res i=.arw i 0 n)\/∀i,res i=.ptr i 0)
  (h:HC P f args [] (res 0) [.cells xs e]):Ty P f args res xs e:=yr 0 ha hxs hres rfl h
variable {B : Nat -> Nat -> Prop} {H : List Ob} {σ : Nat -> Option Nat} {w : World}
def WW(s:Sim B H σ w){i m q:Nat}{xs:List PV}{e:TypeId}(hi:H[i]?=some (.cells xs e))(hq:q<=xs.length){v:Value}(h1:Rep (cx B H σ w) (.arw i 0 m) v):Rep (cx B (H.set i .dead) σ w) (.seq m (xs.take q) .any) v:=by
 obtain⟨s',st⟩:=lN s hi
 unfold Rep at h1
 obtain⟨_,b,cap,hb,hmc,hv⟩:=h1
 obtain⟨b',vs,fr,hb',hg,_,hp⟩:=s.holds i _ hi
 simp only[cx]at hb hb' hg
 rw[hb]at hb'
 cases hb'
 rw[hv]
 unfold Rep
 refine⟨_,cap,vs.take q,rfl,hmc,(fun h=>by cases h),au.mono st.le (hp.take hq),fun b1 hb1=>.inl ?_,trivial⟩
 cases hb1
 refine⟨rfl,fun j' u hu=>⟨?_,?_⟩⟩
 ·rw[List.getElem?_take]at hu
  split at hu
  ·show w.cell? ⟨b,0+j',none⟩=some u
   rw[Nat.zero_add,fc hg];exact hu
  cases hu
 rintro(h2|⟨k,ok,h2,h3,h4⟩)
 ·exact s.sep i b _ hi rfl hb _ h2
 have hlk:ok.live=true:=by cases ok<;>first|rfl|cases h4
 by_cases hki:k=i
 ·subst hki
  rw[List.getElem?_set_self (cX hi)]at h2;cases h2;cases h4
 rw[List.getElem?_set_ne (Ne.symm hki)]at h2
 exact hki (s.inj k i b _ _ h2 hi hlk rfl h3 hb)
def Ys(s:Sim B H σ w){i j m q p:Nat}{xs zs:List PV}{e t:TypeId}(hij:i≠j)(hi:H[i]?=some (.cells xs e))(hj:H[j]?=some (.cells zs t))(hp:zs[p]?=some (.arw i 0 m))(hq:q<=xs.length):
  Sim B ((H.set i .dead).set j (.cells (zs.set p (.seq m (xs.take q) .any)) t)) σ w/\dR B H σ w ((H.set i .dead).set j (.cells (zs.set p (.seq m (xs.take q) .any)) t)) σ w:=by
 obtain⟨s1,st1⟩:=lN s hi
 obtain⟨b,vs,fr,hb,hg,hf,p1,p2,hv,hr⟩:=s.holds j _ hj
 obtain⟨u,hu,h1⟩:=hr.get hp
 have h2:=WW s hi hq h1
 have h3:sw (cx B (H.set i .dead) σ w) (zs.set p (.seq m (xs.take q) .any)) vs:=by
  refine⟨p1,p2,hv,?_⟩
  have:=au.set p (au.mono st1.le hr) h2
  have e:p1.set p u=p1:=by
   apply List.ext_getElem?
   intro k
   rw[List.getElem?_set]
   split
   ·rename_i hk;subst hk;split
    ·exact hu.symm
    rename_i hl;rw[List.getElem?_eq_none (by omega)]
   rfl
  rwa [e]at this
 have hj1:(H.set i .dead)[j]?=some (.cells zs t):=by rw[List.getElem?_set_ne hij];exact hj
 obtain⟨s2,st2⟩:=lK s1 hj1 hb hg hf rfl h3
 rw[setRow_self w b vs.toArray t fr hg]at s2 st2
 exact⟨s2,st1.trans st2⟩
def aH6{c:Cx}{zs ys:List PV}{vs:List Value}(h:sn zs ys)(k:sw c zs vs):sw c ys vs:=by
 obtain⟨p,q,h1,h2⟩:=k
 exact⟨p,q,h1,pv h h2⟩
def obW(s:Sim B H σ w){j:Nat}{zs ys:List PV}{t:TypeId}(hj:H[j]?=some (.cells zs t))(h:sn zs ys):Sim B (H.set j (.cells ys t)) σ w/\dR B H σ w (H.set j (.cells ys t)) σ w:=by
 obtain⟨b,vs,fr,hb,hg,hf,hp⟩:=s.holds j _ hj
 have:=lK s hj hb hg hf rfl (aH6 h hp)
 rwa [setRow_self w b vs.toArray t fr hg]at this
def vv{n:Nat}{T:Nat->PV}{all:Array Oper}{l:List Oper}{K:(Nat->PV)->List Ob->Prop}(j:Nat){zs ys:List PV}{t:TypeId}{H':List Ob}(hj:H[j]?=some (.cells zs t)){us:List PV}(hz:Pb zs=some us)(e:us=ys)(hH:nfH (H.set j (.cells ys t))=some H')(h1:WO P B n all l T H' K):WO P B n all l T H K:=by
 rw[s9 hH]at h1
 subst e
 intro hall σ w a g
 obtain⟨s',st⟩:=obW g.sim hj (v7 hz)
 exact gx (fun _ _ _ h=>ic st (fun _ _ _ h=>h) h) _ _ _ (h1 hall σ w a ⟨s',fun i=>(g.rep i).mono st.le,g.size,g.defers⟩)
def FzQ(Q:Exit->(Nat->PV)->List Ob->Prop):Exit->(Nat->PV)->List Ob->Prop:=fun e T H=>∃(i j p m q:Nat) (xs zs:List PV) (ee t:TypeId),
 i≠j/\H[i]?=some (.cells xs ee)/\H[j]?=some (.cells zs t)/\zs[p]?=some (.arw i 0 m)/\q<=xs.length/\Q e T ((H.set i .dead).set j (.cells (zs.set p (.seq m (xs.take q) .any)) t))
def ax7{n:Nat}{T:Nat->PV}{c:Code}{Q:Exit->(Nat->PV)->List Ob->Prop}(h:W P B n c T H (FzQ Q)):W P B n c T H Q:=by
 intro σ w a g
 refine wp_mono (h σ w a g) ?_
 rintro e a' w' ⟨T',H',σ',⟨i,j,p,m,q,xs,zs,ee,t,h1,h2,h3,h4,h5,h6⟩,g',st⟩
 obtain⟨s',st'⟩:=Ys g'.sim h1 h2 h3 h4 h5
 exact⟨T',_,σ',h6,⟨s',fun i=>(g'.rep i).mono st'.le,g'.size,g'.defers⟩,st.trans st'⟩
end
open Go.RowKit
def A7(l:List aS)(hl:l.length<=1000000):ab prog 94 [sq cT l] (sqc cT l):=by
 refine bz tG (rs:=[.tmp 2]) func94 rfl rfl rfl (by(simp;done)) (by exact lA (fun x=>by simp) _) (fun B=>?_)
 refine zu1 ?_
 refine zp5 ?_
 refine z2 ?_ (q:=(by(simp_all;done)))
 refine Wa 8 rfl (cM cT 3 (fun _=>rfl) (by omega)) ?_
 refine zs1 ?_
 refine Wq ?_
 exact ow rfl (by simp[sqc];rfl)
def Bl(l:List sz)(hl:l.length<=1000000):ab prog 215 [sq tl l] (sqc tl l):=by
 refine bz tG (rs:=[.tmp 2]) func215 rfl rfl rfl (by(simp;done)) (by exact lA (fun x=>by simp) _) (fun B=>?_)
 refine zu1 ?_
 refine zp5 ?_
 refine z2 ?_ (q:=(by(simp_all;done)))
 refine Wa 8 rfl (cM tl 4 (fun _=>rfl) (by omega)) ?_
 refine zs1 ?_
 refine Wq ?_
 exact ow rfl (by simp[sqc];rfl)
def QL(l:List aS)(h0:0<l.length)(hl:l.length<=1000000):HC prog 261 [sq cT l] [] (.arw 0 0 l.length) [.cells (l.flatMap cT) 61]:=by
 refine mJ tG (rs:=[.tmp 2]) func261 rfl rfl rfl (fun B=>?_)
 refine zu1 ?_
 refine Ws<|zp1 ?_
 refine wX (lO tG rfl) rfl rfl rfl rfl rfl (fun bn1 hn1=>?_)
 refine Wn<|Wi rfl (fun hi1=>?_) (fun hi1=>?_)
 ·exact absurd (hn1 hi1).1 (by omega)
 refine Wj<|zp2 ?_
 refine Wd rfl rfl (o6 (lO tG rfl) rfl (lO tG rfl) (lO tG rfl) rfl rfl ⟨_,rfl⟩ ⟨rfl,rfl,al _ 3 (fun _=>rfl) _,bF _ (fun _=>rfl) _⟩ rfl (by dsimp only;omega) (by omega) (by omega)) ?_
 refine Wa 7 rfl (show PV.arw 0 0 (0+l.length)=.arw 0 0 l.length by rw[Nat.zero_add]) ?_
 refine zs1 ?_
 refine Wq<|AH rfl ?_ ?_
 ·rfl
 rfl
def MZ(l:List aS)(h0:0<l.length)(hl:l.length<=1000000):Ty prog 261 [sq cT l] (fun i=>.arw i 0 l.length) (l.flatMap cT) 61 :=
 zS (by simp) (bv (fun x=>by simp) _) (.inl ⟨_,fun _=>rfl⟩) (QL l h0 hl)
def PD{s:Str}{k:Nat}(hk:k<s.length)(h:¬32<(s.getD k 0).toNat):s.all (fun c=>decide (32<c.toNat))=false:=by
 rw[<-Bool.not_eq_true,List.all_eq_true]
 intro q
 have:=q (s.getD k 0) (by rw[List.getD_eq_getElem?_getD,List.getElem?_eq_getElem hk];exact List.getElem_mem hk)
 exact h (oT this)
def Nz{s:Str}(h:∀k,k<s.length->32<(s.getD k 0).toNat):s.all (fun c=>decide (32<c.toNat))=true:=by
 rw[List.all_eq_true]
 intro x hx
 obtain⟨k,hk,rfl⟩:=List.getElem_of_mem hx
 have:=h k hk
 rw[List.getD_eq_getElem?_getD,List.getElem?_eq_getElem hk]at this
 exact decide_eq_true this
def JC(s:Str)(hs:s.length<=1000000):ab prog 357 [str s] (i64 (fy s)):=by
 refine zY func357 fun B=>?_
 refine zu1 ?_
 refine Ws<|Wl<|zp2 ?_
 refine zq 7 ?_
 refine zs1 ?_
 refine Wi rfl (fun hi1=>?_) (fun hi1=>?_)
 ·have q1:s.length=0:=by rw[oT hi1];rfl
  refine zu1 ?_
  refine zR ?_
  (rw[fy,if_pos q1];rfl)
 have q1:¬s.length=0:=fun h=>oF hi1 (List.eq_nil_of_length_eq_zero h)
 refine zp2 ?_
 refine Wa 10 rfl (gJ _) ?_
 refine zs2 ?_
 refine Wi rfl (fun hi2=>?_) (fun hi2=>?_)
 ·have q2:31<s.length:=by have:=oT hi2;omega
  refine zu1 ?_
  refine zR ?_
  (rw[fy,if_neg q1,if_pos q2];rfl)
 have q2:¬31<s.length:=by have:=oF hi2;omega
 refine Wj<|Ws<|zp2 ?_
 refine Wa 13 rfl (xc _) ?_
 refine zs2 ?_
 refine Wl ?_
 show W _ _ _ _ _ _ _
 refine gz (fun(k:Nat)=>[(13,sq aL s),(14,i64 s.length),(15,i64 k)]) (fun(k:Nat)=>[]) (fun(k:Nat)=>[]) (fun(k:Nat)=>k<=s.length/\∀j,j<k->32<(s.getD j 0).toNat) (fun(k:Nat)=>s.length-k) (0) (by exact⟨Nat.zero_le _,fun j hj=>absurd hj (Nat.not_lt_zero _)⟩) [] ?_ ?_
 ·exact fM
 intro k hk
 refine zu1 ?_
 refine Ws<|Wi rfl (fun hi3=>?_) (fun hi3=>?_)
 ·have hlt:k<s.length:=by have:=oT hi3;omega
  refine Wj<|Ws<|Wl<|z8 ?_
  refine Wv tG rfl rfl rfl (by omega) (iN aL 1 (fun _=>rfl) 0 (by omega)) ?_
  refine zs2 ?_
  refine zu2 ?_
  refine Wi rfl (fun hi4=>?_) (fun hi4=>?_)
  ·have q4:¬32<(s.getD k 0).toNat:=by have:=oT hi4;omega
   refine zu1 ?_
   refine zR ?_
   (rw[fy,if_neg q1,if_neg q2,PD hlt q4];rfl)
  have q4:32<(s.getD k 0).toNat:=by have:=oF hi4;omega
  refine Wj<|aa rfl ?_
  refine zs2 ?_
  exact⟨k+1,[],(by exact⟨hlt,fun j hj=>by rcases Nat.lt_succ_iff_lt_or_eq.1 hj with h|h;exact hk.2 j h;rw[h];exact q4⟩),(by omega),fM⟩
 have hge:s.length<=k:=by have:=oF hi3;omega
 refine bi ?_
 refine zu1 ?_
 refine zR ?_
 (rw[fy,if_neg q1,if_neg q2,Nz (fun j hj=>hk.2 j (by omega))];rfl)
def vA(n:Int)(h0:0<=n)(h7:n<=7):ab prog 260 [i64 n] (boo true):=by
 refine zY func260 fun B=>?_
 refine zu1 ?_
 refine zu4 ?_
 refine zR ?_
 exact congrArg boo (by rcases rc h0 h7 with rfl|rfl|rfl|rfl|rfl|rfl|rfl|rfl<;>decide)
def cE(l:List aS)(name:Str)(xt flags limit:Int):List aS×Int :=
 if fy name≠0 then(l,fy name)else if (if 1024<limit then 1024 else limit)<=(l.length:Int)then(l,-8)else(l++[⟨name,xt,flags⟩],0)
def PJ(l:List aS)(name:Str)(xt flags limit:Int)(hl:l.length<=100000)(hn:name.length<=1000000)(h0:0<=flags)(h7:flags<=7):ab prog 270 [sq cT l,str name,i64 xt,i64 flags,i64 limit] (iA (sq cT (cE l name xt flags limit).1) (i64 (cE l name xt flags limit).2)):=by
 refine zY func270 fun B=>?_
 refine zu2 ?_
 refine Ws<|zp1 ?_
 refine zc rfl func357 ((JC name hn) _) ?_
 refine zs1 ?_
 refine zu2 ?_
 refine Wi rfl (fun hi1=>?_) (fun hi1=>?_)
 ·have q1:fy name≠0:=by simpa using hi1
  refine zu4 ?_
  refine zR ?_
  (rw[cE,if_pos q1];rfl)
 have q1:¬fy name≠0:=by simpa using hi1
 refine Wj<|Ws<|Wl<|zp1 ?_
 refine zc rfl func260 ((vA flags h0 h7) _) ?_
 refine zs2 ?_
 refine Wf rfl (by rfl) ?_
 refine zp5 ?_
 refine zs1 ?_
 refine Wi rfl (fun hi3=>?_) (fun hi3=>?_)
 ·have q3:(if 1024<limit then 1024 else limit)<=(l.length:Int):=oT hi3
  refine zu3 ?_
  refine zR ?_
  (rw[cE,if_neg q1,if_pos q3];rfl)
 have q3:¬(if 1024<limit then 1024 else limit)<=(l.length:Int):=oF hi3
 refine Wj<|zp1 ?_
 refine zc rfl func94 ((A7 l (by omega)) _) ?_
 refine zy5 ?_
 refine Wa 37 rfl ((show _=PV.seq (List.length [(⟨name,xt,flags⟩:aS)]) (List.flatMap cT [(⟨name,xt,flags⟩:aS)]) .clip from rfl)) ?_
 refine Wd rfl rfl (ce (lO tG rfl) rfl (lO tG rfl) (lO tG rfl) rfl rfl (by exact⟨_,rfl⟩) (by exact⟨rfl,rfl,al _ 3 (fun _=>rfl) _,bF _ (fun _=>rfl) _⟩) (by exact al _ 3 (fun _=>rfl) _) (by((simp_all;omega))) (by((simp_all;omega)))) ?_
 refine Wa 38 rfl (cz cT) ?_
 refine zs2 ?_
 refine zR ?_
 (rw[cE,if_neg q1,if_neg q3];rfl)
def i6(l:List aS)(n:Int):List aS×Int:=if n<0\/(l.length:Int)<n then(l,-24)else(l.take n.toNat,0)
def IP(l:List aS)(n:Int)(hl:l.length<=1000000):ab prog 53 [sq cT l,i64 n] (iA (sq cT (i6 l n).1) (i64 (i6 l n).2)):=by
 refine zY func53 fun B=>?_
 refine zu2 ?_
 refine Ws<|zp3 ?_
 refine Wb 8 rfl (fun hg1=>?_) (fun hg1=>?_)
 ·have q:n<0\/(l.length:Int)<n:=.inl (oT hg1)
  iterate 4 refine z6 ?_
  refine zs1 ?_
  refine Wt rfl rfl ?_
  refine zu3 ?_
  refine zR ?_
  (rw[i6,if_pos q];rfl)
 refine zs5 ?_
 refine Wi rfl (fun hi1=>?_) (fun hi1=>?_)
 ·have q:n<0\/(l.length:Int)<n:=by(try simp only[dnL]at *);omega
  refine zu3 ?_
  refine zR ?_
  (rw[i6,if_pos q];rfl)
 have q:¬(n<0\/(l.length:Int)<n):=by(try simp only[dnL]at *);omega
 have hc:=A7 (l.take n.toNat) (by simp;omega)
 have ht:sq cT ((l.take n.toNat).drop 0)=sq cT (l.take n.toNat):=by rw[List.drop_zero]
 refine Wj<|zp2 ?_
 refine z2 ?_ (q:=(by(simp_all;done)))
 refine Wa 17 rfl (cM cT 3 (fun _=>rfl) (by omega)) ?_
 refine Wa 17 rfl (ht) ?_
 refine zc rfl func94 ((hc) _) ?_
 refine zs2 ?_
 refine zR ?_
 (rw[i6,if_neg q];rfl)
def Du:∀{l:List aS} {i:Nat},i<l.length->∀n:Int,cD (l.flatMap cT) (i*3+2) [i64 n]=(l.set i {l.getD i default with flags:=n}).flatMap cT
 | x::l,0,_,n=>by simp[cD,cT,List.flatMap_cons]
 | x::l,i+1,h,n=>by
  have ih:=Du (l:=l) (i:=i) (by simpa using h) n
  have e:∀r:List PV,cD (cT x++r) ((i+1)*3+2) [i64 n]=cT x++cD r (i*3+2) [i64 n]:=by
   intro r
   unfold cD
   have h1:(cT x).length=3:=rfl
   rw[List.take_append,List.drop_append,h1,List.take_of_length_le (by omega),List.drop_of_length_le (by rw[h1];simp),show(i+1)*3+2-3=i*3+2 by omega,show(i+1)*3+2+[i64 n].length-3=i*3+2+[i64 n].length by omega]
   simp
  rw[List.flatMap_cons,e,ih]
  rfl
 | [],i,h,n=>by simp at h
def cH(l:List aS)(a f:Int):List aS×Int:=if a<0\/(l.length:Int)<=a then(l,-24)else(l.set a.toNat {l.getD a.toNat default with flags:=f},0)
def DD(l:List aS)(a f:Int)(hl:l.length<=1000000)(h0:0<=f)(h7:f<=7):ab prog 214 [sq cT l,i64 a,i64 f] (iA (sq cT (cH l a f).1) (i64 (cH l a f).2)):=by
 refine zY func214 fun B=>?_
 refine zu2 ?_
 refine Ws<|zp3 ?_
 refine Wb 10 rfl (fun hg1=>?_) (fun hg1=>?_)
 ·have q:a<0\/(l.length:Int)<=a:=.inl (oT hg1)
  iterate 4 refine z6 ?_
  refine zy2 ?_
  iterate 3 refine z6 ?_
  refine zs1 ?_
  refine Wt rfl rfl ?_
  refine zu3 ?_
  refine zR ?_
  (rw[cH,if_pos q];rfl)
 refine zy5 ?_
 refine z1 ?_
 refine Wb 16 rfl (fun hg2=>?_) (fun hg2=>?_)
 ·have q:a<0\/(l.length:Int)<=a:=by(try simp only[dnL]at *);omega
  iterate 3 refine z6 ?_
  refine zs1 ?_
  refine Wt rfl rfl ?_
  refine zu3 ?_
  refine zR ?_
  (rw[cH,if_pos q];rfl)
 have q:¬(a<0\/(l.length:Int)<=a):=by(try simp only[dnL]at *);omega
 have hp:0<l.length:=by omega
 obtain⟨k,hk⟩:∃k:Nat,a=(k:Int):=⟨a.toNat,by omega⟩
 subst hk
 refine z1 ?_
 refine zc rfl func260 ((vA f h0 h7) _) ?_
 refine zs2 ?_
 refine Wf rfl (by rfl) ?_
 refine Wj<|zp1 ?_
 refine zc rfl func261 (MZ l hp hl _) ?_
 refine Wa 23 rfl ((show PV.arw (List.length ([]:List Ob)) 0 l.length=.arw 0 0 l.length from rfl)) ?_
 refine zs1 ?_
 refine zp3 ?_
 refine z2 ?_ (q:=(by omega))
 refine z1 ?_
 refine Wd rfl rfl (bO (lO tG rfl) rfl rfl rfl rfl rfl rfl (by rw[Nat.ble_eq,al cT 3 (fun _=>rfl)];dsimp only;rw[Int.toNat_natCast];simp;omega)) ?_
 refine jM (H':=[.cells ((l.set k {l.getD k default with flags:=f}).flatMap cT) 61]) (by rw[<-Du (by omega)];dsimp only;rw[Int.toNat_natCast,Nat.zero_add];rfl) ?_
 refine Wn<|zp1 ?_
 refine qp 29 0 l.length (l.length*3) rfl rfl (by rw[al cT 3 (fun _=>rfl),List.length_set];exact Nat.le_refl _) ?_
 refine zs2 ?_
 refine zR ?_
 (rw[cH,if_neg q,List.take_of_length_le (by rw[al cT 3 (fun _=>rfl),List.length_set];exact Nat.le_refl _)];show PV.tup _=PV.tup [PV.seq _ _ _,_];rw[List.length_set];rfl)
def dM(s:Str)(a:Int):Nat:=if a<0\/(s.length:Int)<a then s.length else a.toNat
def Fy(s:Str)(a:Int):dM s a<=s.length:=by unfold dM;split<;>omega
def It(s:Str)(a:Int)(hs:s.length<=9223372036854775807):ab prog 63 [str s,i64 a] (i64 (dM s a)):=by
 refine zY func63 fun B=>?_
 refine zu1 ?_
 refine Ws<|zp3 ?_
 refine Wb 7 rfl (fun hg1=>?_) (fun hg1=>?_)
 ·have q:a<0\/(s.length:Int)<a:=.inl (oT hg1)
  iterate 4 refine z6 ?_
  refine zs1 ?_
  refine Wt rfl rfl ?_
  refine zp2 ?_
  refine Wa 14 rfl (gJ _) ?_
  refine zs1 ?_
  refine zR ?_
  (unfold dM;rw[if_pos q];rfl)
 refine zy3 ?_
 refine Wa 10 rfl (gJ _) ?_
 refine zs2 ?_
 refine Wi rfl (fun hi1=>?_) (fun hi1=>?_)
 ·have q:a<0\/(s.length:Int)<a:=by(try simp only[dnL]at *);omega
  refine zp2 ?_
  refine Wa 14 rfl (gJ _) ?_
  refine zs1 ?_
  refine zR ?_
  (unfold dM;rw[if_pos q];rfl)
 have q:¬(a<0\/(s.length:Int)<a):=by(try simp only[dnL]at *);omega
 refine Wj<|zu2 ?_
 refine zR ?_
 (unfold dM;rw[if_neg q];exact congrArg i64 (by omega))
def yz(s:Str):Nat->Nat->Nat
 | 0,k=>k
 | m+1,k=>if k<s.length/\((s.getD k 0).toNat:Int)<=32 then yz s m (k+1)else k
def I0(s:Str):Nat->Nat->Nat
 | 0,k=>k
 | m+1,k=>if k<s.length/\32<((s.getD k 0).toNat:Int)then I0 s m (k+1)else k
def lF(s:Str)(k:Nat):Nat:=yz s (s.length-k) k
def og(s:Str)(k:Nat):Nat:=I0 s (s.length-k) k
def QY{s:Str}{k:Nat}(h:k<s.length)(q:((s.getD k 0).toNat:Int)<=32):lF s k=lF s (k+1):=by
 unfold lF
 rw[show s.length-k=(s.length-(k+1))+1 by omega,yz,if_pos ⟨h,q⟩]
def Ez{s:Str}{k:Nat}(q:¬(k<s.length/\((s.getD k 0).toNat:Int)<=32)):lF s k=k:=by
 unfold lF
 cases s.length-k with
 | zero=>rfl
 | succ m=>rw[yz,if_neg q]
def TU{s:Str}{k:Nat}(h:k<s.length)(q:32<((s.getD k 0).toNat:Int)):og s k=og s (k+1):=by
 unfold og
 rw[show s.length-k=(s.length-(k+1))+1 by omega,I0,if_pos ⟨h,q⟩]
def A3{s:Str}{k:Nat}(q:¬(k<s.length/\32<((s.getD k 0).toNat:Int))):og s k=k:=by
 unfold og
 cases s.length-k with
 | zero=>rfl
 | succ m=>rw[I0,if_neg q]
def AM(s:Str):∀(m k:Nat),k<=s.length->k<=yz s m k/\yz s m k<=s.length
 | 0,k,h=>⟨Nat.le_refl _,h⟩
 | m+1,k,h=>by
  rw[yz]
  split
  ·rename_i q;have:=AM s m (k+1) (by omega);omega
  omega
def DU(s:Str):∀(m k:Nat),k<=s.length->k<=I0 s m k/\I0 s m k<=s.length
 | 0,k,h=>⟨Nat.le_refl _,h⟩
 | m+1,k,h=>by
  rw[I0]
  split
  ·rename_i q;have:=DU s m (k+1) (by omega);omega
  omega
def bE(s:Str)(a:Int):Str×Int :=
 let b:=lF s (dM s a)
 let e:=og s b
 ((s.take e).drop b,min ((e:Int)+1) s.length)
def G5(s:Str)(a:Int)(hs:s.length<=1000000):ab prog 36 [str s,i64 a] (iA (str (bE s a).1) (i64 (bE s a).2)):=by
 have hf:=Fy s a
 obtain⟨b,hb⟩:∃b,lF s (dM s a)=b:=⟨_,rfl⟩
 obtain⟨e,he⟩:∃e,og s b=e:=⟨_,rfl⟩
 have hb1:=AM s (s.length-dM s a) (dM s a) hf
 have hb2:yz s (s.length-dM s a) (dM s a)=b:=hb
 rw[hb2]at hb1
 have he1:=DU s (s.length-b) b hb1.2
 have he2:I0 s (s.length-b) b=e:=he
 rw[he2]at he1
 have hE:bE s a=((s.take e).drop b,min ((e:Int)+1) s.length):=by unfold bE;dsimp only;rw[hb,he]
 have hw:(if (s.length:Int)<IntKind.i64.wrap ((e:Int)+1)then(s.length:Int)else IntKind.i64.wrap ((e:Int)+1))=min ((e:Int)+1) s.length:=by
  rw[gZ (by omega) (by omega)];split<;>omega
 rw[hE]
 refine zY func36 fun B=>?_
 refine zu2 ?_
 refine zp2 ?_
 refine zc rfl func63 ((It s a (by omega)) _) ?_
 refine zs1 ?_
 refine Ws<|Wl ?_
 show W _ _ _ _ _ _ _
 refine gz (fun(k:Nat)=>[(0,str s),(1,i64 k)]) (fun(k:Nat)=>[]) (fun(k:Nat)=>[]) (fun(k:Nat)=>k<=s.length/\lF s k=b) (fun(k:Nat)=>s.length-k) (dM s a) (by exact⟨hf,hb⟩) [] ?_ ?_
 ·exact fM
 intro k hk
 refine Ws<|zp3 ?_
 refine Wa 12 rfl (gJ _) ?_
 refine zy2 ?_
 refine Wb 14 rfl (fun hg1=>?_) (fun hg1=>?_)
 ·have hlt:k<s.length:=by have:=oT hg1;omega
  refine zy2 ?_
  refine z2 ?_ (q:=(by simp only[ew];omega))
  refine Wa 17 rfl (tC _ _) ?_
  refine zs2 ?_
  refine Wi rfl (fun hi1=>?_) (fun hi1=>?_)
  ·have q:((s.getD k 0).toNat:Int)<=32:=oT hi1
   refine Wj<|Wl<|aa rfl ?_
   refine zs3 ?_
   exact⟨k+1,[],(by exact⟨hlt,(QY hlt q).symm.trans hk.2⟩),(by omega),fM⟩
  have q:¬(k<s.length/\((s.getD k 0).toNat:Int)<=32):=fun h=>oF hi1 h.2
  obtain rfl:b=k:=((Ez q).symm.trans hk.2).symm
  refine bi ?_
  refine zu2 ?_
  refine Ws<|Wl ?_
  show W _ _ _ _ _ _ _
  refine gz (fun(j:Nat)=>[(0,str s),(1,i64 b),(6,i64 j)]) (fun(j:Nat)=>[]) (fun(j:Nat)=>[]) (fun(j:Nat)=>j<=s.length/\og s j=e) (fun(j:Nat)=>s.length-j) (b) (by exact⟨hb1.2,he⟩) [] ?_ ?_
  ·exact fM
  intro j hj
  refine Ws<|zp3 ?_
  refine Wa 25 rfl (gJ _) ?_
  refine zy2 ?_
  refine Wb 27 rfl (fun hg2=>?_) (fun hg2=>?_)
  ·have hlt:j<s.length:=by have:=oT hg2;omega
   refine zy2 ?_
   refine z2 ?_ (q:=(by simp only[ew];omega))
   refine Wa 30 rfl (tC _ _) ?_
   refine zs2 ?_
   refine Wi rfl (fun hi2=>?_) (fun hi2=>?_)
   ·have q:32<((s.getD j 0).toNat:Int):=oT hi2
    refine Wj<|Wl<|aa rfl ?_
    refine zs3 ?_
    exact⟨j+1,[],(by exact⟨hlt,(TU hlt q).symm.trans hj.2⟩),(by omega),fM⟩
   have q:¬(j<s.length/\32<((s.getD j 0).toNat:Int)):=fun h=>oF hi2 h.2
   obtain rfl:e=j:=((A3 q).symm.trans hj.2).symm
   refine bi ?_
   refine zp3 ?_
   refine z2 ?_ (q:=(by simp only[ew];omega))
   refine Wa 38 rfl (ji _ _ _) ?_
   refine zy4 ?_
   refine Wa 42 rfl (gJ _) ?_
   refine zs3 ?_
   refine zR ?_
   rw[hw,Int.toNat_natCast,Int.toNat_natCast];rfl
  have hge:¬(j<s.length/\32<((s.getD j 0).toNat:Int)):=fun h=>by have:=oF hg2;omega
  obtain rfl:e=j:=((A3 hge).symm.trans hj.2).symm
  iterate 4 refine z6 ?_
  refine zs1 ?_
  refine Wf rfl rfl ?_
  refine bi ?_
  refine zp3 ?_
  refine z2 ?_ (q:=(by simp only[ew];omega))
  refine Wa 38 rfl (ji _ _ _) ?_
  refine zy4 ?_
  refine Wa 42 rfl (gJ _) ?_
  refine zs3 ?_
  refine zR ?_
  rw[hw,Int.toNat_natCast,Int.toNat_natCast];rfl
 have hge:¬(k<s.length/\((s.getD k 0).toNat:Int)<=32):=fun h=>by have:=oF hg1;omega
 obtain rfl:b=k:=((Ez hge).symm.trans hk.2).symm
 iterate 4 refine z6 ?_
 refine zs1 ?_
 refine Wf rfl rfl ?_
 refine bi ?_
 refine zu2 ?_
 refine Ws<|Wl ?_
 show W _ _ _ _ _ _ _
 refine gz (fun(j:Nat)=>[(0,str s),(1,i64 b),(6,i64 j)]) (fun(j:Nat)=>[]) (fun(j:Nat)=>[]) (fun(j:Nat)=>j<=s.length/\og s j=e) (fun(j:Nat)=>s.length-j) (b) (by exact⟨hb1.2,he⟩) [] ?_ ?_
 ·exact fM
 intro j hj
 refine Ws<|zp3 ?_
 refine Wa 25 rfl (gJ _) ?_
 refine zy2 ?_
 refine Wb 27 rfl (fun hg2=>?_) (fun hg2=>?_)
 ·have hlt:j<s.length:=by have:=oT hg2;omega
  refine zy2 ?_
  refine z2 ?_ (q:=(by simp only[ew];omega))
  refine Wa 30 rfl (tC _ _) ?_
  refine zs2 ?_
  refine Wi rfl (fun hi2=>?_) (fun hi2=>?_)
  ·have q:32<((s.getD j 0).toNat:Int):=oT hi2
   refine Wj<|Wl<|aa rfl ?_
   refine zs3 ?_
   exact⟨j+1,[],(by exact⟨hlt,(TU hlt q).symm.trans hj.2⟩),(by omega),fM⟩
  have q:¬(j<s.length/\32<((s.getD j 0).toNat:Int)):=fun h=>oF hi2 h.2
  obtain rfl:e=j:=((A3 q).symm.trans hj.2).symm
  refine bi ?_
  refine zp3 ?_
  refine z2 ?_ (q:=(by simp only[ew];omega))
  refine Wa 38 rfl (ji _ _ _) ?_
  refine zy4 ?_
  refine Wa 42 rfl (gJ _) ?_
  refine zs3 ?_
  refine zR ?_
  rw[hw,Int.toNat_natCast,Int.toNat_natCast];rfl
 have hge:¬(j<s.length/\32<((s.getD j 0).toNat:Int)):=fun h=>by have:=oF hg2;omega
 obtain rfl:e=j:=((A3 hge).symm.trans hj.2).symm
 iterate 4 refine z6 ?_
 refine zs1 ?_
 refine Wf rfl rfl ?_
 refine bi ?_
 refine zp3 ?_
 refine z2 ?_ (q:=(by simp only[ew];omega))
 refine Wa 38 rfl (ji _ _ _) ?_
 refine zy4 ?_
 refine Wa 42 rfl (gJ _) ?_
 refine zs3 ?_
 refine zR ?_
 rw[hw,Int.toNat_natCast,Int.toNat_natCast];rfl
def BB(s:Str)(c:UInt8):ab prog 262 [str s,.val (.int .u8 (c.toNat:Int))] (i64 (Lib.indexByte s c)) :=
 d9 (args:=[.string ⟨s.toArray⟩,.int .u8 (c.toNat:Int)]) (v:=.int .i64 (Lib.indexByte s c)) (fun c=>aq _ _)
  fun W=>Calls.mono (Tryz.strings_IndexByte ⟨s.toArray⟩ (c.toNat:Int) W) fun _ _ q=>⟨by rw[q.1];simp,by rw[q.2];exact ba.refl _⟩
def Bm:∀(l:List UInt8) (c:UInt8),Lib.indexByte l c<l.length\/(Lib.indexByte l c = -1)
 | [],c=>.inr rfl
 | b::l,c=>by
  unfold Lib.indexByte
  have h:=Bm l c
  split
  ·left;rw[List.length_cons];omega
  split
  ·exact .inr rfl
  rename_i q;left;rw[List.length_cons]
  rcases h with h|h
  ·omega
  rw[h]at q;exact absurd rfl q
def lE(s:Str)(a:Int)(c:UInt8):Str×Int×Bool :=
 let b:=dM s a
 let n:=Lib.indexByte (s.drop b) c
 if n<0 then(s.drop b,s.length,false)else((s.take (b+n.toNat)).drop b,b+n+1,true)
def aj9{s:Str}{a:Int}{c:UInt8}(h:Lib.indexByte (s.drop (dM s a)) c<0):lE s a c=(s.drop (dM s a),(s.length:Int),false):=by unfold lE;dsimp only;rw[if_pos h]
def ai5{s:Str}{a:Int}{c:UInt8}(h:¬Lib.indexByte (s.drop (dM s a)) c<0):lE s a c=((s.take (dM s a+(Lib.indexByte (s.drop (dM s a)) c).toNat)).drop (dM s a),(dM s a:Int)+Lib.indexByte (s.drop (dM s a)) c+1,true):=by unfold lE;dsimp only;rw[if_neg h]
def RN(s:Str)(a:Int)(c:UInt8)(hs:s.length<=1000000):ab prog 219 [str s,i64 a,.val (.int .u8 (c.toNat:Int))] (.tup [str (lE s a c).1,i64 (lE s a c).2.1,boo (lE s a c).2.2]):=by
 have hf:=Fy s a
 have hi:=Bm (s.drop (dM s a)) c
 have hg:=Lib.indexByte_ge (s.drop (dM s a)) c
 rw[List.length_drop]at hi
 obtain⟨b,hb⟩:∃b,dM s a=b:=⟨_,rfl⟩
 obtain⟨n,hn⟩:∃n,Lib.indexByte (s.drop b) c=n:=⟨_,rfl⟩
 have un:=aj9 (s:=s) (a:=a) (c:=c)
 have uy:=ai5 (s:=s) (a:=a) (c:=c)
 have pf:=It s a (by omega)
 have pi:=BB (s.drop b) c
 have ed:((s.take s.length).drop (((b:Nat):Int)).toNat)=s.drop b:=by rw[List.take_length,Int.toNat_natCast]
 rw[hb]at hi hg hf un uy pf
 rw[hn]at hi hg un uy pi
 refine zY func219 fun B=>?_
 refine zu3 ?_
 refine zp2 ?_
 refine zc rfl func63 ((pf) _) ?_
 refine zs1 ?_
 refine zp2 ?_
 refine z2 ?_ (q:=(by simp only[ew];((simp_all;done))))
 refine Wa 15 rfl (ji _ _ _) ?_
 refine Wa 15 rfl (congrArg str ed) ?_
 refine z1 ?_
 refine zc rfl func262 ((pi) _) ?_
 refine zs1 ?_
 refine Ws<|zu2 ?_
 refine Wi rfl (fun hi1=>?_) (fun hi1=>?_)
 ·have q:n<0:=oT hi1
  refine zp2 ?_
  refine z2 ?_ (q:=(by simp only[ew];((simp_all;done))))
  refine Wa 22 rfl (ji _ _ _) ?_
  refine Wa 22 rfl (congrArg str ed) ?_
  refine zy2 ?_
  refine Wa 24 rfl (gJ _) ?_
  refine zs3 ?_
  refine zR ?_
  (rw[un q];rfl)
 have q:¬n<0:=oF hi1
 have w1:IntKind.i64.wrap ((b:Int)+n)=((b+n.toNat:Nat):Int):=by rw[gZ (by omega) (by omega)];omega
 have w2:IntKind.i64.wrap (IntKind.i64.wrap ((b:Int)+n)+1)=(b:Int)+n+1:=by rw[gZ (n:=(b:Int)+n) (by omega) (by omega),gZ (by omega) (by omega)]
 refine Wj<|zp5 ?_
 refine Wa 29 rfl (congrArg (fun z=>PV.val (Value.int .i64 z)) w1) ?_
 refine z2 ?_ (q:=(by simp only[ew];omega))
 refine Wa 30 rfl (ji _ _ _) ?_
 refine zy4 ?_
 refine Wa 34 rfl (congrArg (fun z=>PV.val (Value.int .i64 z)) w2) ?_
 refine zs3 ?_
 refine zR ?_
 (rw[uy q];rfl)
def IB{k:IntKind}{a b:Int}(h:a=b):Ending.returned (.int k a)=.returned (.int k b):=by rw[h]
def ax2{a b:Bool}(h:a=b):Ending.returned (.bool a)=.returned (.bool b):=by rw[h]
def Oz:∀k:Nat,(h:k<36)->(((ByteArray.mk #[48,49,50,51,52,53,54,55,56,57,65,66,67,68,69,70,71,72,73,74,75,76,77,78,79,80,81,82,83,84,85,86,87,88,89,90])[k]'(by exact h)).toNat:Int)=lZ k:=by decide
def xG(n:Int)(w:World):Calls prog 379 #[.int .i64 n] w fun e w'=>e=.returned (.int .u8 (lZ n))/\w=w':=by
 by_cases h0:n<0
 ·have d:decide (n<0)=true:=by simp[h0]
  go_enter func379,ntmps379
  go_wp2
  go_ret
  exact⟨IB (by unfold lZ;rw[if_neg (by omega),if_neg (by omega)]),rfl⟩
 by_cases h1:36<=n
 ·have d:decide (n<0)=false:=by simp;omega
  have d1:decide (36<=n)=true:=by simp[h1]
  go_enter func379,ntmps379
  go_wp2
  go_ret
  exact⟨IB (by unfold lZ;rw[if_neg (by omega),if_neg (by omega)]),rfl⟩
 have d:decide (n<0)=false:=by simp;omega
 have d1:decide (36<=n)=false:=by simp;omega
 obtain⟨k,rfl⟩:=Int.eq_ofNat_of_zero_le (by omega:0<=n)
 go_enter func379,ntmps379
 go_wp2
 go_ret
 exact⟨IB (Oz k (by omega)),rfl⟩
def CB(n:Int)(w:World):Calls prog 61 #[.int .i64 n] w fun e w'=>e=.returned (.int .u8 (lZ n))/\w=w':=by
 go_enter func61,ntmps61
 go_wp2
 all_goals go_ret
 all_goals exact⟨IB (by unfold lZ;first|(rw[if_pos (by omega)];done)|(rw[if_neg (by omega),if_pos (by omega)];done)|(rw[if_neg (by omega),if_neg (by omega)];done)),rfl⟩
def Fx(b:Int)(w:World):Calls prog 77 #[.int .i64 b] w fun e w'=>e=.returned (.bool (isB b))/\w=w':=by
 go_enter func77,ntmps77
 go_wp2
 all_goals go_ret
 all_goals exact⟨ax2 (by unfold isB;simp<;>omega),rfl⟩
def Dx(c:Int)(w:World)(h0 : -2147483648<=c)(h1:c<=2147483647):Calls prog 78 #[.int .i32 c] w fun e w'=>e=.returned (.int .i64 (wd c))/\w=w':=by
 go_enter func78,ntmps78
 go_wp2
 all_goals go_ret
 all_goals exact⟨IB (by clear h0 h1;unfold wd;(repeat' split)<;>omega),rfl⟩
def iX(s:ByteArray):s.data.toList.length=s.size:=by simp
def JQ(s:ByteArray)(h:s.size=3)(h0:0<s.size)(h1:1<s.size)(h2:2<s.size):s.data.toList=[s[0],s[1],s[2]]:=by
 apply List.ext_getElem
 ·simp;exact h
 intro i h1 h2
 simp at h2
 match i with
 | 0=>rfl
 | 1=>rfl
 | 2=>rfl
def Ja(l:List UInt8)(h:l.length≠3):oE l=none:=by
 unfold oE
 split
 ·simp at h
 rfl
def Lq(c:UInt8)(n:Nat)(h:n<256):c=UInt8.ofNat n↔(c.toNat:Int)=n:=by
 constructor
 ·rintro rfl;rw[UInt8.toNat_ofNat'];omega
 intro e;apply UInt8.toNat.inj;rw[UInt8.toNat_ofNat'];omega
def Af(a b c:UInt8):oE [a,b,c]=if (a.toNat:Int)=39/\(c.toNat:Int)=39/\33<=(b.toNat:Int)/\(b.toNat:Int)<=126 then some (b.toNat:Int)else none:=by
 have ha:=Lq a 39 (by omega)
 have hc:=Lq c 39 (by omega)
 simp only[oE]
 rw[show(UInt8.ofNat 39)=39 from rfl]at ha hc
 simp only[ha,hc]
 by_cases h:(a.toNat:Int)=39/\(c.toNat:Int)=39/\33<=(b.toNat:Int)/\(b.toNat:Int)<=126
 ·rw[if_pos h,if_pos (by omega)]
 rw[if_neg h,if_neg (by omega)]
def Qp{a:Int}{x:Bool}{o:Option Int}(h:o.getD 0=a)(g:o.isSome=x):Ending.returned (.tuple #[.int .i64 a,.bool x])=.returned (.tuple #[.int .i64 (o.getD 0),.bool o.isSome]):=by rw[h,g]
def CP(a b c:UInt8)(h:(a.toNat:Int)=39/\(c.toNat:Int)=39/\33<=(b.toNat:Int)/\(b.toNat:Int)<=126):oE [a,b,c]=some (b.toNat:Int):=by rw[Af,if_pos h]
def Gy(a b c:UInt8)(h:¬((a.toNat:Int)=39/\(c.toNat:Int)=39/\33<=(b.toNat:Int)/\(b.toNat:Int)<=126)):oE [a,b,c]=none:=by rw[Af,if_neg h]
def Tm(s:ByteArray)(w:World)(hs:s.size<=9223372036854775807):Calls prog 74 #[.string s] w fun e w'=>e=.returned (.tuple #[.int .i64 ((oE s.data.toList).getD 0),.bool (oE s.data.toList).isSome])/\w=w':=by
 by_cases h3:s.size=3
 ·have t0:((s.size:Int) != 3)=false:=by simp;omega
  have t1:0<s.size:=by omega
  have t2:1<s.size:=by omega
  have t3:2<s.size:=by omega
  have E:=Lib.hid (JQ s h3 t1 t2 t3)
  clear h3
  go_enter func74,ntmps74
  go_wp2
  all_goals go_ret2
  all_goals first
   | (exact⟨Qp (by rw[E.out,CP _ _ _ (by omega)];rfl) (by rw[E.out,CP _ _ _ (by omega)];rfl),rfl⟩)
   | (exact⟨Qp (by rw[E.out,Gy _ _ _ (by omega)];rfl) (by rw[E.out,Gy _ _ _ (by omega)];rfl),rfl⟩)
 have e:=Ja s.data.toList (by rw[iX];exact h3)
 have E:=Lib.hid e
 have t0:((s.size:Int) != 3)=true:=by simp;omega
 clear h3 e
 go_enter func74,ntmps74
 go_wp2
 go_ret2
 exact⟨by rw[E.out];rfl,rfl⟩
def IT(s:ByteArray)(h:0<s.size):s.toList.isEmpty=false:=by
 rw[ByteArray.toList_eq];cases hl:s.data.toList with
 | nil=>have:=iX s;rw[hl]at this;simp at this;omega
 | cons a l=>rfl
def Do(s:ByteArray)(h:s.size=0):s.toList.isEmpty=true:=by
 rw[ByteArray.toList_eq];have:=iX s;cases hl:s.data.toList with
 | nil=>rfl
 | cons a l=>rw[hl]at this;simp at this;omega
def nj(s:ByteArray)(b:Int):Int×ByteArray :=
 if h:0<s.size then(if s[0]=35 then(10,s.extract 1 s.size)else if s[0]=36 then(16,s.extract 1 s.size)else if s[0]=37 then(2,s.extract 1 s.size)else(b,s))else(b,s)
def EW(c:UInt8)(n:Nat)(h:n<256)(e:c=UInt8.ofNat n):((c.toNat:Int)==n)=true:=by simp only[beq_iff_eq];exact(Lq c n h).1 e
def FG(c:UInt8)(n:Nat)(h:n<256)(e:c≠UInt8.ofNat n):((c.toNat:Int)==n)=false:=by simp only[beq_eq_false_iff_ne];exact fun g=>e ((Lq c n h).2 g)
def X6(s:ByteArray)(b:Int)(h0:¬0<s.size):nj s b=(b,s):=by unfold nj;rw[dif_neg h0]
def KO(s:ByteArray)(b:Int):sZ s.data.toList b=((nj s b).1,(nj s b).2.data.toList):=by
 unfold nj
 by_cases h0:0<s.size
 ·have e:s.data.toList=s[0]::s.data.toList.drop 1:=by
   have h1:0<s.data.toList.length:=by rw[iX];exact h0
   rw[show s[0]=s.data.toList[0] from rfl]
   simpa using (List.drop_eq_getElem_cons h1)
  rw[dif_pos h0]
  have hx:=Lib.extract_to_end s 1
  generalize s.extract 1 s.size=t at hx ⊢
  conv=>lhs;rw[e]
  simp only[sZ]
  split
  ·rw[hx]
  split
  ·rw[hx]
  split
  ·rw[hx]
  rw[<-e]
 rw[dif_neg h0]
 have:s.data.toList=[]:=List.eq_nil_of_length_eq_zero (by rw[iX];omega)
 rw[this]
 rfl
def KJ(s:ByteArray)(b:Int)(w:World)(hs:s.size<=9223372036854775807):Calls prog 75 #[.string s,.int .i64 b] w fun e w'=>e=.returned (.tuple #[.int .i64 (nj s b).1,.string (nj s b).2])/\∃n,w'=w.drewN n:=by
 by_cases h0:0<s.size
 ·have t:=IT s h0
  by_cases h1:s[0]=35
  ·have c1:((s[0].toNat:Int)==35)=true:=EW s[0] 35 (by omega) h1
   have e:nj s b=(10,s.extract 1 s.size):=by unfold nj;rw[dif_pos h0,if_pos h1]
   have E:=Lib.hid e
   clear e h1
   go_enter func75,ntmps75
   go_wp2
   go_region
   go_wp2
   go_ret2
   exact⟨by rw[E.out];rfl,1,rfl⟩
  have c1:((s[0].toNat:Int)==35)=false:=FG s[0] 35 (by omega) h1
  by_cases h2:s[0]=36
  ·have c2:((s[0].toNat:Int)==36)=true:=EW s[0] 36 (by omega) h2
   have e:nj s b=(16,s.extract 1 s.size):=by unfold nj;rw[dif_pos h0,if_neg h1,if_pos h2]
   have E:=Lib.hid e
   clear e h1 h2
   go_enter func75,ntmps75
   go_wp2
   go_region
   go_wp2
   go_ret2
   exact⟨by rw[E.out];rfl,1,rfl⟩
  have c2:((s[0].toNat:Int)==36)=false:=FG s[0] 36 (by omega) h2
  by_cases h3:s[0]=37
  ·have c3:((s[0].toNat:Int)==37)=true:=EW s[0] 37 (by omega) h3
   have e:nj s b=(2,s.extract 1 s.size):=by unfold nj;rw[dif_pos h0,if_neg h1,if_neg h2,if_pos h3]
   have E:=Lib.hid e
   clear e h1 h2 h3
   go_enter func75,ntmps75
   go_wp2
   go_region
   go_wp2
   go_ret2
   exact⟨by rw[E.out];rfl,1,rfl⟩
  have c3:((s[0].toNat:Int)==37)=false:=FG s[0] 37 (by omega) h3
  have e:nj s b=(b,s):=by unfold nj;rw[dif_pos h0,if_neg h1,if_neg h2,if_neg h3]
  have E:=Lib.hid e
  clear e h1 h2 h3
  go_enter func75,ntmps75
  go_wp2
  go_ret2
  exact⟨by rw[E.out];rfl,0,rfl⟩
 have t:=Do s (by omega)
 have E:=Lib.hid (X6 s b h0)
 go_enter func75,ntmps75
 go_wp2
 go_ret2
 exact⟨by rw[E.out];rfl,0,rfl⟩
def UU(s:ByteArray):ByteArray×Bool:=(⟨(sJ s.data.toList).1.toArray⟩,(sJ s.data.toList).2)
def XG(s:ByteArray)(w:World):Calls prog 76 #[.string s,.string ⟨#[45]⟩] w fun e w'=>e=.returned (.tuple #[.string (UU s).1,.bool (UU s).2])/\w=w':=by
 refine(Tryz.strings_CutPrefix s ⟨#[45]⟩ w).mono ?_
 rintro e w' ⟨rfl,rfl⟩
 refine⟨?_,rfl⟩
 have h:Lib.trimPrefix s.data.toList [45]=(sJ s.data.toList).1/\Lib.hasPrefix s.data.toList [45]=(sJ s.data.toList).2:=by
  cases s.data.toList with
  | nil=>exact⟨rfl,rfl⟩
  | cons c l =>
   by_cases h:c=45
   ·subst h;simp[sJ,Lib.trimPrefix,Lib.hasPrefix,List.isPrefixOf]
   have h':¬45=c:=fun e=>h e.symm
   simp[sJ,Lib.trimPrefix,Lib.hasPrefix,List.isPrefixOf,h,h']
 show Ending.returned (.tuple #[.string ⟨(Lib.trimPrefix s.data.toList [45]).toArray⟩,.bool (Lib.hasPrefix s.data.toList [45])])=_
 rw[h.1,h.2]
 rfl
def IL{l l' m:List UInt8}{b b':Int}{below:Bool}(h:oE l=none)(hp:sZ l b=(b',l'))(hc:sJ l'=(m,below)):dK l b=oQ m b' below:=by
 unfold dK;rw[h,hp];simp only[hc]
def GN{l:List UInt8}{b n:Int}(h:oE l=some n):dK l b=(n,true):=by
 unfold dK;rw[h]
def OU(b:Int)(below:Bool):oQ [] b below=(0,false):=by unfold oQ;rw[if_pos (.inl rfl)]
def OF(l:List UInt8)(b:Int)(below:Bool)(h:isB b=false):oQ l b below=(0,false):=by unfold oQ;rw[if_pos (.inr (.inl h))]
def CA(s:ByteArray)(k:Nat)(h:k<s.size):s.data.toList.take (k+1)=s.data.toList.take k++[s[k]]:=by
 rw[List.take_succ_eq_append_getElem (by simpa using h)];rfl
def H7(p:UInt8->Bool)(s:ByteArray)(k:Nat)(h:k<s.size)(hb:p s[k]=false):s.data.toList.all p=false:=by
 rw[List.all_eq_false]
 exact⟨s[k],List.getElem_mem (by simpa using h),by simp[hb]⟩
def oI{w w1:World}(hb:Below w.heap.size w w1)(s:ByteArray)(p:Nat):Below w.heap.size w (w1.iter s p):=hb.alloc hb.size _
def NJ(s:ByteArray)(b:Int)(w:World)(hs:s.size<=9223372036854775807):Calls prog 40 #[.string s,.int .i64 b] w fun e w'=>e=.returned (.tuple #[.int .i64 (dK s.data.toList b).1,.bool (dK s.data.toList b).2])/\Below w.heap.size w w':=by
 have S0:=fun w=>Tm s w hs
 match hsg:oE s.data.toList with
 | some n =>
  rw[hsg]at S0
  have S:=Lib.hid S0
  have E:=Lib.hid (GN (b:=b) hsg)
  clear S0 hsg
  go_enter func40,ntmps40
  go_wp2_with (go_at_call 74;refine(S.out _).mono ?_;rintro e w' ⟨rfl,rfl⟩)
  go_ret2
  exact⟨by rw[E.out];rfl,Below.refl _ _⟩
 | none =>
  rw[hsg]at S0
  obtain⟨b',s',hp⟩:∃b' s',nj s b=(b',s'):=⟨_,_,rfl⟩
  have P0:=fun w=>KJ s b w hs
  rw[hp]at P0
  have hpl:=KO s b
  rw[hp]at hpl
  obtain⟨t,below,hc⟩:∃t below,UU s'=(t,below):=⟨_,_,rfl⟩
  have C0:=fun w=>XG s' w
  rw[hc]at C0
  have hcl:sJ s'.data.toList=(t.data.toList,below):=by
   unfold UU at hc
   obtain⟨rfl,rfl⟩:=Prod.mk.inj hc
   simp
  have e:=IL hsg hpl hcl
  have htl:t.size<=9223372036854775807:=by
   have h1:t.data.toList.length<=s'.data.toList.length:=by
    have:t.data.toList=(sJ s'.data.toList).1:=by rw[hcl]
    rw[this]
    cases s'.data.toList with
    | nil=>simp[sJ]
    | cons c l=>simp only[sJ];split<;>simp
   have h2:s'.data.toList.length<=s.data.toList.length:=by
    have:s'.data.toList=(sZ s.data.toList b).2:=by rw[hpl]
    rw[this]
    cases s.data.toList with
    | nil=>simp[sZ]
    | cons c l =>
     simp only[sZ]
     repeat' split
     all_goals simp
   simp only[iX]at h1 h2
   omega
  have S:=Lib.hid S0
  have P:=Lib.hid P0
  have C:=Lib.hid C0
  clear S0 hsg hp hpl hc hcl P0 C0 hs
  by_cases h0:0<t.size
  ·have te:=IT t h0
   have htn:t.data.toList≠[]:=fun h=>by have:=iX t;rw[h]at this;simp at this;omega
   by_cases hb:isB b'=true
   ·have E:=Lib.hid e
    have HB:=Lib.hid ((DL b').1 hb)
    have HN:=Lib.hid htn
    have HE:=Lib.hid (Ix t.data.toList b' below hb htn)
    have HX:=Lib.hid (T9 t.data.toList b' below)
    clear e htn
    go_enter func40,ntmps40
    go_wp2_with (first
     | (go_at_call 74;refine(S.out _).mono ?_;rintro e w' ⟨rfl,rfl⟩)
     | (go_at_call 75;refine(P.out _).mono ?_;rintro e w1 ⟨rfl,n1,hw1⟩;have HW:=Lib.hid hw1;clear hw1)
     | (go_at_call 76;refine(C.out _).mono ?_;rintro e w' ⟨rfl,rfl⟩)
     | (go_at_call 77;refine(Fx b' _).mono ?_;rintro e w' ⟨rfl,rfl⟩))
    have hbel:Below w.heap.size w w1:=by rw[HW.out];exact below_drewN (Below.refl _ _) n1
    go_loopw [9] (fun n wr=>∃(pos:Nat) (m:Int),wr=w1.iter t pos/\pos<=t.size/\n=.int .i64 m/\Hid (m=wrap64 (rK b' 0 (t.data.toList.take pos)))/\Hid ((t.data.toList.take pos).all (okD b')=true)) (fun _ wr=>t.size-wr.iterPos w1.heap.size)
    case atStart=>exact⟨0,0,rfl,by omega,rfl,by show _=_;simp[rK,wrap64],by show _=_;simp⟩
    case round =>
     obtain⟨pos,m,rfl,hpos,rfl,hm,hall⟩:=hrel
     by_cases hlt:pos<t.size
     ·by_cases ha:t[pos].toNat<128
      ·have hnx:∀ty,(Instr.next (.pointer (some ⟨w1.heap.size,0,none⟩)) true ty).run prog (w1.iter t pos)=_:=fun ty=>run_next_ascii w1 t pos ty hlt ha
       obtain⟨d,hd⟩:∃d,wd (t[pos].toNat:Int)=d:=⟨_,rfl⟩
       have hr:=Zf (t[pos].toNat:Int)
       have W0:=fun w=>Dx (t[pos].toNat:Int) w (by omega) (by omega)
       rw[hd]at W0 hr
       have W:=Lib.hid W0
       by_cases hok:okD b' t[pos]=true
       ·have h2:=(uf b' t[pos]).1 hok
        rw[hd]at h2
        obtain⟨h3,h4⟩:=h2
        have t1:decide (d<0)=false:=by simp;omega
        have t2:decide (b'<=d)=false:=by simp;omega
        have hm':Hid (wrap64 (wrap64 (m*b')+d)=wrap64 (rK b' 0 (t.data.toList.take (pos+1)))):=by
         show _=_
         rw[CA t pos hlt,<-AW,<-hm.out,hd]
        have hall':Hid ((t.data.toList.take (pos+1)).all (okD b')=true):=by
         show _=_
         rw[CA t pos hlt,List.all_append,hall.out]
         simp[hok]
        clear hm hall hd W0 hok
        go_wp2_with (go_at_call 78;refine(W.out _).mono ?_;rintro e w' ⟨rfl,rfl⟩)
        go_roundw
        case rel=>exact⟨pos+1,_,rfl,by omega,rfl,hm',hall'⟩
        case measure=>simp;omega
       have hno:t.data.toList.all (okD b')=false:=H7 _ t pos hlt (by simpa using hok)
       have hdd:d<0\/b'<=d:=by
        have h2:¬(0<=d/\d<b'):=by rw[<-hd,<-uf];exact hok
        omega
       have EX:=Lib.hid (HX.out hno)
       clear hm hall hd W0 hok hno
       by_cases hd0:d<0
       ·have t1:decide (d<0)=true:=by simp;omega
        go_wp2_with (go_at_call 78;refine(W.out _).mono ?_;rintro e w' ⟨rfl,rfl⟩)
        go_ret2
        exact⟨by rw[E.out,EX.out];rfl,oI hbel _ _⟩
       have t1:decide (d<0)=false:=by simp;omega
       have t2:decide (b'<=d)=true:=by simp;omega
       go_wp2_with (go_at_call 78;refine(W.out _).mono ?_;rintro e w' ⟨rfl,rfl⟩)
       go_ret2
       exact⟨by rw[E.out,EX.out];rfl,oI hbel _ _⟩
      have hnx:∀ty,(Instr.next (.pointer (some ⟨w1.heap.size,0,none⟩)) true ty).run prog (w1.iter t pos)=_:=fun ty=>run_next_any w1 t pos ty hlt
      have hdh:=decode_high t pos hlt (by omega)
      have hdl:=decode_le t pos
      have hr:wd ((Utf8.decode t pos).1:Int) = -1:=by unfold wd;rw[if_neg (by omega),if_neg (by omega),if_neg (by omega)]
      have W0:=fun w=>Dx ((Utf8.decode t pos).1:Int) w (by omega) (by omega)
      rw[hr]at W0
      have W:=Lib.hid W0
      have hno:t.data.toList.all (okD b')=false:=H7 _ t pos hlt (by
       have:¬okD b' t[pos]=true:=by
        rw[uf]
        have:wd (t[pos].toNat:Int) = -1:=by unfold wd;rw[if_neg (by omega),if_neg (by omega),if_neg (by omega)]
        omega
       simpa using this)
      have EX:=Lib.hid (HX.out hno)
      clear hm hall hr W0 hno hdh hdl
      generalize Utf8.decode t pos=q at *
      go_wp2_with (go_at_call 78;refine(W.out _).mono ?_;rintro e w' ⟨rfl,rfl⟩)
      go_ret2
      exact⟨by rw[E.out,EX.out];rfl,oI hbel _ _⟩
     have hnx:∀ty,(Instr.next (.pointer (some ⟨w1.heap.size,0,none⟩)) true ty).run prog (w1.iter t pos)=_:=fun ty=>run_next_end w1 t pos ty hlt
     have et:t.data.toList.take pos=t.data.toList:=List.take_of_length_le (by rw[iX];omega)
     rw[et]at hm hall
     have EX:=Lib.hid (HE.out hall.out)
     clear hall et
     cases below with
     | true =>
      go_wp2
      go_ret2
      exact⟨by rw[E.out,EX.out,<-hm.out];rfl,oI hbel _ _⟩
     | false =>
      go_wp2
      go_ret2
      exact⟨by rw[E.out,EX.out,<-hm.out];rfl,oI hbel _ _⟩
   simp only[Bool.not_eq_true]at hb
   rw[OF _ _ _ hb]at e
   have E:=Lib.hid e
   clear e htn
   go_enter func40,ntmps40
   go_wp2_with (first
    | (go_at_call 74;refine(S.out _).mono ?_;rintro e w' ⟨rfl,rfl⟩)
    | (go_at_call 75;refine(P.out _).mono ?_;rintro e w1 ⟨rfl,n1,hw1⟩;have HW:=Lib.hid hw1;clear hw1)
    | (go_at_call 76;refine(C.out _).mono ?_;rintro e w' ⟨rfl,rfl⟩)
    | (go_at_call 77;refine(Fx b' _).mono ?_;rintro e w' ⟨rfl,rfl⟩))
   go_ret2
   exact⟨by rw[E.out];rfl,by rw[HW.out];exact below_drewN (Below.refl _ _) n1⟩
  have te:=Do t (by omega)
  have htn:t.data.toList=[]:=List.eq_nil_of_length_eq_zero (by rw[iX];omega)
  rw[htn,OU]at e
  have E:=Lib.hid e
  clear e htn
  go_enter func40,ntmps40
  go_wp2_with (first
   | (go_at_call 74;refine(S.out _).mono ?_;rintro e w' ⟨rfl,rfl⟩)
   | (go_at_call 75;refine(P.out _).mono ?_;rintro e w1 ⟨rfl,n1,hw1⟩;have HW:=Lib.hid hw1;clear hw1)
   | (go_at_call 76;refine(C.out _).mono ?_;rintro e w' ⟨rfl,rfl⟩))
  go_ret2
  exact⟨by rw[E.out];rfl,by rw[HW.out];exact below_drewN (Below.refl _ _) n1⟩
end Go.Proofs.YtjcminooghmpeaaGreatDoor
namespace Go.Proofs
open Go.Shelf
def Tryz.lReverse_ren:Go.Shelf.Ren:=⟨fun|35=>380|n=>n,fun|22=>22|23=>5|3=>3|4=>4|0=>0|n=>n,fun|n=>n⟩
def Tryz.lReverse:Go.Proofs.SlLaysE.n35 prog Tryz.lReverse_ren:={
 mixed:=by kernel_rfl
 f35:=⟨Tryz.f380.name,by decide,func380.trans (congrArg some (by kernel_rfl))⟩
 t0:=underlying0
 a0:=Tryz.isAgg0
 z0:=Tryz.sizeOf0
 v0:=Tryz.zeroValue0
 t3:=underlying3
 a3:=Tryz.isAgg3
 z3:=Tryz.sizeOf3
 v3:=Tryz.zeroValue3
 t4:=underlying4
 a4:=Tryz.isAgg4
 z4:=Tryz.sizeOf4
 v4:=Tryz.zeroValue4
 t22:=underlying22
 a22:=Tryz.isAgg22
 z22:=Tryz.sizeOf22
 v22:=Tryz.zeroValue22
 a23:=Tryz.isAgg5
 z23:=Tryz.sizeOf5}
def Tryz.lClone_ren:Go.Shelf.Ren:=⟨fun|41=>382|n=>n,fun|22=>22|23=>5|4=>4|n=>n,fun|n=>n⟩
def Tryz.lClone:Go.Proofs.SlLaysE0.n41 prog Tryz.lClone_ren:={
 mixed:=by kernel_rfl
 f41:=⟨Tryz.f382.name,by decide,func382.trans (congrArg some (by kernel_rfl))⟩
 t4:=underlying4
 a4:=Tryz.isAgg4
 z4:=Tryz.sizeOf4
 v4:=Tryz.zeroValue4
 t22:=underlying22
 a22:=Tryz.isAgg22
 z22:=Tryz.sizeOf22
 v22:=Tryz.zeroValue22}
end Go.Proofs
namespace Go.Proofs.YtjcminooghmpeaaGreatDoor
open Go.RowKit
def Yy:(prog.info? 5).map (fun i=>(i.zero,i.size,i.bytes))=some (some (.int .u8 0),1,1):=by kernel_rfl
def Co{w w1:World}{B e s n:Nat}{v:Value}{xs:List Value}{q:Nat}(h:w.ownsRow B e s v n xs)(hw:w1=w.drewN q):w1.ownsRow B e s v n xs:=by rw[hw];exact h
def Cb{w0 w w1:World}{B q:Nat}(h:Below B w0 w)(hw:w1=w.drewN q):Below B w0 w1:=by rw[hw];exact below_drewN h q
def LD{w:World}{B e s n:Nat}{v:Value}{xs:List Value}(h:w.ownsRow B e s v n xs):∀k,v.ownBlock=some k->B<=k:=by
 intro k hk
 rcases h.2 with ⟨rfl,_⟩|⟨g,cap,cur,rfl,hb,_⟩
 ·simp[Value.ownBlock]at hk
 simp[Value.ownBlock]at hk;omega
def QJ{w:World}{B B' e s n:Nat}{v:Value}{xs:List Value}(h:w.ownsRow B e s v n xs)(hB:B'<=B):w.ownsRow B' e s v n xs:=by
 refine⟨h.1,?_⟩
 rcases h.2 with h1|⟨g,cap,cur,e1,hb,h2⟩
 ·exact .inl h1
 exact .inr ⟨g,cap,cur,e1,by omega,h2⟩
def MU(w:World)(B:Nat)(v:Value)(n:Nat)(zs:List Int)(h:w.ownsRow B 5 1 v n (zs.map (Value.int .u8)))(hn:n<=9223372036854775807):
  Calls prog 380 #[v] w fun e w'=>e=.returned (.tuple #[])/\w'.ownsRow B 5 1 v n (zs.reverse.map (Value.int .u8))/\∀w0,Below B w0 w->Below B w0 w':=by
 by_cases hv:v=.slice none 0 0
 ·have h0:n=0:=by
   rcases h.2 with ⟨_,h⟩|⟨g,cap,cur,h,_⟩
   ·exact h
   rw[h]at hv;cases hv
  have hz:zs=[]:=List.eq_nil_of_length_eq_zero (by have:=h.1;simp at this;omega)
  subst hz hv
  refine(AnyE.slices_Reverse_empty Tryz.lReverse none 0 w).mono ?_
  rintro e w' ⟨rfl,rfl⟩
  exact⟨rfl,h,fun _ hb=>hb⟩
 obtain⟨g,cap,rfl,hb,_,_,_,hl,hH⟩:=Lib.holds_of_ownsRow h hv
 subst hl
 refine(AnyE.slices_Reverse Tryz.lReverse (Value.int .u8) (fun _=>rfl) g 0 cap zs w hH hn).mono ?_
 rintro e w' ⟨rfl,q,rfl⟩
 refine⟨rfl,?_,fun w0 hw=>Lib.below_putRow hw hb⟩
 have:=Lib.ownsRow_putRow (q:=q) h (ys:=zs.reverse) (by simp) (Nat.le_refl _)
 rw[List.take_of_length_le (by simp)]at this
 exact this
def F9{w:World}{B n:Nat}{v:Value}{zs:List Int}(h:w.ownsRow B 5 1 v n (zs.map (Value.int .u8))):
  (convert 22 9 v).run prog w=.ok (.string (strOfNums zs)) w:=by
 by_cases hv:v=.slice none 0 0
 ·have h0:n=0:=by
   rcases h.2 with ⟨_,h⟩|⟨g,cap,cur,h,_⟩
   ·exact h
   rw[h]at hv;cases hv
  have hz:zs=[]:=List.eq_nil_of_length_eq_zero (by have:=h.1;simp at this;omega)
  subst hz hv
  exact run_convert_bytes_nil (w:=w) 22 5 underlying22 underlying5 0 0 9 underlying9
 obtain⟨g,cap,rfl,hb,_,_,_,hl,hH⟩:=Lib.holds_of_ownsRow h hv
 subst hl
 refine run_convert_bytes_arg w 22 5 underlying22 underlying5 g 0 zs.length cap zs rfl (fun i hi=>?_) 9 underlying9
 rw[(hH i (by simpa using hi)).1]
 simp[List.getD,hi]
def FR(ds:List Nat):List Int:=ds.map fun d:Nat=>lZ (d:Int)
def De(ds:List Nat)(d:Nat):FR (ds++[d])=FR ds++[lZ (d:Int)]:=by simp[FR]
def YO{u r B:Nat}(hz:¬u/B=0)(h:u<2 ^ (r+1))(hB:2<=B):1<=r:=by
 rcases Nat.eq_zero_or_pos r with rfl|h1
 ·exact absurd (Nat.div_eq_of_lt (by simp at h;omega)) hz
 exact h1
def af1{u B:Nat}(hu:u<18446744073709551616)(hz:¬u/B=0)(hB:2<=B):U (S (u/B))<U (S u):=by
 have h0:0<u:=Nat.pos_of_ne_zero (fun e=>hz (by rw[e];exact Nat.zero_div B))
 rw[U_S u hu,U_S (u/B) (Nat.lt_of_le_of_lt (Nat.div_le_self u B) hu)]
 exact Nat.div_lt_self h0 hB
def GA(v:Value):Nat:=U (intOf v)
def H6(x:Int):GA (.int .i64 x)=U x:=by unfold GA;simp[intOf]
def Jt{u B:Nat}(hu:Hid (u<18446744073709551616))(hz:Hid (¬u/B=0))(hB:2<=B):GA (.int .i64 (S (u/B)))<GA (.int .i64 (S u)):=by
 rw[H6,H6];exact af1 hu.out hz.out hB
def Zw(B u:Nat):List Nat:=mV B 64 u
def Ar(B u:Nat):Hid ([]++mV B 64 u=Zw B u):=Lib.hid rfl
def Oj:Hid (([]:List Nat).length+64=64):=Lib.hid rfl
def Nj(w:World)(e:TypeId):w.ownsRow w.heap.size e 1 (.slice none 0 0) ([]:List Nat).length ((FR []).map (Value.int .u8)):=⟨rfl,.inl ⟨rfl,rfl⟩⟩
def YS{u:Nat}(h:u<18446744073709551616):Hid (u<2 ^ 64):=Lib.hid (by rw[show(2:Nat)^64=18446744073709551616 from by decide];exact h)
def DA{B r u:Nat}{ds all:List Nat}(h:ds++mV B (r+1) u=all)(hz:¬u/B=0):(ds++[u%B])++mV B r (u/B)=all:=by
 rw[<-h];simp only[mV,hz,if_false,List.append_assoc,List.singleton_append]
def Il{B r u:Nat}{ds all:List Nat}(h:ds++mV B (r+1) u=all)(hz:u/B=0):ds++[u%B]=all:=by
 rw[<-h];simp only[mV,hz,if_true]
def Ie(u B:Nat)(hu:u<18446744073709551616)(h2:2<=B)(h3:B<=36):iH (S u) 0 (B:Int)=(S (u/B),((u%B:Nat):Int),0):=by
 have e1:U (B:Int)=B:=by unfold U;omega
 have e2:U (0:Int)=0:=by decide
 have e3:PU (S u) 0=u:=by unfold PU;rw[U_S u hu,e2];omega
 unfold iH
 rw[if_neg (by omega),e1,e2,if_neg (by omega),e3]
 have hm:=Nat.mod_lt u (show 0<B by omega)
 have:S (u%B)=((u%B:Nat):Int):=by unfold S;exact di _ (by omega)
 rw[this]
def aa8{u:Nat}(h:u<18446744073709551616):S u=0↔u=0:=by unfold S wrap64;omega
def Ip{u r B:Nat}(h:u<2 ^ (r+1))(hB:2<=B):u/B<2 ^ r:=by
 rw[Nat.pow_succ]at h
 have:=Nat.div_le_div_left hB (show 0<2 by omega) (a:=u)
 omega
def Tf(ds:List Nat):strOfNums (FR ds).reverse=⟨((ds.map chr).reverse).toArray⟩:=by
 unfold strOfNums chr FR
 congr 1
 rw[<-List.map_reverse,List.map_map,<-List.map_reverse]
 rfl
def tO(n b:Int)(w:World)(hn:Fit n):Calls prog 333 #[.int .i64 n,.int .i64 b] w fun e w'=>e=.returned (.tuple #[.string ⟨(dN n b).1.toArray⟩,.int .i64 (dN n b).2])/\Below w.heap.size w w':=by
 by_cases hb:isB b=true
 ·obtain⟨B,rfl,h2,h3⟩:=sH hb
  have e:dN n (B:Int)=(ef (U n) B,0):=by unfold dN;rw[if_pos hb,Int.toNat_natCast]
  have E:=Lib.hid e
  have EN:=Lib.hid (S_U n hn)
  obtain⟨i0,hi,hz0,hz1,hz2⟩:=info_parts Yy
  clear e
  go_enter func333,ntmps333
  go_wp2_with (go_at_call 77;refine(Fx _ _).mono ?_;rintro e w' ⟨rfl,rfl⟩)
  go_loopw [0,6] (fun n0 v wr=>∃(r u:Nat) (ds:List Nat),n0=.int .i64 (S u)/\Hid (u<18446744073709551616)/\Hid (u<2 ^ r)/\1<=r/\Hid (ds.length+r=64)/\Hid (ds++mV B r u=Zw B (U n)) /\
   wr.ownsRow w.heap.size 5 1 v ds.length ((FR ds).map (Value.int .u8))/\Below w.heap.size w wr) (fun n0 _ _=>GA n0)
  case atStart=>exact⟨64,U n,[],by rw[EN.out],w8 n,YS (w8 n),by omega,Oj,Ar _ _,Nj _ _,Below.refl _ _⟩
  case round =>
   obtain⟨r,u,ds,rfl,hu,hur,hr1,hlen,hds,hown,hbel⟩:=hrel
   obtain⟨r,rfl⟩:∃r',r=r'+1:=⟨r-1,by omega⟩
   have D0:=fun w=>Cp (S u) 0 (B:Int) w
   rw[Ie u B hu.out h2 h3]at D0
   have D:=Lib.hid D0
   clear D0
   have hm:=Nat.mod_lt u (show 0<B by omega)
   have hq:u/B<18446744073709551616:=Nat.lt_of_le_of_lt (Nat.div_le_self _ _) hu.out
   have hds64:ds.length<=63:=by have:=hlen.out;omega
   by_cases hz:u/B=0
   ·have t:(S (u/B)==0)=true:=by rw[hz];decide +kernel
    have hds':=Lib.hid (Il hds.out hz)
    have HZ:=Lib.hid hz
    clear hq hz hds
    go_wp2_with (first
     | (go_at_call 287;refine(D.out _).mono ?_;rintro e w1 ⟨rfl,n1,hw1⟩;have hown1:=Co hown hw1;have hbel1:=Cb hbel hw1;clear hw1)
     | (go_at_call 379;refine(xG _ _).mono ?_;rintro e w' ⟨rfl,rfl⟩)
     | (at_builtin;refine wpList_append_own _ rfl _ _ 22 rfl w.heap.size 5 i0 (.int .u8 0) 1 1 underlying22 hi hz0 hz1 hz2 rfl (by decide) _ _ _ rfl (hown1.alloc _) ⟨w1.heap.size,0,none⟩ 1 1 [.int .u8 (lZ ((u:Int)%(B:Int)))] rfl rfl ?c1 ?c2 ?c3 ?c4 ?c5 ?_))
    case c1=>exact cell_one_new _ _ _
    case c2=>simp[Value.oneCell']
    case c3=>unfold maxLen;omega
    case c4=>omega
    case c5=>have:=hbel1.size;simp;omega
    intro v' w2 hown2 hgrow _
    have hown3:w2.ownsRow w.heap.size 5 1 v' (ds++[u%B]).length ((FR (ds++[u%B])).map (Value.int .u8)):=by
     rw[De,List.map_append,List.length_append];exact hown2
    have hbel2:Below w.heap.size w w2:=(hbel1.alloc hbel1.size _).grown hgrow (by have:=hbel1.size;simp;omega) (LD hown1)
    have RV:=Lib.hid (MU w2 w.heap.size v' _ _ hown3 (by simp;omega))
    clear hown hown1 hown2 hgrow hown3
    go_wp2_with fail
    refine RV.out.mono ?_
    rintro e w3 ⟨rfl,hown5,hb5⟩
    have hbel5:=hb5 w hbel2
    have hcv:=F9 hown5
    rw[hds'.out,Tf]at hcv
    clear hown5 hb5
    go_wp2
    go_ret2
    exact⟨by rw[E.out];rfl,hbel5⟩
   have t:(S (u/B)==0)=false:=by simp only[beq_eq_false_iff_ne];intro h;exact hz ((aa8 hq).1 h)
   have HQ:=Lib.hid hq
   have hds':=Lib.hid (DA hds.out hz)
   have HZ:=Lib.hid hz
   clear hq hz hds
   go_wp2_with (first
    | (go_at_call 287;refine(D.out _).mono ?_;rintro e w1 ⟨rfl,n1,hw1⟩;have hown1:=Co hown hw1;have hbel1:=Cb hbel hw1;clear hw1)
    | (go_at_call 379;refine(xG _ _).mono ?_;rintro e w' ⟨rfl,rfl⟩)
    | (at_builtin;refine wpList_append_own _ rfl _ _ 22 rfl w.heap.size 5 i0 (.int .u8 0) 1 1 underlying22 hi hz0 hz1 hz2 rfl (by decide) _ _ _ rfl (hown1.alloc _) ⟨w1.heap.size,0,none⟩ 1 1 [.int .u8 (lZ ((u:Int)%(B:Int)))] rfl rfl ?c1 ?c2 ?c3 ?c4 ?c5 ?_))
   case c1=>exact cell_one_new _ _ _
   case c2=>simp[Value.oneCell']
   case c3=>unfold maxLen;omega
   case c4=>omega
   case c5=>have:=hbel1.size;simp;omega
   intro v' w2 hown2 hgrow _
   have hown3:w2.ownsRow w.heap.size 5 1 v' (ds++[u%B]).length ((FR (ds++[u%B])).map (Value.int .u8)):=by
    rw[De,List.map_append,List.length_append];exact hown2
   have hbel2:Below w.heap.size w w2:=(hbel1.alloc hbel1.size _).grown hgrow (by have:=hbel1.size;simp;omega) (LD hown1)
   clear hown hown1 hown2 hgrow
   go_wp2_with fail
   go_roundw
   case rel=>exact⟨r,u/B,ds++[u%B],rfl,HQ.out,Ip hur.out h2,YO HZ.out hur.out h2,by have:=hlen.out;show _=_;simp;omega,hds',hown3,hbel2⟩
   case measure=>exact Jt hu HZ h2
 have e:dN n b=([],-24):=by unfold dN;rw[if_neg hb]
 have E:=Lib.hid e
 simp only[Bool.not_eq_true]at hb
 clear e
 go_enter func333,ntmps333
 go_wp2_with (go_at_call 77;refine(Fx _ _).mono ?_;rintro e w' ⟨rfl,rfl⟩)
 go_ret2
 exact⟨by rw[E.out];rfl,Below.refl _ _⟩
def GR(w:World)(x:Int):(convert 22 9 (.slice (some ⟨w.heap.size,0,none⟩) 1 1)).run prog (w.alloc (.cells #[.int .u8 x] 5))=.ok (.string (strOfNums [x])) (w.alloc (.cells #[.int .u8 x] 5)):=by
 refine run_convert_bytes_arg _ 22 5 underlying22 underlying5 w.heap.size 0 1 1 [x] rfl (fun i hi=>?_) 9 underlying9
 obtain rfl:i=0:=by omega
 have:=cell_one_new w (.int .u8 x) 5 0 (.int .u8 x) rfl
 exact this
def J4{a b:ByteArray}(h:a.data.toList=b.data.toList):a=b:=by
 apply ByteArray.ext;exact Array.toList_inj.1 h
def P9(a b:ByteArray):(a++b).data.toList=a.data.toList++b.data.toList:=by simp
def Hz(d:Nat):(strOfNums [lZ (d:Int)]).data.toList=[chr d]:=by rw[strOfNums_data];rfl
def I1{a b:ByteArray}{x y:Int}(h:a=b)(g:x=y):Ending.returned (.tuple #[.string a,.int .i64 x])=.returned (.tuple #[.string b,.int .i64 y]):=by rw[h,g]
def Vu(B:Nat):∀k u,(mV B k u).length<=k:=by
 intro k
 induction k with
 | zero=>intro u;simp[mV]
 | succ k ih =>
  intro u
  simp only[mV,List.length_cons]
  split
  ·simp
  have:=ih (u/B);omega
def AO(u B:Nat):(ef u B).length<=64:=by unfold ef;simpa using Vu B 64 u
def SM(n b:Int)(w:World)(hn:Fit n):Calls prog 332 #[.int .i64 n,.int .i64 b] w fun e w'=>e=.returned (.tuple #[.string ⟨(dh n b).1.toArray⟩,.int .i64 (dh n b).2])/\Below w.heap.size w w':=by
 by_cases h0:0<=n
 ·have e:dh n b=dN n b:=by unfold dh dN;simp only[h0,if_true]
  rw[e]
  have H:=Lib.hid (tO n b w hn)
  go_enter func332,ntmps332
  go_wp2_with (go_at_call 333;refine H.out.mono ?_;rintro e w1 ⟨rfl,hb⟩)
  go_ret2
  exact⟨rfl,hb⟩
 have h1:decide (0<=n)=false:=by simp;omega
 by_cases hb:isB b=true
 ·have e:dN (wrap64 (-n)) b=(ef (U (wrap64 (-n))) b.toNat,0):=by unfold dN;rw[if_pos hb]
  have e2:dh n b=(45::ef (U (wrap64 (-n))) b.toNat,0):=by unfold dh;rw[if_pos hb];simp only[h0,if_false]
  have H0:=tO (wrap64 (-n)) b w (gS _)
  rw[e]at H0
  clear e
  have hl:=AO (U (wrap64 (-n))) b.toNat
  generalize ef (U (wrap64 (-n))) b.toNat=l at H0 e2 hl
  have H:=Lib.hid H0
  have E2:=Lib.hid e2
  clear e2 H0
  go_enter func332,ntmps332
  go_wp2_with (go_at_call 333;refine H.out.mono ?_;rintro e w1 ⟨rfl,hb⟩)
  go_ret2
  exact⟨by rw[E2.out];exact I1 (J4 (by simp)) rfl,hb⟩
 have e:dN (wrap64 (-n)) b=([],-24):=by unfold dN;rw[if_neg hb]
 have e2:dh n b=([],-24):=by unfold dh;rw[if_neg hb]
 have H0:=tO (wrap64 (-n)) b w (gS _)
 rw[e]at H0
 have H:=Lib.hid H0
 have E2:=Lib.hid e2
 clear e e2 H0
 go_enter func332,ntmps332
 go_wp2_with (go_at_call 333;refine H.out.mono ?_;rintro e w1 ⟨rfl,hb⟩)
 go_ret2
 exact⟨by rw[E2.out];rfl,hb⟩
def yy{u B m:Nat}(h:u%B=m):(u:Int)%(B:Int)=(m:Int):=by rw[<-h];simp
def Ij{u B m:Nat}(h:u/B=m):(u:Int)/(B:Int)=(m:Int):=by rw[<-h];simp
def Sc(B:Nat)(h:B<=36):IntKind.u64.wrap (B:Int)=B:=IntWalk.u64_in _ (by omega)
def xg(n b:Int)(w:World):Calls prog 33 #[.int .i64 n,.int .i64 b] w fun e w'=>e=.returned (.tuple #[.string ⟨(dN n b).1.toArray⟩,.int .i64 (dN n b).2])/\Below w.heap.size w w':=by
 by_cases hb:isB b=true
 ·obtain⟨B,rfl,h2,h3⟩:=sH hb
  have e:dN n (B:Int)=(ef (U n) B,0):=by unfold dN;rw[if_pos hb,Int.toNat_natCast]
  have E:=Lib.hid e
  have u1:=kV n
  have u2:=Sc B h3
  have HU:=Lib.hid (w8 n)
  clear e
  obtain⟨u,hu⟩:∃u,U n=u:=⟨_,rfl⟩
  rw[hu]at E HU u1
  clear hu
  obtain⟨m,hm⟩:∃m,u%B=m:=⟨_,rfl⟩
  have hmI:=yy hm
  have hmB:m<=35:=by have:=Nat.mod_lt u (show 0<B by omega);omega
  have hm36:(m:Int)<=35:=by omega
  have tx:=fun w=>GR w (lZ (m:Int))
  have HM:=Lib.hid hm
  clear hm hmB
  go_enter func33,ntmps33
  go_wp2_with (go_at_call 61;refine(CB _ _).mono ?_;rintro e w' ⟨rfl,rfl⟩)
  clear hmI hm36 tx
  go_loopw [6,8] (fun x t wr=>∃(r v:Nat) (ds:List Nat) (z:ByteArray),x=.int .u64 (v:Int)/\t=.string z/\Hid (v<18446744073709551616)/\Hid (v<2 ^ (r+1))/\Hid (ds.length+r=63)/\Hid (ds++mV B (r+1) v=Zw B u) /\
   Hid (z.data.toList=((ds++[v%B]).map chr).reverse)/\Below w.heap.size w wr) (fun x _ _=>(intOf x).toNat)
  case atStart=>exact⟨63,u,[],_,rfl,rfl,HU,YS HU.out,Lib.hid rfl,Ar _ _,by show _=_;rw[HM.out,Hz];rfl,(Below.refl _ _).alloc (Nat.le_refl _) _⟩
  case round =>
   obtain⟨r,v,ds,z,rfl,rfl,hv,hvr,hlen,hds,hz,hbel⟩:=hrel
   by_cases hlt:v/B=0
   ·have hlt2:(v:Int)<(B:Int):=by have:=(Nat.div_eq_zero_iff_lt (show 0<B by omega)).1 hlt;omega
    have he:=Lib.hid (Il hds.out hlt)
    clear hlt
    go_wp2
    go_ret2
    exact⟨by rw[E.out];exact I1 (J4 (by rw[hz.out,he.out];rfl)) rfl,hbel⟩
   have hge:¬(v:Int)<(B:Int):=fun h=>hlt (Nat.div_eq_of_lt (by omega))
   have hge2:(B:Int)<=(v:Int):=by omega
   obtain⟨q,hq⟩:∃q,v/B=q:=⟨_,rfl⟩
   have hqI:=Ij hq
   obtain⟨m,hm⟩:∃m,q%B=m:=⟨_,rfl⟩
   have hmI:=yy hm
   have hmB:m<=35:=by have:=Nat.mod_lt q (show 0<B by omega);omega
   have hm36:(m:Int)<=35:=by omega
   have tx:=fun w=>GR w (lZ (m:Int))
   have hzl:z.size<=64:=by
    have:=hlen.out
    rw[<-iX,hz.out];simp;omega
   have hs1:(strOfNums [lZ (m:Int)]).size<=1:=by rw[strOfNums_size];simp
   have hr1:=YO hlt hvr.out h2
   obtain⟨r,rfl⟩:∃r',r=r'+1:=⟨r-1,by omega⟩
   have hd':=DA hds.out hlt
   have hv':v/B<18446744073709551616:=Nat.lt_of_le_of_lt (Nat.div_le_self _ _) hv.out
   have hvr':=Ip hvr.out h2
   rw[hq]at hd' hv' hvr'
   have hqw:IntKind.u64.wrap (q:Int)=(q:Int):=IntWalk.u64_in _ (by omega)
   have hz':(strOfNums [lZ (m:Int)]++z).data.toList=((ds++[v%B]++[q%B]).map chr).reverse:=by
    rw[P9,Hz,hz.out,hm];simp
   have hmeas:q<v:=by rw[<-hq];exact Nat.div_lt_self (Nat.pos_of_ne_zero (fun e=>hlt (by rw[e];exact Nat.zero_div B))) h2
   have HD:=Lib.hid hd'
   have HV:=Lib.hid hv'
   have HR:=Lib.hid hvr'
   have HZ:=Lib.hid hz'
   have HS:=Lib.hid hmeas
   clear hlt hq hm hmB hr1 hd' hv' hvr' hz' hmeas hge hz hds hv hvr
   go_wp2_with (go_at_call 61;refine(CB _ _).mono ?_;rintro e w' ⟨rfl,rfl⟩)
   go_roundw
   case rel=>exact⟨r,q,ds++[v%B],_,rfl,rfl,HV,HR,by have:=hlen.out;show _=_;simp;omega,HD,HZ,hbel.alloc hbel.size _⟩
   case measure=>have:=HS.out;simp[intOf];omega
 have e:dN n b=([],-24):=by unfold dN;rw[if_neg hb]
 have E:=Lib.hid e
 have hb2:¬(2<=b/\b<=36):=fun h=>hb ((DL b).2 h)
 clear hb e
 by_cases h2:b<2
 ·have t:decide (b<2)=true:=by simp[h2]
  go_enter func33,ntmps33
  go_wp2
  go_ret2
  exact⟨by rw[E.out];rfl,Below.refl _ _⟩
 have t:decide (b<2)=false:=by simp;omega
 have t2:decide (36<b)=true:=by simp;omega
 go_enter func33,ntmps33
 go_wp2
 go_ret2
 exact⟨by rw[E.out];rfl,Below.refl _ _⟩
def UE(n b:Int)(w:World)(hn : -9223372036854775808<=n/\n<=9223372036854775807):Calls prog 18 #[.int .i64 n,.int .i64 b] w fun e w'=>e=.returned (.tuple #[.string ⟨(dh n b).1.toArray⟩,.int .i64 (dh n b).2])/\Below w.heap.size w w':=by
 by_cases h0:0<=n
 ·have e:dh n b=dN n b:=by unfold dh dN;simp only[h0,if_true]
  rw[e]
  have H:=Lib.hid (xg n b w)
  go_enter func18,ntmps18
  go_wp2_with (go_at_call 33;refine H.out.mono ?_;rintro e w1 ⟨rfl,hb⟩)
  go_ret2
  exact⟨rfl,hb⟩
 have h1:decide (0<=n)=false:=by simp;omega
 by_cases hb:isB b=true
 ·have e:dN (wrap64 (-n)) b=(ef (U (wrap64 (-n))) b.toNat,0):=by unfold dN;rw[if_pos hb]
  have e2:dh n b=(45::ef (U (wrap64 (-n))) b.toNat,0):=by unfold dh;rw[if_pos hb];simp only[h0,if_false]
  have H0:=xg (wrap64 (-n)) b w
  rw[e]at H0
  clear e
  have hl:=AO (U (wrap64 (-n))) b.toNat
  generalize ef (U (wrap64 (-n))) b.toNat=l at H0 e2 hl
  have H:=Lib.hid H0
  have E2:=Lib.hid e2
  clear e2 H0
  go_enter func18,ntmps18
  go_wp2_with (go_at_call 33;refine H.out.mono ?_;rintro e w1 ⟨rfl,hb⟩)
  go_ret2
  exact⟨by rw[E2.out];exact I1 (J4 (by simp)) rfl,hb⟩
 have e:dN (wrap64 (-n)) b=([],-24):=by unfold dN;rw[if_neg hb]
 have e2:dh n b=([],-24):=by unfold dh;rw[if_neg hb]
 have H0:=xg (wrap64 (-n)) b w
 rw[e]at H0
 have H:=Lib.hid H0
 have E2:=Lib.hid e2
 clear e e2 H0
 go_enter func18,ntmps18
 go_wp2_with (go_at_call 33;refine H.out.mono ?_;rintro e w1 ⟨rfl,hb⟩)
 go_ret2
 exact⟨by rw[E2.out];rfl,hb⟩
def ng(r:List UInt8×Int):PV:=iA (str r.1) (i64 r.2)
@[simp] theorem Z1 (r : List UInt8 × Int) : aU (ng r) := by simp [ng]
def UK{P:Program}{f:FuncId}{args:List Value}{r:List UInt8×Int}(h:∀w,Calls P f args.toArray w fun e w'=>e=.returned (.tuple #[.string ⟨r.1.toArray⟩,.int .i64 r.2])/\ba w w'):ab P f (args.map .val) (ng r) :=
 d9 (v:=.tuple #[.string ⟨r.1.toArray⟩,.int .i64 r.2]) (fun c=>by unfold ng iA Rep;exact⟨[_,_],rfl,aj.2 ⟨aq _ _,aj.2 ⟨aq _ _,az.2 rfl⟩⟩⟩) h
def Ju{w:World}{v:Value}:∀{e:Ending} {w':World},(e=.returned v/\Below w.heap.size w w')->(e=.returned v/\ba w w'):=by rintro e w' ⟨h,k⟩;exact⟨h,ba.of_below k⟩
def ad1(n b:Int)(hn : -9223372036854775808<=n/\n<=9223372036854775807):ab prog 332 [i64 n,i64 b] (ng (dh n b)):=UK (args:=[.int .i64 n,.int .i64 b]) fun w=>Calls.mono (SM n b w hn) fun _ _ h=>Ju h
def X4(n b:Int)(hn : -9223372036854775808<=n/\n<=9223372036854775807):ab prog 333 [i64 n,i64 b] (ng (dN n b)):=UK (args:=[.int .i64 n,.int .i64 b]) fun w=>Calls.mono (tO n b w hn) fun _ _ h=>Ju h
def aH3(n b:Int)(hn : -9223372036854775808<=n/\n<=9223372036854775807):ab prog 18 [i64 n,i64 b] (ng (dh n b)):=UK (args:=[.int .i64 n,.int .i64 b]) fun w=>Calls.mono (UE n b w hn) fun _ _ h=>Ju h
def Vc(n:Int):ab prog 379 [i64 n] (.val (.int .u8 (lZ n))):=d9 (args:=[.int .i64 n]) (fun c=>aq _ _) fun w=>Calls.mono (xG n w) fun _ _ h=>ML h
def B1{B:Nat->Nat->Prop}{H:List Ob}{σ:Nat->Option Nat}{w w':World}(s:Sim B H σ w)(g:ba w w'){xs:List Int}{b c:Nat}(hb:w.heap.size<=b)(hl:xs.length<=c)(hc:∀i,i<xs.length->w'.cell? ⟨b,i,none⟩=some (.int .u8 (xs.getD i 0))):
  Rep (cx B H σ w') (.seq xs.length (xs.map kx) .any) (.slice (some ⟨b,0,none⟩) xs.length c):=by
 unfold Rep
 refine⟨_,c,xs.map (Value.int .u8),rfl,hl,(fun h=>by cases h),?_,fun a ha=>?_,trivial⟩
 ·clear hc hl
  induction xs with
  | nil=>exact az.2 rfl
  | cons x l ih=>exact aj.2 ⟨aq _ _,ih⟩
 cases ha
 refine .inl ⟨rfl,fun j u hj=>⟨?_,?_⟩⟩
 ·have hjl:j<xs.length:=by have:=cX hj;simpa using this
  show w'.cell? ⟨b,0+j,none⟩=some u
  rw[Nat.zero_add,hc j hjl]
  rw[List.getElem?_map,List.getElem?_eq_getElem hjl]at hj
  simp only[Option.map_some,Option.some.injEq]at hj
  rw[<-hj];simp[List.getD,hjl]
 rintro(h|⟨i,oi,h1,h2,h3⟩)
 ·have:=s.base _ _ h;dsimp only at this;omega
 have hl:oi.live=true:=by cases oi<;>first|rfl|cases h3
 have:=(s.holds i oi h1).lt hl h2
 simp only[cx]at this;omega
def Tl(u:Nat):∀x∈lT u,0<=x/\x<256:=by
 intro x hx
 simp only[lT,List.mem_cons,List.not_mem_nil,or_false]at hx
 omega
def uj(n:Int):List UInt8:=(lT (U n)).map fun x=>UInt8.ofNat x.toNat
def kZ(n:Int):(uj n).length=8:=rfl
def Ui(n:Int):PV.seq 8 ((lT (U n)).map kx) .any=sq aL (uj n):=by
 unfold sq uj
 rw[kD,List.map_map,List.map_map]
 have:∀x∈lT (U n),kx x=(kx ∘ (fun b:UInt8=>(b.toNat:Int)) ∘ fun x=>UInt8.ofNat x.toNat) x:=by
  intro x hx
  have:=Tl (U n) x hx
  simp only[Function.comp]
  rw[UInt8.toNat_ofNat']
  congr 1
  omega
 rw[List.map_congr_left this]
 rfl
def EP{f:FuncId}(n:Int)(h:∀w,Calls prog f #[.int .i64 n] w (A6 (lT (U n)) w)):ab prog f [i64 n] (sq aL (uj n)):=by
 rw[<-Ui]
 intro H B σ w vs s hv
 have:=tB (l:=[.int .i64 n]) hv
 subst this
 refine Calls.mono (h w) ?_
 rintro e w' ⟨b,c,rfl,hb,hl,hc,hbel⟩
 have g:=ba.of_below hbel
 obtain⟨s',st⟩:=gc s g
 exact⟨_,σ,rfl,B1 s g hb hl hc,s',st⟩
def DC(n:Int):ab prog 124 [i64 n] (sq aL (uj n)):=EP n (Si n)
def jN(l:List UInt8)(k:Nat)(b:List UInt8):List UInt8:=l.take k++b++l.drop (k+b.length)
def Dq{l b:List UInt8}{k:Nat}(h:k+b.length<=l.length):(jN l k b).length=l.length:=by simp[jN];omega
def KI{xs ys:List PV}(h:ys.length=xs.length):cD xs 0 ys=ys:=by simp[cD,h]
def DM(l:List UInt8)(k:Nat):(l.flatMap aL).take k=(l.take k).flatMap aL:=by
 have:=nH aL 1 (fun _=>rfl) k l
 rwa [Nat.mul_one]at this
def Vx(l:List UInt8)(k:Nat):(l.flatMap aL).drop k=(l.drop k).flatMap aL:=by
 have:=iD aL 1 (fun _=>rfl) k l
 rwa [Nat.mul_one]at this
def fU(l:List UInt8):(l.flatMap aL).length=l.length:=by rw[al aL 1 (fun _=>rfl),Nat.mul_one]
def Oe(l b:List UInt8)(k:Nat):cD (l.flatMap aL) k (b.flatMap aL)=(jN l k b).flatMap aL:=by
 unfold cD jN
 rw[DM,fU,Vx,List.flatMap_append,List.flatMap_append]
def Oi{l b:List UInt8}{k c:Nat}(h:k+b.length<=l.length)(hc:c=if l.length=k then 0 else 0+k*1):cD (l.flatMap aL) c ((b.flatMap aL).take (min b.length (l.length-k)*1))=(jN l k b).flatMap aL:=by
 rw[Nat.min_eq_left (by omega),Nat.mul_one,List.take_of_length_le (by rw[fU];exact Nat.le_refl _)]
 rw[<-Oe]
 split at hc
 ·have:b=[]:=List.eq_nil_of_length_eq_zero (by omega)
  subst this
  subst hc
  simp[cD]
 rw[hc];congr 1;omega
def N7{l:List UInt8}{d:TD}(hs:d.size=1)(hz:d.zero.length=1){e:TypeId}:[Ob.cells (l.flatMap aL) e]=[Ob.cells (cD (fT (l.length:Int).toNat d) 0 (List.take (min l.length (l.length:Int).toNat*d.size) (List.flatMap aL l))) e]:=by
 rw[Int.toNat_natCast,Nat.min_self,hs,Nat.mul_one,List.take_of_length_le (by rw[fU];exact Nat.le_refl _),KI (by rw[mL _ _ (by rw[hs,hz]),fU,hs,Nat.mul_one])]
def Xy{l b:List UInt8}{k:Nat}(h:k+b.length<=l.length):PV.seq (l.length:Int).toNat (((jN l k b).flatMap aL).take (jN l k b).length) .any=sq aL (jN l k b):=by
 rw[DM,List.take_length,Int.toNat_natCast]
 unfold sq
 rw[Dq h]
def SU(l:List UInt8)(at_:Int)(b:List UInt8)(hl:l.length<=1000000)(h0:0<=at_)(h1:at_+b.length<=l.length):ab prog 173 [sq aL l,i64 at_,sq aL b] (sq aL (jN l at_.toNat b)):=by
 refine zY func173 fun B=>?_
 refine zu1 ?_
 refine zp2 ?_
 refine z2 ?_ (q:=(by(simp_all;omega)))
 refine zs1 ?_
 refine zp2 ?_
 refine Wd rfl rfl (nN (lO tG rfl) rfl (lO tG rfl) rfl rfl rfl rfl (al _ 1 (fun _=>rfl) _) (bF _ (fun _=>rfl) _) (by rw[mL _ _ rfl];simp)) ?_
 refine jM (H':=[.cells (l.flatMap aL) 5]) (N7 rfl rfl) ?_
 refine Wn<|zp2 ?_
 refine z2 ?_ (q:=(by(simp_all;omega)))
 refine z1 ?_
 refine Wd rfl rfl (nN (lO tG rfl) rfl (lO tG rfl) rfl rfl rfl rfl (al _ 1 (fun _=>rfl) _) (bF _ (fun _=>rfl) _) (by rw[fU];dsimp only;split<;>omega)) ?_
 refine jM (H':=[.cells ((jN l at_.toNat b).flatMap aL) 5]) (congrArg (fun z=>[Ob.cells z 5]) (Oi (by omega) rfl).symm) ?_
 refine Wn<|zp1 ?_
 refine Wm 19 rfl (pg (Nat.le_refl _)) ?_
 refine qp 19 0 _ (jN l at_.toNat b).length rfl rfl (by rw[fU];exact Nat.le_refl _) ?_
 refine Wa 19 rfl (Xy (by omega)) ?_
 refine zs1 ?_
 refine zR ?_
 rfl
structure da (m:bn):Prop where
 b:m.b.length<=1000000
 old:m.old.length<=1000000
def cn(m:bn)(at_:Int)(b:List UInt8):bn×Int :=
 if bt m at_ b.length then(if b=[]then(m,0)else(⟨jN m.b at_.toNat b,m.old++[⟨at_,(m.b.drop at_.toNat).take b.length⟩]⟩,0))else(m,-9)
def vP(r:bn×Int):PV:=iA (jC r.1) (i64 r.2)
@[simp] theorem ao9 (r : bn × Int) : aU (vP r) := by simp [vP]
def as4{n:Nat}(h:n<=1000000):ae n:=by unfold ae;omega
def IJ{m:bn}{at_:Int}{n:Nat}(h:bt m at_ n=true)(h0:n≠0):0<=at_/\at_+n<=m.b.length:=by
 unfold bt at h
 simp only[decide_eq_true_eq]at h
 omega
def Lp{x:Int}(h0:0<=x)(h1:x<=1000000):IntKind.i64.wrap x=x:=by rw[bU];unfold wrap64;omega
def Lo{l:List UInt8}{a b:Nat}:(l.take b).drop a=(l.drop a).take (b-a):=by rw[List.drop_take]
def XY{l:List UInt8}{x:Int}{n:Nat}(h0:0<=x)(h:IntKind.i64.wrap (x+n)=x+n):sq aL ((l.take (IntKind.i64.wrap (x+n)).toNat).drop x.toNat)=sq aL ((l.drop x.toNat).take n):=by
 rw[h,Lo];congr 2;omega
def HJ{m:bn}{at_:Int}{b:List UInt8}(h:bt m at_ b.length=false):cn m at_ b=(m,-9):=by unfold cn;rw[h];rfl
def Fu{m:bn}{at_:Int}{b:List UInt8}(h:bt m at_ b.length=true)(h0:b.length=0):cn m at_ b=(m,0):=by unfold cn;rw[h,if_pos rfl,if_pos (List.eq_nil_of_length_eq_zero h0)]
def FQ{m:bn}{at_:Int}{b:List UInt8}(h:bt m at_ b.length=true)(h0:b.length≠0):cn m at_ b=(⟨jN m.b at_.toNat b,m.old++[⟨at_,(m.b.drop at_.toNat).take b.length⟩]⟩,0):=by
 unfold cn;rw[h,if_pos rfl,if_neg (fun e=>h0 (by rw[e];rfl))]
def nY(m:bn)(at_:Int)(b:List UInt8)(hm:da m)(ha:ae at_)(hb:b.length<=1000000):ab prog 123 [jC m,i64 at_,sq aL b] (vP (cn m at_ b)):=by
 have hm1:=hm.b
 have hm2:=hm.old
 refine zY func123 fun B=>?_
 refine zu3 ?_
 refine Ws<|zp4 ?_
 refine zc rfl func102 ((pV m at_ b.length (by omega) ha (as4 hb)) _) ?_
 refine zs1 ?_
 refine Wi rfl (fun hi1=>?_) (fun hi1=>?_)
 ·rw[HJ (by simpa using hi1)]
  refine zu3 ?_
  refine zR ?_
  rfl
 have ht:bt m at_ b.length=true:=by simpa using hi1
 refine Wj<|Ws<|zu3 ?_
 refine Wi rfl (fun hi2=>?_) (fun hi2=>?_)
 ·rw[Fu ht (by simpa using hi2)]
  refine zu3 ?_
  refine zR ?_
  rfl
 have hne:b.length≠0:=by simpa using hi2
 obtain⟨k0,k1⟩:=IJ ht hne
 have k2:IntKind.i64.wrap (at_+b.length)=at_+b.length:=Lp (by omega) (by omega)
 refine Wj<|Ws<|ax [0,1,0,0,0,1,0,0,0,0,0,0,0,0,0,0,0,3] [0,1,2,3,4,5,6,7,8,9,10,11,12,13,14,15,16,17] mG rfl (by kernel_rfl) ?_
 refine z3 ?_
 refine z5 ?_
 refine Xc rfl rfl rfl rfl (fun _=>dC rfl func171 rfl rfl ((E3 m.old (by omega)) _)) ?_
 iterate 2 refine z3 ?_
 refine z5 ?_
 iterate 5 refine z3 ?_
 refine z4 ?_ (q:=(by rw[k2];omega))
 refine Xa 30 rfl (cM aL 1 (fun _=>rfl) (by rw[k2];omega)) ?_
 refine Xc rfl rfl rfl rfl (fun _=>dC rfl func172 rfl rfl ((yo _ (by simp;omega)) _)) ?_
 refine Xa 31 rfl (XY k0 k2) ?_
 iterate 2 refine z3 ?_
 refine Xa 33 rfl ((show PV.seq 1 _ .clip=.seq (List.length [(⟨at_,(m.b.drop at_.toNat).take b.length⟩:tp)]) (List.flatMap mZ [(⟨at_,(m.b.drop at_.toNat).take b.length⟩:tp)]) .clip from rfl)) ?_
 refine im rfl rfl rfl rfl (fun _=>co (lO tG rfl) rfl (lO tG rfl) (lO tG rfl) rfl rfl (by exact⟨_,rfl⟩) (by exact⟨rfl,rfl,al _ 2 (fun _=>rfl) _,bF _ (fun _=>rfl) _⟩) (by exact al _ 2 (fun _=>rfl) _) (by((simp_all;omega))) (by((simp_all;omega))) (by exact fW (bv (fun x=>by simp) _) (bv (fun x=>by simp) _))) ?_
 refine Xa 34 rfl (cz mZ) ?_
 refine z3 ?_
 refine dH tG rfl rfl rfl rfl rfl trivial ?_
 refine aQ ?_
 refine zp4 ?_
 refine zc rfl func173 ((SU _ _ _ hm1 k0 k1) _) ?_
 refine zs2 ?_
 refine zu3 ?_
 refine zR ?_
 rw[FQ ht hne];rfl
def loB(n:Int):UInt8:=UInt8.ofNat (n%256).toNat
def P2(n:Int):IntKind.u8.wrap n=((loB n).toNat:Int):=by
 unfold loB
 rw[UInt8.toNat_ofNat']
 simp[IntKind.wrap,IntKind.bits,IntKind.signed]
 omega
def Al(n:Int):PV.val (.int .u8 (IntKind.u8.wrap n))=.val (.int .u8 ((loB n).toNat:Int)):=by rw[P2]
def ay(m:bn)(at_ n:Int):bn×Int:=if cV m at_=0 then cn m at_ (uj n)else(m,cV m at_)
def nC(m:bn)(at_ n:Int):bn×Int:=cn m at_ [loB n]
def ea(m:bn)(at_:Int):Int×Int:=if bt m at_ 1 then(((m.b.getD at_.toNat 0).toNat:Int),0)else(0,-9)
def dU(m:bn)(at_ n:Int):List UInt8×Int:=if bt m at_ n then((m.b.drop at_.toNat).take n.toNat,0)else([],-9)
def ny(m:bn)(x to_ n:Int):bn×Int:=if (dU m x n).2=0 then cn m to_ (dU m x n).1 else(m,(dU m x n).2)
def nB(m:bn)(at_ n c:Int):bn×Int:=if bt m at_ n then cn m at_ (List.replicate n.toNat (loB c))else(m,-9)
def Q6(r:List UInt8×Int):PV:=iA (sq aL r.1) (i64 r.2)
@[simp] theorem ZJ (r : List UInt8 × Int) : aU (Q6 r) := by simp [Q6]
def jG(m:bn)(at_ n:Int)(hm:da m)(ha:ae at_):ab prog 92 [jC m,i64 at_,i64 n] (vP (ay m at_ n)):=by
 have hm1:=hm.b
 have hm2:=hm.old
 refine zY func92 fun B=>?_
 refine zu3 ?_
 refine Ws<|zp2 ?_
 refine zc rfl func72 ((Ag m at_ (by omega) ha) _) ?_
 refine zs1 ?_
 refine zu2 ?_
 refine Wi rfl (fun hi1=>?_) (fun hi1=>?_)
 ·have h0:cV m at_≠0:=by simpa using hi1
  refine zu4 ?_
  refine zR ?_
  rw[ay,if_neg h0];rfl
 have h0:cV m at_=0:=by simpa using hi1
 refine Wj<|Ws<|ax [1,0,0,0,0,0,0,3,0] [0,1,2,3,4,5,6,7,8] mG rfl (by kernel_rfl) ?_
 refine z5 ?_
 iterate 2 refine z3 ?_
 refine Xc rfl rfl rfl rfl (fun _=>dC rfl func124 rfl rfl ((DC n) _)) ?_
 refine Xc rfl rfl rfl rfl (fun _=>dC rfl func123 rfl rfl ((nY m at_ (uj n) hm ha (by rw[kZ];omega)) _)) ?_
 iterate 2 refine z3 ?_
 refine dH tG rfl rfl rfl rfl rfl trivial ?_
 refine z3 ?_
 refine aQ ?_
 refine zR ?_
 rw[ay,if_pos h0];rfl
def BQ(m:bn)(at_ n:Int)(hm:da m)(ha:ae at_):ab prog 300 [jC m,i64 at_,i64 n] (vP (nC m at_ n)):=by
 refine zY func300 fun B=>?_
 refine zu3 ?_
 refine zp4 ?_
 refine Wa 11 rfl (Al n) ?_
 refine z1 ?_
 refine Wa 12 rfl (bsL aL [_] rfl rfl) ?_
 refine zc rfl func123 ((nY m at_ [loB n] hm ha (by simp)) _) ?_
 refine zs4 ?_
 refine zR ?_
 rfl
def ax6(b:UInt8):IntKind.i64.wrap (b.toNat:Int)=b.toNat:=by have:=b.toNat_lt;rw[bU];unfold wrap64;omega
def uw(m:bn)(at_:Int)(hm:da m)(ha:ae at_):ab prog 296 [jC m,i64 at_] (ri (ea m at_)):=by
 have hm1:=hm.b
 refine zY func296 fun B=>?_
 refine zu3 ?_
 refine Ws<|zp2 ?_
 refine zc rfl func102 ((pV m at_ 1 (by omega) ha (as4 (n:=1) (by omega))) _) ?_
 refine zs1 ?_
 refine Wi rfl (fun hi1=>?_) (fun hi1=>?_)
 ·refine zu2 ?_
  refine zR ?_
  rw[ea,if_neg (by simpa using hi1)];rfl
 have ht:bt m at_ 1=true:=by simpa using hi1
 obtain⟨k0,k1⟩:=IJ (n:=1) ht (by omega)
 refine Wj<|zp3 ?_
 refine Wv tG rfl rfl rfl (by omega) (iR aL 1 (fun _=>rfl) 0 (by omega)) ?_
 refine zs4 ?_
 refine zR ?_
 rw[ea,if_pos ht];exact congrArg (fun z=>iA (i64 z) (i64 0)) (ax6 _)
def Z5{m:bn}{at_ n:Int}(h:bt m at_ n=true)(h0:n≠0):0<n/\0<=at_/\at_+n<=m.b.length:=by
 unfold bt at h
 simp only[decide_eq_true_eq]at h
 omega
def UJ{l:List UInt8}{x n:Int}(h0:0<=x)(h1:0<=n)(h:IntKind.i64.wrap (x+n)=x+n):sq aL ((l.take (IntKind.i64.wrap (x+n)).toNat).drop x.toNat)=sq aL ((l.drop x.toNat).take n.toNat):=by
 rw[h,Lo];congr 2;omega
def zZ(m:bn)(at_ n:Int)(hm:da m)(ha:ae at_)(hn:ae n):ab prog 257 [jC m,i64 at_,i64 n] (Q6 (dU m at_ n)):=by
 have hm1:=hm.b
 refine zY func257 fun B=>?_
 refine zu3 ?_
 refine Ws<|zp3 ?_
 refine zc rfl func102 ((pV m at_ n (by omega) ha hn) _) ?_
 refine zs1 ?_
 refine Wi rfl (fun hi1=>?_) (fun hi1=>?_)
 ·have ht:¬bt m at_ n=true:=by simpa using hi1
  refine zu2 ?_
  refine zR ?_
  rw[dU,if_neg ht];rfl
 have ht:bt m at_ n=true:=by simpa using hi1
 refine Wj<|Ws<|zu2 ?_
 refine Wi rfl (fun hi2=>?_) (fun hi2=>?_)
 ·have hz:n=0:=by simpa using hi2
  refine zu2 ?_
  refine zR ?_
  rw[dU,if_pos ht,hz];rfl
 obtain⟨k0,k1,k3⟩:=Z5 ht (by simpa using hi2)
 have k2:IntKind.i64.wrap (at_+n)=at_+n:=Lp (by omega) (by omega)
 refine Wj<|zp5 ?_
 refine z1 ?_
 refine z2 ?_ (q:=(by rw[k2];omega))
 refine Wa 21 rfl (cM aL 1 (fun _=>rfl) (by rw[k2];omega)) ?_
 refine Wa 21 rfl (UJ k1 (by omega) k2) ?_
 refine zc rfl func172 ((yo _ (by simp;omega)) _) ?_
 refine zs2 ?_
 refine zR ?_
 rw[dU,if_pos ht];rfl
def Ho{m:bn}{at_ n:Int}(hm:da m):(dU m at_ n).1.length<=1000000:=by
 have:=hm.b
 unfold dU
 split
 ·simp;omega
 simp
def TG(m:bn)(x to_ n:Int)(hm:da m)(hx:ae x)(ht:ae to_)(hn:ae n):ab prog 307 [jC m,i64 x,i64 to_,i64 n] (vP (ny m x to_ n)):=by
 refine zY func307 fun B=>?_
 refine zu3 ?_
 refine zp3 ?_
 refine zc rfl func257 ((zZ m x n hm hx hn) _) ?_
 refine zs5 ?_
 refine Ws<|zu2 ?_
 refine Wi rfl (fun hi1=>?_) (fun hi1=>?_)
 ·have h0:¬(dU m x n).2=0:=by simpa using hi1
  refine zu4 ?_
  refine zR ?_
  rw[ny,if_neg h0];rfl
 have h0:(dU m x n).2=0:=by simpa using hi1
 refine Wj<|zp3 ?_
 refine zc rfl func123 ((nY m to_ _ hm ht (Ho hm)) _) ?_
 refine zs4 ?_
 refine zR ?_
 rw[ny,if_pos h0];rfl
def gX(p:d8)(c:Int):d8×Int:=if p.on=true/\p.b.length<130 then(⟨p.b++[loB c],p.on⟩,0)else(p,-17)
def oZ(p:d8)(n:Int):d8×Int:=if 0<=n then(p,0)else gX p 45
def M9(r:d8×Int):PV:=iA (yP r.1) (i64 r.2)
@[simp] theorem an0 (r : d8 × Int) : aU (M9 r) := by simp [M9]
def OO:ab prog 337 [] (yP ⟨[],true⟩):=by
 refine zY func337 fun B=>?_
 refine zu1 ?_
 refine zu2 ?_
 refine zR ?_
 rfl
def A0{p:d8}{c:Int}(h:¬(p.on=true/\p.b.length<130)):gX p c=(p,-17):=by unfold gX;rw[if_neg h]
def IW{p:d8}{c:Int}(h:p.on=true/\p.b.length<130):gX p c=(⟨p.b++[loB c],p.on⟩,0):=by unfold gX;rw[if_pos h]
def Bo(p:d8)(c:Int)(hp:p.b.length<=1000000):ab prog 342 [yP p,i64 c] (M9 (gX p c)):=by
 refine zY func342 fun B=>?_
 refine zu3 ?_
 refine Ws<|zp4 ?_
 refine Wb 10 rfl (fun hg1=>?_) (fun hg1=>?_)
 ·refine z6 ?_
  iterate 3 refine z6 ?_
  refine zs1 ?_
  refine Wt rfl rfl ?_
  refine zu3 ?_
  refine zR ?_
  have hno:¬(p.on=true/\p.b.length<130):=by rintro⟨q1,q2⟩;(try simp only[dnL]at *);(try simp_all)<;>omega
  rw[A0 hno];rfl
 refine zs5 ?_
 refine Wi rfl (fun hi1=>?_) (fun hi1=>?_)
 ·refine zu3 ?_
  refine zR ?_
  have hno:¬(p.on=true/\p.b.length<130):=by rintro⟨q1,q2⟩;(try simp only[dnL]at *);(try simp_all)<;>omega
  rw[A0 hno];rfl
 refine Wj<|zu4 ?_
 refine zp4 ?_
 refine z2 ?_ (q:=(by(simp_all;done)))
 refine Wa 24 rfl (cM aL 1 (fun _=>rfl) (by omega)) ?_
 refine Wa 24 rfl ((show _=sqc aL p.b by simp[sqc];rfl)) ?_
 refine zy2 ?_
 refine Wa 26 rfl (Al c) ?_
 refine z1 ?_
 refine Wa 27 rfl (bsL aL [_] rfl rfl) ?_
 refine Wd rfl rfl (ce (lO tG rfl) rfl (lO tG rfl) (lO tG rfl) rfl rfl (by exact⟨_,rfl⟩) (by exact⟨rfl,rfl,al _ 1 (fun _=>rfl) _,bF _ (fun _=>rfl) _⟩) (by exact al _ 1 (fun _=>rfl) _) (by((simp_all;omega))) (by((simp_all;omega)))) ?_
 refine Wa 28 rfl (cz aL) ?_
 refine zs2 ?_
 refine zu3 ?_
 refine zR ?_
 have hon:p.on=true:=by(try simp only[dnL]at *);simp_all
 have hyes:p.on=true/\p.b.length<130:=⟨hon,by(try simp only[dnL]at *);omega⟩
 rw[IW hyes];rfl
inductive Op1 where
 | abs
 | neg
 | inv
 | inc
 | dec
 | dbl
 | half
 | cells
 | algn
 | cellp
 | eq0
 | lt0
 | ne0
 | gt0
deriving DecidableEq
def PZ:List (Str×Op1):=[([65,66,83],.abs),([78,69,71,65,84,69],.neg),([73,78,86,69,82,84],.inv),([49,43],.inc),([49,45],.dec),([50,42],.dbl),([50,47],.half),([67,69,76,76,83],.cells),([65,76,73,71,78,69,68],.algn),([67,69,76,76,43],.cellp),([48,61],.eq0),([48,60],.lt0),([48,60,62],.ne0),([48,62],.gt0)]
def op1(s:Str):Option Op1:=PZ.lookup s
def fH(b:Bool):Int:=if b then -1 else 0
def one(o:Op1)(a:Int):Int:=match o with
 | .abs=>if 0<=a then a else wrap64 (-a)
 | .neg=>wrap64 (-a)
 | .inv=>-1-a
 | .inc=>wrap64 (a+1)
 | .dec=>wrap64 (a-1)
 | .dbl=>wrap64 (a+a)
 | .half=>a/2
 | .cells=>wrap64 (a*8)
 | .algn=>if a%8=0 then a else wrap64 (a-a%8+8)
 | .cellp=>wrap64 (a+8)
 | .eq0=>fH (decide (a=0))
 | .lt0=>fH (decide (a<0))
 | .ne0=>fH (!decide (a=0))
 | .gt0=>fH (decide (0<a))
def wI(name:Str)(a:Int):Int×Bool:=match op1 name with
 | some o=>(one o a,true)
 | none=>(0,false)
def kf(r:Int×Bool):PV:=iA (i64 r.1) (boo r.2)
@[simp] theorem ao6 (r : Int × Bool) : aU (kf r) := by simp [kf]
def ld{name:Str}{o:Op1}{a:Int}(h:op1 name=some o):wI name a=(one o a,true):=by unfold wI;rw[h]
def Xv{name:Str}{a:Int}(h:op1 name=none):wI name a=(0,false):=by unfold wI;rw[h]
def Tg{s:Str}(h0:s≠[65,66,83])(h1:s≠[78,69,71,65,84,69])(h2:s≠[73,78,86,69,82,84])(h3:s≠[49,43])(h4:s≠[49,45])(h5:s≠[50,42])(h6:s≠[50,47])(h7:s≠[67,69,76,76,83])(h8:s≠[65,76,73,71,78,69,68])(h9:s≠[67,69,76,76,43])(h10:s≠[48,61])(h11:s≠[48,60])(h12:s≠[48,60,62])(h13:s≠[48,62]):op1 s=none:=by
 unfold op1 PZ
 simp only[List.lookup]
 simp[beq_eq_false_iff_ne.2 h0,beq_eq_false_iff_ne.2 h1,beq_eq_false_iff_ne.2 h2,beq_eq_false_iff_ne.2 h3,beq_eq_false_iff_ne.2 h4,beq_eq_false_iff_ne.2 h5,beq_eq_false_iff_ne.2 h6,beq_eq_false_iff_ne.2 h7,beq_eq_false_iff_ne.2 h8,beq_eq_false_iff_ne.2 h9,beq_eq_false_iff_ne.2 h10,beq_eq_false_iff_ne.2 h11,beq_eq_false_iff_ne.2 h12,beq_eq_false_iff_ne.2 h13]
def TY(a:Int):wrap64 (0-a)=wrap64 (-a):=congrArg wrap64 (by omega)
def af4{a:Int}(ha : -9223372036854775808<=a/\a<=9223372036854775807):wrap64 ((BitVec.ofInt 64 (-1) ^^^ BitVec.ofInt 64 a).toNat:Int) = -1-a:=by
 have h1:BitVec.ofInt 64 (-1)=BitVec.allOnes 64:=by decide
 rw[h1,BitVec.allOnes_xor,BitVec.toNat_not,BitVec.toNat_ofInt]
 have h2:((2 ^ 64:Nat):Int)=18446744073709551616:=by decide
 have h3:(2 ^ 64:Nat)=18446744073709551616:=by decide
 rw[h2,h3]
 unfold wrap64
 omega
def Zn(a:Int):wrap64 (a*2 ^ min (Int.toNat 1) IntKind.i64.bits)=wrap64 (a+a):=by
 have:(2:Int) ^ min (Int.toNat 1) IntKind.i64.bits=2:=rfl
 rw[this];exact congrArg wrap64 (by omega)
def X9(a:Int):a.fdiv (2 ^ min (Int.toNat 1) IntKind.i64.bits)=a/2:=by
 have:(2:Int) ^ min (Int.toNat 1) IntKind.i64.bits=2:=rfl
 rw[this,Int.fdiv_eq_ediv_of_nonneg _ (by omega)]
def RY(x m:BitVec 64):(x &&& m)+(x &&& ~~~ m)=x:=by
 have h1:(x &&& m) &&& (x &&& ~~~ m)=0#64:=by
  ext i hi
  simp only[BitVec.getElem_and,BitVec.getElem_not,BitVec.getElem_zero]
  cases x[i]<;>cases m[i]<;>rfl
 rw[BitVec.add_eq_or_of_and_eq_zero _ _ h1]
 ext i hi
 simp only[BitVec.getElem_or,BitVec.getElem_and,BitVec.getElem_not]
 cases x[i]<;>cases m[i]<;>rfl
def ak6(x:BitVec 64):(x &&& ~~~ 7#64).toNat=x.toNat-x.toNat%8:=by
 have h2:=RY x 7#64
 have h4:=congrArg BitVec.toNat h2
 rw[BitVec.toNat_add]at h4
 have h5:(x &&& 7#64).toNat=x.toNat%8:=by rw[BitVec.toNat_and];exact Nat.and_two_pow_sub_one_eq_mod x.toNat 3
 have h6:(x &&& ~~~ 7#64).toNat<=x.toNat:=by rw[BitVec.toNat_and];exact Nat.and_le_left
 have h7:(2 ^ 64:Nat)=18446744073709551616:=by decide
 have h8:=x.isLt
 rw[h5]at h4
 rw[h7]at h4 h8
 omega
def Xz{a:Int}(ha : -9223372036854775808<=a/\a<=9223372036854775807):wrap64 ((BitVec.ofInt 64 (IntKind.i64.wrap (IntKind.i64.wrap (a+8)-1)) &&& ~~~ BitVec.ofInt 64 7).toNat:Int)=if a%8=0 then a else wrap64 (a-a%8+8):=by
 have h1:BitVec.ofInt 64 7=7#64:=by decide
 rw[h1,ak6,BitVec.toNat_ofInt]
 have h2:((2 ^ 64:Nat):Int)=18446744073709551616:=by decide
 rw[h2,bU,bU]
 unfold wrap64
 split<;>omega
def oD{x y:Int}(h:x=y):iA (.val (.int .i64 x)) (.val (.bool true))=kf (y,true):=by rw[h];rfl
def lg(b:Bool):ab prog 358 [boo b] (i64 (fH b)):=by
 refine zY func358 fun B=>?_
 refine zu1 ?_
 refine Ws<|zu1 ?_
 refine Wi rfl (fun hi1=>?_) (fun hi1=>?_)
 ·refine zu1 ?_
  refine zR ?_
  simp_all[fH,i64]
 refine Wj<|zu1 ?_
 refine zR ?_
 simp_all[fH,i64]
def rx(b:Bool):ab prog 360 [boo b] (kf (fH b,true)):=by
 refine zY func360 fun B=>?_
 refine zu2 ?_
 refine zp1 ?_
 refine zc rfl func358 ((lg b) _) ?_
 refine zs2 ?_
 refine zR ?_
 rfl
def UR(name:Str)(a:Int):Int×Bool:=if name=[48,61]then(one .eq0 a,true)else if name=[48,60]then(one .lt0 a,true)else if name=[48,60,62]then(one .ne0 a,true)else if name=[48,62]then(one .gt0 a,true)else(0,false)
def Ql{s:Str}{a:Int}(h0:s≠[65,66,83])(h1:s≠[78,69,71,65,84,69])(h2:s≠[73,78,86,69,82,84])(h3:s≠[49,43])(h4:s≠[49,45])(h5:s≠[50,42])(h6:s≠[50,47])(h7:s≠[67,69,76,76,83])(h8:s≠[65,76,73,71,78,69,68])(h9:s≠[67,69,76,76,43]):UR s a=wI s a:=by
 unfold UR
 by_cases h10:s=[48,61]
 ·subst h10;rfl
 rw[if_neg h10]
 by_cases h11:s=[48,60]
 ·subst h11;rfl
 rw[if_neg h11]
 by_cases h12:s=[48,60,62]
 ·subst h12;rfl
 rw[if_neg h12]
 by_cases h13:s=[48,62]
 ·subst h13;rfl
 rw[if_neg h13]
 exact(Xv (Tg h0 h1 h2 h3 h4 h5 h6 h7 h8 h9 h10 h11 h12 h13)).symm
def OC(name:Str)(a:Int):ab prog 275 [str name,i64 a] (kf (UR name a)):=by
 refine zY func275 fun B=>?_
 refine zu2 ?_
 refine zu1 ?_
 refine Ws<|zu1 ?_
 refine Wl<|zp1 ?_
 refine zq 9 ?_
 refine zs1 ?_
 refine Wi rfl (fun hi1=>?_) (fun hi1=>?_)
 ·obtain rfl:=oT hi1
  refine zp3 ?_
  refine Wc rfl rfl (ei rfl rfl func360 rfl rfl (rx _ _)) ?_
  refine zs4 ?_
  refine zR ?_
  exact congrArg kf (Prod.ext (congrArg fH (by rfl)) rfl)
 refine zp1 ?_
 refine zq 17 ?_
 refine zs1 ?_
 refine Wi rfl (fun hi2=>?_) (fun hi2=>?_)
 ·obtain rfl:=oT hi2
  refine zp3 ?_
  refine Wc rfl rfl (ei rfl rfl func360 rfl rfl (rx _ _)) ?_
  refine zs4 ?_
  refine zR ?_
  exact congrArg kf (Prod.ext (congrArg fH (by rfl)) rfl)
 refine zp1 ?_
 refine zq 25 ?_
 refine zs1 ?_
 refine Wi rfl (fun hi3=>?_) (fun hi3=>?_)
 ·obtain rfl:=oT hi3
  refine zp3 ?_
  refine Wc rfl rfl (ei rfl rfl func360 rfl rfl (rx _ _)) ?_
  refine zs4 ?_
  refine zR ?_
  exact congrArg kf (Prod.ext (congrArg fH (by rfl)) rfl)
 refine zp1 ?_
 refine zq 33 ?_
 refine zs1 ?_
 refine Wi rfl (fun hi4=>?_) (fun hi4=>?_)
 ·obtain rfl:=oT hi4
  refine zp3 ?_
  refine Wc rfl rfl (ei rfl rfl func360 rfl rfl (rx _ _)) ?_
  refine zs4 ?_
  refine zR ?_
  exact congrArg kf (Prod.ext (congrArg fH (by rfl)) rfl)
 refine Wj<|zu2 ?_
 refine zR ?_
 have h1:=oF hi1
 have h2:=oF hi2
 have h3:=oF hi3
 have h4:=oF hi4
 rw[UR,if_neg h1,if_neg h2,if_neg h3,if_neg h4];rfl
def Ln(name:Str)(a:Int)(ha : -9223372036854775808<=a/\a<=9223372036854775807):ab prog 244 [str name,i64 a] (kf (wI name a)):=by
 refine zY func244 fun B=>?_
 refine zu2 ?_
 refine Ws<|zu1 ?_
 refine Wl<|Ws<|Wl<|Ws<|Wl<|Ws<|Wl<|Ws<|Wl<|Ws<|Wl<|Ws<|Wl<|Ws<|Wl<|Ws<|Wl<|Ws<|Wl<|Ws<|Wl ?_
 iterate 2 refine Ws ?_
 refine zp1 ?_
 refine zq 8 ?_
 refine zs1 ?_
 refine Wi rfl (fun hi1=>?_) (fun hi1=>?_)
 ·obtain rfl:=oT hi1
  refine bi ?_
  refine zu2 ?_
  refine Wi rfl (fun hi2=>?_) (fun hi2=>?_)
  ·refine zu3 ?_
   refine zR ?_
   refine(oD (y:=one .abs a) ?_).trans (congrArg kf (ld (o:=.abs) rfl).symm)
   simp only[one];(((try simp only[dnL]at *);rw[if_pos (by omega)]))
  refine Wj<|Ws<|zu4 ?_
  refine zR ?_
  refine(oD (y:=one .abs a) ?_).trans (congrArg kf (ld (o:=.abs) rfl).symm)
  simp only[one];(((try simp only[dnL]at *);rw[if_neg (by omega),bU];exact TY a))
 refine Wj<|Ws<|zp1 ?_
 refine zq 10 ?_
 refine zs1 ?_
 refine Wi rfl (fun hi3=>?_) (fun hi3=>?_)
 ·obtain rfl:=oT hi3
  refine bi ?_
  refine Ws<|zu4 ?_
  refine zR ?_
  refine(oD (y:=one .neg a) ?_).trans (congrArg kf (ld (o:=.neg) rfl).symm)
  simp only[one];((rw[bU];exact TY a))
 refine Wj<|Ws<|zp1 ?_
 refine zq 12 ?_
 refine zs1 ?_
 refine Wi rfl (fun hi4=>?_) (fun hi4=>?_)
 ·obtain rfl:=oT hi4
  refine bi ?_
  refine Ws<|zu4 ?_
  refine zR ?_
  refine(oD (y:=one .inv a) ?_).trans (congrArg kf (ld (o:=.inv) rfl).symm)
  simp only[one];((rw[bU];exact af4 ha))
 refine Wj<|Ws<|zp1 ?_
 refine zq 14 ?_
 refine zs1 ?_
 refine Wi rfl (fun hi5=>?_) (fun hi5=>?_)
 ·obtain rfl:=oT hi5
  refine bi ?_
  refine Ws<|zu4 ?_
  refine zR ?_
  refine(oD (y:=one .inc a) ?_).trans (congrArg kf (ld (o:=.inc) rfl).symm)
  simp only[one];((rw[bU];done))
 refine Wj<|Ws<|zp1 ?_
 refine zq 16 ?_
 refine zs1 ?_
 refine Wi rfl (fun hi6=>?_) (fun hi6=>?_)
 ·obtain rfl:=oT hi6
  refine bi ?_
  refine Ws<|zu4 ?_
  refine zR ?_
  refine(oD (y:=one .dec a) ?_).trans (congrArg kf (ld (o:=.dec) rfl).symm)
  simp only[one];((rw[bU];done))
 refine Wj<|Ws<|zp1 ?_
 refine zq 18 ?_
 refine zs1 ?_
 refine Wi rfl (fun hi7=>?_) (fun hi7=>?_)
 ·obtain rfl:=oT hi7
  refine bi ?_
  refine Ws<|zu4 ?_
  refine zR ?_
  refine(oD (y:=one .dbl a) ?_).trans (congrArg kf (ld (o:=.dbl) rfl).symm)
  simp only[one];((rw[bU];exact Zn a))
 refine Wj<|Ws<|zp1 ?_
 refine zq 20 ?_
 refine zs1 ?_
 refine Wi rfl (fun hi8=>?_) (fun hi8=>?_)
 ·obtain rfl:=oT hi8
  refine bi ?_
  refine Ws<|zu4 ?_
  refine zR ?_
  refine(oD (y:=one .half a) ?_).trans (congrArg kf (ld (o:=.half) rfl).symm)
  simp only[one];exact X9 a
 refine Wj<|Ws<|zp1 ?_
 refine zq 22 ?_
 refine zs1 ?_
 refine Wi rfl (fun hi9=>?_) (fun hi9=>?_)
 ·obtain rfl:=oT hi9
  refine bi ?_
  refine Ws<|zu4 ?_
  refine zR ?_
  refine(oD (y:=one .cells a) ?_).trans (congrArg kf (ld (o:=.cells) rfl).symm)
  simp only[one];((rw[bU];done))
 refine Wj<|Ws<|zp1 ?_
 refine zq 24 ?_
 refine zs1 ?_
 refine Wi rfl (fun hi10=>?_) (fun hi10=>?_)
 ·obtain rfl:=oT hi10
  refine bi ?_
  refine Ws<|zp5 ?_
  refine zs1 ?_
  refine zR ?_
  refine(oD (y:=one .algn a) ?_).trans (congrArg kf (ld (o:=.algn) rfl).symm)
  simp only[one];((rw[bU];exact Xz ha))
 refine Wj<|zp1 ?_
 refine zq 26 ?_
 refine zs1 ?_
 refine Wi rfl (fun hi11=>?_) (fun hi11=>?_)
 ·obtain rfl:=oT hi11
  refine bi ?_
  refine Ws<|zu4 ?_
  refine zR ?_
  refine(oD (y:=one .cellp a) ?_).trans (congrArg kf (ld (o:=.cellp) rfl).symm)
  simp only[one];((rw[bU];done))
 refine Wj<|bi ?_
 refine zp2 ?_
 refine zc rfl func275 ((OC name a) _) ?_
 refine zs4 ?_
 refine zR ?_
 rw[Ql (oF hi1) (oF hi3) (oF hi4) (oF hi5) (oF hi6) (oF hi7) (oF hi8) (oF hi9) (oF hi10) (oF hi11)];rfl
end Go.Proofs.YtjcminooghmpeaaGreatDoor
