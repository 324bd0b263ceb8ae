import Derived.Test.YtjcminooghmpeaaGreatDoorPk10
set_option linter.all false
set_option maxRecDepth 100000
set_option maxHeartbeats 40000000
open Go.Proofs.Tryz
namespace Go.Proofs.YtjcminooghmpeaaGreatDoor
open Go.RowKit
def an6{f:Int}(h0:0<=f)(h7:f<=7):(IntKind.i64.wrap ↑(BitVec.ofInt IntKind.i64.bits f &&& BitVec.ofInt IntKind.i64.bits 4).toNat != 0)=decide (f/4%2=1):=by
 rcases qn h0 h7 with rfl|rfl|rfl|rfl|rfl|rfl|rfl|rfl<;>decide
def av1{f:Int}(h0:0<=f)(h7:f<=7):(IntKind.i64.wrap ↑(BitVec.ofInt IntKind.i64.bits f &&& BitVec.ofInt IntKind.i64.bits 1).toNat==0)=decide (f%2=0):=by
 rcases qn h0 h7 with rfl|rfl|rfl|rfl|rfl|rfl|rfl|rfl<;>decide
def l8(w:aL)(k:Int):Bool:=decide (w.flags/4%2=1)||uC k
def i8(l:ag)(w:aL):ag×Bool :=
 if (az l.f.vm w.xt).2≠0 then(oOk l (az l.f.vm w.xt).2,false)
 else if (l8 w (az l.f.vm w.xt).1&&!bJ l.f)=true then(oOk l (-14),false)
 else if (bJ l.f&&decide (w.flags%2=0))=true then(ri l w.xt,false)
 else if 300<=(az l.f.vm w.xt).1 then(rc l (bG.getD ((az l.f.vm w.xt).1-300).toNat []),false)
 else(lN l w.xt,true)
structure aC3 (N:Nat) (l:ag) (w:aL):Prop where
 lk:LK 300 l
 g:bb N l.f.vm
 n:N<=190000
 xt:ab w.xt
 f0:0<=w.flags
 f7:w.flags<=7
 u0:0<=l.fuel
 u1:l.fuel<=90000
 e:l.err=0
def An{l:ag}(h:l.err=0):oOk l 0=l:=by
 rw[ok0 h];cases l;simp only at h;rw[h]
def TP(a:Addr)(l:ag)(w:aL)(N:Nat)(h:aC3 N l w):∀(H:List Ob) (i:Nat),H[i]?=some (.cells (aR l) 89)->(∀o∈fS a,∃k:Nat,H[k]?=some o)->HC prog 38 (.ptr i 0::[xu w]) H (boo (i8 l w).2) (H.set i (.cells (aR (i8 l w).1) 89)):=by
 have hm:l.f.vm.mem.b.length<=140737488355328:=by have:=h.lk.f.b;omega
 have pK:=qh l.f.vm w.xt hm h.xt
 have hkO:=@EY l.f.vm w.xt
 have l4:=an6 h.f0 h.f7
 have l1:=av1 h.f0 h.f7
 have hL:=ij
 unfold i8
 obtain⟨k,hk⟩:∃k,az l.f.vm w.xt=k:=⟨_,rfl⟩
 rw[hk]at pK hkO ⊢
 by_cases z:k.2=0
 ·have e0:∀{α:Type} (x y:α),(if k.2≠0 then x else y)=y:=fun x y=>if_neg (fun q=>q z)
  have pO:=oy l k.2
  rw[z,An h.e]at pO
  have hb:=hkO z
  unfold eU at hb
  have w1:300<=k.1->IntKind.i64.wrap (k.1-300)=k.1-300:=fun q=>gq (by omega) (by omega)
  refine ls (ey a) tG (rs:=[.tmp 4]) func38 rfl rfl rfl (by simp) (by simp) (by simp) (by simp) (fun B=>?_)
  refine zu2 ?_
  refine Ws<|am [0,0,0,0,1,0,1,0,0,0,0,0,0] [0,1,2,3,4,5,6,7,8,9,10,11,12] mG rfl (by kernel_rfl) ?_
  iterate 4 refine z3 ?_
  refine z5 ?_
  refine z3 ?_
  refine z5 ?_
  refine Xc rfl rfl rfl rfl (fun _=>dC rfl func67 rfl rfl ((pK) _)) ?_
  iterate 3 refine z3 ?_
  refine Xa 18 rfl (zI9 z) ?_
  iterate 2 refine z3 ?_
  refine ap ?_
  refine Ws<|zp2 ?_
  refine zc rfl func41 ((pO) _ _ rfl) ?_
  refine zs1 ?_
  refine Wf rfl (by rw[h.e];rfl) ?_
  refine Wj<|zp4 ?_
  refine zc rfl func23 ((jM l.f hm) _) ?_
  refine zs1 ?_
  refine Ws<|Wl<|zp5 ?_
  refine Wb 37 rfl (fun hg1=>?_) (fun hg1=>?_)
  ·have o:l8 w k.1=true:=by unfold l8;rw[l4]at hg1;rw[hg1];rfl
   iterate 2 refine z6 ?_
   refine zy5 ?_
   refine zs1 ?_
   refine Wi rfl (fun hi2=>?_) (fun hi2=>?_)
   ·have c:bJ l.f=false:=by simpa using hi2
    have n1:(l8 w k.1&&!bJ l.f)=true:=by rw[o,c];rfl
    refine aa rfl ?_
    refine z1 ?_
    refine zc rfl func41 ((oy l (-14)) _ _ rfl) ?_
    refine Wn<|zu1 ?_
    refine Wq<|aP rfl rfl ?_ ?_
    ·(rw[e0,if_pos n1];rfl)
    (rw[e0,if_pos n1];rfl)
   have c:bJ l.f=true:=by simpa using hi2
   have n1:¬(l8 w k.1&&!bJ l.f)=true:=by rw[o,c];decide
   refine zp2 ?_
   refine Wb 49 rfl (fun hg2=>?_) (fun hg2=>?_)
   ·have c2:bJ l.f=true:=hg2
    refine zy5 ?_
    refine zs1 ?_
    refine Wi rfl (fun hi3=>?_) (fun hi3=>?_)
    ·have b1:decide (w.flags%2=0)=true:=by rw[l1]at hi3;exact hi3
     have n2:(bJ l.f&&decide (w.flags%2=0))=true:=by rw[c2,b1];rfl
     refine aa rfl ?_
     refine zy3 ?_
     refine zc rfl func69 ((rZ l w.xt h.lk.f.mem h.lk.f.here) _ _ rfl) ?_
     refine Wn<|zu1 ?_
     refine Wq<|aP rfl rfl ?_ ?_
     ·(rw[e0,if_neg n1,if_pos n2];rfl)
     (rw[e0,if_neg n1,if_pos n2];rfl)
    have b1:decide (w.flags%2=0)=false:=by rw[l1]at hi3;exact hi3
    have n2:¬(bJ l.f&&decide (w.flags%2=0))=true:=by rw[b1];simp
    refine zu3 ?_
    refine Wi rfl (fun hi4=>?_) (fun hi4=>?_)
    ·have q:300<=k.1:=oT hi4
     refine aa rfl ?_
     refine z1 ?_
     refine zc rfl func71 ((eG) _) ?_
     refine zy2 ?_
     refine Wa 65 rfl (zI9 (w1 q)) ?_
     refine Wv tG rfl rfl rfl (by omega) (iR fa 1 (fun _=>rfl) [] (by omega)) ?_
     refine z1 ?_
     refine zc rfl func70 ((lw l (bG.getD (k.1-300).toNat []) h.lk) _ _ rfl) ?_
     refine Wn<|zu1 ?_
     refine Wq<|aP rfl rfl ?_ ?_
     ·(rw[e0,if_neg n1,if_neg n2,if_pos q];rfl)
     (rw[e0,if_neg n1,if_neg n2,if_pos q];rfl)
    have q:¬300<=k.1:=oF hi4
    refine zp3 ?_
    refine zc rfl func45 (p8 a l w.xt N h.g h.xt h.u0 h.u1 h.n h.lk.s _ 0 rfl (bO 1 2 rfl rfl)) ?_
    refine Wn<|zu1 ?_
    refine Wq<|aP rfl rfl ?_ ?_
    ·(rw[e0,if_neg n1,if_neg n2,if_neg q];rfl)
    (rw[e0,if_neg n1,if_neg n2,if_neg q];rfl)
   have c2:bJ l.f=false:=hg2
   have n2:¬(bJ l.f&&decide (w.flags%2=0))=true:=by rw[c2];simp
   iterate 4 refine z6 ?_
   refine zs2 ?_
   refine Wf rfl rfl ?_
   refine zu3 ?_
   refine Wi rfl (fun hi4=>?_) (fun hi4=>?_)
   ·have q:300<=k.1:=oT hi4
    refine aa rfl ?_
    refine z1 ?_
    refine zc rfl func71 ((eG) _) ?_
    refine zy2 ?_
    refine Wa 65 rfl (zI9 (w1 q)) ?_
    refine Wv tG rfl rfl rfl (by omega) (iN fa 1 (fun _=>rfl) [] (by(simp_all;done))) ?_
    refine z1 ?_
    refine zc rfl func70 ((lw l (bG.getD (k.1-300).toNat []) h.lk) _ _ rfl) ?_
    refine Wn<|zu1 ?_
    refine Wq<|aP rfl rfl ?_ ?_
    ·(rw[e0,if_neg n1,if_neg n2,if_pos q];rfl)
    (rw[e0,if_neg n1,if_neg n2,if_pos q];rfl)
   have q:¬300<=k.1:=oF hi4
   refine zp3 ?_
   refine zc rfl func45 (p8 a l w.xt N h.g h.xt h.u0 h.u1 h.n h.lk.s _ 0 rfl (bO 1 2 rfl rfl)) ?_
   refine Wn<|zu1 ?_
   refine Wq<|aP rfl rfl ?_ ?_
   ·(rw[e0,if_neg n1,if_neg n2,if_neg q];rfl)
   (rw[e0,if_neg n1,if_neg n2,if_neg q];rfl)
  have o1:decide (w.flags/4%2=1)=false:=by rw[l4]at hg1;exact hg1
  refine z1 ?_
  refine zc rfl func68 ((EW k.1 (by omega) (by unfold ab;omega)) _) ?_
  refine zy2 ?_
  refine Wb 41 rfl (fun hg3=>?_) (fun hg3=>?_)
  ·have o:l8 w k.1=true:=by unfold l8;rw[o1,hg3];rfl
   refine zs4 ?_
   refine Wi rfl (fun hi2=>?_) (fun hi2=>?_)
   ·have c:bJ l.f=false:=by simpa using hi2
    have n1:(l8 w k.1&&!bJ l.f)=true:=by rw[o,c];rfl
    refine aa rfl ?_
    refine z1 ?_
    refine zc rfl func41 ((oy l (-14)) _ _ rfl) ?_
    refine Wn<|zu1 ?_
    refine Wq<|aP rfl rfl ?_ ?_
    ·(rw[e0,if_pos n1];rfl)
    (rw[e0,if_pos n1];rfl)
   have c:bJ l.f=true:=by simpa using hi2
   have n1:¬(l8 w k.1&&!bJ l.f)=true:=by rw[o,c];decide
   refine zp2 ?_
   refine Wb 49 rfl (fun hg2=>?_) (fun hg2=>?_)
   ·have c2:bJ l.f=true:=hg2
    refine zy5 ?_
    refine zs1 ?_
    refine Wi rfl (fun hi3=>?_) (fun hi3=>?_)
    ·have b1:decide (w.flags%2=0)=true:=by rw[l1]at hi3;exact hi3
     have n2:(bJ l.f&&decide (w.flags%2=0))=true:=by rw[c2,b1];rfl
     refine aa rfl ?_
     refine zy3 ?_
     refine zc rfl func69 ((rZ l w.xt h.lk.f.mem h.lk.f.here) _ _ rfl) ?_
     refine Wn<|zu1 ?_
     refine Wq<|aP rfl rfl ?_ ?_
     ·(rw[e0,if_neg n1,if_pos n2];rfl)
     (rw[e0,if_neg n1,if_pos n2];rfl)
    have b1:decide (w.flags%2=0)=false:=by rw[l1]at hi3;exact hi3
    have n2:¬(bJ l.f&&decide (w.flags%2=0))=true:=by rw[b1];simp
    refine zu3 ?_
    refine Wi rfl (fun hi4=>?_) (fun hi4=>?_)
    ·have q:300<=k.1:=oT hi4
     refine aa rfl ?_
     refine z1 ?_
     refine zc rfl func71 ((eG) _) ?_
     refine zy2 ?_
     refine Wa 65 rfl (zI9 (w1 q)) ?_
     refine Wv tG rfl rfl rfl (by omega) (iR fa 1 (fun _=>rfl) [] (by omega)) ?_
     refine z1 ?_
     refine zc rfl func70 ((lw l (bG.getD (k.1-300).toNat []) h.lk) _ _ rfl) ?_
     refine Wn<|zu1 ?_
     refine Wq<|aP rfl rfl ?_ ?_
     ·(rw[e0,if_neg n1,if_neg n2,if_pos q];rfl)
     (rw[e0,if_neg n1,if_neg n2,if_pos q];rfl)
    have q:¬300<=k.1:=oF hi4
    refine zp3 ?_
    refine zc rfl func45 (p8 a l w.xt N h.g h.xt h.u0 h.u1 h.n h.lk.s _ 0 rfl (bO 1 2 rfl rfl)) ?_
    refine Wn<|zu1 ?_
    refine Wq<|aP rfl rfl ?_ ?_
    ·(rw[e0,if_neg n1,if_neg n2,if_neg q];rfl)
    (rw[e0,if_neg n1,if_neg n2,if_neg q];rfl)
   have c2:bJ l.f=false:=hg2
   have n2:¬(bJ l.f&&decide (w.flags%2=0))=true:=by rw[c2];simp
   iterate 4 refine z6 ?_
   refine zs2 ?_
   refine Wf rfl rfl ?_
   refine zu3 ?_
   refine Wi rfl (fun hi4=>?_) (fun hi4=>?_)
   ·have q:300<=k.1:=oT hi4
    refine aa rfl ?_
    refine z1 ?_
    refine zc rfl func71 ((eG) _) ?_
    refine zy2 ?_
    refine Wa 65 rfl (zI9 (w1 q)) ?_
    refine Wv tG rfl rfl rfl (by omega) (iN fa 1 (fun _=>rfl) [] (by(simp_all;done))) ?_
    refine z1 ?_
    refine zc rfl func70 ((lw l (bG.getD (k.1-300).toNat []) h.lk) _ _ rfl) ?_
    refine Wn<|zu1 ?_
    refine Wq<|aP rfl rfl ?_ ?_
    ·(rw[e0,if_neg n1,if_neg n2,if_pos q];rfl)
    (rw[e0,if_neg n1,if_neg n2,if_pos q];rfl)
   have q:¬300<=k.1:=oF hi4
   refine zp3 ?_
   refine zc rfl func45 (p8 a l w.xt N h.g h.xt h.u0 h.u1 h.n h.lk.s _ 0 rfl (bO 1 2 rfl rfl)) ?_
   refine Wn<|zu1 ?_
   refine Wq<|aP rfl rfl ?_ ?_
   ·(rw[e0,if_neg n1,if_neg n2,if_neg q];rfl)
   (rw[e0,if_neg n1,if_neg n2,if_neg q];rfl)
  have o:l8 w k.1=false:=by unfold l8;rw[o1,hg3];rfl
  have n1:¬(l8 w k.1&&!bJ l.f)=true:=by rw[o];simp
  iterate 2 refine z6 ?_
  refine zs2 ?_
  refine Wf rfl rfl ?_
  refine zp2 ?_
  refine Wb 49 rfl (fun hg2=>?_) (fun hg2=>?_)
  ·have c2:bJ l.f=true:=hg2
   refine zy5 ?_
   refine zs1 ?_
   refine Wi rfl (fun hi3=>?_) (fun hi3=>?_)
   ·have b1:decide (w.flags%2=0)=true:=by rw[l1]at hi3;exact hi3
    have n2:(bJ l.f&&decide (w.flags%2=0))=true:=by rw[c2,b1];rfl
    refine aa rfl ?_
    refine zy3 ?_
    refine zc rfl func69 ((rZ l w.xt h.lk.f.mem h.lk.f.here) _ _ rfl) ?_
    refine Wn<|zu1 ?_
    refine Wq<|aP rfl rfl ?_ ?_
    ·(rw[e0,if_neg n1,if_pos n2];rfl)
    (rw[e0,if_neg n1,if_pos n2];rfl)
   have b1:decide (w.flags%2=0)=false:=by rw[l1]at hi3;exact hi3
   have n2:¬(bJ l.f&&decide (w.flags%2=0))=true:=by rw[b1];simp
   refine zu3 ?_
   refine Wi rfl (fun hi4=>?_) (fun hi4=>?_)
   ·have q:300<=k.1:=oT hi4
    refine aa rfl ?_
    refine z1 ?_
    refine zc rfl func71 ((eG) _) ?_
    refine zy2 ?_
    refine Wa 65 rfl (zI9 (w1 q)) ?_
    refine Wv tG rfl rfl rfl (by omega) (iR fa 1 (fun _=>rfl) [] (by omega)) ?_
    refine z1 ?_
    refine zc rfl func70 ((lw l (bG.getD (k.1-300).toNat []) h.lk) _ _ rfl) ?_
    refine Wn<|zu1 ?_
    refine Wq<|aP rfl rfl ?_ ?_
    ·(rw[e0,if_neg n1,if_neg n2,if_pos q];rfl)
    (rw[e0,if_neg n1,if_neg n2,if_pos q];rfl)
   have q:¬300<=k.1:=oF hi4
   refine zp3 ?_
   refine zc rfl func45 (p8 a l w.xt N h.g h.xt h.u0 h.u1 h.n h.lk.s _ 0 rfl (bO 1 2 rfl rfl)) ?_
   refine Wn<|zu1 ?_
   refine Wq<|aP rfl rfl ?_ ?_
   ·(rw[e0,if_neg n1,if_neg n2,if_neg q];rfl)
   (rw[e0,if_neg n1,if_neg n2,if_neg q];rfl)
  have c2:bJ l.f=false:=hg2
  have n2:¬(bJ l.f&&decide (w.flags%2=0))=true:=by rw[c2];simp
  iterate 4 refine z6 ?_
  refine zs2 ?_
  refine Wf rfl rfl ?_
  refine zu3 ?_
  refine Wi rfl (fun hi4=>?_) (fun hi4=>?_)
  ·have q:300<=k.1:=oT hi4
   refine aa rfl ?_
   refine z1 ?_
   refine zc rfl func71 ((eG) _) ?_
   refine zy2 ?_
   refine Wa 65 rfl (zI9 (w1 q)) ?_
   refine Wv tG rfl rfl rfl (by omega) (iR fa 1 (fun _=>rfl) [] (by omega)) ?_
   refine z1 ?_
   refine zc rfl func70 ((lw l (bG.getD (k.1-300).toNat []) h.lk) _ _ rfl) ?_
   refine Wn<|zu1 ?_
   refine Wq<|aP rfl rfl ?_ ?_
   ·(rw[e0,if_neg n1,if_neg n2,if_pos q];rfl)
   (rw[e0,if_neg n1,if_neg n2,if_pos q];rfl)
  have q:¬300<=k.1:=oF hi4
  refine zp3 ?_
  refine zc rfl func45 (p8 a l w.xt N h.g h.xt h.u0 h.u1 h.n h.lk.s _ 0 rfl (bO 1 2 rfl rfl)) ?_
  refine Wn<|zu1 ?_
  refine Wq<|aP rfl rfl ?_ ?_
  ·(rw[e0,if_neg n1,if_neg n2,if_neg q];rfl)
  (rw[e0,if_neg n1,if_neg n2,if_neg q];rfl)
 have e0:∀{α:Type} (x y:α),(if k.2≠0 then x else y)=x:=fun x y=>if_pos z
 have er:(oOk l k.2).err=k.2:=by rw[ok0 h.e]
 have pO:=oy l k.2
 refine ls (ey a) tG (rs:=[.tmp 4]) func38 rfl rfl rfl (by simp) (by simp) (by simp) (by simp) (fun B=>?_)
 refine zu2 ?_
 refine Ws<|am [0,0,0,0,1,0,1,0,0,0,0,0,0] [0,1,2,3,4,5,6,7,8,9,10,11,12] mG rfl (by kernel_rfl) ?_
 iterate 4 refine z3 ?_
 refine z5 ?_
 refine z3 ?_
 refine z5 ?_
 refine Xc rfl rfl rfl rfl (fun _=>dC rfl func67 rfl rfl ((pK) _)) ?_
 iterate 5 refine z3 ?_
 refine ap ?_
 refine Ws<|zp2 ?_
 refine zc rfl func41 ((pO) _ _ rfl) ?_
 refine zs1 ?_
 refine Wt rfl (by rw[er,decide_eq_false z];rfl) ?_
 refine zu1 ?_
 refine Wq<|aP rfl rfl ?_ ?_
 ·rw[e0];rfl
 rw[e0];rfl
def Vn(w:Str)(b:Int)(h:w.length<=9223372036854775807):af prog 40 [str w,i64 b] (gY (i64 (dR w b).1) (boo (dR w b).2)) :=
 dM (args:=[.string ⟨w.toArray⟩,.int .i64 b]) (v:=.tuple #[.int .i64 (dR w b).1,.bool (dR w b).2]) (fun c=>by unfold gY Rep;exact⟨[_,_],rfl,ai.2 ⟨av _ _,ai.2 ⟨av _ _,aF.2 rfl⟩⟩⟩)
  fun W=>Calls.mono (MV ⟨w.toArray⟩ b W (by unfold ByteArray.size;simpa using h)) fun _ _ q=>⟨q.1,be.of_below q.2⟩
def aI(f:ae)(s:Str)(a fuel:Int):ag:=⟨f,s,a,fuel,0⟩
def Is(l:ag)(name:Str):ag :=
 if (dR name (an l.f.vm.mem 0).1).2=false then oOk l (-13)else if bJ l.f=true then th l (dR name (an l.f.vm.mem 0).1).1 else uW l (dR name (an l.f.vm.mem 0).1).1
def kU(l:ag)(name:Str):ag×Bool:=if (cd l.f.vm.dict name).2.2=true then i8 l (cd l.f.vm.dict name).1 else(Is l name,false)
def jv(f:ae)(s:Str)(a fuel:Int):ae×Int×Int×Bool×Int :=
 if (bu s a).1=[]then(f,(s.length:Int),max fuel 0,false,0)
 else if (kU (aI f s (bu s a).2 (max fuel 0)) (bu s a).1).1.err≠0/\(kU (aI f s (bu s a).2 (max fuel 0)) (bu s a).1).2=false then(f,a,max fuel 0,true,(kU (aI f s (bu s a).2 (max fuel 0)) (bu s a).1).1.err)
 else((kU (aI f s (bu s a).2 (max fuel 0)) (bu s a).1).1.f,(kU (aI f s (bu s a).2 (max fuel 0)) (bu s a).1).1.at_,(kU (aI f s (bu s a).2 (max fuel 0)) (bu s a).1).1.fuel,true,(kU (aI f s (bu s a).2 (max fuel 0)) (bu s a).1).1.err)
def Rm{f:ae}{s:Str}{a fuel:Int}(h:(bu s a).1=[]):jv f s a fuel=(f,(s.length:Int),max fuel 0,false,0):=by unfold jv;rw[if_pos h]
def AL{f:ae}{s:Str}{a fuel:Int}{r:ag×Bool}(h:¬(bu s a).1=[])(e:kU (aI f s (bu s a).2 (max fuel 0)) (bu s a).1=r)(q1:r.1.err≠0)(q2:r.2=false):jv f s a fuel=(f,a,max fuel 0,true,r.1.err):=by
 unfold jv;rw[if_neg h,e,if_pos ⟨q1,q2⟩]
def Qp{f:ae}{s:Str}{a fuel:Int}{r:ag×Bool}(h:¬(bu s a).1=[])(e:kU (aI f s (bu s a).2 (max fuel 0)) (bu s a).1=r)(q:¬(r.1.err≠0/\r.2=false)):jv f s a fuel=(r.1.f,r.1.at_,r.1.fuel,true,r.1.err):=by
 unfold jv;rw[if_neg h,e,if_neg q]
def pJ{p:Prop}[Decidable p](h:(!decide p)=true):¬p:=by simpa using h
def oD{p:Prop}[Decidable p](h:(!decide p)=false):p:=by simpa using h
structure TM (N:Nat) (f:ae) (s:Str) (a fuel:Int):Prop where
 lk:LK 300 (aI f s 0 0)
 g:bb N f.vm
 n:N<=190000
 u1:fuel<=90000
def TM.line{N:Nat}{f:ae}{s:Str}{a fuel:Int}(h:TM N f s a fuel)(b u:Int):LK 300 (aI f s b u):=⟨h.lk.f,h.lk.s,h.lk.d,h.lk.data,h.lk.out0,h.lk.out1,h.lk.out,h.lk.cfl,h.lk.cf,h.lk.dict,h.lk.xts⟩
def Lz(r:ae×Int×Int×Bool×Int):PV:=.tup [bE r.1,i64 r.2.1,i64 r.2.2.1,boo r.2.2.2.1,i64 r.2.2.2.2]
@[simp] theorem Zn (r : ae × Int × Int × Bool × Int) : aQ (Lz r) := by unfold Lz; simp [aQ, aG]
def AI(a:Addr)(f:ae)(s:Str)(p fuel:Int)(N:Nat)(h:TM N f s p fuel):∀(H:List Ob),(∀o∈fS a,∃k:Nat,H[k]?=some o)->HC prog 21 [bE f,str s,i64 p,i64 fuel] H (Lz (jv f s p fuel)) H:=by
 have hs:s.length<=1000000:=h.lk.s
 have pW:=Gh s p hs
 have wl:=G7 s p
 have b0:=@Rm f s p fuel
 have b1:=@AL f s p fuel
 have b2:=@Qp f s p fuel
 have hxt:ab (cd f.vm.dict (bu s p).1).1.xt:=Am h.lk.xts (bu s p).1
 have wm:(if fuel<0 then 0 else fuel)=max fuel 0:=by split<;>omega
 have hm:f.vm.mem.b.length<=140737488355328:=by have:f.vm.mem.b.length<=1000000:=h.lk.f.b;omega
 have hD:jT f.vm.dict:=h.lk.f.each
 obtain⟨w,hw⟩:∃w,bu s p=w:=⟨_,rfl⟩
 rw[hw]at pW wl b0 b1 b2 hxt
 have L:=h.line w.2 (max fuel 0)
 have u1:=h.u1
 have fl:=rp (fun x hx=>(hD.2 x hx).2) w.1 _ (Nat.le_refl _)
 have pD:=wj f.vm.dict w.1 hD (by omega)
 have eF:kU (aI f s w.2 (max fuel 0)) w.1=if (cd f.vm.dict w.1).2.2=true then i8 (aI f s w.2 (max fuel 0)) (cd f.vm.dict w.1).1 else(Is (aI f s w.2 (max fuel 0)) w.1,false):=rfl
 change 0<=(cd f.vm.dict w.1).1.flags/\(cd f.vm.dict w.1).1.flags<=7 at fl
 obtain⟨d,hd⟩:∃d,cd f.vm.dict w.1=d:=⟨_,rfl⟩
 rw[hd]at hxt fl pD eF
 have pP:=Vn w.1 (an f.vm.mem 0).1 (by omega)
 have eN:Is (aI f s w.2 (max fuel 0)) w.1=if (dR w.1 (an f.vm.mem 0).1).2=false then oOk (aI f s w.2 (max fuel 0)) (-13)else if bJ f=true then th (aI f s w.2 (max fuel 0)) (dR w.1 (an f.vm.mem 0).1).1 else uW (aI f s w.2 (max fuel 0)) (dR w.1 (an f.vm.mem 0).1).1:=rfl
 obtain⟨z,hz⟩:∃z,dR w.1 (an f.vm.mem 0).1=z:=⟨_,rfl⟩
 rw[hz]at pP eN
 refine fh (ey a) tG (rs:=[.cell 8 42,.tmp 9,.tmp 10,.tmp 11,.tmp 12]) func21 rfl rfl rfl (by simp) (by simp) (fun B=>?_)
 refine zp5 ?_
 refine zs1 ?_
 refine zp2 ?_
 refine zc rfl func36 ((pW) _) ?_
 refine zs5 ?_
 refine zp2 ?_
 refine Wa 31 rfl (zI9 wm) ?_
 refine zs1 ?_
 refine Ws<|zp2 ?_
 refine zq 33 ?_
 refine Wn<|Wi rfl (fun hi1=>?_) (fun hi1=>?_)
 ·have n0:w.1=[]:=oT hi1
  refine zp3 ?_
  refine Wa 36 rfl (eM _) ?_
  refine zy5 ?_
  refine zs1 ?_
  refine zR ?_
  (rw[b0 n0];rfl)
 have n0:¬w.1=[]:=oF hi1
 refine Wj<|zp5 ?_
 refine zs2 ?_
 refine zu1 ?_
 refine Ws<|zp4 ?_
 refine zc rfl func37 ((pD) _) ?_
 refine zy5 ?_
 refine zs3 ?_
 refine zu1 ?_
 refine Wi rfl (fun hi2=>?_) (fun hi2=>?_)
 ·have n1:d.2.2=true:=hi2
  rw[if_pos n1]at eF
  refine aa rfl ?_
  refine zy2 ?_
  refine zc rfl func38 (TP a (aI f s w.2 (max fuel 0)) d.1 N ⟨L,h.g,h.n,hxt,fl.1,fl.2,by show 0<=max fuel 0;omega,by show max fuel 0<=90000;omega,rfl⟩ _ 4 rfl (bO 0 1 rfl rfl)) ?_
  refine zs1 ?_
  refine Ws<|zp4 ?_
  refine Wd rfl rfl (i3 rfl (by kernel_rfl) rfl (by exact dH _)) ?_
  refine z1 ?_
  refine Wb 89 rfl (fun hg1=>?_) (fun hg1=>?_)
  ·have q1:=pJ hg1
   refine zs3 ?_
   refine Wi rfl (fun hi3=>?_) (fun hi3=>?_)
   ·have q2:(i8 (aI f s w.2 (max fuel 0)) d.1).2=false:=by simpa using hi3
    refine Ws<|am [8,0,0,0,0,0,12,2,11,0,0,0,0] [0,1,2,3,4,5,6,7,8,9,10,11,12] mG rfl (by kernel_rfl) ?_
    refine zU 2 ?_
    iterate 5 refine z3 ?_
    refine zU 4 ?_
    refine iA rfl rfl rfl rfl (dC rfl func44 rfl rfl (fH a _ _ (bO 0 1 rfl rfl))) ?_
    refine dK 3 tG rfl rfl rfl rfl rfl trivial rfl ?_
    iterate 4 refine z3 ?_
    refine ap ?_
    refine zR ?_
    (rw[b1 n0 eF q1 q2];rfl)
   have q2:(i8 (aI f s w.2 (max fuel 0)) d.1).2=true:=by simpa using hi3
   refine Wj<|Ws<|am [0,0,0,12,0,0,0,12,0,0,0,12,0,0,0,12,2,11,0,0,0,0] [0,1,2,3,4,5,6,7,8,9,10,11,12,13,14,15,16,17,18,19,20,21] mG rfl (by kernel_rfl) ?_
   iterate 3 refine z3 ?_
   refine zU 4 ?_
   iterate 3 refine z3 ?_
   refine zU 4 ?_
   iterate 3 refine z3 ?_
   refine zU 4 ?_
   iterate 3 refine z3 ?_
   refine zU 4 ?_
   refine iA rfl rfl rfl rfl (dC rfl func44 rfl rfl (fH a _ _ (bO 0 1 rfl rfl))) ?_
   refine dK 3 tG rfl rfl rfl rfl rfl trivial rfl ?_
   iterate 4 refine z3 ?_
   refine ap ?_
   refine zR ?_
   (rw[b2 n0 eF (fun y=>by rw[q2]at y;cases y.2)];rfl)
  have q1:=oD hg1
  iterate 2 refine z6 ?_
  refine zs1 ?_
  refine Wf rfl rfl ?_
  refine Wj<|Ws<|am [0,0,0,12,0,0,0,12,0,0,0,12,0,0,0,12,2,11,0,0,0,0] [0,1,2,3,4,5,6,7,8,9,10,11,12,13,14,15,16,17,18,19,20,21] mG rfl (by kernel_rfl) ?_
  iterate 3 refine z3 ?_
  refine zU 4 ?_
  iterate 3 refine z3 ?_
  refine zU 4 ?_
  iterate 3 refine z3 ?_
  refine zU 4 ?_
  iterate 3 refine z3 ?_
  refine zU 4 ?_
  refine iA rfl rfl rfl rfl (dC rfl func44 rfl rfl (fH a _ _ (bO 0 1 rfl rfl))) ?_
  refine dK 3 tG rfl rfl rfl rfl rfl trivial rfl ?_
  iterate 4 refine z3 ?_
  refine ap ?_
  refine zR ?_
  (rw[b2 n0 eF (fun y=>y.1 q1)];rfl)
 have n1:¬d.2.2=true:=by rw[hi2];decide
 rw[if_neg n1]at eF
 refine zp3 ?_
 refine zc rfl func39 ((fX f.vm.mem 0 hm bt) _) ?_
 refine zs5 ?_
 refine zp2 ?_
 refine zc rfl func40 ((pP) _) ?_
 refine zs5 ?_
 refine Wl<|zu3 ?_
 refine Wi rfl (fun hi4=>?_) (fun hi4=>?_)
 ·have n2:z.2=false:=by simpa using hi4
  rw[eN,if_pos n2]at eF
  refine aa rfl ?_
  refine z1 ?_
  refine zc rfl func41 ((oy (aI f s w.2 (max fuel 0)) (-13)) _ _ rfl) ?_
  refine Wn<|Ws<|zp4 ?_
  refine Wd rfl rfl (i3 rfl (by kernel_rfl) rfl (by exact dH _)) ?_
  refine z1 ?_
  refine Wb 89 rfl (fun hg1=>?_) (fun hg1=>?_)
  ·have q1:=pJ hg1
   refine zs3 ?_
   refine Wt rfl rfl ?_
   refine Ws<|am [8,0,0,0,0,0,12,2,11,0,0,0,0] [0,1,2,3,4,5,6,7,8,9,10,11,12] mG rfl (by kernel_rfl) ?_
   refine zU 2 ?_
   iterate 5 refine z3 ?_
   refine zU 4 ?_
   refine iA rfl rfl rfl rfl (dC rfl func44 rfl rfl (fH a _ _ (bO 0 1 rfl rfl))) ?_
   refine dK 3 tG rfl rfl rfl rfl rfl trivial rfl ?_
   iterate 4 refine z3 ?_
   refine ap ?_
   refine zR ?_
   (rw[b1 n0 eF q1 rfl];rfl)
  have q1:=oD hg1
  iterate 2 refine z6 ?_
  refine zs1 ?_
  refine Wf rfl rfl ?_
  refine Wj<|Ws<|am [0,0,0,12,0,0,0,12,0,0,0,12,0,0,0,12,2,11,0,0,0,0] [0,1,2,3,4,5,6,7,8,9,10,11,12,13,14,15,16,17,18,19,20,21] mG rfl (by kernel_rfl) ?_
  iterate 3 refine z3 ?_
  refine zU 4 ?_
  iterate 3 refine z3 ?_
  refine zU 4 ?_
  iterate 3 refine z3 ?_
  refine zU 4 ?_
  iterate 3 refine z3 ?_
  refine zU 4 ?_
  refine iA rfl rfl rfl rfl (dC rfl func44 rfl rfl (fH a _ _ (bO 0 1 rfl rfl))) ?_
  refine dK 3 tG rfl rfl rfl rfl rfl trivial rfl ?_
  iterate 4 refine z3 ?_
  refine ap ?_
  refine zR ?_
  (rw[b2 n0 eF (fun y=>y.1 q1)];rfl)
 have n2:¬z.2=false:=by simpa using hi4
 rw[eN,if_neg n2]at eF
 refine zp1 ?_
 refine zc rfl func23 ((jM f hm) _) ?_
 refine zs1 ?_
 refine Wi rfl (fun hi5=>?_) (fun hi5=>?_)
 ·have n3:bJ f=true:=hi5
  rw[if_pos n3]at eF
  refine aa rfl ?_
  refine zy2 ?_
  refine zc rfl func42 ((ua (aI f s w.2 (max fuel 0)) z.1 (L.f.ck.down (by omega))) _ _ rfl) ?_
  refine Wn<|Ws<|zp4 ?_
  refine Wd rfl rfl (i3 rfl (by kernel_rfl) rfl (by exact dH _)) ?_
  refine z1 ?_
  refine Wb 89 rfl (fun hg1=>?_) (fun hg1=>?_)
  ·have q1:=pJ hg1
   refine zs3 ?_
   refine Wt rfl rfl ?_
   refine Ws<|am [8,0,0,0,0,0,12,2,11,0,0,0,0] [0,1,2,3,4,5,6,7,8,9,10,11,12] mG rfl (by kernel_rfl) ?_
   refine zU 2 ?_
   iterate 5 refine z3 ?_
   refine zU 4 ?_
   refine iA rfl rfl rfl rfl (dC rfl func44 rfl rfl (fH a _ _ (bO 0 1 rfl rfl))) ?_
   refine dK 3 tG rfl rfl rfl rfl rfl trivial rfl ?_
   iterate 4 refine z3 ?_
   refine ap ?_
   refine zR ?_
   (rw[b1 n0 eF q1 rfl];rfl)
  have q1:=oD hg1
  iterate 2 refine z6 ?_
  refine zs1 ?_
  refine Wf rfl rfl ?_
  refine Wj<|Ws<|am [0,0,0,12,0,0,0,12,0,0,0,12,0,0,0,12,2,11,0,0,0,0] [0,1,2,3,4,5,6,7,8,9,10,11,12,13,14,15,16,17,18,19,20,21] mG rfl (by kernel_rfl) ?_
  iterate 3 refine z3 ?_
  refine zU 4 ?_
  iterate 3 refine z3 ?_
  refine zU 4 ?_
  iterate 3 refine z3 ?_
  refine zU 4 ?_
  iterate 3 refine z3 ?_
  refine zU 4 ?_
  refine iA rfl rfl rfl rfl (dC rfl func44 rfl rfl (fH a _ _ (bO 0 1 rfl rfl))) ?_
  refine dK 3 tG rfl rfl rfl rfl rfl trivial rfl ?_
  iterate 4 refine z3 ?_
  refine ap ?_
  refine zR ?_
  (rw[b2 n0 eF (fun y=>y.1 q1)];rfl)
 have n3:¬bJ f=true:=by rw[hi5];decide
 rw[if_neg n3]at eF
 refine aa rfl ?_
 refine zy2 ?_
 refine zc rfl func43 ((DB (aI f s w.2 (max fuel 0)) z.1 L.d L.data) _ _ rfl) ?_
 refine Wn<|Ws<|zp4 ?_
 refine Wd rfl rfl (i3 rfl (by kernel_rfl) rfl (by exact dH _)) ?_
 refine z1 ?_
 refine Wb 89 rfl (fun hg1=>?_) (fun hg1=>?_)
 ·have q1:=pJ hg1
  refine zs3 ?_
  refine Wt rfl rfl ?_
  refine Ws<|am [8,0,0,0,0,0,12,2,11,0,0,0,0] [0,1,2,3,4,5,6,7,8,9,10,11,12] mG rfl (by kernel_rfl) ?_
  refine zU 2 ?_
  iterate 5 refine z3 ?_
  refine zU 4 ?_
  refine iA rfl rfl rfl rfl (dC rfl func44 rfl rfl (fH a _ _ (bO 0 1 rfl rfl))) ?_
  refine dK 3 tG rfl rfl rfl rfl rfl trivial rfl ?_
  iterate 4 refine z3 ?_
  refine ap ?_
  refine zR ?_
  (rw[b1 n0 eF q1 rfl];rfl)
 have q1:=oD hg1
 iterate 2 refine z6 ?_
 refine zs1 ?_
 refine Wf rfl rfl ?_
 refine Wj<|Ws<|am [0,0,0,12,0,0,0,12,0,0,0,12,0,0,0,12,2,11,0,0,0,0] [0,1,2,3,4,5,6,7,8,9,10,11,12,13,14,15,16,17,18,19,20,21] mG rfl (by kernel_rfl) ?_
 iterate 3 refine z3 ?_
 refine zU 4 ?_
 iterate 3 refine z3 ?_
 refine zU 4 ?_
 iterate 3 refine z3 ?_
 refine zU 4 ?_
 iterate 3 refine z3 ?_
 refine zU 4 ?_
 refine iA rfl rfl rfl rfl (dC rfl func44 rfl rfl (fH a _ _ (bO 0 1 rfl rfl))) ?_
 refine dK 3 tG rfl rfl rfl rfl rfl trivial rfl ?_
 iterate 4 refine z3 ?_
 refine ap ?_
 refine zR ?_
 (rw[b2 n0 eF (fun y=>y.1 q1)];rfl)
def zw(m:bf):af prog 27 [gH m] (gH ⟨m.b,[]⟩):=by
 refine zY func27 fun B=>?_
 refine zu2 ?_
 refine zu4 ?_
 refine zR ?_
 rfl
def oR(f:ae):ae:={f with vm:={f.vm with mem:=⟨f.vm.mem.b,[]⟩}}
def tb(f0 f:ae):ae:={iB f with vm:={(iB f).vm with d:=[],pic:=⟨[],false⟩,req:=f0.vm.req,free:=f0.vm.free,next:=f0.vm.next}}
structure LS where
 f:ae
 at_:Int
 left:Int
def lnR(x:LS)(tx:Str):ae×Int×Int×Bool×Int:=jv x.f tx x.at_ x.left
def kX(f0:ae)(tx:Str):Nat->LS->ae×Int×Int
 | 0,x=>(x.f,x.left,0)
 | n+1,x=>if (lnR x tx).2.2.2.2≠0 then(oR (tb f0 (lnR x tx).1),(lnR x tx).2.2.1,(lnR x tx).2.2.2.2)else if (lnR x tx).2.2.2.1=false then(oR (lnR x tx).1,(lnR x tx).2.2.1,0)else kX f0 tx n ⟨(lnR x tx).1,(lnR x tx).2.1,(lnR x tx).2.2.1⟩
def Og(tx:Str):Nat->LS->Prop
 | 0,_=>False
 | n+1,x=>(∃N,TM N x.f tx x.at_ x.left)/\((lnR x tx).2.2.2.2≠0->FK 1 (lnR x tx).1)/\((lnR x tx).2.2.2.2=0->(lnR x tx).2.2.2.1=true->Og tx n ⟨(lnR x tx).1,(lnR x tx).2.1,(lnR x tx).2.2.1⟩)
structure LnI (R:ae×Int×Int) (f0:ae) (tx:Str) (s:Nat×LS):Prop where
 ok:Og tx s.1 s.2
 out:kX f0 tx s.1 s.2=R
def LnI.suc{R:ae×Int×Int}{f0:ae}{tx:Str}{s:Nat×LS}(h:LnI R f0 tx s):∃n,s.1=n+1:=by
 have:=h.ok
 cases q:s.1 with
 | zero=>rw[q]at this;exact this.elim
 | succ n=>exact⟨n,rfl⟩
def LnI.one{R:ae×Int×Int}{f0:ae}{tx:Str}{s:Nat×LS}(h:LnI R f0 tx s):∃N,TM N s.2.f tx s.2.at_ s.2.left:=by
 obtain⟨n,hn⟩:=h.suc
 have:=h.ok
 rw[hn]at this
 exact this.1
def LnI.bad{R:ae×Int×Int}{f0:ae}{tx:Str}{s:Nat×LS}(h:LnI R f0 tx s)(q:(lnR s.2 tx).2.2.2.2≠0):FK 1 (lnR s.2 tx).1/\R=(oR (tb f0 (lnR s.2 tx).1),(lnR s.2 tx).2.2.1,(lnR s.2 tx).2.2.2.2):=by
 obtain⟨n,hn⟩:=h.suc
 have h1:=h.ok
 have h2:=h.out
 rw[hn]at h1 h2
 rw[kX,if_pos q]at h2
 exact⟨h1.2.1 q,h2.symm⟩
def LnI.fin{R:ae×Int×Int}{f0:ae}{tx:Str}{s:Nat×LS}(h:LnI R f0 tx s)(q:¬(lnR s.2 tx).2.2.2.2≠0)(q2:(lnR s.2 tx).2.2.2.1=false):R=(oR (lnR s.2 tx).1,(lnR s.2 tx).2.2.1,0):=by
 obtain⟨n,hn⟩:=h.suc
 have h2:=h.out
 rw[hn,kX,if_neg q,if_pos q2]at h2
 exact h2.symm
def LnI.next{R:ae×Int×Int}{f0:ae}{tx:Str}{s:Nat×LS}(h:LnI R f0 tx s)(q:¬(lnR s.2 tx).2.2.2.2≠0)(q2:(lnR s.2 tx).2.2.2.1=true):LnI R f0 tx (s.1-1,⟨(lnR s.2 tx).1,(lnR s.2 tx).2.1,(lnR s.2 tx).2.2.1⟩)/\s.1-1<s.1:=by
 obtain⟨n,hn⟩:=h.suc
 have h1:=h.ok
 have h2:=h.out
 rw[hn]at h1 h2
 rw[kX,if_neg q,if_neg (by rw[q2];decide)]at h2
 have e:s.1-1=n:=by omega
 exact⟨⟨by show Og tx (s.1-1) _;rw[e];exact h1.2.2 (Decidable.not_not.1 q) q2,by show kX f0 tx (s.1-1) _=R;rw[e];exact h2⟩,by omega⟩
@[simp] theorem am7 : aG zFc := by simp [zFc, aG, aQ]
def qY(r:ae×Int×Int):PV:=.tup [bE r.1,i64 r.2.1,i64 r.2.2]
@[simp] theorem Y9 (r : ae × Int × Int) : aQ (qY r) := by unfold qY; simp [aQ, aG]
def H6(a:Addr)(f:ae)(tx:Str)(fuel:Int)(n:Nat)(h:Og tx n ⟨f,0,max fuel 0⟩):∀(H:List Ob),(∀o∈fS a,∃k:Nat,H[k]?=some o)->HC prog 12 [bE f,str tx,i64 fuel] H (qY (kX f tx n ⟨f,0,max fuel 0⟩)) H:=by
 have wm:(if fuel<0 then 0 else fuel)=max fuel 0:=by split<;>omega
 obtain⟨R,hR⟩:∃R,kX f tx n ⟨f,0,max fuel 0⟩=R:=⟨_,rfl⟩
 have i0:LnI R f tx (n,⟨f,0,max fuel 0⟩):=⟨h,hR⟩
 rw[hR]
 clear hR
 refine fh (ey a) tG (rs:=[.cell 6 42,.tmp 7,.tmp 8]) func12 rfl rfl rfl (by simp) (by simp) (fun B=>?_)
 refine zu4 ?_
 refine zp3 ?_
 refine Wa 19 rfl (zI9 wm) ?_
 refine zs4 ?_
 refine Wl ?_
 show W _ _ _ _ _ _ _
 refine cQ (fun(s:(Nat×LS))=>[(1,str tx),(3,.ptr 2 0),(6,.ptr 3 0),(9,.ptr 4 0),(10,i64 s.2.at_),(11,i64 s.2.left)]) (fun(s:(Nat×LS))=>[.glob 1 (haltV a),.glob 0 etV,.cells (gA f) 42,.cells zFc 42,.cells (gA s.2.f) 42]) (fun(s:(Nat×LS))=>[]) (fun(s:(Nat×LS))=>LnI R f tx s) (fun(s:(Nat×LS))=>s.1) ((n,⟨f,0,max fuel 0⟩)) (by exact i0) [] ?_ ?_
 ·exact cV
 intro s hs
 refine Wl<|Ws ?_
 obtain⟨N,hW⟩:=hs.one
 have pW:=AI a s.2.f tx s.2.at_ s.2.left N hW
 have pb:=hs.bad
 have pe:=hs.fin
 have pn:=hs.next
 rw[show jv s.2.f tx s.2.at_ s.2.left=lnR s.2 tx from rfl]at pW
 obtain⟨r,hr⟩:∃r,lnR s.2 tx=r:=⟨_,rfl⟩
 rw[hr]at pW pb pe pn
 refine aa rfl ?_
 refine zy4 ?_
 refine zc rfl func21 (pW _ (bO 0 1 rfl rfl)) ?_
 refine zy5 ?_
 refine zy5 ?_
 refine zs2 ?_
 refine zp5 ?_
 refine zs1 ?_
 refine Ws<|zu2 ?_
 refine Wi rfl (fun hi1=>?_) (fun hi1=>?_)
 ·have q:r.2.2.2.2≠0:=by simpa using hi1
  have pb:=pb q
  refine zp1 ?_
  refine zc rfl func26 ((ME r.1 pb.1) _) ?_
  refine zs1 ?_
  refine zp5 ?_
  refine zs2 ?_
  refine am [0,0,8,0,0,8,0,0,8,0,0,13,0,0,13,0,0,13] [0,1,2,3,4,5,6,7,8,9,10,11,12,13,14,15,16,17] mG rfl (by kernel_rfl) ?_
  iterate 2 refine z3 ?_
  refine zU 2 ?_
  iterate 2 refine z3 ?_
  refine zU 2 ?_
  iterate 2 refine z3 ?_
  refine zU 2 ?_
  iterate 2 refine z3 ?_
  refine dK 4 tG rfl rfl rfl rfl rfl trivial rfl ?_
  iterate 2 refine z3 ?_
  refine dK 4 tG rfl rfl rfl rfl rfl trivial rfl ?_
  iterate 2 refine z3 ?_
  refine dK 4 tG rfl rfl rfl rfl rfl trivial rfl ?_
  refine ap ?_
  refine zp3 ?_
  refine Wb 60 rfl (fun hg1=>?_) (fun hg1=>?_)
  ·have q2:r.2.2.2.1=false:=by simpa using hg1
   iterate 2 refine z6 ?_
   refine zs1 ?_
   refine Wt rfl rfl ?_
   refine zp3 ?_
   refine zc rfl func27 ((zw _) _) ?_
   refine zs3 ?_
   refine zp5 ?_
   refine zs1 ?_
   refine zR ?_
   (rw[pb.2];rfl)
  have q2:r.2.2.2.1=true:=by simpa using hg1
  refine zs3 ?_
  refine Wt rfl (by omega) ?_
  refine zp3 ?_
  refine zc rfl func27 ((zw _) _) ?_
  refine zs3 ?_
  refine zp5 ?_
  refine zs1 ?_
  refine zR ?_
  (rw[pb.2];rfl)
 have q:¬r.2.2.2.2≠0:=by simpa using hi1
 refine Wj<|zp3 ?_
 refine Wb 60 rfl (fun hg1=>?_) (fun hg1=>?_)
 ·have q2:r.2.2.2.1=false:=by simpa using hg1
  iterate 2 refine z6 ?_
  refine zs1 ?_
  refine Wt rfl rfl ?_
  refine zp3 ?_
  refine zc rfl func27 ((zw _) _) ?_
  refine zs3 ?_
  refine zp5 ?_
  refine zs1 ?_
  refine zR ?_
  (rw[pe q q2,show r.2.2.2.2=0 from Decidable.not_not.1 q];rfl)
 have q2:r.2.2.2.1=true:=by simpa using hg1
 refine zs3 ?_
 refine Wf rfl (by omega) ?_
 refine Wj ?_
 exact⟨(s.1-1,⟨r.1,r.2.1,r.2.2.1⟩),[],(by exact(pn q q2).1),(by exact(pn q q2).2),cV⟩
def Rx{f:ae}(h:(aK f).bad=0):f.comp.xt=0:=by
 unfold aK at h
 split at h
 ·assumption
 cases h
def OH{N M:Nat}{f:ae}(h:OkF N f){v:VVm}(g:bb M v)(hx:DX v.dict)(h0:f.comp.xt=0):OkF M {f with vm:=v} :=
 ⟨g,h.cfl,h.cf,fun q=>absurd h0 q,fun q=>absurd h0 q,h.la,h.fu,hx⟩
def zI{N M:Nat}{f:ae}(h:OkF N f)(hM:N<=M){w:FW}(hw:w.bad=0->OkF M w.f):OkF M (gd w f).1:=by
 unfold gd
 split
 ·exact h.up hM
 rename_i q;exact hw (Decidable.not_not.1 q)
def VY{N:Nat}{f:ae}(h:OkF N f):OkF N (MJ f).1:=by
 unfold MJ
 split
 ·exact zI h (Nat.le_refl _) fun q=>absurd (uw q).2 (by decide)
 refine zI h (Nat.le_refl _) fun q=>?_
 have fl:0<=(py f).flags/\(py f).flags<=7:=by
  unfold py
  by_cases hi:f.vm.dict.length-1<f.vm.dict.length
  ·have q:=((sV h.g.right.dict).get hi);exact q.2
  rw[List.getD_eq_getElem?_getD,List.getElem?_eq_none (by omega)];exact⟨by decide,by decide⟩
 have i7:=aq0 fl.1 fl.2
 have e:(mv (aK f) (cz f.vm.dict ((f.vm.dict.length-1:Nat):Int) (Ey (py f).flags))).f={f with vm:={f.vm with dict:=(cz f.vm.dict ((f.vm.dict.length-1:Nat):Int) (Ey (py f).flags)).1}}:=by unfold mv;rw[mp];rfl
 rw[e]
 have hl:=(Ah h.g.right.dict ((f.vm.dict.length-1:Nat):Int) i7.1 i7.2).2
 exact h.vm (K5 h.g _ i7.1 i7.2) (by show _<=(cz f.vm.dict _ _).1.length;rw[hl];exact Nat.le_refl _) rfl (Lu h.xts _ _)
def Qw{N:Nat}{f:ae}(h:OkF N f)(name:Str):OkF N (Cj f name).1:=by
 unfold Cj
 refine zI h (Nat.le_refl _) fun q=>?_
 have q:(B9 f (cd f.vm.dict name)).bad=0:=q
 generalize cd f.vm.dict name=r at q ⊢
 have hB:(aK f).bad=0/\1368<=r.1.xt/\r.1.xt<=f.vm.here/\B9 f r=aK f:=by
  unfold B9 at q ⊢
  split at q
  ·exact absurd (uw q).2 (by decide)
  rename_i z
  split at q
  ·exact absurd (uw q).2 (by decide)
  rename_i y
  rw[if_neg z,if_neg y]
  exact⟨q,by omega,by omega,rfl⟩
 have e:(Aq (B9 f r) f.vm.dict r).f={f with vm:={f.vm with dict:=(fZ f.vm.dict r.2.1).1,here:=r.1.xt,last:=0}}:=by unfold Aq;rw[hB.2.2.2];rfl
 rw[e]
 refine OH h ?_ (Tl h.xts _) (Rx hB.1)
 have h1:=h.g.right.jx
 exact xP (LE (OP h.g _) hB.2.1 (by show r.1.xt<=f.vm.conf.mem;omega)) bt
def Td{N:Nat}{f:ae}(h:OkF N f)(name:Str)(n:Int):OkF (N+261) (u5 f name n).1:=by
 unfold u5
 split
 ·exact h.up (by omega)
 rename_i q
 refine(lQ h name false (mq f n)).up ?_
 unfold mq
 rw[List.length_append]
 split
 ·rename_i z
  rw[List.length_replicate]
  have:¬(n<1\/256<n):=fun y=>q ⟨z,y⟩
  show N+1+(4+n.toNat)<=_
  omega
 show N+1+(4+0)<=_
 omega
section
variable {N : Nat} {l0 l : ag}
def GZ(h:Nx N l0 l)(n:Int):Nx (N+1) l0 (Dy l n):=xV (h.up (by omega)) (h.f.kv (Df h.f.g (cM _ _ _)) ⟨rfl,rfl,rfl⟩)
def AE(h:Nx N l0 l)(h0:0<=l0.at_):Nx N l0 (fc l).1:=by
 have q:=vN h h0
 unfold fc;split
 ·dsimp only;split
  ·exact uG q _
  exact q
 exact q
def P7(l:ag):ab (oZ l).2:=by
 unfold oZ
 dsimp only
 split
 ·exact bt
 unfold Vl ab
 have:=((bY l).2.getD 0 0).toNat_lt
 omega
def VG(h:Nx N l0 l)(h0:0<=l0.at_):Nx (N+3) l0 (FN l):=by
 have q:=AE h h0
 unfold FN;split
 ·unfold O3;split
  ·exact(Dn (uG q _) _).up (by omega)
  exact xO (za (uG q _) _) _
 exact q.up (by omega)
def Vb(h:Nx N l0 l)(h0:0<=l0.at_)(name:Str):Nx (N+270) l0 (rc l name):=by
 unfold rc
 cases hs:spF name with
 | none=>exact(Io h name).up (by omega)
 | some g =>
  dsimp only
  unfold spF at hs
  rcases aj hs with rfl|hs
  ·exact(E3 h h0 false 0).up (by omega)
  rcases aj hs with rfl|hs
  ·have p:=I3 h
   unfold oOn;split
   ·exact(E3 p.1 h0 true _).up (by omega)
   exact p.1.up (by omega)
  rcases aj hs with rfl|hs
  ·exact(Vo h).up (by omega)
  rcases aj hs with rfl|hs
  ·exact(NH h h0).up (by omega)
  rcases aj hs with rfl|hs
  ·exact(vl h h0 (j:=4) fun f name o=>lQ o name true [257,0,0]).up (by omega)
  rcases aj hs with rfl|hs
  ·exact(Tb h h0).up (by omega)
  rcases aj hs with rfl|hs
  ·exact(BR h h0 (j:=261) fun f name n o=>Td o name n).up (by omega)
  rcases aj hs with rfl|hs
  ·exact(yo h (VY h.f)).up (by omega)
  rcases aj hs with rfl|hs
  ·exact(vl h h0 (j:=0) fun f name o=>Qw o name).up (by omega)
  rcases aj hs with rfl|hs
  ·exact(Em (AE h h0) (Cm h.f.xts)).up (by omega)
  rcases aj hs with rfl|hs
  ·exact(za (AE h h0) _).up (by omega)
  rcases aj hs with rfl|hs
  ·exact(Em (vN h h0) (P7 l)).up (by omega)
  rcases aj hs with rfl|hs
  ·exact(za (vN h h0) _).up (by omega)
  rcases aj hs with rfl|hs
  ·exact(za (I3 h).1 _).up (by omega)
  rcases aj hs with rfl|hs
  ·exact(VG h h0).up (by omega)
  rcases aj hs with rfl|hs
  ·exact(Dn h _).up (by omega)
  rcases aj hs with rfl|hs
  ·exact(xO h _).up (by omega)
  rcases aj hs with rfl|hs
  ·exact(xO h _).up (by omega)
  rcases aj hs with rfl|hs
  ·exact(Kn h h0).up (by omega)
  rcases aj hs with rfl|hs
  ·exact(TG h h0).up (by omega)
  rcases aj hs with rfl|hs
  ·exact(Er h h0 41).up (by omega)
  rcases aj hs with rfl|hs
  ·exact(U7 h).up (by omega)
  rcases aj hs with rfl|hs
  ·exact(GZ h 0).up (by omega)
  rcases aj hs with rfl|hs
  ·unfold zG;split
   ·exact(uG h _).up (by omega)
   exact(GZ h (-1)).up (by omega)
  cases hs
end
def BE(l:List UInt8)(b:Int):ab (dR l b).1:=by
 have w:∀n:Int,ab (wrap64 n):=fun n=>ic n
 unfold dR po
 split
 ·rename_i q
  split at q
  ·split at q
   ·injection q with q
    rename_i a c d z
    unfold ab;omega
   cases q
  cases q
 unfold rm
 split
 ·exact bt
 dsimp only
 split
 ·exact w _
 exact w _
def AR{N:Nat}{l0 l:ag}(h:Nx N l0 l)(u0:0<=l0.fuel):Nr l0 l N :=
 ⟨by rw[h.u,Nat.add_sub_cancel];exact h.f,h.s,h.a,h.b,by rw[h.u];exact u0,by rw[h.u];exact Int.le_refl _⟩
def Nr.up{N M:Nat}{l0 l:ag}(h:Nr l0 l N)(hM:N<=M):Nr l0 l M:=⟨h.f.up (by omega),h.s,h.a,h.b,h.u0,h.u1⟩
section
variable {N : Nat} {l : ag}
def Tv(h:OkF N l.f)(h0:0<=l.at_)(h1:l.at_<=l.s.length)(u0:0<=l.fuel)(u9:l.fuel<=90000){x:aL}(hx:ab x.xt):Nr l (i8 l x).1 (N+270):=by
 have n:Nx N l l:=⟨h,rfl,Int.le_refl _,h1,rfl⟩
 have i:∀{c:Prop} [Decidable c] {a b:ag×Bool},Nr l a.1 (N+270)->Nr l b.1 (N+270)->Nr l (if c then a else b).1 (N+270):=fun {c} _ {a b} p q=>by
  by_cases hc:c
  ·rw[if_pos hc];exact p
  rw[if_neg hc];exact q
 unfold i8
 exact i (AR ((uG n _).up (by omega)) u0) (i (AR ((uG n _).up (by omega)) u0) (i (AR ((Dn n _).up (by omega)) u0) (i (AR (Vb n h0 _) u0) ((Pq h hx h0 h1 u0 u9).up (by omega)))))
def af8(h:OkF N l.f)(h0:0<=l.at_)(h1:l.at_<=l.s.length)(u0:0<=l.fuel)(u9:l.fuel<=90000)(name:Str):Nr l (kU l name).1 (N+270):=by
 unfold kU
 split
 ·exact Tv h h0 h1 u0 u9 (Am h.xts name)
 have n:Nx N l l:=⟨h,rfl,Int.le_refl _,h1,rfl⟩
 unfold Is
 split
 ·exact AR ((uG n _).up (by omega)) u0
 split
 ·exact AR ((za n _).up (by omega)) u0
 exact AR ((Em n (BE _ _)).up (by omega)) u0
end
structure Wo (N:Nat) (s:Str) (a fuel:Int) (r:ae×Int×Int×Bool×Int):Prop where
 f:OkF (N+270+3*fuel.toNat-3*r.2.2.1.toNat) r.1
 u0:0<=r.2.2.1
 u1:r.2.2.1<=fuel
 a:r.2.2.2.2=0->r.2.2.2.1=true->a<r.2.1/\(a+2<=r.2.1\/r.2.1=s.length)
 b:r.2.1<=s.length
def okw{N:Nat}{f:ae}{s:Str}{a fuel:Int}(h:OkF N f)(h0:0<=a)(h1:a<=s.length)(u0:0<=fuel)(u9:fuel<=90000):Wo N s a fuel (jv f s a fuel):=by
 have mu:max fuel 0=fuel:=by omega
 have o:OkF (N+270+3*fuel.toNat-3*fuel.toNat) f:=h.up (by omega)
 by_cases hw:(bu s a).1=[]
 ·rw[Rm hw,mu]
  exact⟨o,u0,Int.le_refl _,(fun _ q=>by cases q),Int.le_refl _⟩
 have w:=Ec s h0 h1 hw
 have r:=af8 (l:=aI f s (bu s a).2 (max fuel 0)) h (by show 0<=(bu s a).2;omega) w.2.1 (by show 0<=max fuel 0;omega) (by show max fuel 0<=90000;omega) (bu s a).1
 generalize hr:kU (aI f s (bu s a).2 (max fuel 0)) (bu s a).1=x at r
 by_cases hb:x.1.err≠0/\x.2=false
 ·rw[AL hw hr hb.1 hb.2,mu]
  exact⟨o,u0,Int.le_refl _,fun q=>absurd q hb.1,h1⟩
 rw[Qp hw hr hb]
 have ra:=r.a
 have ru:=r.u1
 rw[show(aI f s (bu s a).2 (max fuel 0)).at_=(bu s a).2 from rfl]at ra
 rw[show(aI f s (bu s a).2 (max fuel 0)).fuel=max fuel 0 from rfl,mu]at ru
 refine⟨?_,r.u0,ru,fun _ _=>?_,r.b⟩
 ·have:=r.f
  rw[show(aI f s (bu s a).2 (max fuel 0)).fuel=max fuel 0 from rfl,mu]at this
  exact this
 show a<x.1.at_/\(a+2<=x.1.at_\/x.1.at_=s.length)
 have rb:=r.b
 change x.1.at_<=(s.length:Int)at rb
 omega
def Tu{N:Nat}{f:ae}{s:Str}(h:OkF N f)(hN:N<=190000)(hs:s.length<=1000000):LK 300 (aI f s 0 0):=by
 have R:=h.g.right
 have hc:=R.fV
 unfold dW at hc
 have h1:=R.d
 have h2:=R.out
 exact⟨h.fk (by omega),hs,by show f.vm.d.length<=_;omega,by show ab f.vm.conf.data;unfold ab;omega,by show 0<=f.vm.conf.out;omega,by show f.vm.conf.out<=_;omega,by show f.vm.out.length<=_;omega,h.cfl,h.cf,h.dict,h.xts⟩
def Xl{N:Nat}{v:VVm}(g:bb N v):bb 0 {v with mem:=⟨v.mem.b,[]⟩}:=by
 have R:=g.right
 refine⟨⟨R.fV,?_,R.dict,R.pic,R.len,R.ju,R.jx,R.f,R.hand,R.d,R.r,R.fl,R.dl,R.out,R.req,R.free0,R.free1,R.next0,R.next1,R.handl⟩,Nat.le_refl _,g.fd,g.fr,g.ff,g.ints,g.la⟩
 have m:=R.mem
 unfold lK at m ⊢
 rw[Bool.and_eq_true]at m
 show([].all _&&_)=true
 rw[List.all_nil,Bool.true_and];exact m.2
def Gz{N:Nat}{f:ae}(h:OkF N f):OkF 0 (oR f):=⟨Xl h.g,h.cfl,h.cf,h.dict,h.here,h.la,h.fu,h.xts⟩
def WN{N K:Nat}{f0 f:ae}(h:OkF N f)(g0:bb K f0.vm):OkF (N+1) (tb f0 f):=by
 have u:=Pj h
 have R:=u.g.right
 have R0:=g0.right
 have hc:=R.fV
 unfold dW at hc
 exact⟨⟨⟨R.fV,R.mem,R.dict,⟨(by show(0:Nat)<=130;decide),.inr rfl⟩,R.len,R.ju,R.jx,R.f,R.hand,(by show((0:Nat):Int)<=(iB f).vm.conf.data;omega),R.r,R.fl,R.dl,R.out,R0.req,R0.free0,R0.free1,R0.next0,R0.next1,R.handl⟩,u.g.old,bA,u.g.fr,u.g.ff,u.g.ints,u.g.la⟩,u.cfl,u.cf,u.dict,u.here,u.la,u.fu,u.xts⟩
def Ku{tx:Str}{K:Nat}{f0:ae}(g0:bb K f0.vm)(ht:tx.length<=1000000):∀(n N:Nat) (x:LS),OkF N x.f->0<=x.at_->x.at_<=tx.length->0<=x.left->x.left<=90000 ->
  N+3*x.left.toNat+270*((tx.length+1-x.at_.toNat)/2)+270<=190000->tx.length+1-x.at_.toNat<n ->
  Og tx n x/\OkF 0 (kX f0 tx n x).1/\0<=(kX f0 tx n x).2.1/\(kX f0 tx n x).2.1<=x.left
 | 0,N,x,_,_,_,_,_,_,hn=>by omega
 | n+1,N,x,h,h0,h1,u0,u9,hN,hn=>by
  have w:Wo N tx x.at_ x.left (lnR x tx):=okw h h0 h1 u0 u9
  have hu1:=w.u1
  have hu0:=w.u0
  have hb:=w.b
  have ha:=w.a
  have hf:=w.f
  have ih:=fun e i=>Ku g0 ht n (N+270+3*x.left.toNat-3*(lnR x tx).2.2.1.toNat) ⟨(lnR x tx).1,(lnR x tx).2.1,(lnR x tx).2.2.1⟩ hf (by have:=ha e i;show 0<=(lnR x tx).2.1;omega) hb hu0 (by show(lnR x tx).2.2.1<=90000;omega) (by have:=ha e i;show _+3*(lnR x tx).2.2.1.toNat+270*((tx.length+1-(lnR x tx).2.1.toNat)/2)+270<=_;omega) (by have:=ha e i;show tx.length+1-(lnR x tx).2.1.toNat<n;omega)
  refine⟨⟨⟨N,⟨Tu h (by omega) ht,h.g,by omega,u9⟩⟩,fun _=>hf.fk (by omega),fun e i=>(ih e i).1⟩,?_⟩
  rw[kX]
  by_cases e:(lnR x tx).2.2.2.2≠0
  ·rw[if_pos e]
   exact⟨Gz (WN hf g0),hu0,hu1⟩
  rw[if_neg e]
  by_cases i:(lnR x tx).2.2.2.1=false
  ·rw[if_pos i];exact⟨Gz hf,hu0,hu1⟩
  rw[if_neg i]
  have q:=ih (Decidable.not_not.1 e) (by simpa using i)
  exact⟨q.2.1,q.2.2.1,Int.le_trans q.2.2.2 hu1⟩
def j6(f:ae)(tx:Str)(fuel:Int):ae×Int×Int:=kX f tx (tx.length+2) ⟨f,0,max fuel 0⟩
def GS{N:Nat}{f:ae}{tx:Str}{fuel:Int}(h:OkF N f)(ht:tx.length<=1000)(hu:fuel<=5000)(hN:N<=20000):
  Og tx (tx.length+2) ⟨f,0,max fuel 0⟩/\OkF 0 (j6 f tx fuel).1/\0<=(j6 f tx fuel).2.1/\(j6 f tx fuel).2.1<=max fuel 0 :=
 Ku h.g (by omega) (tx.length+2) N ⟨f,0,max fuel 0⟩ h (Int.le_refl _) (Int.natCast_nonneg _) (by show 0<=max fuel 0;omega) (by show max fuel 0<=90000;omega) (by show N+3*(max fuel 0).toNat+270*((tx.length+1-(0:Int).toNat)/2)+270<=_;omega) (by show tx.length+1-(0:Int).toNat<_;omega)
def xm(a:Addr){N:Nat}{f:ae}{tx:Str}{fuel:Int}(h:OkF N f)(ht:tx.length<=1000)(hu:fuel<=5000)(hN:N<=20000):∀(H:List Ob),(∀o∈fS a,∃k:Nat,H[k]?=some o)->HC prog 12 [bE f,str tx,i64 fuel] H (qY (j6 f tx fuel)) H :=
 H6 a f tx fuel _ (GS h ht hu hN).1
open Go.RowKit
def Lf(f:ae)(xt:Int)(tx:Str)(p fuel:Int):ae×Int×Int×Int :=
 ((lN (aI f tx p (max fuel 0)) xt).f,(lN (aI f tx p (max fuel 0)) xt).at_,(lN (aI f tx p (max fuel 0)) xt).fuel,(lN (aI f tx p (max fuel 0)) xt).err)
def Kf(r:ae×Int×Int×Int):PV:=.tup [bE r.1,i64 r.2.1,i64 r.2.2.1,i64 r.2.2.2]
@[simp] theorem YJ (r : ae × Int × Int × Int) : aQ (Kf r) := by unfold Kf; simp [aQ, aG]
def IH(a:Addr)(f:ae)(xt:Int)(tx:Str)(p fuel:Int)(N:Nat)(g:bb N f.vm)(hx:ab xt)(h1:fuel<=90000)(hN:N<=190000)(hs:tx.length<=1000000):∀(H:List Ob),(∀o∈fS a,∃k:Nat,H[k]?=some o)->HC prog 22 [bE f,i64 xt,str tx,i64 p,i64 fuel] H (Kf (Lf f xt tx p fuel)) H:=by
 have wm:(if fuel<0 then 0 else fuel)=max fuel 0:=by split<;>omega
 have pE:=p8 a (aI f tx p (max fuel 0)) xt N g hx (by show 0<=max fuel 0;omega) (by show max fuel 0<=90000;omega) hN hs
 unfold Lf
 obtain⟨r,hr⟩:∃r,lN (aI f tx p (max fuel 0)) xt=r:=⟨_,rfl⟩
 rw[hr]at pE ⊢
 refine fh (ey a) tG (rs:=[.cell 10 42,.tmp 11,.tmp 12,.tmp 13]) func22 rfl rfl rfl (by simp) (by simp) (fun B=>?_)
 refine zu5 ?_
 refine zp5 ?_
 refine Wa 19 rfl (zI9 wm) ?_
 refine zs3 ?_
 refine zp2 ?_
 refine zc rfl func45 (pE _ 4 rfl (bO 0 1 rfl rfl)) ?_
 refine Wn<|Ws<|am [0,0,0,12,0,0,0,12,0,0,0,12,0,0,0,12,2,11,0,0,0] [0,1,2,3,4,5,6,7,8,9,10,11,12,13,14,15,16,17,18,19,20] mG rfl (by kernel_rfl) ?_
 iterate 3 refine z3 ?_
 refine zU 4 ?_
 iterate 3 refine z3 ?_
 refine zU 4 ?_
 iterate 3 refine z3 ?_
 refine zU 4 ?_
 iterate 3 refine z3 ?_
 refine zU 4 ?_
 refine iA rfl rfl rfl rfl (dC rfl func44 rfl rfl (fH a _ _ (bO 0 1 rfl rfl))) ?_
 refine dK 3 tG rfl rfl rfl rfl rfl trivial rfl ?_
 iterate 3 refine z3 ?_
 refine ap ?_
 refine zR ?_
 rfl
def lS{b:List UInt8}{k n:Nat}{p q:Prop}[Decidable p][Decidable q](hn:kf k=n)(h1:(gj.getD k []=[40,104,97,108,116,41])=p)(h2:(gj.getD k []=[40,99,97,117,103,104,116,41])=q):
  Gl b k=if q then xF (if p then xF (xF b (32+8*k) n) 16 (32+8*k)else xF b (32+8*k) n) 24 (32+8*k)else(if p then xF (xF b (32+8*k) n) 16 (32+8*k)else xF b (32+8*k) n):=by
 subst h1 h2 hn
 unfold Gl
 simp only
 split<;>split<;>simp_all
def aE9{k:Nat}(h:k<167):IntKind.i64.wrap (32+IntKind.i64.wrap (8*(k:Int)))=((32+8*k:Nat):Int):=by simp only[bB];unfold wrap64;omega
def aB9{k n:Nat}(h:k<167)(hn:n=130)(h3:130<=k):IntKind.i64.wrap (IntKind.i64.wrap (300+(k:Int))-(n:Int))=((170+k:Nat):Int):=by subst hn;simp only[bB];unfold wrap64;omega
def az7{k:Nat}(h:k<167):IntKind.i64.wrap (((32+8*k:Nat):Int)+1)=((32+8*k+1:Nat):Int):=by simp only[bB];unfold wrap64;omega
def GL(k:Nat){q:SK}:PV.seq (du k++[gF k]).length ((du k++[gF k]).flatMap bP) q=.seq (du (k+1)).length ((du (k+1)).flatMap bP) q:=by rw[OA]
def ax1{M:Nat}{b:List UInt8}(h:b.length=M):PV.seq M ((b.flatMap ar).take M) .any=sq ar b:=by rw[xN,List.take_of_length_le (by omega),<-h];rfl
def an4(c:nj)(b:List UInt8)(l:List aL):VVm:={conf:=c,mem:=⟨b,[]⟩,here:=1368,d:=[],r:=[],f:=[],dict:=l,last:=0,out:=[],pic:=⟨[],false⟩,req:=[],free:=0,next:=0,arg:=0,self:=0,now:=0,hand:=[]}
def S2(c:nj):Ga c=an4 c (o9 c.mem.toNat 167) (du 167):=rfl
def UF(c:nj)(hc:dW c):af prog 24 [Km c] (tVm (Ga c,0)):=by
 have hM:2048<=c.mem/\c.mem<=65536:=⟨hc.1,hc.2.1⟩
 obtain⟨M,hMe⟩:∃M:Nat,c.mem=M:=⟨c.mem.toNat,by omega⟩
 have hMt:c.mem.toNat=M:=by omega
 have hN:=lf
 have hS:=ij
 have hA:=Qs
 have hD:decide (dW c)=true:=decide_eq_true hc
 refine zY func24 fun B=>?_
 refine zu3 ?_
 refine zp1 ?_
 refine zc rfl func46 ((SE c) _) ?_
 refine zs1 ?_
 refine Ws<|zu2 ?_
 refine Wf rfl (by rw[hD];rfl) ?_
 refine Wj<|zp2 ?_
 refine z2 ?_ (q:=(by(simp_all;omega)))
 refine dY 2 rfl (Xs rfl) rfl ?_
 refine Wa 18 rfl (show PV.arr 2 0 c.mem.toNat c.mem.toNat=.arr 2 0 M M by rw[hMt]) ?_
 refine dY 2 rfl (show Ob.cells ((List.replicate c.mem.toNat (0:UInt8)).flatMap ar) 5=.cells ((List.replicate M (0:UInt8)).flatMap ar) 5 by rw[hMt]) rfl ?_
 refine zs1 ?_
 refine zp1 ?_
 refine z2 ?_ (q:=(by omega))
 refine Wd rfl rfl (bH (lO tG rfl) rfl rfl rfl rfl rfl rfl (by rw[Nat.ble_eq,eH];simp;omega)) ?_
 refine dY 2 rfl (congrArg (fun z=>Ob.cells z 5) (dB (x:=10) (n:=0) rfl (by simp;omega))) rfl ?_
 refine z0 ?_
 refine zc rfl func47 ((Ij) _) ?_
 refine zc rfl func48 ((De) _) ?_
 refine Wd rfl rfl (bK (lO tG rfl) rfl (lO tG rfl) (lO tG rfl) rfl rfl (by exact⟨_,rfl⟩) (by exact⟨rfl,rfl,al _ 1 (fun _=>rfl) _,bi _ (fun _=>rfl) _⟩) (by exact al _ 1 (fun _=>rfl) _) (by(dsimp only;omega)) (by(rw[hN,hS];decide))) ?_
 refine Wa 23 rfl (bT fa) ?_
 refine Wm 23 rfl (og _ _ _) ?_
 refine zs1 ?_
 refine zp1 ?_
 refine wo 7 0 3 rfl rfl ?_
 refine Wn<|Ws<|zu1 ?_
 refine Wl ?_
 show W _ _ _ _ _ _ _
 refine cQ (fun(k:Nat)=>[(1,.ptr 0 0),(2,.ptr 1 0),(5,.arr 2 0 M M),(6,sq fa gj),(7,.seq (du k).length ((du k).flatMap bP) (.own 5 3)),(8,i64 k)]) (fun(k:Nat)=>[.cells (Ht c) 25,.cells vmZ 37,.cells ((o9 M k).flatMap ar) 5,.dead,.dead]) (fun(k:Nat)=>[.free ((du k).length*3)]) (fun(k:Nat)=>k<=167) (fun(k:Nat)=>167-k) (0) (by omega) [4] ?_ ?_
 ·exact cV
 intro k hk
 refine Ws<|zu4 ?_
 refine Wi rfl (fun hi2=>?_) (fun hi2=>?_)
 ·have hlt:k<167:=by have:=oT hi2;rw[hA]at this;omega
  have hB:=uU M k
  have hL:=l9 k
  have w1:=aE9 hlt
  have w3:=az7 hlt
  refine Wj<|Ws<|Wl<|zp3 ?_
  refine Wa 32 rfl (zI9 w1) ?_
  refine zs1 ?_
  refine zu2 ?_
  refine Ws<|zp1 ?_
  refine zc rfl func47 ((BA) _) ?_
  refine zs2 ?_
  refine Wi rfl (fun hi3=>?_) (fun hi3=>?_)
  ·have hk3:130<=k:=by have:=oT hi3;rw[hN]at this;omega
   have w2:=aB9 hlt hN hk3
   have hn:kf k=170+k:=by unfold kf;rw[if_pos hk3]
   refine aa rfl ?_
   refine zy2 ?_
   refine zc rfl func47 ((BA) _) ?_
   refine zy2 ?_
   refine Wa 42 rfl (zI9 w2) ?_
   refine zs1 ?_
   refine zp5 ?_
   refine Wa 47 rfl (rz _) ?_
   refine z2 ?_ (q:=(by omega))
   refine Wd rfl rfl (bH (lO tG rfl) rfl rfl rfl rfl rfl rfl (by rw[Nat.ble_eq,eH,hB];(try dsimp only);simp;omega)) ?_
   refine dY 2 rfl (congrArg (fun z=>Ob.cells z 5) (dB rfl (by omega))) rfl ?_
   refine Wn<|zp3 ?_
   refine Wa 51 rfl (zI9 w3) ?_
   refine zy3 ?_
   refine Wa 54 rfl (r9 _ (by omega)) ?_
   refine z2 ?_ (q:=(by omega))
   refine Wd rfl rfl (bH (lO tG rfl) rfl rfl rfl rfl rfl rfl (by rw[Nat.ble_eq,eH,List.length_set,hB];(try dsimp only);simp;omega)) ?_
   refine dY 2 rfl (congrArg (fun z=>Ob.cells z 5) (dB rfl (by rw[List.length_set];omega))) rfl ?_
   refine Wn<|Ws<|am [0,0,0,0,0,0,0,0,0,0,0,0,0,0,3,0] [0,1,2,3,4,5,6,7,8,9,10,11,12,13,14,15] mG rfl (by kernel_rfl) ?_
   iterate 3 refine z3 ?_
   refine Xi tG rfl rfl rfl rfl (fun _=>rfl) (by omega) (iN fa 1 (fun _=>rfl) [] (by omega)) ?_
   iterate 4 refine z3 ?_
   refine Xi tG rfl rfl rfl rfl (fun _=>rfl) (by omega) (iN fa 1 (fun _=>rfl) [] (by omega)) ?_
   iterate 2 refine z3 ?_
   refine Xc rfl rfl rfl rfl (fun _=>dC rfl func49 rfl rfl ((BO _ k) _)) ?_
   iterate 2 refine z3 ?_
   refine Xa 69 rfl ((show PV.seq 1 _ .clip=.seq (List.length [gF k]) (List.flatMap bP [gF k]) .clip from rfl)) ?_
   refine kM rfl rfl rfl rfl (cH (lO tG rfl) rfl (lO tG rfl) (lO tG rfl) rfl rfl rfl rfl (by simp) (by exact⟨_,rfl⟩) (by exact⟨rfl,rfl,al _ 3 (fun _=>rfl) _,bi _ (fun _=>rfl) _⟩) (by(rw[hL];dsimp only;simp;omega)) (by(simp;omega))) ?_
   refine Xa 70 rfl (bT bP) ?_
   refine z3 ?_
   skip
   refine ap ?_
   refine Ws<|zp2 ?_
   refine Wv tG rfl rfl rfl (by omega) (iN fa 1 (fun _=>rfl) [] (by omega)) ?_
   refine zy2 ?_
   refine zq 75 ?_
   refine Wn<|Wi rfl (fun hi4=>?_) (fun hi4=>?_)
   ·have h1:(gj.getD k []=[40,104,97,108,116,41])=True:=eq_true (oT hi4)
    refine zp4 ?_
    refine Wa 79 rfl (rz _) ?_
    refine z2 ?_ (q:=(by omega))
    refine Wd rfl rfl (bH (lO tG rfl) rfl rfl rfl rfl rfl rfl (by rw[Nat.ble_eq,eH];simp only[List.length_set,hB];(try dsimp only);simp;omega)) ?_
    refine dY 2 rfl (congrArg (fun z=>Ob.cells z 5) (dB rfl (by simp only[List.length_set];omega))) rfl ?_
    refine Wn<|aa rfl ?_
    refine zy4 ?_
    refine Wa 84 rfl (r9 _ (by omega)) ?_
    refine z2 ?_ (q:=(by omega))
    refine Wd rfl rfl (bH (lO tG rfl) rfl rfl rfl rfl rfl rfl (by rw[Nat.ble_eq,eH];simp only[List.length_set,hB];(try dsimp only);simp;omega)) ?_
    refine dY 2 rfl (congrArg (fun z=>Ob.cells z 5) (dB rfl (by simp only[List.length_set];omega))) rfl ?_
    refine Wn<|zp2 ?_
    refine Wv tG rfl rfl rfl (by omega) (iN fa 1 (fun _=>rfl) [] (by omega)) ?_
    refine zy2 ?_
    refine zq 90 ?_
    refine Wn<|Wi rfl (fun hi5=>?_) (fun hi5=>?_)
    ·have h2:(gj.getD k []=[40,99,97,117,103,104,116,41])=True:=eq_true (oT hi5)
     refine zp4 ?_
     refine Wa 94 rfl (rz _) ?_
     refine z2 ?_ (q:=(by omega))
     refine Wd rfl rfl (bH (lO tG rfl) rfl rfl rfl rfl rfl rfl (by rw[Nat.ble_eq,eH];simp only[List.length_set,hB];(try dsimp only);simp;omega)) ?_
     refine dY 2 rfl (congrArg (fun z=>Ob.cells z 5) (dB rfl (by simp only[List.length_set];omega))) rfl ?_
     refine Wn<|aa rfl ?_
     refine zy4 ?_
     refine Wa 99 rfl (r9 _ (by omega)) ?_
     refine z2 ?_ (q:=(by omega))
     refine Wd rfl rfl (bH (lO tG rfl) rfl rfl rfl rfl rfl rfl (by rw[Nat.ble_eq,eH];simp only[List.length_set,hB];(try dsimp only);simp;omega)) ?_
     refine dY 2 rfl (congrArg (fun z=>Ob.cells z 5) (dB rfl (by simp only[List.length_set];omega))) rfl ?_
     refine Wn<|aa rfl ?_
     refine z1 ?_
     refine dY 2 rfl (congrArg (fun z=>Ob.cells (List.flatMap ar z) 5) (show _=o9 M (k+1) from(lS hn h1 h2).symm)) rfl ?_
     refine zs2 ?_
     exact⟨k+1,[6],(by omega),(by omega),(cV (sub:=by repeat (first|exact ez|refine dA (by first|exact cq rfl|exact cq (GL k)|exact cq (congrArg i64 (by(rw[bB];unfold wrap64;omega)))) ?_)))⟩
    have h2:(gj.getD k []=[40,99,97,117,103,104,116,41])=False:=eq_false (oF hi5)
    refine Wj<|aa rfl ?_
    refine z1 ?_
    refine dY 2 rfl (congrArg (fun z=>Ob.cells (List.flatMap ar z) 5) (show _=o9 M (k+1) from(lS hn h1 h2).symm)) rfl ?_
    refine zs2 ?_
    exact⟨k+1,[6],(by omega),(by omega),(cV (sub:=by repeat (first|exact ez|refine dA (by first|exact cq rfl|exact cq (GL k)|exact cq (congrArg i64 (by(rw[bB];unfold wrap64;omega)))) ?_)))⟩
   have h1:(gj.getD k []=[40,104,97,108,116,41])=False:=eq_false (oF hi4)
   refine Wj<|zp2 ?_
   refine Wv tG rfl rfl rfl (by omega) (iN fa 1 (fun _=>rfl) [] (by omega)) ?_
   refine zy2 ?_
   refine zq 90 ?_
   refine Wn<|Wi rfl (fun hi5=>?_) (fun hi5=>?_)
   ·have h2:(gj.getD k []=[40,99,97,117,103,104,116,41])=True:=eq_true (oT hi5)
    refine zp4 ?_
    refine Wa 94 rfl (rz _) ?_
    refine z2 ?_ (q:=(by omega))
    refine Wd rfl rfl (bH (lO tG rfl) rfl rfl rfl rfl rfl rfl (by rw[Nat.ble_eq,eH];simp only[List.length_set,hB];(try dsimp only);simp;omega)) ?_
    refine dY 2 rfl (congrArg (fun z=>Ob.cells z 5) (dB rfl (by simp only[List.length_set];omega))) rfl ?_
    refine Wn<|aa rfl ?_
    refine zy4 ?_
    refine Wa 99 rfl (r9 _ (by omega)) ?_
    refine z2 ?_ (q:=(by omega))
    refine Wd rfl rfl (bH (lO tG rfl) rfl rfl rfl rfl rfl rfl (by rw[Nat.ble_eq,eH];simp only[List.length_set,hB];(try dsimp only);simp;omega)) ?_
    refine dY 2 rfl (congrArg (fun z=>Ob.cells z 5) (dB rfl (by simp only[List.length_set];omega))) rfl ?_
    refine Wn<|aa rfl ?_
    refine z1 ?_
    refine dY 2 rfl (congrArg (fun z=>Ob.cells (List.flatMap ar z) 5) (show _=o9 M (k+1) from(lS hn h1 h2).symm)) rfl ?_
    refine zs2 ?_
    exact⟨k+1,[6],(by omega),(by omega),(cV (sub:=by repeat (first|exact ez|refine dA (by first|exact cq rfl|exact cq (GL k)|exact cq (congrArg i64 (by(rw[bB];unfold wrap64;omega)))) ?_)))⟩
   have h2:(gj.getD k []=[40,99,97,117,103,104,116,41])=False:=eq_false (oF hi5)
   refine Wj<|aa rfl ?_
   refine z1 ?_
   refine dY 2 rfl (congrArg (fun z=>Ob.cells (List.flatMap ar z) 5) (show _=o9 M (k+1) from(lS hn h1 h2).symm)) rfl ?_
   refine zs2 ?_
   exact⟨k+1,[6],(by omega),(by omega),(cV (sub:=by repeat (first|exact ez|refine dA (by first|exact cq rfl|exact cq (GL k)|exact cq (congrArg i64 (by(rw[bB];unfold wrap64;omega)))) ?_)))⟩
  have hn:kf k=k:=by have:=oF hi3;rw[hN]at this;unfold kf;rw[if_neg (by omega)]
  refine Wj<|zp5 ?_
  refine Wa 47 rfl (rz _) ?_
  refine z2 ?_ (q:=(by omega))
  refine Wd rfl rfl (bH (lO tG rfl) rfl rfl rfl rfl rfl rfl (by rw[Nat.ble_eq,eH,hB];(try dsimp only);simp;omega)) ?_
  refine dY 2 rfl (congrArg (fun z=>Ob.cells z 5) (dB rfl (by omega))) rfl ?_
  refine Wn<|zp3 ?_
  refine Wa 51 rfl (zI9 w3) ?_
  refine zy3 ?_
  refine Wa 54 rfl (r9 _ (by omega)) ?_
  refine z2 ?_ (q:=(by omega))
  refine Wd rfl rfl (bH (lO tG rfl) rfl rfl rfl rfl rfl rfl (by rw[Nat.ble_eq,eH,List.length_set,hB];(try dsimp only);simp;omega)) ?_
  refine dY 2 rfl (congrArg (fun z=>Ob.cells z 5) (dB rfl (by rw[List.length_set];omega))) rfl ?_
  refine Wn<|Ws<|am [0,0,0,0,0,0,0,0,0,0,0,0,0,0,3,0] [0,1,2,3,4,5,6,7,8,9,10,11,12,13,14,15] mG rfl (by kernel_rfl) ?_
  iterate 3 refine z3 ?_
  refine Xi tG rfl rfl rfl rfl (fun _=>rfl) (by omega) (iN fa 1 (fun _=>rfl) [] (by omega)) ?_
  iterate 4 refine z3 ?_
  refine Xi tG rfl rfl rfl rfl (fun _=>rfl) (by omega) (iN fa 1 (fun _=>rfl) [] (by omega)) ?_
  iterate 2 refine z3 ?_
  refine Xc rfl rfl rfl rfl (fun _=>dC rfl func49 rfl rfl ((BO _ k) _)) ?_
  iterate 2 refine z3 ?_
  refine Xa 69 rfl ((show PV.seq 1 _ .clip=.seq (List.length [gF k]) (List.flatMap bP [gF k]) .clip from rfl)) ?_
  refine kM rfl rfl rfl rfl (cH (lO tG rfl) rfl (lO tG rfl) (lO tG rfl) rfl rfl rfl rfl (by simp) (by exact⟨_,rfl⟩) (by exact⟨rfl,rfl,al _ 3 (fun _=>rfl) _,bi _ (fun _=>rfl) _⟩) (by(rw[hL];dsimp only;simp;omega)) (by(simp;omega))) ?_
  refine Xa 70 rfl (bT bP) ?_
  refine z3 ?_
  skip
  refine ap ?_
  refine Ws<|zp2 ?_
  refine Wv tG rfl rfl rfl (by omega) (iN fa 1 (fun _=>rfl) [] (by omega)) ?_
  refine zy2 ?_
  refine zq 75 ?_
  refine Wn<|Wi rfl (fun hi4=>?_) (fun hi4=>?_)
  ·have h1:(gj.getD k []=[40,104,97,108,116,41])=True:=eq_true (oT hi4)
   refine zp4 ?_
   refine Wa 79 rfl (rz _) ?_
   refine z2 ?_ (q:=(by omega))
   refine Wd rfl rfl (bH (lO tG rfl) rfl rfl rfl rfl rfl rfl (by rw[Nat.ble_eq,eH];simp only[List.length_set,hB];(try dsimp only);simp;omega)) ?_
   refine dY 2 rfl (congrArg (fun z=>Ob.cells z 5) (dB rfl (by simp only[List.length_set];omega))) rfl ?_
   refine Wn<|aa rfl ?_
   refine zy4 ?_
   refine Wa 84 rfl (r9 _ (by omega)) ?_
   refine z2 ?_ (q:=(by omega))
   refine Wd rfl rfl (bH (lO tG rfl) rfl rfl rfl rfl rfl rfl (by rw[Nat.ble_eq,eH];simp only[List.length_set,hB];(try dsimp only);simp;omega)) ?_
   refine dY 2 rfl (congrArg (fun z=>Ob.cells z 5) (dB rfl (by simp only[List.length_set];omega))) rfl ?_
   refine Wn<|zp2 ?_
   refine Wv tG rfl rfl rfl (by omega) (iN fa 1 (fun _=>rfl) [] (by omega)) ?_
   refine zy2 ?_
   refine zq 90 ?_
   refine Wn<|Wi rfl (fun hi5=>?_) (fun hi5=>?_)
   ·have h2:(gj.getD k []=[40,99,97,117,103,104,116,41])=True:=eq_true (oT hi5)
    refine zp4 ?_
    refine Wa 94 rfl (rz _) ?_
    refine z2 ?_ (q:=(by omega))
    refine Wd rfl rfl (bH (lO tG rfl) rfl rfl rfl rfl rfl rfl (by rw[Nat.ble_eq,eH];simp only[List.length_set,hB];(try dsimp only);simp;omega)) ?_
    refine dY 2 rfl (congrArg (fun z=>Ob.cells z 5) (dB rfl (by simp only[List.length_set];omega))) rfl ?_
    refine Wn<|aa rfl ?_
    refine zy4 ?_
    refine Wa 99 rfl (r9 _ (by omega)) ?_
    refine z2 ?_ (q:=(by omega))
    refine Wd rfl rfl (bH (lO tG rfl) rfl rfl rfl rfl rfl rfl (by rw[Nat.ble_eq,eH];simp only[List.length_set,hB];(try dsimp only);simp;omega)) ?_
    refine dY 2 rfl (congrArg (fun z=>Ob.cells z 5) (dB rfl (by simp only[List.length_set];omega))) rfl ?_
    refine Wn<|aa rfl ?_
    refine z1 ?_
    refine dY 2 rfl (congrArg (fun z=>Ob.cells (List.flatMap ar z) 5) (show _=o9 M (k+1) from(lS hn h1 h2).symm)) rfl ?_
    refine zs2 ?_
    exact⟨k+1,[6],(by omega),(by omega),(cV (sub:=by repeat (first|exact ez|refine dA (by first|exact cq rfl|exact cq (GL k)|exact cq (congrArg i64 (by(rw[bB];unfold wrap64;omega)))) ?_)))⟩
   have h2:(gj.getD k []=[40,99,97,117,103,104,116,41])=False:=eq_false (oF hi5)
   refine Wj<|aa rfl ?_
   refine z1 ?_
   refine dY 2 rfl (congrArg (fun z=>Ob.cells (List.flatMap ar z) 5) (show _=o9 M (k+1) from(lS hn h1 h2).symm)) rfl ?_
   refine zs2 ?_
   exact⟨k+1,[6],(by omega),(by omega),(cV (sub:=by repeat (first|exact ez|refine dA (by first|exact cq rfl|exact cq (GL k)|exact cq (congrArg i64 (by(rw[bB];unfold wrap64;omega)))) ?_)))⟩
  have h1:(gj.getD k []=[40,104,97,108,116,41])=False:=eq_false (oF hi4)
  refine Wj<|zp2 ?_
  refine Wv tG rfl rfl rfl (by omega) (iN fa 1 (fun _=>rfl) [] (by omega)) ?_
  refine zy2 ?_
  refine zq 90 ?_
  refine Wn<|Wi rfl (fun hi5=>?_) (fun hi5=>?_)
  ·have h2:(gj.getD k []=[40,99,97,117,103,104,116,41])=True:=eq_true (oT hi5)
   refine zp4 ?_
   refine Wa 94 rfl (rz _) ?_
   refine z2 ?_ (q:=(by omega))
   refine Wd rfl rfl (bH (lO tG rfl) rfl rfl rfl rfl rfl rfl (by rw[Nat.ble_eq,eH];simp only[List.length_set,hB];(try dsimp only);simp;omega)) ?_
   refine dY 2 rfl (congrArg (fun z=>Ob.cells z 5) (dB rfl (by simp only[List.length_set];omega))) rfl ?_
   refine Wn<|aa rfl ?_
   refine zy4 ?_
   refine Wa 99 rfl (r9 _ (by omega)) ?_
   refine z2 ?_ (q:=(by omega))
   refine Wd rfl rfl (bH (lO tG rfl) rfl rfl rfl rfl rfl rfl (by rw[Nat.ble_eq,eH];simp only[List.length_set,hB];(try dsimp only);simp;omega)) ?_
   refine dY 2 rfl (congrArg (fun z=>Ob.cells z 5) (dB rfl (by simp only[List.length_set];omega))) rfl ?_
   refine Wn<|aa rfl ?_
   refine z1 ?_
   refine dY 2 rfl (congrArg (fun z=>Ob.cells (List.flatMap ar z) 5) (show _=o9 M (k+1) from(lS hn h1 h2).symm)) rfl ?_
   refine zs2 ?_
   exact⟨k+1,[6],(by omega),(by omega),(cV (sub:=by repeat (first|exact ez|refine dA (by first|exact cq rfl|exact cq (GL k)|exact cq (congrArg i64 (by(rw[bB];unfold wrap64;omega)))) ?_)))⟩
  have h2:(gj.getD k []=[40,99,97,117,103,104,116,41])=False:=eq_false (oF hi5)
  refine Wj<|aa rfl ?_
  refine z1 ?_
  refine dY 2 rfl (congrArg (fun z=>Ob.cells (List.flatMap ar z) 5) (show _=o9 M (k+1) from(lS hn h1 h2).symm)) rfl ?_
  refine zs2 ?_
  exact⟨k+1,[6],(by omega),(by omega),(cV (sub:=by repeat (first|exact ez|refine dA (by first|exact cq rfl|exact cq (GL k)|exact cq (congrArg i64 (by(rw[bB];unfold wrap64;omega)))) ?_)))⟩
 have hge:k=167:=by have:=oF hi2;rw[hA]at this;omega
 have hB:=uU M k
 have eN:tVm (Ga c,0)=tVm (an4 c (o9 M k) (du k),0):=by rw[hge,S2,hMt]
 generalize o9 M k=b0 at hB eN ⊢
 generalize du k=l0 at eN ⊢
 refine aU ?_
 refine zp2 ?_
 refine Wm 102 rfl (oE (Nat.le_refl _)) ?_
 refine m7 102 2 _ M rfl rfl (by rw[eH,hB];exact Nat.le_refl _) ?_
 refine Wa 102 rfl (show _=sq ar b0 from ax1 hB) ?_
 refine zs5 ?_
 refine zR ?_
 rw[eN];rfl
def wP:Nat->Nat->List Int
 | 0,_=>[]
 | k+1,u=>((u%256:Nat):Int)::wP k (u/256)
def Hm(k:Nat):∀u:Nat,u<256 ^ k->pm (wP k u)=u:=by
 induction k with
 | zero=>intro u h;simp at h;simp[wP,pm,h]
 | succ k ih =>
  intro u h
  rw[Nat.pow_succ]at h
  simp only[wP,pm,ih (u/256) (by omega),Int.toNat_natCast]
  omega
def SO(u:Nat):gI u=wP 8 u:=by
 simp only[gI,wP,Nat.div_div_eq_div_mul]
 rfl
def Fq(u:Nat)(h:u<18446744073709551616):pm (gI u)=u:=by
 rw[SO];exact Hm 8 u (by rw[show(256:Nat) ^ 8=18446744073709551616 from by decide];exact h)
def Oe{n:Int}(h:ab n):Ik (rk n)=n:=by
 have e:(rk n).map (fun b=>(b.toNat:Int))=gI (U n):=by
  unfold rk
  rw[List.map_map]
  have:∀x∈gI (U n),((fun b:UInt8=>(b.toNat:Int)) ∘ fun x:Int=>UInt8.ofNat x.toNat) x=id x:=by
   intro x hx
   have:=SH (U n) x hx
   simp only[Function.comp,id]
   rw[UInt8.toNat_ofNat']
   omega
  rw[List.map_congr_left this,List.map_id]
 unfold Ik
 rw[e,Fq _ (xM n)]
 exact S_U n h
def stM(m:bf)(a n:Int):bf:=⟨d7 m.b a.toNat (rk n),m.old++[⟨a,(m.b.drop a.toNat).take 8⟩]⟩
def FL{m:bf}{a n:Int}(h0:0<=a)(h1:0<n)(h2:a+n<=m.b.length):aV m a n=true:=by
 unfold aV
 rw[decide_eq_true_eq]
 omega
def qR{m:bf}{a:Int}(h0:0<=a)(h1:a%8=0)(h2:a+8<=m.b.length):cP m a=0:=by
 unfold cP
 rw[FL h0 (by omega) h2,if_pos rfl,if_pos (by rw[Int.tmod_eq_emod_of_nonneg h0];exact h1)]
def GU{m:bf}{a:Int}(n:Int)(h0:0<=a)(h2:a+8<=m.b.length):bV m a (rk n)=(stM m a n,0):=by
 unfold bV
 rw[jD,if_pos (show aV m a ((8:Nat):Int)=true from FL h0 (by omega) h2),if_neg (by intro h;have:=congrArg List.length h;rw[jD]at this;cases this)]
 rfl
def SA{m:bf}{a:Int}(n:Int)(h0:0<=a)(h1:a%8=0)(h2:a+8<=m.b.length):aH m a n=(stM m a n,0):=by
 unfold aH
 rw[if_pos (qR h0 h1 h2),GU n h0 h2]
def ym{m:bf}{a n:Int}(h0:0<=a)(h2:a+8<=m.b.length):(stM m a n).b.length=m.b.length:=by
 unfold stM
 exact pq (by rw[jD];omega)
def UX{l x:List UInt8}{k:Nat}(h:k+x.length<=l.length):((d7 l k x).drop k).take x.length=x:=by
 unfold d7
 rw[List.append_assoc,List.drop_left' (by rw[List.length_take];omega),List.take_left' rfl]
def JE{l x:List UInt8}{k c n:Nat}(h:c+n<=k)(h2:k<=l.length):((d7 l k x).drop c).take n=(l.drop c).take n:=by
 unfold d7
 rw[List.append_assoc,List.drop_append_of_le_length (by rw[List.length_take];omega),List.take_append_of_le_length (by rw[List.length_drop,List.length_take];omega),List.drop_take,List.take_take,Nat.min_eq_left (by omega)]
def If{m:bf}{a n:Int}(hn:ab n)(h0:0<=a)(h1:a%8=0)(h2:a+8<=m.b.length):an (stM m a n) a=(n,0):=by
 unfold an
 rw[qR h0 h1 (by rw[ym h0 h2];exact h2),if_pos rfl]
 have e:((stM m a n).b.drop a.toNat).take 8=rk n:=UX (x:=rk n) (by rw[jD];omega)
 rw[e,Oe hn]
def Hn{m:bf}{a b n:Int}(h0:0<=b)(h1:b%8=0)(h3:b+8<=a)(h2:a+8<=m.b.length):an (stM m a n) b=an m b:=by
 unfold an
 rw[qR h0 h1 (by rw[ym (by omega) h2];omega),qR h0 h1 (by omega),if_pos rfl,if_pos rfl]
 have e:((stM m a n).b.drop b.toNat).take 8=(m.b.drop b.toNat).take 8:=JE (by omega) (by omega)
 rw[e]
structure gP (m:bf) (L:Nat) (g:Int->Int):Prop where
 len:m.b.length=L
 cell:∀a:Int,0<=a->a%8=0->a+8<=(L:Int)->an m a=(g a,0)
def jO(g:Int->Int)(a n x:Int):Int:=if x=a then n else g x
def JQ{l x:List UInt8}{k c n:Nat}(h:k+x.length<=c)(h2:k+x.length<=l.length):((d7 l k x).drop c).take n=(l.drop c).take n:=by
 unfold d7
 have e:(l.take k++x).length=k+x.length:=by rw[List.length_append,List.length_take];omega
 rw[List.drop_append,List.drop_eq_nil_of_le (by rw[e];exact h),List.nil_append,e,List.drop_drop,show k+x.length+(c-(k+x.length))=c by omega]
def G9{m:bf}{a b n:Int}(h0:0<=a)(h1:b%8=0)(h3:a+8<=b)(h2:b+8<=m.b.length):an (stM m a n) b=an m b:=by
 unfold an
 rw[qR (by omega) h1 (by rw[ym (by omega) (by omega)];omega),qR (by omega) h1 (by omega),if_pos rfl,if_pos rfl]
 have e:((stM m a n).b.drop b.toNat).take 8=(m.b.drop b.toNat).take 8:=JQ (by rw[jD];omega) (by rw[jD];omega)
 rw[e]
def okA(L:Nat)(a:Int):Bool:=decide (0<=a)&&decide (a%8=0)&&decide (a+8<=(L:Int))
def eg{L:Nat}{a:Int}:okA L a=true↔0<=a/\a%8=0/\a+8<=(L:Int):=by unfold okA;simp only[Bool.and_eq_true,decide_eq_true_eq,and_assoc]
def gP.store{m:bf}{L:Nat}{g:Int->Int}(h:gP m L g){a n:Int}(hn:ab n)(ha:okA L a=true):gP (stM m a n) L (jO g a n):=by
 obtain⟨h0,h1,h2⟩:=eg.1 ha
 have hl:=h.len
 refine⟨(ym h0 (by rw[hl];exact h2)).trans hl,fun x x0 x1 x2=>?_⟩
 unfold jO
 by_cases hx:x=a
 ·subst hx
  rw[if_pos rfl]
  exact If hn h0 h1 (by rw[hl];exact h2)
 rw[if_neg hx,<-h.cell x x0 x1 x2]
 by_cases hlt:x<a
 ·exact Hn x0 x1 (by omega) (by rw[hl];exact h2)
 exact G9 h0 x1 (by omega) (by rw[hl];exact x2)
def gP.put{m:bf}{L:Nat}{g:Int->Int}(h:gP m L g){a n:Int}(ha:okA L a=true):aH m a n=(stM m a n,0):=by
 obtain⟨h0,h1,h2⟩:=eg.1 ha
 exact SA n h0 h1 (by rw[h.len];exact h2)
def gP.bare{m:bf}{L:Nat}{g:Int->Int}(h:gP m L g):gP ⟨m.b,[]⟩ L g:=⟨h.len,h.cell⟩
def B1{n:Int}(h0:0<=n)(h1:n<=1000000):W64 n=n:=I2 (by unfold ab;omega)
structure mQ (v:VVm) (L:Nat) (g:Int->Int):Prop where
 mem:gP v.mem L g
 hL:L<=65536
 hl:1072<=L
 data:v.conf.data=32
 ret:v.conf.ret=32
def UH:ab 256:=by unfold ab;omega
def mQ.store{v:VVm}{L:Nat}{g:Int->Int}(M:mQ v L g){a n:Int}(hn:ab n)(ha:okA L a=true):mQ (r6 v (aH v.mem a n).1) L (jO g a n):=by
 refine⟨?_,M.hL,M.hl,M.data,M.ret⟩
 show gP (aH v.mem a n).1 L _
 rw[M.mem.put ha]
 exact M.mem.store hn ha
def g0(a:Int):Int:=(an (ab2 []).mem a).1
structure Std (g:Int->Int):Prop where
 prim:∀i:Nat,i<130->g (32+8*(i:Int))=(i:Int)
 c16:g 16=96
 c24:g 24=104
def Std.upd{g:Int->Int}(S:Std g){a n:Int}(h:1072<=a):Std (jO g a n):=by
 refine⟨fun i hi=>?_,?_,?_⟩
 ·unfold jO;rw[if_neg (by omega)];exact S.prim i hi
 ·unfold jO;rw[if_neg (by omega)];exact S.c16
 unfold jO;rw[if_neg (by omega)];exact S.c24
def mk(v:VVm)(d r:List Int)(f:List ja):VVm:={v with d:=d,r:=r,f:=f}
def mr(v:VVm)(d r:List Int)(f:List ja)(ip fu:Int):bD:=⟨mk v d r f,ip,0,false,fu⟩
def mw(v:VVm)(d r:List Int)(f:List ja)(ip w fu:Int):bD:=⟨mk v d r f,ip,w,true,fu⟩
def mz(v:VVm)(d r:List Int)(f:List ja)(ip:Int):VWk:=⟨mk v d r f,ip,0,false,false,0⟩
variable {v : VVm} {L : Nat} {g : Int -> Int} {d r : List Int} {f : List ja} {ip fu xt q x n : Int}
def Uq:g7 (mz v d (r++[x]) f ip)=(mz v d r f ip,x):=by
 have e:eS (mk v d (r++[x]) f)=(x,mk v d r f,0):=by
  unfold eS
  rw[if_neg (by show ¬(r++[x]).length=0;simp)]
  show((r++[x]).getD ((r++[x]).length-1) 0,{mk v d (r++[x]) f with r:=(r++[x]).take ((r++[x]).length-1)},(0:Int))=_
  simp[mk]
 show(({cG (mz v d (r++[x]) f ip) (eS (mk v d (r++[x]) f)).2.2 with v:=(eS (mk v d (r++[x]) f)).2.1}:VWk),(eS (mk v d (r++[x]) f)).1)=_
 rw[e];rfl
def RM(M:mQ v L g)(h:r.length<32):dS (mz v d r f ip) n=mz v d (r++[n]) f ip:=by
 have e:ga (mk v d r f) n=(mk v d (r++[n]) f,0):=by
  unfold ga
  rw[if_neg (by show ¬v.conf.ret<=(r.length:Int);rw[M.ret];omega)]
  rfl
 show({cG (mz v d r f ip) (ga (mk v d r f) n).2 with v:=(ga (mk v d r f) n).1}:VWk)=_
 rw[e];rfl
def QP(M:mQ v L g)(h:okA L x=true):bn (mz v d r f ip) x=(mz v d r f ip,g x):=by
 obtain⟨h0,h1,h2⟩:=eg.1 h
 show(cG (mz v d r f ip) (an v.mem x).2,(an v.mem x).1)=_
 rw[M.mem.cell x h0 h1 h2];rfl
def Vp(M:mQ v L g)(h:okA L ip=true):jB (mz v d r f ip)=mz v d r f (ip+8):=by
 obtain⟨h0,h1,h2⟩:=eg.1 h
 have:=M.hL
 show(⟨mk v d r f,W64 (ip+8),0,false,false,0⟩:VWk)=_
 rw[B1 (by omega) (by omega)];rfl
def lV(k:VWk)(xt q:Int):VWk :=
 if 300<=q then cG k (-14)else
 if q=256 then {dS k k.ip with ip:=W64 (xt+8)} else
 if q=257 then jw k (W64 (xt+16))else
 if q=258 then jw (bn k (W64 (xt+16))).1 (bn k (W64 (xt+16))).2 else
 if q=259 then(let a:=bn k (W64 (xt+8));{dS (jw a.1 (W64 (xt+16))) (jw a.1 (W64 (xt+16))).ip with ip:=a.2})else
 if q=260 then o7 k xt else
 if 23<=q then {cG k (doS k.v q).2 with v:=(doS k.v q).1} else
 if (r8 k (aq.getD q.toNat [])).2 then(r8 k (aq.getD q.toNat [])).1 else FI (r8 k (aq.getD q.toNat [])).1 (aq.getD q.toNat [])
def Cu{k:VWk}(h:az k.v xt=(q,0)):qZ k xt=lV k xt q:=by
 unfold qZ lV
 rw[h]
 rfl
def Xu(M:mQ v L g)(hx:okA L xt=true)(hq:g xt=q)(ok:eU q):az (mk v d r f) xt=(q,0):=by
 obtain⟨h0,h1,h2⟩:=eg.1 hx
 show(if (an v.mem xt).2=0 then(if eU (an v.mem xt).1 then((an v.mem xt).1,0)else(0,-9))else(0,(an v.mem xt).2))=_
 rw[M.mem.cell xt h0 h1 h2]
 show(if eU (g xt)then(g xt,(0:Int))else(0,-9))=_
 rw[hq,if_pos ok]
def JL(ahead:bD)(fu:Int)(k:VWk):bD×Bool×Int :=
 if k.bad=0 then(⟨k.v,k.ip,k.w,k.dof,fu⟩,k.over,0)else((cp ahead k.bad).1,false,(cp ahead k.bad).2)
def Sn(r:bD)(q:VWk×Int):bD×Bool×Int:=JL ⟨r.vm,q.1.ip,0,false,W64 (r.fuel-1)⟩ (W64 (r.fuel-1)) (if q.1.bad=0 then qZ q.1 q.2 else q.1)
def yN(r:bD):VWk×Int :=
 let k0:VWk:=⟨r.vm,r.ip,0,false,false,0⟩
 if r.dof then(k0,r.w)else(let a:=bn k0 r.ip;(if a.1.bad=0 then jB a.1 else a.1,a.2))
def Fy{r:bD}(h:¬r.fuel<1):bS r=Sn r (yN r):=by unfold bS;rw[if_neg h];rfl
def X6{s:bD}(M:mQ v L g)(hs:s.fuel=fu)(hv:s.vm=mk v d r f)(hf:1<=fu/\fu<=300000)(e:yN s=(mz v d r f ip,xt))(h2:okA L xt=true)(hq:g xt=q)(ok:eU q):
  bS s=JL (mr v d r f ip (fu-1)) (fu-1) (lV (mz v d r f ip) xt q):=by
 rw[Fy (by omega),e]
 unfold Sn
 dsimp only
 rw[if_pos (show(mz v d r f ip).bad=0 from rfl),Cu (Xu M h2 hq ok:az (mz v d r f ip).v xt=(q,0)),hs,hv,Rp hf.1 hf.2]
 rfl
def Yj(M:mQ v L g)(hf:1<=fu/\fu<=300000)(hi:okA L ip=true)(hx:g ip=xt)(h2:okA L xt=true)(hq:g xt=q)(ok:eU q):
  bS (mr v d r f ip fu)=JL (mr v d r f (ip+8) (fu-1)) (fu-1) (lV (mz v d r f (ip+8)) xt q):=by
 refine X6 M rfl rfl hf ?_ h2 hq ok
 show((if (bn (mz v d r f ip) ip).1.bad=0 then jB (bn (mz v d r f ip) ip).1 else(bn (mz v d r f ip) ip).1),(bn (mz v d r f ip) ip).2)=_
 rw[QP M hi,hx]
 dsimp only
 rw[if_pos (show(mz v d r f ip).bad=0 from rfl),Vp M hi]
def aw2(M:mQ v L g)(hf:1<=fu/\fu<=300000)(h2:okA L xt=true)(hq:g xt=q)(ok:eU q):
  bS (mw v d r f ip xt fu)=JL (mr v d r f ip (fu-1)) (fu-1) (lV (mz v d r f ip) xt q) :=
 X6 (s:=mw v d r f ip xt fu) M rfl rfl hf rfl h2 hq ok
def Go1(s t:bD):Prop:=bS s=(t,false,0)
inductive GoN:Nat->bD->bD->Prop
 | nil (s:bD):GoN 0 s s
 | cons {n:Nat} {s t u:bD}:Go1 s t->GoN n t u->GoN (n+1) s u
def GoN.trans{a b:Nat}{s t u:bD}(h:GoN a s t)(k:GoN b t u):GoN (b+a) s u:=by
 induction h with
 | nil s=>exact k
 | cons h1 _ ih=>exact .cons h1 (ih k)
def GoN.one{s t:bD}(h:Go1 s t):GoN 1 s t:=.cons h (.nil _)
def GoN.run{n:Nat}{s t:bD}(h:GoN n s t):∀k,xl (k+n) s=xl k t:=by
 induction h with
 | nil s=>intro k;rfl
 | cons h1 _ ih =>
  intro k
  unfold Go1 at h1
  rw[<-Nat.add_assoc,L2 (by rw[h1];simp),h1]
  exact ih k
section
variable {d' r' : List Int} {f' : List ja} {v' : VVm} {ip' w : Int}
def av7(M:mQ v L g)(hf:1<=fu/\fu<=300000)(hi:okA L ip=true)(hx:g ip=xt)(h2:okA L xt=true)(hq:g xt=q)(ok:eU q)
  (hk:lV (mz v d r f (ip+8)) xt q=mz v' d' r' f' ip'):Go1 (mr v d r f ip fu) (mr v' d' r' f' ip' (fu-1)):=by
 unfold Go1;rw[Yj M hf hi hx h2 hq ok,hk];rfl
def Yy(M:mQ v L g)(hf:1<=fu/\fu<=300000)(h2:okA L xt=true)(hq:g xt=q)(ok:eU q)
  (hk:lV (mz v d r f ip) xt q=mz v' d' r' f' ip'):Go1 (mw v d r f ip xt fu) (mr v' d' r' f' ip' (fu-1)):=by
 unfold Go1;rw[aw2 M hf h2 hq ok,hk];rfl
end
def ab5:lV (mz v d (r++[x]) f ip) xt 0=mz v d r f x:=by
 have e:lV (mz v d (r++[x]) f ip) xt 0={(g7 (mz v d (r++[x]) f ip)).1 with ip:=(g7 (mz v d (r++[x]) f ip)).2}:=by kernel_rfl
 rw[e,Uq];rfl
def ZZ:JL (mr v d r f ip fu) fu (lV (mz v d r f ip) xt 8)=(mr v d r f ip fu,true,0):=by kernel_rfl
def UU(M:mQ v L g)(hx:okA L xt=true)(hr:r.length<32):lV (mz v d r f ip) xt 256=mz v d (r++[ip]) f (xt+8):=by
 have e:lV (mz v d r f ip) xt 256={dS (mz v d r f ip) ip with ip:=W64 (xt+8)}:=by kernel_rfl
 obtain⟨h0,h1,h2⟩:=eg.1 hx
 have:=M.hL
 rw[e,RM M hr,B1 (by omega) (by omega)];rfl
def QW{u:VVm}{d':List Int}(h1:23<=q)(h2:q<=129)(h:doS (mk v d r f) q=(mk u d' r f,0)):lV (mz v d r f ip) xt q=mz u d' r f ip:=by
 unfold lV
 rw[if_neg (by omega),if_neg (by omega),if_neg (by omega),if_neg (by omega),if_neg (by omega),if_neg (by omega),if_pos h1]
 show({cG (mz v d r f ip) (doS (mk v d r f) q).2 with v:=(doS (mk v d r f) q).1}:VWk)=_
 rw[h];rfl
section
variable {d' r' : List Int} {f' : List ja} {v' : VVm} {ip' w : Int}
def tE{i:Nat}(hi:i<130):eU (i:Int):=.inl (by omega)
def GB{i:Nat}(M:mQ v L g)(hi:i<130):okA L (32+8*(i:Int))=true:=eg.2 (by have:=M.hl;omega)
def aB3(M:mQ v L g)(S:Std g)(i:Nat)(hi:i<130)(hf:1<=fu/\fu<=300000)(ha:okA L ip=true)(hx:g ip=32+8*(i:Int))
  (hk:lV (mz v d r f (ip+8)) (32+8*(i:Int)) (i:Int)=mz v' d' r' f' ip'):Go1 (mr v d r f ip fu) (mr v' d' r' f' ip' (fu-1)) :=
 av7 M hf ha hx (GB M hi) (S.prim i hi) (tE hi) hk
end
def L3(M:mQ v L g)(S:Std g)(hf:1<=fu/\fu<=300000):bS (mr v d r f 16 fu)=(mr v d r f 24 (fu-1),true,0):=by
 have h:=M.hl
 rw[Yj M hf (eg.2 (by omega)) S.c16 (eg.2 (by omega)) (S.prim 8 (by decide)) (tE (i:=8) (by decide))]
 exact ZZ
def Pl(M:mQ v L g)(hf:1<=fu/\fu<=300000)(h2:okA L xt=true)(hq:g xt=256)(hr:r.length<32):Go1 (mw v d r f ip xt fu) (mr v d (r++[ip]) f (xt+8) (fu-1)) :=
 Yy M hf h2 hq (.inr (.inl (by omega))) (UU M h2 hr)
open Go.RowKit
def QS:300<=kC:=by decide +kernel
def FF{k:VWk}{xt q:Int}(h:az k.v xt=(q,0))(hq:300<=q):qZ k xt=cG k (-14):=by
 rw[Cu h];unfold lV;rw[if_pos hq]
def LD{ah:bD}{fu:Int}{k:VWk}(h:k.bad≠0)(hf:ah.vm.f=[]):(JL ah fu k).2.2≠0:=by
 unfold JL
 rw[if_neg h]
 unfold cp
 rw[if_pos (by rw[hf];rfl)]
 exact h
def Sq{s t:bD}{o:Bool}(hf:s.vm.f=[])(hu:¬s.fuel<1)(h:bS s=(t,o,0)):¬(cD s).1=true:=by
 intro hc
 rw[Fy hu]at h
 have h2:(Sn s (yN s)).2.2=0:=by rw[h]
 unfold cD AZ at hc
 by_cases hd:s.dof=true
 ·rw[if_pos hd]at hc
  have hk:=oT hc
  have e:yN s=(⟨s.vm,s.ip,0,false,false,0⟩,s.w):=by unfold yN;dsimp only;rw[if_pos hd]
  rw[e]at h2
  unfold Sn at h2
  dsimp only at h2
  rw[if_pos rfl,FF (k:=⟨s.vm,s.ip,0,false,false,0⟩) (q:=kC) (Prod.ext hk.2 hk.1) QS]at h2
  refine LD ?_ ?_ h2
  ·show(-14:Int)≠0;decide
  exact hf
 rw[if_neg hd]at hc
 by_cases hm:(an s.vm.mem s.ip).2≠0
 ·rw[if_pos hm]at hc;cases hc
 rw[if_neg hm]at hc
 have hk:=oT hc
 have hm0:(an s.vm.mem s.ip).2=0:=Decidable.not_not.1 hm
 have e:yN s=(⟨s.vm,W64 (s.ip+8),0,false,false,0⟩,(an s.vm.mem s.ip).1):=by
  unfold yN
  dsimp only
  rw[if_neg hd]
  have e1:bn ⟨s.vm,s.ip,0,false,false,0⟩ s.ip=(⟨s.vm,s.ip,0,false,false,0⟩,(an s.vm.mem s.ip).1):=by
   show(cG ⟨s.vm,s.ip,0,false,false,0⟩ (an s.vm.mem s.ip).2,(an s.vm.mem s.ip).1)=_
   rw[hm0];rfl
  rw[e1]
  rfl
 rw[e]at h2
 unfold Sn at h2
 dsimp only at h2
 rw[if_pos rfl,FF (k:=⟨s.vm,W64 (s.ip+8),0,false,false,0⟩) (q:=kC) (Prod.ext hk.2 hk.1) QS]at h2
 refine LD ?_ ?_ h2
 ·show(-14:Int)≠0;decide
 exact hf
inductive GoE:Nat->bD->bD->Prop
 | nil (s:bD):GoE 0 s s
 | cons {n:Nat} {s t u:bD}:Go1 s t->s.vm.f=[]->¬s.fuel<1->GoE n t u->GoE (n+1) s u
def GoE.trans{a b:Nat}{s t u:bD}(h:GoE a s t)(k:GoE b t u):GoE (b+a) s u:=by
 induction h with
 | nil s=>exact k
 | cons h1 h2 h3 _ ih=>exact .cons h1 h2 h3 (ih k)
def X9{l:ag}{r:bD}:¬(⟨l,r,false,0⟩:EX).stops:=fun z=>z.elim (fun z=>by cases z) (fun z=>z rfl)
def GoE.ex{n:Nat}{s t:bD}(h:GoE n s t)(l:ag):∀k,oq (k+n) ⟨l,s,false,0⟩=oq k ⟨l,t,false,0⟩:=by
 induction h with
 | nil s=>intro k;rfl
 | cons h1 h2 h3 _ ih =>
  intro k
  unfold Go1 at h1
  rw[<-Nat.add_assoc,SL X9,Ov (x:=⟨l,_,false,0⟩) (Sq h2 h3 h1)]
  dsimp only
  rw[h1]
  exact ih k
def Ug{s t:bD}{o:Bool}(l:ag)(h:bS s=(t,true,0))(hf:s.vm.f=[])(hu:¬s.fuel<1)(k:Nat):oq (k+1) ⟨l,s,false,0⟩=⟨l,t,true,0⟩:=by
 rw[SL X9,Ov (x:=⟨l,_,false,0⟩) (Sq hf hu h)]
 dsimp only
 rw[h]
 exact EV (.inl rfl) k
def Cv{n:Nat}{s t:bD}{l:ag}{xt:Int}(h:GoE n (zx l.f.vm xt l.fuel) s)(hl:bS s=(t,true,0))(hf:s.vm.f=[])(hu:¬s.fuel<1)(h0:0<=l.fuel)(hn:(n:Int)<=l.fuel)(he:l.err=0):
  lN l xt={l with f:={l.f with vm:=yH t.vm},fuel:=t.fuel}:=by
 unfold lN
 obtain⟨m,hm⟩:∃m,l.fuel.toNat+2=(m+1)+n:=⟨l.fuel.toNat+1-n,by omega⟩
 have e:exR l xt=⟨l,t,true,0⟩:=by
  unfold exR BB
  rw[hm,h.ex l,Ug (o:=true) l hl hf hu]
 rw[e]
 exact An he
def vL(p:Str)(c:UInt8)(t:Str):(p++c::t).getD p.length 0=c:=by
 rw[List.getD_eq_getElem?_getD,List.getElem?_append_right (Nat.le_refl _),Nat.sub_self];rfl
def zW:∀(b p r:Str),(∀c∈b,c.toNat<=32)->(r=[]\/∃c t,r=c::t/\32<c.toNat)->k9 (p++(b++r)) p.length=p.length+b.length
 | [],p,r,_,hr=>by
  rcases hr with rfl|⟨c,t,rfl,h⟩
  ·exact DK (fun z=>by simp at z)
  refine DK (fun z=>?_)
  have:=z.2
  rw[List.nil_append,vL]at this
  omega
 | c::b,p,r,hb,hr=>by
  have h1:p.length<(p++(c::b++r)).length:=by simp
  have h2:(((p++(c::b++r)).getD p.length 0).toNat:Int)<=32:=by
   rw[List.cons_append,vL]
   have:=hb c (List.mem_cons_self ..)
   omega
  rw[Qq h1 h2]
  have ih:=zW b (p++[c]) r (fun x hx=>hb x (List.mem_cons_of_mem _ hx)) hr
  rw[List.length_append,List.length_singleton,List.append_assoc]at ih
  rw[List.cons_append,show c::(b++r)=[c]++(b++r) from rfl,ih,List.length_cons]
  omega
def E6:∀(b p r:Str),(∀c∈b,32<c.toNat)->(r=[]\/∃c t,r=c::t/\c.toNat<=32)->nq (p++(b++r)) p.length=p.length+b.length
 | [],p,r,_,hr=>by
  rcases hr with rfl|⟨c,t,rfl,h⟩
  ·exact Af (fun z=>by simp at z)
  refine Af (fun z=>?_)
  have:=z.2
  rw[List.nil_append,vL]at this
  omega
 | c::b,p,r,hb,hr=>by
  have h1:p.length<(p++(c::b++r)).length:=by simp
  have h2:32<(((p++(c::b++r)).getD p.length 0).toNat:Int):=by
   rw[List.cons_append,vL]
   have:=hb c (List.mem_cons_self ..)
   omega
  rw[Tm h1 h2]
  have ih:=E6 b (p++[c]) r (fun x hx=>hb x (List.mem_cons_of_mem _ hx)) hr
  rw[List.length_append,List.length_singleton,List.append_assoc]at ih
  rw[List.cons_append,show c::(b++r)=[c]++(b++r) from rfl,ih,List.length_cons]
  omega
def LZ(p b w q:Str)(hb:∀c∈b,c.toNat<=32)(hw0:w≠[])(hw:∀c∈w,32<c.toNat)(hq:q=[]\/∃c t,q=c::t/\c.toNat<=32):
  bu (p++(b++(w++q))) p.length=(w,min ((p.length+b.length+w.length:Nat)+1:Int) ((p.length+b.length+w.length+q.length:Nat):Int)):=by
 have h0:dr (p++(b++(w++q))) (p.length:Int)=p.length:=by
  unfold dr
  rw[if_neg (by simp;omega)]
  exact Int.toNat_natCast _
 have h1:k9 (p++(b++(w++q))) p.length=p.length+b.length:=by
  refine zW b p (w++q) hb (.inr ?_)
  cases w with
  | nil=>exact absurd rfl hw0
  | cons c t=>exact⟨c,t++q,rfl,hw c (List.mem_cons_self ..)⟩
 have h2:nq (p++(b++(w++q))) (p.length+b.length)=p.length+b.length+w.length:=by
  have:=E6 w (p++b) q hw hq
  rw[List.length_append,List.append_assoc]at this
  exact this
 unfold bu
 dsimp only
 rw[h0,h1,h2]
 refine Prod.ext ?_ ?_
 ·show((p++(b++(w++q))).take (p.length+b.length+w.length)).drop (p.length+b.length)=w
  rw[show p++(b++(w++q))=(p++b++w)++q by simp,show p.length+b.length+w.length=(p++b++w).length by simp;omega,List.take_left,show p++b++w=(p++b)++w from rfl,show p.length+b.length=(p++b).length by simp,List.drop_left]
 show min (((p.length+b.length+w.length:Nat):Int)+1) ((p++(b++(w++q))).length:Int)=_
 rw[show(p++(b++(w++q))).length=p.length+b.length+w.length+q.length by simp;omega]
def QN(p b:Str)(hb:∀c∈b,c.toNat<=32):(bu (p++b) p.length).1=[]:=by
 have h0:dr (p++b) (p.length:Int)=p.length:=by
  unfold dr
  rw[if_neg (by simp;omega)]
  exact Int.toNat_natCast _
 have h1:k9 (p++b) p.length=p.length+b.length:=by
  have:=zW b p [] hb (.inl rfl)
  rwa [List.append_nil]at this
 have h2:nq (p++b) (p.length+b.length)=p.length+b.length:=Af (fun z=>by have:=z.1;simp at this)
 unfold bu
 dsimp only
 rw[h0,h1,h2]
 apply List.drop_eq_nil_of_le
 simp
def cO:nj:=⟨4096,32,32,250,2000⟩
def vO:VVm:=Ga cO
def fO:ae:=⟨vO,im⟩
def KK:dW cO:=by unfold dW cO;decide
def ZC:(du 167).all AF=true:=by decide +kernel
def Rz:yy vO:=by
 have hl:(o9 4096 167).length=4096:=uU _ _
 refine⟨KK,?_,?_,⟨(by show(0:Nat)<=130;decide),.inr rfl⟩,?_,(by show(1368:Int)<=1368;decide),(by show(1368:Int)<=4096;decide),rfl,rfl,(by show((0:Nat):Int)<=32;decide),(by show((0:Nat):Int)<=32;decide),(by show(0:Nat)<=64;decide),?_,(by show((0:Nat):Int)<=2000;decide),(by show(0:Nat)<=16;decide),(by show(0:Int)<=vO.free;decide),(by show vO.free<=(64:Int);decide),(by show(0:Int)<=vO.next;decide),(by show vO.next<=(4611686018427387904:Int);decide),(by show(0:Nat)<=64;decide)⟩
 ·show lK ⟨o9 4096 167,[]⟩=true
  unfold lK
  simp only[List.all_nil,Bool.true_and,hl]
  decide
 ·show ib (du 167)=true
  unfold ib
  rw[ZC,l9];rfl
 ·show((o9 4096 167).length:Int)=4096
  rw[hl];rfl
 show((du 167).length:Int)<=250
 rw[l9];decide
def Xd:bb 0 vO:=⟨Rz,Nat.le_refl _,bA,bA,fun x hx=>(by cases hx),⟨bt,bt,bt⟩,bt⟩
def gO(a:Int):Int:=(an vO.mem a).1
def Kl:mQ vO 4096 gO:=by
 have hl:vO.mem.b.length=4096:=uU 4096 167
 refine⟨⟨hl,fun a h0 h1 h2=>?_⟩,by decide,by decide,rfl,rfl⟩
 unfold gO an
 rw[qR h0 h1 (by rw[hl];exact h2),if_pos rfl]
def Sx(g:Int->Int):Bool:=((List.range 167).all fun i=>decide (g (32+8*(i:Int))=(kf i:Int)))&&(decide (g 0=10)&&(decide (g 8=0)&&(decide (g 16=96)&&decide (g 24=104))))
def TN:Sx gO=true:=by kernel_rfl
structure N8 (g:Int->Int):Prop where
 prim:∀i:Nat,i<167->g (32+8*(i:Int))=(kf i:Int)
 c0:g 0=10
 c16:g 16=96
 c24:g 24=104
def Vx:N8 gO:=by
 have q:=TN
 unfold Sx at q
 simp only[Bool.and_eq_true,decide_eq_true_eq,List.all_eq_true]at q
 exact⟨fun i h=>q.1 i (List.mem_range.2 h),q.2.1,q.2.2.2.1,q.2.2.2.2⟩
def aE0:gO 8=0:=by
 have q:=TN
 unfold Sx at q
 simp only[Bool.and_eq_true,decide_eq_true_eq,List.all_eq_true]at q
 exact q.2.2.1
def N8.std{g:Int->Int}(S:N8 g):Std g:=⟨fun i h=>by rw[S.prim i (by omega)];unfold kf;rw[if_neg (by omega)],S.c16,S.c24⟩
def N8.upd{g:Int->Int}(S:N8 g){a n:Int}(h:1368<=a):N8 (jO g a n):=by
 refine⟨fun i hi=>?_,?_,?_,?_⟩
 ·unfold jO;rw[if_neg (by omega)];exact S.prim i hi
 ·unfold jO;rw[if_neg (by omega)];exact S.c0
 ·unfold jO;rw[if_neg (by omega)];exact S.c16
 unfold jO;rw[if_neg (by omega)];exact S.c24
section
variable {f : ae} {tx w : Str} {p fuel a n q : Int} {r : ag × Bool}
def Oi(hw:bu tx p=(w,a))(h0:w≠[])(e:kU (aI f tx a (max fuel 0)) w=r)(he:r.1.err=0):jv f tx p fuel=(r.1.f,r.1.at_,r.1.fuel,true,0):=by
 have:=Qp (f:=f) (s:=tx) (a:=p) (fuel:=fuel) (r:=r) (by rw[hw];exact h0) (by rw[hw];exact e) (fun z=>z.1 he)
 rw[this,he]
def sW{l:ag}{v:VVm}(h:l.err=0):fJ l (v,0)={l with f:={l.f with vm:=v}}:=by
 unfold fJ
 rw[show((v,(0:Int)):VVm×Int).2=0 from rfl,An h,if_pos h]
def RB{v:VVm}(hd:(v.d.length:Int)<v.conf.data):gD v n=({v with d:=v.d++[n]},0):=by
 unfold gD gn
 rw[if_neg (by omega)]
def XE(hw:bu tx p=(w,a))(h0:w≠[])(hf:(cd f.vm.dict w).2.2=false)(hn:dR w (an f.vm.mem 0).1=(n,true))(hc:bJ f=false)(hd:(f.vm.d.length:Int)<f.vm.conf.data):
  jv f tx p fuel=({f with vm:={f.vm with d:=f.vm.d++[n]}},a,max fuel 0,true,0):=by
 have e:kU (aI f tx a (max fuel 0)) w=({aI f tx a (max fuel 0)with f:={f with vm:={f.vm with d:=f.vm.d++[n]}}},false):=by
  unfold kU
  rw[show(aI f tx a (max fuel 0)).f=f from rfl,hf,if_neg (by decide)]
  unfold Is
  rw[show(aI f tx a (max fuel 0)).f=f from rfl,hn]
  dsimp only
  rw[if_neg (by decide),hc,if_neg (by decide)]
  unfold uW
  rw[do0 (show(aI f tx a (max fuel 0)).err=0 from rfl),show(aI f tx a (max fuel 0)).f.vm=f.vm from rfl,RB hd,sW rfl]
  rfl
 exact Oi hw h0 e rfl
def YT{v:VVm}(hw:bu tx p=(w,a))(h0:w≠[])(hf:(cd f.vm.dict w).2.2=false)(hn:dR w (an f.vm.mem 0).1=(n,true))(hc:bJ f=true)(hl:Gt f.vm n=(v,0)):
  jv f tx p fuel=({f with vm:=v},a,max fuel 0,true,0):=by
 have e:kU (aI f tx a (max fuel 0)) w=({aI f tx a (max fuel 0)with f:={f with vm:=v}},false):=by
  unfold kU
  rw[show(aI f tx a (max fuel 0)).f=f from rfl,hf,if_neg (by decide)]
  unfold Is
  rw[show(aI f tx a (max fuel 0)).f=f from rfl,hn]
  dsimp only
  rw[if_neg (by decide),hc,if_pos rfl]
  unfold th
  rw[do0 (show(aI f tx a (max fuel 0)).err=0 from rfl),show(aI f tx a (max fuel 0)).f.vm=f.vm from rfl,hl,sW rfl]
  rfl
 exact Oi hw h0 e rfl
def mY{l:ag}{x:aL}{i:Int}(hf:cd l.f.vm.dict w=(x,i,true)):kU l w=i8 l x:=by
 unfold kU
 rw[hf,if_pos rfl]
def Z9{l:ag}{x:aL}(hk:az l.f.vm x.xt=(q,0))(hc:bJ l.f=true)(hi:x.flags%2=0):i8 l x=(ri l x.xt,false):=by
 unfold i8
 rw[hk]
 dsimp only
 rw[if_neg (by decide),hc,if_neg (by simp),if_pos (by simp[hi])]
def sE{l:ag}{x:aL}(hk:az l.f.vm x.xt=(q,0))(hq:300<=q)(ho:(l8 x q&&!bJ l.f)=false)(hi:(bJ l.f&&decide (x.flags%2=0))=false):i8 l x=(rc l (bG.getD (q-300).toNat []),false):=by
 unfold i8
 rw[hk]
 dsimp only
 rw[if_neg (by decide),ho,if_neg (by decide),hi,if_neg (by decide),if_pos hq]
def U3{l:ag}{x:aL}(hk:az l.f.vm x.xt=(q,0))(hq:¬300<=q)(ho:(l8 x q&&!bJ l.f)=false)(hi:(bJ l.f&&decide (x.flags%2=0))=false):i8 l x=(lN l x.xt,true):=by
 unfold i8
 rw[hk]
 dsimp only
 rw[if_neg (by decide),ho,if_neg (by decide),hi,if_neg (by decide),if_neg hq]
end
open Go.RowKit
section
variable {v : VVm} {L : Nat} {g : Int -> Int} {n : Int}
def bF(v:VVm)(n:Int):VVm:={v with mem:=stM v.mem v.here n,here:=v.here+8}
structure gg (v:VVm) (L:Nat) (g:Int->Int):Prop where
 m:mQ v L g
 h0:0<=v.here
 h8:v.here%8=0
def x8(R:gg v L g)(h:v.here+8<=(L:Int)):lT v n=(bF v n,0):=by
 have hl:=R.m.mem.len
 have h0:=R.h0
 unfold lT bW
 rw[if_pos (by rw[Int.tmod_eq_emod_of_nonneg h0];exact R.h8)]
 unfold cJ
 rw[if_neg (by rw[jD,hl];omega),GU n h0 (by rw[hl];exact h)]
 rfl
def gx(R:gg v L g)(h:v.here+8<=(L:Int))(hn:ab n):gg (bF v n) L (jO g v.here n):=by
 have ha:okA L v.here=true:=eg.2 ⟨R.h0,R.h8,h⟩
 have h0:=R.h0
 have h8:=R.h8
 exact⟨⟨R.m.mem.store hn ha,R.m.hL,R.m.hl,R.m.data,R.m.ret⟩,by show 0<=v.here+8;omega,by show(v.here+8)%8=0;omega⟩
def it{w:CW}(R:gg w.v L g)(h:w.v.here+8<=(L:Int))(hb:w.bad=0):gi w n={w with v:=bF w.v n}:=by
 rw[QM hb,x8 R h,<-hb]
def YW:ma [40,108,105,116,41]=40:=by decide +kernel
def Uu(R:gg v L g)(h:v.here+16<=(L:Int)):Gt v n=(bF (bF v 40) n,0):=by
 have R1:=gx (n:=40) R (by omega) (by unfold ab;omega)
 unfold Gt
 have e1:ce (kN v) [40,108,105,116,41]=⟨bF v 40,[],0⟩:=by
  unfold ce
  rw[YW]
  exact it (w:=kN v) R (by show v.here+8<=_;omega) rfl
 rw[e1,it (w:=⟨bF v 40,[],0⟩) R1 (by show v.here+8+8<=_;omega) rfl]
 rfl
end
open Go.RowKit
section
variable {f : ae} {v : VVm} {L : Nat} {g : Int -> Int} {n : Int} {name : Str}
def sJ(R:gg v L g)(h:v.here<=(L:Int)):aM v.mem v.here=(v.mem,v.here,0):=by
 have hl:=R.m.mem.len
 have e:((8-v.here.tmod 8).tmod 8).toNat=0:=by
  rw[Int.tmod_eq_emod_of_nonneg R.h0,R.h8];decide
 unfold aM
 rw[e]
 unfold cJ bV aV
 rw[if_neg (by simp;omega),if_pos (by simp)]
 simp
def KZ{l:List aL}{xt flags limit:Int}(hn:cI name=0)(h:(l.length:Int)<limit)(h2:(l.length:Int)<1024):bU l name xt flags limit=(l++[⟨name,xt,flags⟩],0):=by
 unfold bU
 rw[if_neg (fun z=>z hn),if_neg (by split<;>omega)]
def gp(v:VVm)(name:Str)(flags:Int):VVm:={v with dict:=v.dict++[⟨name,v.here,flags⟩]}
def ox(R:gg v L g)(flags:Int):gg (gp v name flags) L g:=⟨⟨R.m.mem,R.m.hL,R.m.hl,R.m.data,R.m.ret⟩,R.h0,R.h8⟩
def BZ{w:FW}(R:gg w.f.vm L g)(hb:w.bad=0)(h:w.f.vm.here<=(L:Int))(hn:cI name=0)(hw:(w.f.vm.dict.length:Int)<w.f.vm.conf.words)(hw2:(w.f.vm.dict.length:Int)<1024)(flags:Int):
  fb w (aM w.f.vm.mem w.f.vm.here) (bU w.f.vm.dict name (aM w.f.vm.mem w.f.vm.here).2.1 flags w.f.vm.conf.words)={w with f:={w.f with vm:=gp w.f.vm name flags}}:=by
 rw[sJ R h,KZ hn hw hw2]
 obtain⟨f,b⟩:=w
 simp only at hb
 subst hb
 rfl
def wu{w:FW}(R:gg w.f.vm L g)(h:w.f.vm.here+8<=(L:Int))(hb:w.bad=0):b9 w n={w with f:={w.f with vm:=bF w.f.vm n}}:=by
 rw[TY hb]
 unfold FW.lay
 rw[x8 R h,<-hb]
def tL{w:FW}(M:gP w.f.vm.mem L g)(hL:16<=L)(hb:w.bad=0):dv w n={w with f:={w.f with vm:={w.f.vm with mem:=stM w.f.vm.mem 8 n}}}:=by
 unfold dv
 rw[M.put (a:=8) (eg.2 ⟨by decide,by decide,by omega⟩),Vk (by exact hb),<-hb]
def C6(f:ae)(name:Str):ae:=⟨{bF (gp f.vm name 2) 256 with mem:=stM (bF (gp f.vm name 2) 256).mem 8 (-1)},⟨f.vm.here,[],f.vm.here,f.vm.dict.length,f.vm.last,false,0⟩⟩
def NF(R:gg f.vm L g)(hx:f.comp.xt=0)(h:f.vm.here+8<=(L:Int))(hL:16<=L)(hn:cI name=0)(hw:(f.vm.dict.length:Int)<f.vm.conf.words)(hw2:(f.vm.dict.length:Int)<1024):gX f name false 0=(C6 f name,0):=by
 have hb:aK f=⟨f,0⟩:=by unfold aK;rw[if_pos hx]
 have hc:fw f false 0=⟨f,0⟩:=by unfold fw;rw[if_pos rfl,hb]
 have e1:dP ⟨f,0⟩ name 2 [256]=(⟨⟨bF (gp f.vm name 2) 256,f.comp⟩,0⟩,f.vm.here):=by
  have R1:=ox (name:=name) R 2
  unfold dP
  rw[BZ (w:=⟨f,0⟩) R rfl (by show f.vm.here<=_;omega) hn hw hw2]
  refine Prod.ext ?_ ?_
  ·show b9 ⟨⟨gp f.vm name 2,f.comp⟩,0⟩ 256=_
   rw[wu (w:=⟨⟨gp f.vm name 2,f.comp⟩,0⟩) R1 h rfl]
  show(aM f.vm.mem f.vm.here).2.1=_
  rw[sJ R (by omega)]
 have R2:=gx (n:=256) (ox (name:=name) R 2) h (by unfold ab;omega)
 unfold gX
 rw[hc,if_neg (fun z=>z rfl)]
 unfold uI
 rw[e1]
 rw[tL (w:=⟨⟨bF (gp f.vm name 2) 256,f.comp⟩,0⟩) R2.m.mem hL rfl]
 rfl
end
open Go.RowKit
section
variable {f : ae} {v : VVm} {L : Nat} {g : Int -> Int} {n : Int} {name : Str}
def Oz{D:List aL}{w:aL}{a fl:Int}(ha:a=(D.length:Int)):cz (D++[w]) a fl=(D++[{w with flags:=fl}],0):=by
 unfold cz
 rw[if_neg (by rw[List.length_append,List.length_singleton];omega)]
 have e:a.toNat=D.length:=by omega
 rw[e,show(D++[w]).getD D.length default=w by rw[List.getD_eq_getElem?_getD,List.getElem?_append_right (Nat.le_refl _),Nat.sub_self];rfl,List.set_append_right _ _ (Nat.le_refl _),Nat.sub_self]
 rfl
def Rj(f:ae)(D:List aL)(w:aL):ae:=⟨{bF f.vm 32 with dict:=D++[{w with flags:=gQ w.flags}],mem:=stM (bF f.vm 32).mem 8 0},im⟩
def VW{D:List aL}{w:aL}(R:gg f.vm L g)(hx:f.comp.xt≠0)(hcf:f.comp.cf=[])(ho:f.comp.on=false)(hd:f.vm.dict=D++[w])(hi:f.comp.dict=(D.length:Int))(h:f.vm.here+8<=(L:Int))(hL:16<=L):
  kj f=(Rj f D w,0):=by
 have hE:lM f=0:=by
  unfold lM
  rw[if_neg hx,hcf,if_neg (by decide),ho,if_neg (by simp)]
 have R1:=gx (n:=32) R h (by unfold ab;omega)
 have e1:b9 ⟨f,0⟩ 32=⟨⟨bF f.vm 32,f.comp⟩,0⟩:=by rw[wu (w:=⟨f,0⟩) R h rfl]
 have e2:sk ⟨⟨bF f.vm 32,f.comp⟩,0⟩ f.comp=(D++[{w with flags:=gQ w.flags}],0):=by
  unfold sk
  show cz f.vm.dict f.comp.dict (gQ (f.vm.dict.getD f.comp.dict.toNat default).flags)=_
  rw[hd,show f.comp.dict.toNat=D.length by omega,show(D++[w]).getD D.length default=w by rw[List.getD_eq_getElem?_getD,List.getElem?_append_right (Nat.le_refl _),Nat.sub_self];rfl,Oz hi]
 have e3:xE f=⟨⟨{bF f.vm 32 with dict:=D++[{w with flags:=gQ w.flags}],mem:=stM (bF f.vm 32).mem 8 0},f.comp⟩,0⟩:=by
  unfold xE
  rw[e1,e2]
  have e4:mv ⟨⟨bF f.vm 32,f.comp⟩,0⟩ (D++[{w with flags:=gQ w.flags}],0)=⟨⟨{bF f.vm 32 with dict:=D++[{w with flags:=gQ w.flags}]},f.comp⟩,0⟩:=rfl
  rw[e4,tL (w:=⟨⟨{bF f.vm 32 with dict:=D++[{w with flags:=gQ w.flags}]},f.comp⟩,0⟩) R1.m.mem hL rfl]
  unfold iK
  rw[if_neg (by rw[ho];decide)]
 unfold kj
 rw[if_neg (fun z=>z hE),e3]
 rfl
end
open Go.RowKit
def Ci(l:List aL)(w:aL)(name:Str):∀k,k<=l.length->lU (l++[w]) name k=lU l name k
 | 0,_=>rfl
 | k+1,hk=>by
  unfold lU
  rw[show(l++[w]).getD k default=l.getD k default by rw[List.getD_eq_getElem?_getD,List.getElem?_append_left (by omega),<-List.getD_eq_getElem?_getD],Ci l w name k (by omega)]
def N0(l:List aL)(w:aL)(name:Str):cd (l++[w]) name=if pp w name=true then(w,(l.length:Int),true)else cd l name:=by
 unfold cd
 rw[List.length_append,List.length_singleton]
 rw[lU,show(l++[w]).getD l.length default=w by rw[List.getD_eq_getElem?_getD,List.getElem?_append_right (Nat.le_refl _),Nat.sub_self];rfl,Ci l w name l.length (Nat.le_refl _)]
def O1:((List.range 167).all fun i=>Bg (gF i)||decide (cd (du 167) (gj.getD i [])=(gF i,(i:Int),true)))=true:=by kernel_rfl
def Z4{i:Nat}(hi:i<167)(hh:Bg (gF i)=false):cd (du 167) (gj.getD i [])=(gF i,(i:Int),true):=by
 have:=List.all_eq_true.1 O1 i (List.mem_range.2 hi)
 rw[hh,Bool.false_or]at this
 exact oT this
def Ot{l:ag}{g g':Int->Int}{L:Nat}{u:VVm}{d':List Int}{i:Nat}(M:mQ l.f.vm L g)(S:Std g)(M':mQ u L g')(S':Std g')(h1:23<=i)(h2:i<=129)(hd:doS (mk l.f.vm l.f.vm.d [] []) i=(mk u d' [] [],0))(hf:2<=l.fuel/\l.fuel<=300000)(he:l.err=0):
  lN l (32+8*(i:Int))={l with f:={l.f with vm:=mk u d' [] []},fuel:=l.fuel-2}:=by
 have g1:Go1 (mw l.f.vm l.f.vm.d [] [] 16 (32+8*(i:Int)) l.fuel) (mr u d' [] [] 16 (l.fuel-1)) :=
  Yy M ⟨by omega,by omega⟩ (GB M (by omega)) (S.prim i (by omega)) (tE (by omega)) (QW (by omega) (by omega) hd)
 have g2:=L3 (d:=d') (r:=[]) (f:=[]) (fu:=l.fuel-1) M' S' ⟨by omega,by omega⟩
 refine(Cv (n:=1) (s:=mr u d' [] [] 16 (l.fuel-1)) (GoE.cons g1 rfl (by show ¬l.fuel<1;omega) (.nil _)) g2 rfl (by show ¬l.fuel-1<1;omega) (by omega) (by omega) he).trans ?_
 show({l with f:={l.f with vm:=yH (mk u d' [] [])},fuel:=l.fuel-1-1}:ag)=_
 rw[show l.fuel-1-1=l.fuel-2 by omega];rfl
def Ja{l:ag}{g g':Int->Int}{L n:Nat}{u:VVm}{d':List Int}{xt:Int}(M:mQ l.f.vm L g)(hx:okA L xt=true)(hq:g xt=256)(M':mQ u L g')(S':Std g')
  (hr:GoE n (mr l.f.vm l.f.vm.d [16] [] (xt+8) (l.fuel-1)) (mr u d' [] [] 16 (l.fuel-1-n))) (hf:(n:Int)+2<=l.fuel/\l.fuel<=300000) (he:l.err=0) :
  lN l xt={l with f:={l.f with vm:=mk u d' [] []},fuel:=l.fuel-(n+2:Nat)}:=by
 have g1:Go1 (mw l.f.vm l.f.vm.d [] [] 16 xt l.fuel) (mr l.f.vm l.f.vm.d ([]++[16]) [] (xt+8) (l.fuel-1)):=Pl M ⟨by omega,by omega⟩ hx hq (by decide)
 have g2:=L3 (d:=d') (r:=[]) (f:=[]) (fu:=l.fuel-1-n) M' S' ⟨by omega,by omega⟩
 refine(Cv (n:=n+1) (s:=mr u d' [] [] 16 (l.fuel-1-n)) (GoE.cons g1 rfl (by show ¬l.fuel<1;omega) hr) g2 rfl (by show ¬l.fuel-1-n<1;omega) (by omega) (by omega) he).trans ?_
 show({l with f:={l.f with vm:=yH (mk u d' [] [])},fuel:=l.fuel-1-n-1}:ag)=_
 rw[show l.fuel-1-n-1=l.fuel-(n+2:Nat) by omega];rfl
def np(v:VVm)(l:List Int):VVm:=l.foldl bF v
def AS{L:Nat}{c:ti}:∀(l:List Int) (v:VVm) (g:Int->Int),gg v L g->v.here+8*(l.length:Int)<=(L:Int)->ew l->l.foldl b9 ⟨⟨v,c⟩,0⟩=⟨⟨np v l,c⟩,0⟩
 | [],v,g,R,_,_=>rfl
 | n::l,v,g,R,h,hf=>by
  rw[List.length_cons]at h
  have R1:=gx (n:=n) R (by omega) (hf n (List.mem_cons_self ..))
  rw[List.foldl_cons,wu (w:=⟨⟨v,c⟩,0⟩) R (by show v.here+8<=_;omega) rfl]
  exact AS l (bF v n) (jO g v.here n) R1 (by show v.here+8+8*(l.length:Int)<=_;omega) (fun x hx=>hf x (List.mem_cons_of_mem _ hx))
def LB(v:VVm)(name:Str)(last:Bool)(l:List Int):VVm:=if last=true then {np (gp v name 0) l with last:=v.here} else np (gp v name 0) l
def wZ{f:ae}{name:Str}{last:Bool}{l:List Int}{L:Nat}{g:Int->Int}(R:gg f.vm L g)(hx:f.comp.xt=0)(hl:ew l)(h:f.vm.here+8*(l.length:Int)<=(L:Int))(hn:cI name=0)(hw:(f.vm.dict.length:Int)<f.vm.conf.words)(hw2:(f.vm.dict.length:Int)<1024):
  bR f name last l=({f with vm:=LB f.vm name last l},0):=by
 have hb:aK f=⟨f,0⟩:=by unfold aK;rw[if_pos hx]
 have e1:dP ⟨f,0⟩ name 0 l=(⟨⟨np (gp f.vm name 0) l,f.comp⟩,0⟩,f.vm.here):=by
  unfold dP
  rw[BZ (w:=⟨f,0⟩) R rfl (by show f.vm.here<=_;omega) hn hw hw2]
  refine Prod.ext ?_ ?_
  ·exact AS l (gp f.vm name 0) g (ox R 0) h hl
  show(aM f.vm.mem f.vm.here).2.1=_
  rw[sJ R (by omega)]
 unfold bR
 rw[if_neg (fun z=>z hx),hb,e1]
 unfold iL LB
 cases last<;>rfl
def uL{w:CW}{L:Nat}{g:Int->Int}{a:Int}(M:gP w.v.mem L g)(ha:okA L a=true)(hb:w.bad=0):gV w a={w with v:={w.v with mem:=stM w.v.mem a w.v.here}}:=by
 rw[ju hb,M.put ha,<-hb]
def nM{w:CW}{c:VCf}(h:w.l.length<32):io w c={w with l:=w.l++[c]}:=by
 unfold io;rw[if_neg (by omega)]
def nd{w:CW}{D:List VCf}{c:VCf}{kind:Int}(h:w.l=D++[c])(hk:c.kind=kind):aZ w kind=({w with l:=D},c):=by
 have e:(D++[c]).getD ((D++[c]).length-1) zCf=c:=by rw[List.length_append,List.length_singleton,Nat.add_sub_cancel,List.getD_eq_getElem?_getD,List.getElem?_append_right (Nat.le_refl _),Nat.sub_self];rfl
 unfold aZ
 rw[h,if_neg (fun z=>z.elim (fun q=>by simp at q) (fun q=>q (by rw[e];exact hk))),e]
 simp
def js{w:CW}{v:VVm}{l:List VCf}(hb:w.bad=0):nS w v l=(w.v,w.l,0):=by
 unfold nS;rw[if_neg (fun z=>z hb)]
def qm{w:CW}{L:Nat}{g:Int->Int}{name:Str}(R:gg w.v L g)(h:w.v.here+16<=(L:Int))(hx:ab (ma name))(hb:w.bad=0):eO w name={w with v:=bF (bF w.v (ma name)) 0}:=by
 unfold eO ce
 rw[it R (by omega) hb]
 have R1:=gx (n:=ma name) R (by omega) hx
 rw[it (w:={w with v:=bF w.v (ma name)}) R1 (by show w.v.here+8+8<=_;omega) hb]
section
variable {v : VVm} {l D : List VCf} {L : Nat} {g : Int -> Int} {a : Int}
def vw:ma [40,48,98,114,97,110,99,104,41]=56:=by decide +kernel
def xy:ma [40,98,114,97,110,99,104,41]=48:=by decide +kernel
def rQ:ab 56:=by unfold ab;omega
def qD:ab 48:=by unfold ab;omega
def aF5(R:gg v L g)(h:v.here+16<=(L:Int))(hl:l.length<32):bh v l [73,70]=(bF (bF v 56) 0,l++[⟨1,v.here+8,[]⟩],0):=by
 rw[nr (g:=ifC) rfl (by unfold jK;rw[if_pos (.inl rfl)];simp;omega)]
 unfold ifC
 have e:(ce ⟨v,l,0⟩ [40,48,98,114,97,110,99,104,41]).v.here=v.here+8:=by
  unfold ce;rw[it (w:=⟨v,l,0⟩) R (by show v.here+8<=_;omega) rfl];rfl
 rw[e,qm (w:=⟨v,l,0⟩) R h (by rw[vw];exact rQ) rfl,vw,nM (by exact hl),js rfl]
def ab9(R:gg v L g)(hl:l=D++[⟨1,a,[]⟩])(ha:okA L a=true):bh v l [84,72,69,78]=({v with mem:=stM v.mem a v.here},D,0):=by
 rw[nr (g:=Ak) rfl (by unfold jK;rw[if_neg (by decide)];decide)]
 unfold Ak
 rw[nd (w:=⟨v,l,0⟩) hl rfl,uL (w:=⟨v,D,0⟩) R.m.mem ha rfl,js rfl]
def ZU(R:gg v L g)(h:v.here+16<=(L:Int))(hl:l=D++[⟨1,a,[]⟩])(ha:okA L a=true)(hD:D.length<32)(hs:v.here<=1000000):
  bh v l [69,76,83,69]=({bF (bF v 48) 0 with mem:=stM (bF (bF v 48) 0).mem a (v.here+16)},D++[⟨1,v.here+8,[]⟩],0):=by
 rw[nr (g:=yX) rfl (by unfold jK;rw[if_neg (by decide)];decide)]
 unfold yX
 rw[nd (w:=⟨v,l,0⟩) hl rfl]
 dsimp only
 have e:(ce ⟨v,D,0⟩ [40,98,114,97,110,99,104,41]).v.here=v.here+8:=by
  unfold ce;rw[it (w:=⟨v,D,0⟩) R (by show v.here+8<=_;omega) rfl];rfl
 have R2:=gx (n:=0) (gx (n:=48) R (by omega) qD) (by show v.here+8+8<=_;omega) bt
 rw[e,qm (w:=⟨v,D,0⟩) R h (by rw[xy];exact qD) rfl,xy,uL (w:=⟨bF (bF v 48) 0,D,0⟩) R2.m.mem ha rfl,nM (by exact hD),js rfl]
 have e2:(bF (bF v 48) 0).here=v.here+16:=by show v.here+8+8=_;omega
 dsimp only
 rw[e2]
end
open Go.RowKit
abbrev Tk:=Str×Str
def ld:List Tk->Str
 | []=>[]
 | [t]=>t.1++t.2
 | t::u::ws=>t.1++(t.2++(32::ld (u::ws)))
def okT(t:Tk):Prop:=(∀c∈t.1,c.toNat<=32)/\t.2≠[]/\∀c∈t.2,32<c.toNat
def nxT(p:Str)(t:Tk)(ws:List Tk):Str:=if ws=[]then p++(t.1++t.2)else p++(t.1++t.2)++[32]
def EB(p:Str)(t:Tk)(ws:List Tk):p++ld (t::ws)=nxT p t ws++ld ws:=by
 unfold nxT
 cases ws with
 | nil=>rw[if_pos rfl];show p++(t.1++t.2)=_++[];rw[List.append_nil]
 | cons u ws=>rw[if_neg (by simp)];show p++(t.1++(t.2++(32::ld (u::ws))))=_;simp
def sH(p:Str){t:Tk}(ws:List Tk)(h:okT t):bu (p++ld (t::ws)) p.length=(t.2,((nxT p t ws).length:Int)):=by
 unfold nxT
 cases ws with
 | nil =>
  have w:=LZ p t.1 t.2 [] h.1 h.2.1 h.2.2 (.inl rfl)
  rw[List.append_nil]at w
  rw[if_pos rfl]
  show bu (p++(t.1++t.2)) p.length=_
  rw[w]
  refine Prod.ext rfl ?_
  show min (((p.length+t.1.length+t.2.length:Nat):Int)+1) ((p.length+t.1.length+t.2.length+0:Nat):Int)=_
  simp only[List.length_append];omega
 | cons u ws =>
  have w:=LZ p t.1 t.2 (32::ld (u::ws)) h.1 h.2.1 h.2.2 (.inr ⟨32,_,rfl,by decide⟩)
  rw[if_neg (by simp)]
  show bu (p++(t.1++(t.2++(32::ld (u::ws))))) p.length=_
  rw[w]
  refine Prod.ext rfl ?_
  show min (((p.length+t.1.length+t.2.length:Nat):Int)+1) ((p.length+t.1.length+t.2.length+(ld (u::ws)).length.succ:Nat):Int)=_
  simp only[List.length_append,List.length_singleton];omega
def Uy(p:Str):(bu (p++ld []) p.length).1=[]:=QN p [] (fun c hc=>by cases hc)
def yq(f0:ae)(tx:Str)(x y:LS)(k:Nat):Prop:=∀n,kX f0 tx (n+k) x=kX f0 tx n y
def yq.rf(f0:ae)(tx:Str)(x:LS):yq f0 tx x x 0:=fun n=>rfl
def yq.tr{f0:ae}{tx:Str}{x y z:LS}{j k:Nat}(h:yq f0 tx x y j)(g:yq f0 tx y z k):yq f0 tx x z (j+k):=fun n=>by
 rw[show n+(j+k)=(n+k)+j by omega,h (n+k),g n]
def yq.one{f0 f:ae}{tx:Str}{x:LS}{a u:Int}(h:jv x.f tx x.at_ x.left=(f,a,u,true,0)):yq f0 tx x ⟨f,a,u⟩ 1:=fun n=>by
 have e:lnR x tx=(f,a,u,true,0):=h
 rw[kX,e,if_neg (fun z=>z rfl),if_neg (fun z=>absurd (show true=false from z) (by decide))]
def PT{f0:ae}{tx:Str}{fuel a u:Int}{k:Nat}{f1:ae}(h:yq f0 tx ⟨f0,0,max fuel 0⟩ ⟨f1,a,u⟩ k)(hk:k<=tx.length+1)(hu:0<=u)(hw:(bu tx a).1=[]):j6 f0 tx fuel=(oR f1,u,0):=by
 have e:lnR ⟨f1,a,u⟩ tx=(f1,(tx.length:Int),u,false,0):=by
  show jv f1 tx a u=_
  rw[Rm hw,show max u 0=u by omega]
 unfold j6
 rw[show tx.length+2=(tx.length+1-k+1)+k by omega,h,kX,e,if_neg (fun z=>z rfl),if_pos rfl]
def AB{f0:ae}{tx:Str}{fuel a u a2 u2 e:Int}{k:Nat}{f1 f2:ae}(h:yq f0 tx ⟨f0,0,max fuel 0⟩ ⟨f1,a,u⟩ k)(hk:k<=tx.length+1)(hw:jv f1 tx a u=(f2,a2,u2,true,e))(he:e≠0):j6 f0 tx fuel=(oR (tb f0 f2),u2,e):=by
 have e':lnR ⟨f1,a,u⟩ tx=(f2,a2,u2,true,e):=hw
 unfold j6
 rw[show tx.length+2=(tx.length+1-k+1)+k by omega,h,kX,e',if_pos he]
def gT(a:Int):Int:=if a=0 then 10 else if a=8 then 0 else if a=16 then 96 else if a=24 then 104 else if 32<=a/\a<1368/\a%8=0 then(kf ((a-32)/8).toNat:Int)else gO a
def aC6{a:Int}:gO a=gT a:=by
 unfold gT
 by_cases h0:a=0
 ·rw[if_pos h0,h0];exact Vx.c0
 rw[if_neg h0]
 by_cases h1:a=8
 ·rw[if_pos h1,h1];exact aE0
 rw[if_neg h1]
 by_cases h2:a=16
 ·rw[if_pos h2,h2];exact Vx.c16
 rw[if_neg h2]
 by_cases h3:a=24
 ·rw[if_pos h3,h3];exact Vx.c24
 rw[if_neg h3]
 by_cases h4:32<=a/\a<1368/\a%8=0
 ·rw[if_pos h4]
  have:=Vx.prim ((a-32)/8).toNat (by omega)
  rw[show 32+8*((((a-32)/8).toNat:Nat):Int)=a by omega]at this
  exact this
 rw[if_neg h4]
def gL:List (Int×Int)->Int->Int
 | []=>gT
 | p::l=>jO (gL l) p.1 p.2
structure rV (g:Int->Int):Prop where
 prim:∀i:Nat,i<167->g (32+8*(i:Int))=(kf i:Int)
 c16:g 16=96
 c24:g 24=104
def rV.std{g:Int->Int}(S:rV g):Std g:=⟨fun i h=>by rw[S.prim i (by omega)];unfold kf;rw[if_neg (by omega)],S.c16,S.c24⟩
def rV.set{g:Int->Int}(S:rV g){a n:Int}(h:1368<=a\/a<=8):rV (jO g a n):=by
 refine⟨fun i hi=>?_,?_,?_⟩
 ·unfold jO;rw[if_neg (by omega)];exact S.prim i hi
 ·unfold jO;rw[if_neg (by omega)];exact S.c16
 unfold jO;rw[if_neg (by omega)];exact S.c24
def ax0:rV gT:=by
 refine⟨fun i hi=>?_,rfl,rfl⟩
 unfold gT
 rw[if_neg (by omega),if_neg (by omega),if_neg (by omega),if_neg (by omega),if_pos (by omega),show((32+8*(i:Int)-32)/8).toNat=i by omega]
structure SS where
 d:List Int
 cs:List (Int×Int)
 here:Int
 ext:List aL
 last:Int
 out:Str
 comp:ti
def vS(s:SS)(m:bf):VVm:={vO with mem:=m,d:=s.d,here:=s.here,dict:=du 167++s.ext,last:=s.last,out:=s.out}
structure At (f:ae) (s:SS):Prop where
 ex:∃m,f=⟨vS s m,s.comp⟩/\gP m 4096 (gL s.cs)
 std:rV (gL s.cs)
 h0:1368<=s.here
 h1:s.here<=4096
 h8:s.here%8=0
 ext:s.ext.length<=80
def sO:SS:=⟨[],[],1368,[],0,[],im⟩
def aw9:At fO sO:=by
 refine⟨⟨vO.mem,?_,Kl.mem.len,fun a h0 h1 h2=>?_⟩,ax0,by decide,by decide,by decide,by decide⟩
 ·show fO=⟨{vO with mem:=vO.mem,d:=[],here:=1368,dict:=du 167++[],last:=0,out:=[]},im⟩
  rw[List.append_nil];rfl
 rw[Kl.mem.cell a h0 h1 h2,aC6];rfl
def At.mach{s:SS}{m:bf}(h:gP m 4096 (gL s.cs)):mQ (vS s m) 4096 (gL s.cs):=⟨h,by decide,by decide,rfl,rfl⟩
def At.room{f:ae}{s:SS}(h:At f s){m:bf}(hm:gP m 4096 (gL s.cs)):gg (vS s m) 4096 (gL s.cs):=⟨At.mach hm,by have:=h.h0;show 0<=s.here;omega,h.h8⟩
def SS.cmp(s:SS):Bool:=decide (s.comp.xt≠0/\gL s.cs 8≠0)
section
variable {f : ae} {s : SS}
def AG(h:At f s){a:Int}(ha:okA 4096 a=true):an f.vm.mem a=(gL s.cs a,0):=by
 obtain⟨m,rfl,hm⟩:=h.ex
 have q:=eg.1 ha
 exact hm.cell a q.1 q.2.1 q.2.2
def ni(h:At f s):bJ f=s.cmp:=by
 unfold bJ SS.cmp
 rw[AG h (a:=8) rfl]
 obtain⟨m,rfl,hm⟩:=h.ex
 rfl
def ou(h:At f s){xt:Int}(ha:okA 4096 xt=true)(hk:eU (gL s.cs xt)):az f.vm xt=(gL s.cs xt,0):=by
 unfold az
 rw[AG h ha,if_pos rfl,if_pos hk]
def kH(h:At f s):f.vm.dict=du 167++s.ext:=by obtain⟨m,rfl,hm⟩:=h.ex;rfl
def EU(h:At f s):(an f.vm.mem 0).1=gL s.cs 0:=by rw[AG h (a:=0) rfl]
end
def SW(s:SS)(w:Str)(s':SS)(c:Int):Prop:=∀f,At f s->∃f',At f' s'/\∀(tx:Str) (p a u:Int),bu tx p=(w,a)->w≠[]->0<=u->c<=u->u<=5000->jv f tx p u=(f',a,u-c,true,0)
def SS.lay(s:SS)(n:Int):SS:={s with cs:=(s.here,n)::s.cs,here:=s.here+8}
def tP{l:List (Int×Int)}(h:rV (gL l)){a n:Int}(ha:1368<=a):rV (gL ((a,n)::l)):=h.set (.inl ha)
def jV{f:ae}{s:SS}(h:At f s){n:Int}(hn:ab n)(hr:s.here+8<=4096):lT f.vm n=(bF f.vm n,0)/\At {f with vm:=bF f.vm n} (s.lay n):=by
 obtain⟨m,rfl,hm⟩:=h.ex
 have R:=h.room hm
 have e:=x8 (n:=n) R (by show s.here+8<=_;exact hr)
 have R2:=gx (n:=n) R (by show s.here+8<=_;exact hr) hn
 exact⟨e,⟨stM m s.here n,rfl,R2.m.mem⟩,tP h.std h.h0,by have:=h.h0;show 1368<=s.here+8;omega,by show s.here+8<=4096;exact hr,by have:=h.h8;show(s.here+8)%8=0;omega,h.ext⟩
def PH{s:SS}{w:Str}{n:Int}(hf:(cd (du 167++s.ext) w).2.2=false)(hn:dR w (gL s.cs 0)=(n,true))(hc:s.cmp=false)(hd:s.d.length<32):SW s w {s with d:=s.d++[n]} 0:=by
 intro f h
 have ed:=kH h
 have ec:=ni h
 have eb:=EU h
 obtain⟨m,rfl,hm⟩:=h.ex
 refine⟨⟨vS {s with d:=s.d++[n]} m,s.comp⟩,⟨⟨m,rfl,hm⟩,h.std,h.h0,h.h1,h.h8,h.ext⟩,fun tx p a u hw h0 u0 cu u9=>?_⟩
 have q:=XE (f:=⟨vS s m,s.comp⟩) (fuel:=u) hw h0 (by rw[ed];exact hf) (by rw[eb];exact hn) (by rw[ec];exact hc) (by show(s.d.length:Int)<32;omega)
 rw[q,show max u 0=u-0 by omega];rfl
def QT{s:SS}{w:Str}{n:Int}(hf:(cd (du 167++s.ext) w).2.2=false)(hn:dR w (gL s.cs 0)=(n,true))(hc:s.cmp=true)(hr:s.here+16<=4096):SW s w ((s.lay 40).lay n) 0:=by
 intro f h
 have ed:=kH h
 have ec:=ni h
 have eb:=EU h
 have fn:ab n:=by have:=BE w (gL s.cs 0);rw[hn]at this;exact this
 have a1:=jV h (n:=40) (by unfold ab;omega) (by omega)
 have a2:=jV a1.2 (n:=n) fn (by show s.here+8+8<=_;omega)
 obtain⟨m,rfl,hm⟩:=h.ex
 have R:=h.room hm
 refine⟨_,a2.2,fun tx p a u hw h0 u0 cu u9=>?_⟩
 have q:=YT (f:=⟨vS s m,s.comp⟩) (fuel:=u) hw h0 (by rw[ed];exact hf) (by rw[eb];exact hn) (by rw[ec];exact hc) (Uu (n:=n) R (by show s.here+16<=_;exact hr))
 rw[q,show max u 0=u-0 by omega]
def yB{s s':SS}{w:Str}{x:aL}{i c:Int}(hf:cd (du 167++s.ext) w=(x,i,true))
  (hk:∀f,At f s->∃f',At f' s'/\∀(tx:Str) (a u:Int),0<=u->c<=u->u<=5000->∃o,i8 (aI f tx a u) x=(⟨f',tx,a,u-c,0⟩,o)):SW s w s' c:=by
 intro f h
 obtain⟨f',a',k⟩:=hk f h
 refine⟨f',a',fun tx p a u hw h0 u0 cu u9=>?_⟩
 obtain⟨o,ho⟩:=k tx a u u0 cu u9
 have e:kU (aI f tx a (max u 0)) w=(⟨f',tx,a,u-c,0⟩,o):=by
  rw[show max u 0=u by omega,mY (x:=x) (i:=i) (by show cd f.vm.dict w=_;rw[kH h];exact hf)]
  exact ho
 exact Oi hw h0 e rfl
structure XI where
 x:aL
 k:Int
def xiS(s:SS)(w:Str):Option XI :=
 if (cd (du 167++s.ext) w).2.2=true/\okA 4096 (cd (du 167++s.ext) w).1.xt=true/\eU (gL s.cs (cd (du 167++s.ext) w).1.xt)then some ⟨(cd (du 167++s.ext) w).1,gL s.cs (cd (du 167++s.ext) w).1.xt⟩else none
def xf{s:SS}{w:Str}{y:XI}(h:xiS s w=some y):cd (du 167++s.ext) w=(y.x,(cd (du 167++s.ext) w).2.1,true)/\okA 4096 y.x.xt=true/\y.k=gL s.cs y.x.xt/\eU y.k:=by
 unfold xiS at h
 split at h
 ·rename_i q
  injection h with h
  subst h
  exact⟨Prod.ext rfl (Prod.ext rfl q.1),q.2.1,rfl,q.2.2⟩
 cases h
def QJ{s:SS}{w:Str}{y:XI}(h:xiS s w=some y)(hc:s.cmp=true)(hi:y.x.flags%2=0)(hr:s.here+8<=4096):SW s w (s.lay y.x.xt) 0:=by
 obtain⟨hf,ha,hk,hkk⟩:=xf h
 refine yB hf fun f a=>?_
 have ak:=eg.1 ha
 have l:=jV a (n:=y.x.xt) (by unfold ab;omega) hr
 refine⟨_,l.2,fun tx p u u0 cu u9=>⟨false,?_⟩⟩
 have ek:az f.vm y.x.xt=(y.k,0):=by rw[ou a ha (by rw[<-hk];exact hkk),hk]
 rw[Z9 (l:=aI f tx p u) ek (by rw[show bJ (aI f tx p u).f=bJ f from rfl,ni a];exact hc) hi]
 refine Prod.ext ?_ rfl
 show ri (aI f tx p u) y.x.xt=_
 unfold ri
 rw[do0 rfl,show(aI f tx p u).f.vm=f.vm from rfl,l.1,sW rfl,show u-0=u by omega];rfl
def Va{s s':SS}{w:Str}{y:XI}{name:Str}(h:xiS s w=some y)(hc:s.cmp=true)(hi:y.x.flags%2=1)(h3:300<=y.k)(hn:bG.getD (y.k-300).toNat []=name)
  (hs:∀f,At f s->∃f',At f' s'/\∀(tx:Str) (a u:Int),rc (aI f tx a u) name=aI f' tx a u):SW s w s' 0:=by
 obtain⟨hf,ha,hk,hkk⟩:=xf h
 refine yB hf fun f a=>?_
 obtain⟨f',a',k⟩:=hs f a
 refine⟨f',a',fun tx p u u0 cu u9=>⟨false,?_⟩⟩
 have ek:az f.vm y.x.xt=(y.k,0):=by rw[ou a ha (by rw[<-hk];exact hkk),hk]
 have ec:bJ (aI f tx p u).f=true:=by rw[show bJ (aI f tx p u).f=bJ f from rfl,ni a];exact hc
 rw[sE (l:=aI f tx p u) ek h3 (by rw[ec];simp) (by rw[ec,hi];rfl),hn,k,show u-0=u by omega];rfl
end Go.Proofs.YtjcminooghmpeaaGreatDoor
