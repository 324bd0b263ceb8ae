import Derived.Test.YtjcminooghmpeaaGreatDoorPk9
set_option linter.all false
set_option maxRecDepth 100000
set_option maxHeartbeats 40000000
open Go.Proofs.Tryz
namespace Go.Proofs.YtjcminooghmpeaaGreatDoor
open Go.RowKit
def Dy(l:ag)(n:Int):ag:=fJ l ({l.f.vm with mem:=(aH l.f.vm.mem 8 n).1},(aH l.f.vm.mem 8 n).2)
def Hy(l:ag)(n:Int)(h:LK 1 l):∀(H:List Ob) (i:Nat),H[i]?=some (.cells (aR l) 89)->HC prog 191 (.ptr i 0::[i64 n]) H (.tup []) (H.set i (.cells (aR (Dy l n)) 89)):=by
 refine zM func191 fun B=>?_
 refine zp5 ?_
 refine zy2 ?_
 refine zc rfl func92 ((jm l.f.vm.mem 8 n h.f.mem (by unfold ab;omega)) _) ?_
 refine zy5 ?_
 refine zs1 ?_
 refine zp5 ?_
 refine zs2 ?_
 refine zu3 ?_
 refine aa rfl ?_
 refine zy3 ?_
 refine zc rfl func80 ((od l ({l.f.vm with mem:=(aH l.f.vm.mem 8 n).1},(aH l.f.vm.mem 8 n).2)) _ _ rfl) ?_
 refine Wn<|aS rfl rfl ?_ ?_
 ·rfl
 rfl
def Yo(l:ag):ag:=Dy l 0
def VR(l:ag)(h:LK 1 l):∀(H:List Ob) (i:Nat),H[i]?=some (.cells (aR l) 89)->HC prog 149 (.ptr i 0::[]) H (.tup []) (H.set i (.cells (aR (Yo l)) 89)):=by
 refine zM func149 fun B=>?_
 refine aa rfl ?_
 refine z1 ?_
 refine zc rfl func191 ((Hy l 0 h) _ _ rfl) ?_
 refine Wn<|aS rfl rfl ?_ ?_
 ·rfl
 rfl
def zG(l:ag):ag:=if l.f.comp.xt=0 then oOk l (-14)else Dy l (-1)
def S9(l:ag)(h:LK 1 l):∀(H:List Ob) (i:Nat),H[i]?=some (.cells (aR l) 89)->HC prog 150 (.ptr i 0::[]) H (.tup []) (H.set i (.cells (aR (zG l)) 89)):=by
 refine zM func150 fun B=>?_
 refine Ws<|zp5 ?_
 refine zs2 ?_
 refine Wi rfl (fun hi1=>?_) (fun hi1=>?_)
 ·have q:l.f.comp.xt=0:=by simpa using hi1
  refine zp1 ?_
  refine zc rfl func41 ((oy l (-14)) _ _ rfl) ?_
  refine Wn<|Wq<|aP rfl rfl ?_ ?_
  ·rfl
  (rw[zG,if_pos q];rfl)
 have q:¬l.f.comp.xt=0:=by simpa using hi1
 refine Wj<|aa rfl ?_
 refine z1 ?_
 refine zc rfl func191 ((Hy l (-1) h) _ _ rfl) ?_
 refine Wn<|aS rfl rfl ?_ ?_
 ·rfl
 (rw[zG,if_neg q];rfl)
def ao8(l:ag):ag:=ka l (MJ l.f)
def D8(l:ag)(h:LK 1 l):∀(H:List Ob) (i:Nat),H[i]?=some (.cells (aR l) 89)->HC prog 134 (.ptr i 0::[]) H (.tup []) (H.set i (.cells (aR (ao8 l)) 89)):=by
 refine zM func134 fun B=>?_
 refine aa rfl ?_
 refine zy5 ?_
 refine zc rfl func183 ((zg l.f (h.f.down (by decide))) _) ?_
 refine zy2 ?_
 refine zc rfl func177 ((vD l (MJ l.f)) _ _ rfl) ?_
 refine Wn<|aS rfl rfl ?_ ?_
 ·rfl
 rfl
def oOn(l:ag):ag:=if (mg l).1.err=0 then ui (mg l).1 true (mg l).2 else(mg l).1
def ao7(l:ag)(h:LK 4 l)(hP:LK 4 (mg l).1):∀(H:List Ob) (i:Nat),H[i]?=some (.cells (aR l) 89)->HC prog 129 (.ptr i 0::[]) H (.tup []) (H.set i (.cells (aR (oOn l)) 89)):=by
 have pP:=Ii l h.d
 unfold oOn
 obtain⟨p,hp⟩:∃p,mg l=p:=⟨_,rfl⟩
 rw[hp]at pP hP ⊢
 refine zM func129 fun B=>?_
 refine zp1 ?_
 refine zc rfl func176 ((pP) _ _ rfl) ?_
 refine zs1 ?_
 refine zp4 ?_
 refine Wd rfl rfl (aW rfl (by kernel_rfl) rfl (by exact dH _)) ?_
 refine Wn<|Wi rfl (fun hi1=>?_) (fun hi1=>?_)
 ·have q:p.1.err=0:=oT hi1
  refine aa rfl ?_
  refine zy2 ?_
  refine zc rfl func175 ((GI p.1 true p.2 (hP.down (by decide))) _ _ rfl) ?_
  refine Wn<|aS rfl rfl ?_ ?_
  ·rfl
  (rw[if_pos q];rfl)
 have q:¬p.1.err=0:=oF hi1
 refine Wj<|aS rfl rfl ?_ ?_
 ·rfl
 (rw[if_neg q];rfl)
def fc(l:ag):ag×aL :=
 if (bY l).1.err=0 then(if (cd (bY l).1.f.vm.dict (bY l).2).2.2=false then oOk (bY l).1 (-13)else(bY l).1,(cd (bY l).1.f.vm.dict (bY l).2).1)else((bY l).1,default)
def zK(l:ag)(h:LK 1 l):∀(H:List Ob) (i:Nat),H[i]?=some (.cells (aR l) 89)->HC prog 185 (.ptr i 0::[]) H (xu (fc l).2) (H.set i (.cells (aR (fc l).1) 89)):=by
 have e1:=lA l
 have e2:=vB l
 have pN:=sy l h.s
 have hs:=h.s
 have hD:=h.f.each
 unfold fc
 obtain⟨a,ha⟩:∃a,bY l=a:=⟨_,rfl⟩
 rw[ha]at e1 e2 pN ⊢
 rw[<-e1.1]at hD
 have pD:=wj a.1.f.vm.dict a.2 hD (by omega)
 obtain⟨d,hd⟩:∃d,cd a.1.f.vm.dict a.2=d:=⟨_,rfl⟩
 rw[hd]at pD ⊢
 refine zM func185 fun B=>?_
 refine zu1 ?_
 refine zp1 ?_
 refine zc rfl func194 ((pN) _ _ rfl) ?_
 refine zs1 ?_
 refine Ws<|zp4 ?_
 refine Wd rfl rfl (i3 rfl (by kernel_rfl) rfl (by exact dH _)) ?_
 refine Wn<|Wi rfl (fun hi1=>?_) (fun hi1=>?_)
 ·have q:¬a.1.err=0:=by simpa using hi1
  refine zu2 ?_
  refine Wq<|aP rfl rfl ?_ ?_
  ·(rw[if_neg q];rfl)
  (rw[if_neg q];rfl)
 have q:a.1.err=0:=by simpa using hi1
 refine Wj<|zp5 ?_
 refine zy2 ?_
 refine zc rfl func37 ((pD) _) ?_
 refine zy5 ?_
 refine zs3 ?_
 refine Ws<|zu2 ?_
 refine Wi rfl (fun hi2=>?_) (fun hi2=>?_)
 ·have q2:d.2.2=false:=by simpa using hi2
  refine aa rfl ?_
  refine z1 ?_
  refine zc rfl func41 ((oy a.1 (-13)) _ _ rfl) ?_
  refine Wn<|zu2 ?_
  refine Wq<|aP rfl rfl ?_ ?_
  ·(rw[if_pos q];rfl)
  (rw[if_pos q,if_pos q2];rfl)
 have q2:¬d.2.2=false:=by simpa using hi2
 refine Wj<|zu2 ?_
 refine Wq<|aP rfl rfl ?_ ?_
 ·(rw[if_pos q];rfl)
 (rw[if_pos q,if_neg q2];rfl)
def CJ{k:Nat}{l l':ag}(h:LK k l)(hf:l'.f=l.f)(hs:l'.s=l.s):LK k l' :=
 ⟨by rw[hf];exact h.f,by rw[hs];exact h.s,by rw[hf];exact h.d,by rw[hf];exact h.data,by rw[hf];exact h.out0,by rw[hf];exact h.out1,by rw[hf];exact h.out,by rw[hf];exact h.cfl,by rw[hf];exact h.cf,by rw[hf];exact h.dict,by rw[hf];exact h.xts⟩
def sY(l:ag):(fc l).1.f=l.f/\(fc l).1.s=l.s:=by
 have e:=lA l
 have o:=uh (bY l).1 (-13)
 unfold fc
 split
 ·dsimp only
  split
  ·exact⟨o.1.trans e.1,o.2.trans e.2⟩
  exact e
 exact e
def Sr(l:ag):ag:=uW (fc l).1 (fc l).2.xt
def XJ(l:ag)(h:LK 1 l):∀(H:List Ob) (i:Nat),H[i]?=some (.cells (aR l) 89)->HC prog 136 (.ptr i 0::[]) H (.tup []) (H.set i (.cells (aR (Sr l)) 89)):=by
 have pF:=zK l h
 have hF:=CJ h (sY l).1 (sY l).2
 unfold Sr
 obtain⟨a,ha⟩:∃a,fc l=a:=⟨_,rfl⟩
 rw[ha]at pF hF ⊢
 refine zM func136 fun B=>?_
 refine aa rfl ?_
 refine zy2 ?_
 refine zc rfl func185 ((pF) _ _ rfl) ?_
 refine z1 ?_
 refine zc rfl func43 ((DB a.1 a.2.xt hF.d hF.data) _ _ rfl) ?_
 refine Wn<|aS rfl rfl ?_ ?_
 ·rfl
 rfl
def Dk(l:ag):ag:=th (fc l).1 (fc l).2.xt
def NP(l:ag)(h:LK 2 l):∀(H:List Ob) (i:Nat),H[i]?=some (.cells (aR l) 89)->HC prog 137 (.ptr i 0::[]) H (.tup []) (H.set i (.cells (aR (Dk l)) 89)):=by
 have pF:=zK l (h.down (by decide))
 have hF:=CJ h (sY l).1 (sY l).2
 unfold Dk
 obtain⟨a,ha⟩:∃a,fc l=a:=⟨_,rfl⟩
 rw[ha]at pF hF ⊢
 refine zM func137 fun B=>?_
 refine aa rfl ?_
 refine zy2 ?_
 refine zc rfl func185 ((pF) _ _ rfl) ?_
 refine z1 ?_
 refine zc rfl func42 ((ua a.1 a.2.xt hF.f.ck) _ _ rfl) ?_
 refine Wn<|aS rfl rfl ?_ ?_
 ·rfl
 rfl
def Vl(s:Str):Int:=((s.getD 0 0).toNat:Int)
def oZ(l:ag):ag×Int:=((bY l).1,if (bY l).2=[]then 0 else Vl (bY l).2)
def Lp(l:ag)(hs:l.s.length<=1000000):∀(H:List Ob) (i:Nat),H[i]?=some (.cells (aR l) 89)->HC prog 186 (.ptr i 0::[]) H (i64 (oZ l).2) (H.set i (.cells (aR (oZ l).1) 89)):=by
 have pN:=sy l hs
 unfold oZ
 obtain⟨a,ha⟩:∃a,bY l=a:=⟨_,rfl⟩
 rw[ha]at pN ⊢
 have w0:IntKind.i64.wrap ((a.2.getD 0 0).toNat:Int)=((a.2.getD 0 0).toNat:Int):=by have:=(a.2.getD 0 0).toNat_lt;exact gq (by omega) (by omega)
 refine zM func186 fun B=>?_
 refine zu1 ?_
 refine Ws<|zp1 ?_
 refine zc rfl func194 ((pN) _ _ rfl) ?_
 refine zs1 ?_
 refine zp2 ?_
 refine Wa 7 rfl (Lk _ _) ?_
 refine Wn<|Wi rfl (fun hi1=>?_) (fun hi1=>?_)
 ·have q:¬a.2=[]:=by simpa using hi1
  have q0:=List.length_pos_iff.2 q
  refine zp1 ?_
  refine z2 ?_ (q:=(by simp only[cE];omega))
  refine Wa 9 rfl (oO _ _) ?_
  refine zs2 ?_
  refine Wq<|aP rfl rfl ?_ ?_
  ·(show i64 _=i64 (if a.2=[]then 0 else Vl a.2);rw[if_neg q,w0];rfl)
  rfl
 have q:a.2=[]:=by simpa using hi1
 refine Wj<|zu1 ?_
 refine Wq<|aP rfl rfl ?_ ?_
 ·(show i64 _=i64 (if a.2=[]then 0 else Vl a.2);rw[if_pos q];done)
 rfl
def PD(l:ag):ag:=uW (oZ l).1 (oZ l).2
def XQ(l:ag)(h:LK 1 l):∀(H:List Ob) (i:Nat),H[i]?=some (.cells (aR l) 89)->HC prog 138 (.ptr i 0::[]) H (.tup []) (H.set i (.cells (aR (PD l)) 89)):=by
 have pF:=Lp l h.s
 have hF:=CJ (l':=(oZ l).1) h (lA l).1 (lA l).2
 unfold PD
 obtain⟨a,ha⟩:∃a,oZ l=a:=⟨_,rfl⟩
 rw[ha]at pF hF ⊢
 refine zM func138 fun B=>?_
 refine aa rfl ?_
 refine zy2 ?_
 refine zc rfl func186 ((pF) _ _ rfl) ?_
 refine zc rfl func43 ((DB a.1 a.2 hF.d hF.data) _ _ rfl) ?_
 refine Wn<|aS rfl rfl ?_ ?_
 ·rfl
 rfl
def Dq(l:ag):ag:=th (oZ l).1 (oZ l).2
def NG(l:ag)(h:LK 2 l):∀(H:List Ob) (i:Nat),H[i]?=some (.cells (aR l) 89)->HC prog 139 (.ptr i 0::[]) H (.tup []) (H.set i (.cells (aR (Dq l)) 89)):=by
 have pF:=Lp l h.s
 have hF:=CJ (l':=(oZ l).1) h (lA l).1 (lA l).2
 unfold Dq
 obtain⟨a,ha⟩:∃a,oZ l=a:=⟨_,rfl⟩
 rw[ha]at pF hF ⊢
 refine zM func139 fun B=>?_
 refine aa rfl ?_
 refine zy2 ?_
 refine zc rfl func186 ((pF) _ _ rfl) ?_
 refine zc rfl func42 ((ua a.1 a.2 hF.f.ck) _ _ rfl) ?_
 refine Wn<|aS rfl rfl ?_ ?_
 ·rfl
 rfl
def Al(l:ag):ag:=th (mg l).1 (mg l).2
def Jo(l:ag)(h:LK 4 l)(hP:LK 4 (mg l).1):∀(H:List Ob) (i:Nat),H[i]?=some (.cells (aR l) 89)->HC prog 140 (.ptr i 0::[]) H (.tup []) (H.set i (.cells (aR (Al l)) 89)):=by
 have pP:=Ii l h.d
 unfold Al
 obtain⟨p,hp⟩:∃p,mg l=p:=⟨_,rfl⟩
 rw[hp]at pP hP ⊢
 refine zM func140 fun B=>?_
 refine aa rfl ?_
 refine zy2 ?_
 refine zc rfl func176 ((pP) _ _ rfl) ?_
 refine zc rfl func42 ((ua p.1 p.2 (hP.f.ck.down (by decide))) _ _ rfl) ?_
 refine Wn<|aS rfl rfl ?_ ?_
 ·rfl
 rfl
def Ez:XA 179 (fun f name=>bR f name true [257,0,0]) 4:=fun f name hn h H=>⟨⟨_,func179,rfl,rfl⟩,Bb f name hn h H⟩
def J3:XA 184 Cj 0:=fun f name hn h H=>⟨⟨_,func184,rfl,rfl⟩,Gx f name hn h H⟩
def Fz:QI 182 u5 270:=fun f name n hn h H=>⟨⟨_,func182,rfl,rfl⟩,EH f name n hn h H⟩
def am0(l:ag):ag:=jz l fun f name=>bR f name true [257,0,0]
def Fi(l:ag)(hs:l.s.length<=1000000)(hF:FK 4 l.f):∀(H:List Ob) (i:Nat),H[i]?=some (.cells (aR l) 89)->HC prog 131 (.ptr i 0::[]) H (.tup []) (H.set i (.cells (aR (am0 l)) 89)):=by
 refine zM func131 fun B=>?_
 refine aa rfl ?_
 refine z1 ?_
 refine zc rfl func158 ((yI Ez l hs hF) _ _ rfl) ?_
 refine Wn<|aS rfl rfl ?_ ?_
 ·rfl
 rfl
def YB(l:ag):ag:=jz l Cj
def MQ(l:ag)(hs:l.s.length<=1000000)(hF:FK 0 l.f):∀(H:List Ob) (i:Nat),H[i]?=some (.cells (aR l) 89)->HC prog 135 (.ptr i 0::[]) H (.tup []) (H.set i (.cells (aR (YB l)) 89)):=by
 refine zM func135 fun B=>?_
 refine aa rfl ?_
 refine z1 ?_
 refine zc rfl func158 ((yI J3 l hs hF) _ _ rfl) ?_
 refine Wn<|aS rfl rfl ?_ ?_
 ·rfl
 rfl
def Ks(l:ag):ag:=sx l u5
def Nz(l:ag)(h:LK 270 l)(hP:LK 270 (mg l).1):∀(H:List Ob) (i:Nat),H[i]?=some (.cells (aR l) 89)->HC prog 133 (.ptr i 0::[]) H (.tup []) (H.set i (.cells (aR (Ks l)) 89)):=by
 refine zM func133 fun B=>?_
 refine aa rfl ?_
 refine z1 ?_
 refine zc rfl func180 ((Bw Fz l h hP) _ _ rfl) ?_
 refine Wn<|aS rfl rfl ?_ ?_
 ·rfl
 rfl
def HI(l:List aL)(name:Str):∀k,k<=l.length->(lU l name k).1∈l\/(lU l name k).1=default
 | 0,_=>.inr rfl
 | k+1,hk=>by
  unfold lU
  split
  ·left
   show l.getD k default∈l
   rw[List.getD_eq_getElem?_getD,List.getElem?_eq_getElem (by omega)]
   exact List.getElem_mem _
  exact HI l name k (by omega)
def Am{l:List aL}(h:DX l)(name:Str):ab (cd l name).1.xt:=by
 rcases HI l name l.length (Nat.le_refl _)with q|q
 ·exact h _ q
 show ab (lU l name l.length).1.xt
 rw[q];exact bt
def Cm{l:ag}(h:DX l.f.vm.dict):ab (fc l).2.xt:=by
 unfold fc
 split
 ·rw[(lA l).1];exact Am h _
 exact bt
def Gr{l:ag}(h:jT l.f.vm.dict):0<=(fc l).2.flags/\(fc l).2.flags<=7:=by
 unfold fc
 split
 ·rw[(lA l).1]
  exact rp (fun x hx=>(h.2 x hx).2) _ _ (Nat.le_refl _)
 show 0<=(default:aL).flags/\(default:aL).flags<=7
 exact⟨by decide,by decide⟩
def ai9{f:Int}(h0:0<=f)(h7:f<=7):(IntKind.i64.wrap ↑(BitVec.ofInt IntKind.i64.bits f &&& BitVec.ofInt IntKind.i64.bits 1).toNat != 0)=decide (f%2=1):=by
 rcases qn h0 h7 with rfl|rfl|rfl|rfl|rfl|rfl|rfl|rfl<;>decide
def rO(l:ag)(w:aL):Int:=if (az l.f.vm w.xt).2=0/\300<=(az l.f.vm w.xt).1 then -32 else(az l.f.vm w.xt).2
def O3(l:ag)(w:aL):ag:=if w.flags%2=1 then ri (oOk l (rO l w)) w.xt else xc (th (oOk l (rO l w)) w.xt) [44]
def FN(l:ag):ag:=if (fc l).1.err=0 then O3 (fc l).1 (fc l).2 else(fc l).1
def FT(l:ag)(h:LK 5 l):∀(H:List Ob) (i:Nat),H[i]?=some (.cells (aR l) 89)->HC prog 141 (.ptr i 0::[]) H (.tup []) (H.set i (.cells (aR (FN l)) 89)):=by
 have pF:=zK l (h.down (by decide))
 have hF:=CJ h (sY l).1 (sY l).2
 have fx:=Cm (l:=l) h.xts
 have fl:=Gr (l:=l) h.f.each
 unfold FN
 obtain⟨a,ha⟩:∃a,fc l=a:=⟨_,rfl⟩
 rw[ha]at pF hF fx fl ⊢
 have ln:=ai9 fl.1 fl.2
 have hm:a.1.f.vm.mem.b.length<=140737488355328:=by have:=hF.f.b;omega
 have pK:=qh a.1.f.vm a.2.xt hm fx
 have hE:rO a.1 a.2=if (az a.1.f.vm a.2.xt).2=0/\300<=(az a.1.f.vm a.2.xt).1 then -32 else(az a.1.f.vm a.2.xt).2:=rfl
 have hK:O3 a.1 a.2=if a.2.flags%2=1 then ri (oOk a.1 (rO a.1 a.2)) a.2.xt else xc (th (oOk a.1 (rO a.1 a.2)) a.2.xt) [44]:=rfl
 obtain⟨k,hk⟩:∃k,az a.1.f.vm a.2.xt=k:=⟨_,rfl⟩
 rw[hk]at pK hE
 have hO:=uh a.1 (rO a.1 a.2)
 have kO:=CJ hF hO.1 hO.2
 have pO:=oy a.1 (rO a.1 a.2)
 obtain⟨b,hb⟩:∃b,oOk a.1 (rO a.1 a.2)=b:=⟨_,rfl⟩
 rw[hb]at kO pO hK
 have kL:FK 1 (th b a.2.xt).f:=Yg (kO.f.down (by decide)) (L1 (kO.f.down (by decide)) (qb (k:=1) (jk (k:=2) (kO.f.ck.down (by decide)) _) _) ((m5 _ _).1.trans (m5 _ _).1) ((m5 _ _).2.trans (m5 _ _).2))
 refine zM func141 fun B=>?_
 refine zp1 ?_
 refine zc rfl func185 ((pF) _ _ rfl) ?_
 refine zs2 ?_
 refine Ws<|zp4 ?_
 refine Wd rfl rfl (i3 rfl (by kernel_rfl) rfl (by exact dH _)) ?_
 refine Wn<|Wi rfl (fun hi1=>?_) (fun hi1=>?_)
 ·have q:¬a.1.err=0:=by simpa using hi1
  refine Wq<|aP rfl rfl ?_ ?_
  ·rfl
  (rw[if_neg q];rfl)
 have q:a.1.err=0:=by simpa using hi1
 refine Wj<|Ws<|am [0,0,0,0,4,0,6,0,0,0,0,0,0] [0,1,2,3,4,5,6,7,8,9,10,11,12] mG rfl (by kernel_rfl) ?_
 iterate 4 refine z3 ?_
 refine zU 0 ?_
 refine z3 ?_
 refine zU 1 ?_
 refine Xc rfl rfl rfl rfl (fun _=>dC rfl func67 rfl rfl ((pK) _)) ?_
 iterate 5 refine z3 ?_
 refine ap ?_
 refine Ws<|zp3 ?_
 refine Wb 25 rfl (fun hg1=>?_) (fun hg1=>?_)
 ·have yk:k.2=0:=by simpa using hg1
  refine zs3 ?_
  refine Wi rfl (fun hi2=>?_) (fun hi2=>?_)
  ·have hE2:rO a.1 a.2 = -32:=by rw[hE,if_pos ⟨yk,by have:=oT hi2;omega⟩]
   refine aa rfl ?_
   refine zs1 ?_
   refine zp2 ?_
   refine Wa 30 rfl ((congrArg i64 hE2.symm)) ?_
   refine zc rfl func41 ((pO) _ _ rfl) ?_
   refine Wn<|Ws<|zu4 ?_
   refine Wi rfl (fun hi3=>?_) (fun hi3=>?_)
   ·have q3:a.2.flags%2=1:=by rw[ln]at hi3;exact oT hi3
    refine zp3 ?_
    refine zc rfl func69 ((rZ b a.2.xt kO.f.mem kO.f.here) _ _ rfl) ?_
    refine Wn<|Wq<|aP rfl rfl ?_ ?_
    ·rfl
    (rw[if_pos q,hK,if_pos q3];rfl)
   have q3:¬a.2.flags%2=1:=by rw[ln]at hi3;exact oF hi3
   refine Wj<|zp3 ?_
   refine zc rfl func42 ((ua b a.2.xt (kO.f.ck.down (by decide))) _ _ rfl) ?_
   refine Wn<|aa rfl ?_
   refine z1 ?_
   refine zc rfl func187 ((s6 (th b a.2.xt) [44] kL.mem kL.here) _ _ rfl) ?_
   refine Wn<|aS rfl rfl ?_ ?_
   ·rfl
   (rw[if_pos q,hK,if_neg q3];rfl)
  have hE2:rO a.1 a.2=k.2:=by(rw[hE,if_neg (fun z=>by have:=oF hi2;have:=z.2;omega)])
  refine Wj<|zp2 ?_
  refine Wa 30 rfl ((congrArg i64 hE2.symm)) ?_
  refine zc rfl func41 ((pO) _ _ rfl) ?_
  refine Wn<|Ws<|zu4 ?_
  refine Wi rfl (fun hi3=>?_) (fun hi3=>?_)
  ·have q3:a.2.flags%2=1:=by rw[ln]at hi3;exact oT hi3
   refine zp3 ?_
   refine zc rfl func69 ((rZ b a.2.xt kO.f.mem kO.f.here) _ _ rfl) ?_
   refine Wn<|Wq<|aP rfl rfl ?_ ?_
   ·rfl
   (rw[if_pos q,hK,if_pos q3];rfl)
  have q3:¬a.2.flags%2=1:=by rw[ln]at hi3;exact oF hi3
  refine Wj<|zp3 ?_
  refine zc rfl func42 ((ua b a.2.xt (kO.f.ck.down (by decide))) _ _ rfl) ?_
  refine Wn<|aa rfl ?_
  refine z1 ?_
  refine zc rfl func187 ((s6 (th b a.2.xt) [44] kL.mem kL.here) _ _ rfl) ?_
  refine Wn<|aS rfl rfl ?_ ?_
  ·rfl
  (rw[if_pos q,hK,if_neg q3];rfl)
 have yk:¬k.2=0:=by simpa using hg1
 have hE2:rO a.1 a.2=k.2:=by rw[hE,if_neg (fun z=>yk z.1)]
 iterate 2 refine z6 ?_
 refine zs1 ?_
 refine Wf rfl rfl ?_
 refine Wj<|zp2 ?_
 refine Wa 30 rfl ((congrArg i64 hE2.symm)) ?_
 refine zc rfl func41 ((pO) _ _ rfl) ?_
 refine Wn<|Ws<|zu4 ?_
 refine Wi rfl (fun hi3=>?_) (fun hi3=>?_)
 ·have q3:a.2.flags%2=1:=by rw[ln]at hi3;exact oT hi3
  refine zp3 ?_
  refine zc rfl func69 ((rZ b a.2.xt kO.f.mem kO.f.here) _ _ rfl) ?_
  refine Wn<|Wq<|aP rfl rfl ?_ ?_
  ·rfl
  (rw[if_pos q,hK,if_pos q3];rfl)
 have q3:¬a.2.flags%2=1:=by rw[ln]at hi3;exact oF hi3
 refine Wj<|zp3 ?_
 refine zc rfl func42 ((ua b a.2.xt (kO.f.ck.down (by decide))) _ _ rfl) ?_
 refine Wn<|aa rfl ?_
 refine z1 ?_
 refine zc rfl func187 ((s6 (th b a.2.xt) [44] kL.mem kL.here) _ _ rfl) ?_
 refine Wn<|aS rfl rfl ?_ ?_
 ·rfl
 (rw[if_pos q,hK,if_neg q3];rfl)
def ap2(v:VVm):(dO v).2.1.mem=v.mem/\(dO v).2.1.here=v.here/\(dO v).2.1.dict=v.dict/\(dO v).2.1.hand=v.hand/\(dO v).2.1.conf=v.conf/\(dO v).2.1.out=v.out/\(dO v).2.1.d.length<=v.d.length:=by
 refine⟨rfl,rfl,rfl,rfl,rfl,rfl,?_⟩
 show(bk v.d).2.1.length<=_
 unfold bk
 split<;>simp
def ER{k:Nat}{l:ag}(h:LK k l):LK k (mg l).1:=by
 have e:=ap2 l.f.vm
 unfold mg
 dsimp only
 generalize hr:((dO l.f.vm).2.1,(dO l.f.vm).2.2)=r
 have er:r.1=(dO l.f.vm).2.1:=by rw[<-hr]
 rw[<-er]at e
 have hk:FK k {l.f with vm:=r.1}:=YC h.f (by rw[e.1];exact h.f.b) (by rw[e.1];exact h.f.old) (by rw[e.2.1];exact h.f.h0) (by rw[e.2.1,e.1];exact h.f.h1) e.2.2.1 e.2.2.2.1
 have o:=uh l r.2
 unfold fJ
 split
 ·refine⟨?_,?_,?_,?_,?_,?_,?_,?_,?_,?_,?_⟩<;>dsimp only<;>try rw[o.1]
  ·exact hk
  ·rw[o.2];exact h.s
  ·have:=e.2.2.2.2.2.2;have:=h.d;omega
  ·rw[e.2.2.2.2.1];exact h.data
  ·rw[e.2.2.2.2.1];exact h.out0
  ·rw[e.2.2.2.2.1];exact h.out1
  ·rw[e.2.2.2.2.2.1];exact h.out
  ·exact h.cfl
  ·exact h.cf
  ·rw[e.2.2.1];exact h.dict
  rw[e.2.2.1];exact h.xts
 exact⟨by rw[o.1];exact h.f,by rw[o.2];exact h.s,by rw[o.1];exact h.d,by rw[o.1];exact h.data,by rw[o.1];exact h.out0,by rw[o.1];exact h.out1,by rw[o.1];exact h.out,by rw[o.1];exact h.cfl,by rw[o.1];exact h.cf,by rw[o.1];exact h.dict,by rw[o.1];exact h.xts⟩
def OL:List fv:=[.s [58],.s [79,78,58],.s [59],.s [67,82,69,65,84,69],.s [86,65,82,73,65,66,76,69],.s [67,79,78,83,84,65,78,84],.s [77,65,67,72,73,78,69],.s [73,77,77,69,68,73,65,84,69],.s [70,79,82,71,69,84],.s [39],.s [91,39,93],.s [67,72,65,82],.s [91,67,72,65,82,93],.s [76,73,84,69,82,65,76],.s [80,79,83,84,80,79,78,69],.s [82,69,67,85,82,83,69],.s [69,88,73,84],.s [68,79,69,83,62],.s [83,34],.s [46,34],.s [40],.s [92],.s [91],.s [93]]
def Q7:List PV:=[.fn (.func 128) [.ptr 0 0] [],.fn (.func 129) [.ptr 0 0] [],.fn (.func 130) [.ptr 0 0] [],.fn (.func 114) [.ptr 0 0] [],.fn (.func 131) [.ptr 0 0] [],.fn (.func 132) [.ptr 0 0] [],.fn (.func 133) [.ptr 0 0] [],.fn (.func 134) [.ptr 0 0] [],.fn (.func 135) [.ptr 0 0] [],.fn (.func 136) [.ptr 0 0] [],.fn (.func 137) [.ptr 0 0] [],.fn (.func 138) [.ptr 0 0] [],.fn (.func 139) [.ptr 0 0] [],.fn (.func 140) [.ptr 0 0] [],.fn (.func 141) [.ptr 0 0] [],.fn (.func 142) [.ptr 0 0] [],.fn (.func 143) [.ptr 0 0] [],.fn (.func 144) [.ptr 0 0] [],.fn (.func 145) [.ptr 0 0] [],.fn (.func 146) [.ptr 0 0] [],.fn (.func 147) [.ptr 0 0] [],.fn (.func 148) [.ptr 0 0] [],.fn (.func 149) [.ptr 0 0] [],.fn (.func 150) [.ptr 0 0] []]
def spF(name:Str):Option (ag->ag) :=
 if name=[58]then some EM
 else if name=[79,78,58]then some oOn
 else if name=[59]then some yJ
 else if name=[67,82,69,65,84,69]then some dT
 else if name=[86,65,82,73,65,66,76,69]then some am0
 else if name=[67,79,78,83,84,65,78,84]then some JC
 else if name=[77,65,67,72,73,78,69]then some Ks
 else if name=[73,77,77,69,68,73,65,84,69]then some ao8
 else if name=[70,79,82,71,69,84]then some YB
 else if name=[39]then some Sr
 else if name=[91,39,93]then some Dk
 else if name=[67,72,65,82]then some PD
 else if name=[91,67,72,65,82,93]then some Dq
 else if name=[76,73,84,69,82,65,76]then some Al
 else if name=[80,79,83,84,80,79,78,69]then some FN
 else if name=[82,69,67,85,82,83,69]then some Zv
 else if name=[69,88,73,84]then some Qr
 else if name=[68,79,69,83,62]then some Ls
 else if name=[83,34]then some vj
 else if name=[46,34]then some ue
 else if name=[40]then some GD
 else if name=[92]then some R7
 else if name=[91]then some Yo
 else if name=[93]then some zG
 else none
def Pm(l:ag):HC prog 100 [.ptr 0 0] [.cells (aR l) 89] (.smap OL Q7) [.cells (aR l) 89,.dead]:=by
 refine lZ tG (rs:=[.tmp 2]) func100 rfl rfl rfl (fun B=>?_)
 refine zu1 ?_
 refine z8 ?_
 refine Wd rfl rfl (dc rfl) ?_
 refine zy2 ?_
 refine zD 1 (.s [58]) ?_
 refine zy2 ?_
 refine zD 1 (.s [79,78,58]) ?_
 refine zy2 ?_
 refine zD 1 (.s [59]) ?_
 refine zy2 ?_
 refine zD 1 (.s [67,82,69,65,84,69]) ?_
 refine zy2 ?_
 refine zD 1 (.s [86,65,82,73,65,66,76,69]) ?_
 refine zy2 ?_
 refine zD 1 (.s [67,79,78,83,84,65,78,84]) ?_
 refine z1 ?_
 refine iS (H':=[.cells (aR l) 89,.smap [.s [58],.s [79,78,58],.s [59],.s [67,82,69,65,84,69],.s [86,65,82,73,65,66,76,69],.s [67,79,78,83,84,65,78,84]] [.fn (.func 128) [.ptr 0 0] [],.fn (.func 129) [.ptr 0 0] [],.fn (.func 130) [.ptr 0 0] [],.fn (.func 114) [.ptr 0 0] [],.fn (.func 131) [.ptr 0 0] [],.fn (.func 132) [.ptr 0 0] []]]) rfl ?_
 refine z1 ?_
 refine zD 1 (.s [77,65,67,72,73,78,69]) ?_
 refine zy2 ?_
 refine zD 1 (.s [73,77,77,69,68,73,65,84,69]) ?_
 refine zy2 ?_
 refine zD 1 (.s [70,79,82,71,69,84]) ?_
 refine zy2 ?_
 refine zD 1 (.s [39]) ?_
 refine zy2 ?_
 refine zD 1 (.s [91,39,93]) ?_
 refine zy2 ?_
 refine zD 1 (.s [67,72,65,82]) ?_
 refine z1 ?_
 refine iS (H':=[.cells (aR l) 89,.smap [.s [58],.s [79,78,58],.s [59],.s [67,82,69,65,84,69],.s [86,65,82,73,65,66,76,69],.s [67,79,78,83,84,65,78,84],.s [77,65,67,72,73,78,69],.s [73,77,77,69,68,73,65,84,69],.s [70,79,82,71,69,84],.s [39],.s [91,39,93],.s [67,72,65,82]] [.fn (.func 128) [.ptr 0 0] [],.fn (.func 129) [.ptr 0 0] [],.fn (.func 130) [.ptr 0 0] [],.fn (.func 114) [.ptr 0 0] [],.fn (.func 131) [.ptr 0 0] [],.fn (.func 132) [.ptr 0 0] [],.fn (.func 133) [.ptr 0 0] [],.fn (.func 134) [.ptr 0 0] [],.fn (.func 135) [.ptr 0 0] [],.fn (.func 136) [.ptr 0 0] [],.fn (.func 137) [.ptr 0 0] [],.fn (.func 138) [.ptr 0 0] []]]) rfl ?_
 refine z1 ?_
 refine zD 1 (.s [91,67,72,65,82,93]) ?_
 refine zy2 ?_
 refine zD 1 (.s [76,73,84,69,82,65,76]) ?_
 refine zy2 ?_
 refine zD 1 (.s [80,79,83,84,80,79,78,69]) ?_
 refine zy2 ?_
 refine zD 1 (.s [82,69,67,85,82,83,69]) ?_
 refine zy2 ?_
 refine zD 1 (.s [69,88,73,84]) ?_
 refine zy2 ?_
 refine zD 1 (.s [68,79,69,83,62]) ?_
 refine z1 ?_
 refine iS (H':=[.cells (aR l) 89,.smap [.s [58],.s [79,78,58],.s [59],.s [67,82,69,65,84,69],.s [86,65,82,73,65,66,76,69],.s [67,79,78,83,84,65,78,84],.s [77,65,67,72,73,78,69],.s [73,77,77,69,68,73,65,84,69],.s [70,79,82,71,69,84],.s [39],.s [91,39,93],.s [67,72,65,82],.s [91,67,72,65,82,93],.s [76,73,84,69,82,65,76],.s [80,79,83,84,80,79,78,69],.s [82,69,67,85,82,83,69],.s [69,88,73,84],.s [68,79,69,83,62]] [.fn (.func 128) [.ptr 0 0] [],.fn (.func 129) [.ptr 0 0] [],.fn (.func 130) [.ptr 0 0] [],.fn (.func 114) [.ptr 0 0] [],.fn (.func 131) [.ptr 0 0] [],.fn (.func 132) [.ptr 0 0] [],.fn (.func 133) [.ptr 0 0] [],.fn (.func 134) [.ptr 0 0] [],.fn (.func 135) [.ptr 0 0] [],.fn (.func 136) [.ptr 0 0] [],.fn (.func 137) [.ptr 0 0] [],.fn (.func 138) [.ptr 0 0] [],.fn (.func 139) [.ptr 0 0] [],.fn (.func 140) [.ptr 0 0] [],.fn (.func 141) [.ptr 0 0] [],.fn (.func 142) [.ptr 0 0] [],.fn (.func 143) [.ptr 0 0] [],.fn (.func 144) [.ptr 0 0] []]]) rfl ?_
 refine z1 ?_
 refine zD 1 (.s [83,34]) ?_
 refine zy2 ?_
 refine zD 1 (.s [46,34]) ?_
 refine zy2 ?_
 refine zD 1 (.s [40]) ?_
 refine zy2 ?_
 refine zD 1 (.s [92]) ?_
 refine zy2 ?_
 refine zD 1 (.s [91]) ?_
 refine zy2 ?_
 refine zD 1 (.s [93]) ?_
 refine z1 ?_
 refine iS (H':=[.cells (aR l) 89,.smap OL Q7]) rfl ?_
 refine dZ 52 1 rfl rfl rfl ?_
 refine zs1 ?_
 refine Wq<|zH rfl ?_ ?_
 ·rfl
 rfl
def aD2(f:FuncId)(g:ag->ag):Prop:=∀l:ag,LK 300 l->∀(H:List Ob) (i:Nat),H[i]?=some (.cells (aR l) 89)->nD prog f [.ptr i 0] H (.tup []) (H.set i (.cells (aR (g l)) 89))
def QB(name:Str):(∃f g,gJ OL Q7 (.s name) (.val .nilFunc)=(.fn (.func f) [.ptr 0 0] [],true)/\spF name=some g/\aD2 f g)\/(gJ OL Q7 (.s name) (.val .nilFunc)=(.val .nilFunc,false)/\spF name=none):=by
 by_cases c0:name=[58]
 ·subst c0;exact .inl ⟨128,_,rfl,rfl,fun l h H i hi=>⟨⟨_,func128,rfl,rfl⟩,SQ l (h.down (by omega)) H i hi⟩⟩
 by_cases c1:name=[79,78,58]
 ·subst c1;exact .inl ⟨129,_,rfl,rfl,fun l h H i hi=>⟨⟨_,func129,rfl,rfl⟩,ao7 l (h.down (by omega)) (ER (h.down (by omega))) H i hi⟩⟩
 by_cases c2:name=[59]
 ·subst c2;exact .inl ⟨130,_,rfl,rfl,fun l h H i hi=>⟨⟨_,func130,rfl,rfl⟩,Uw l (h.down (by omega)) H i hi⟩⟩
 by_cases c3:name=[67,82,69,65,84,69]
 ·subst c3;exact .inl ⟨114,_,rfl,rfl,fun l h H i hi=>⟨⟨_,func114,rfl,rfl⟩,Ck l h.s (h.f.down (by omega)) H i hi⟩⟩
 by_cases c4:name=[86,65,82,73,65,66,76,69]
 ·subst c4;exact .inl ⟨131,_,rfl,rfl,fun l h H i hi=>⟨⟨_,func131,rfl,rfl⟩,Fi l h.s (h.f.down (by omega)) H i hi⟩⟩
 by_cases c5:name=[67,79,78,83,84,65,78,84]
 ·subst c5;exact .inl ⟨132,_,rfl,rfl,fun l h H i hi=>⟨⟨_,func132,rfl,rfl⟩,F8 l (h.down (by omega)) (ER (h.down (by omega))) H i hi⟩⟩
 by_cases c6:name=[77,65,67,72,73,78,69]
 ·subst c6;exact .inl ⟨133,_,rfl,rfl,fun l h H i hi=>⟨⟨_,func133,rfl,rfl⟩,Nz l (h.down (by omega)) (ER (h.down (by omega))) H i hi⟩⟩
 by_cases c7:name=[73,77,77,69,68,73,65,84,69]
 ·subst c7;exact .inl ⟨134,_,rfl,rfl,fun l h H i hi=>⟨⟨_,func134,rfl,rfl⟩,D8 l (h.down (by omega)) H i hi⟩⟩
 by_cases c8:name=[70,79,82,71,69,84]
 ·subst c8;exact .inl ⟨135,_,rfl,rfl,fun l h H i hi=>⟨⟨_,func135,rfl,rfl⟩,MQ l h.s (h.f.down (by omega)) H i hi⟩⟩
 by_cases c9:name=[39]
 ·subst c9;exact .inl ⟨136,_,rfl,rfl,fun l h H i hi=>⟨⟨_,func136,rfl,rfl⟩,XJ l (h.down (by omega)) H i hi⟩⟩
 by_cases c10:name=[91,39,93]
 ·subst c10;exact .inl ⟨137,_,rfl,rfl,fun l h H i hi=>⟨⟨_,func137,rfl,rfl⟩,NP l (h.down (by omega)) H i hi⟩⟩
 by_cases c11:name=[67,72,65,82]
 ·subst c11;exact .inl ⟨138,_,rfl,rfl,fun l h H i hi=>⟨⟨_,func138,rfl,rfl⟩,XQ l (h.down (by omega)) H i hi⟩⟩
 by_cases c12:name=[91,67,72,65,82,93]
 ·subst c12;exact .inl ⟨139,_,rfl,rfl,fun l h H i hi=>⟨⟨_,func139,rfl,rfl⟩,NG l (h.down (by omega)) H i hi⟩⟩
 by_cases c13:name=[76,73,84,69,82,65,76]
 ·subst c13;exact .inl ⟨140,_,rfl,rfl,fun l h H i hi=>⟨⟨_,func140,rfl,rfl⟩,Jo l (h.down (by omega)) (ER (h.down (by omega))) H i hi⟩⟩
 by_cases c14:name=[80,79,83,84,80,79,78,69]
 ·subst c14;exact .inl ⟨141,_,rfl,rfl,fun l h H i hi=>⟨⟨_,func141,rfl,rfl⟩,FT l (h.down (by omega)) H i hi⟩⟩
 by_cases c15:name=[82,69,67,85,82,83,69]
 ·subst c15;exact .inl ⟨142,_,rfl,rfl,fun l h H i hi=>⟨⟨_,func142,rfl,rfl⟩,Jg l (h.down (by omega)) H i hi⟩⟩
 by_cases c16:name=[69,88,73,84]
 ·subst c16;exact .inl ⟨143,_,rfl,rfl,fun l h H i hi=>⟨⟨_,func143,rfl,rfl⟩,WE l (h.down (by omega)) H i hi⟩⟩
 by_cases c17:name=[68,79,69,83,62]
 ·subst c17;exact .inl ⟨144,_,rfl,rfl,fun l h H i hi=>⟨⟨_,func144,rfl,rfl⟩,WL l (h.down (by omega)) H i hi⟩⟩
 by_cases c18:name=[83,34]
 ·subst c18;exact .inl ⟨145,_,rfl,rfl,fun l h H i hi=>⟨⟨_,func145,rfl,rfl⟩,Lx l (h.down (by omega)) H i hi⟩⟩
 by_cases c19:name=[46,34]
 ·subst c19;exact .inl ⟨146,_,rfl,rfl,fun l h H i hi=>⟨⟨_,func146,rfl,rfl⟩,QA l (h.down (by omega)) H i hi⟩⟩
 by_cases c20:name=[40]
 ·subst c20;exact .inl ⟨147,_,rfl,rfl,fun l h H i hi=>⟨⟨_,func147,rfl,rfl⟩,HY l h.s H i hi⟩⟩
 by_cases c21:name=[92]
 ·subst c21;exact .inl ⟨148,_,rfl,rfl,fun l h H i hi=>⟨⟨_,func148,rfl,rfl⟩,Xb l H i hi⟩⟩
 by_cases c22:name=[91]
 ·subst c22;exact .inl ⟨149,_,rfl,rfl,fun l h H i hi=>⟨⟨_,func149,rfl,rfl⟩,VR l (h.down (by omega)) H i hi⟩⟩
 by_cases c23:name=[93]
 ·subst c23;exact .inl ⟨150,_,rfl,rfl,fun l h H i hi=>⟨⟨_,func150,rfl,rfl⟩,S9 l (h.down (by omega)) H i hi⟩⟩
 refine .inr ⟨?_,?_⟩
 ·unfold OL Q7
  rw[iG,if_neg c0,iG,if_neg c1,iG,if_neg c2,iG,if_neg c3,iG,if_neg c4,iG,if_neg c5,iG,if_neg c6,iG,if_neg c7,iG,if_neg c8,iG,if_neg c9,iG,if_neg c10,iG,if_neg c11,iG,if_neg c12,iG,if_neg c13,iG,if_neg c14,iG,if_neg c15,iG,if_neg c16,iG,if_neg c17,iG,if_neg c18,iG,if_neg c19,iG,if_neg c20,iG,if_neg c21,iG,if_neg c22,iG,if_neg c23,SR]
 unfold spF
 rw[if_neg c0,if_neg c1,if_neg c2,if_neg c3,if_neg c4,if_neg c5,if_neg c6,if_neg c7,if_neg c8,if_neg c9,if_neg c10,if_neg c11,if_neg c12,if_neg c13,if_neg c14,if_neg c15,if_neg c16,if_neg c17,if_neg c18,if_neg c19,if_neg c20,if_neg c21,if_neg c22,if_neg c23]
def rc(l:ag)(name:Str):ag:=match spF name with
 | none=>kI l name
 | some g=>g l
def KS{l:ag}{name:Str}(h:spF name=none):rc l name=kI l name:=by unfold rc;rw[h]
def wC{l:ag}{name:Str}{g:ag->ag}(h:spF name=some g):rc l name=g l:=by unfold rc;rw[h]
def lw(l:ag)(name:Str)(h:LK 300 l):∀(H:List Ob) (i:Nat),H[i]?=some (.cells (aR l) 89)->HC prog 70 (.ptr i 0::[str name]) H (.tup []) (H.set i (.cells (aR (rc l name)) 89)):=by
 have hT:=QB name
 refine zM func70 fun B=>?_
 refine Ws<|zp1 ?_
 refine zc rfl func100 (Pm l) ?_
 refine z1 ?_
 rcases hT with ⟨f,g,hlk,hon,hc⟩|⟨hlk,hno⟩
 ·refine Wd rfl rfl (ba (b:=true) (e:=1) (key:=.s name) (by kernel_rfl) (lO tG rfl) (by kernel_rfl) rfl rfl rfl rfl (by kernel_rfl) (hlk)) ?_
  refine zs5 ?_
  refine zu1 ?_
  refine Wt rfl (by rfl) ?_
  refine zp1 ?_
  refine Wc rfl rfl (eQ rfl rfl (hc l h _ 0 rfl)) ?_
  refine Wn<|Wq<|aP rfl rfl ?_ ?_
  ·rfl
  (rw[wC hon];rfl)
 refine Wd rfl rfl (ba (b:=true) (e:=1) (key:=.s name) (by kernel_rfl) (lO tG rfl) (by kernel_rfl) rfl rfl rfl rfl (by kernel_rfl) (hlk)) ?_
 refine zs5 ?_
 refine zu1 ?_
 refine Wf rfl (by rfl) ?_
 refine Wj<|aa rfl ?_
 refine zy2 ?_
 refine zc rfl func101 ((I7 l name (h.down (by omega))) _ _ rfl) ?_
 refine Wn<|aS rfl rfl ?_ ?_
 ·rfl
 (rw[KS hno];rfl)
structure OkF (N:Nat) (f:ae):Prop where
 g:bb N f.vm
 cfl:f.comp.cf.length<=32
 cf:∀c∈f.comp.cf,wb c
 dict:f.comp.xt≠0->0<=f.comp.dict/\f.comp.dict<f.vm.dict.length
 here:f.comp.xt≠0->1368<=f.comp.here/\f.comp.here<=f.vm.conf.mem
 la:ab f.comp.last
 fu:f.comp.on=true->0<=f.comp.fuel
 xts:DX f.vm.dict
def OkF.up{N M:Nat}{f:ae}(h:OkF N f)(hM:N<=M):OkF M f:=⟨h.g.up hM,h.cfl,h.cf,h.dict,h.here,h.la,h.fu,h.xts⟩
def sV{l:List aL}(h:ib l=true):jT l:=by
 unfold ib at h
 simp only[Bool.and_eq_true,decide_eq_true_eq]at h
 refine⟨by omega,fun x hx=>?_⟩
 have q:=List.all_eq_true.1 h.1 x hx
 unfold AF at q
 simp only[decide_eq_true_eq]at q
 refine⟨?_,q.2.1,q.2.2⟩
 have q1:=q.1
 unfold cI at q1
 split at q1
 ·cases q1
 split at q1
 ·cases q1
 omega
def OkF.fk{N k:Nat}{f:ae}(h:OkF N f)(hk:N+k<=1000000):FK k f:=by
 have R:=h.g.right
 have hc:=R.fV
 unfold dW at hc
 have h1:=R.len
 have h2:=R.ju
 have h3:=R.jx
 have h4:=h.g.old
 have h5:=R.handl
 have h6:=R.dict
 have h7:f.vm.dict.length<=1024:=by
  unfold ib at h6
  simp only[Bool.and_eq_true,decide_eq_true_eq]at h6
  exact h6.2
 exact⟨by omega,by omega,h2,by omega,by omega,sV h6,by omega⟩
def TX{N j:Nat}{v:VVm}(g:bb N v){m:bf}{here:Int}(k:dy v.mem m j)(h0:1368<=here)(h1:here<=m.b.length):bb (N+j) {v with mem:=m,here:=here}:=by
 have R:=g.right
 have l:=R.len
 refine⟨⟨R.fV,k.right R.mem,R.dict,R.pic,?_,h0,?_,R.f,R.hand,R.d,R.r,R.fl,R.dl,R.out,R.req,R.free0,R.free1,R.next0,R.next1,R.handl⟩,?_,g.fd,g.fr,g.ff,g.ints,g.la⟩
 ·show(m.b.length:Int)=v.conf.mem;rw[k.len];exact l
 ·show here<=v.conf.mem;have:=k.len;omega
 show m.old.length<=N+j;have:=k.old;have:=g.old;omega
def DM{N:Nat}{v:VVm}(g:bb N v){d:List aL}(h:ib d=true)(hl:(d.length:Int)<=v.conf.words):bb N {v with dict:=d}:=by
 have R:=g.right
 exact⟨⟨R.fV,R.mem,h,R.pic,R.len,R.ju,R.jx,R.f,R.hand,R.d,R.r,R.fl,hl,R.out,R.req,R.free0,R.free1,R.next0,R.next1,R.handl⟩,g.old,g.fd,g.fr,g.ff,g.ints,g.la⟩
def xP{N:Nat}{v:VVm}(g:bb N v){n:Int}(h:ab n):bb N {v with last:=n}:=by
 have R:=g.right
 exact⟨⟨R.fV,R.mem,R.dict,R.pic,R.len,R.ju,R.jx,R.f,R.hand,R.d,R.r,R.fl,R.dl,R.out,R.req,R.free0,R.free1,R.next0,R.next1,R.handl⟩,g.old,g.fd,g.fr,g.ff,g.ints,h⟩
def Df{N:Nat}{v:VVm}(g:bb N v){m:bf}(k:dy v.mem m 1):bb (N+1) {v with mem:=m}:=P2 g k
def LM{N:Nat}{v:VVm}(g:bb N v):1368<=v.here/\v.here<=v.mem.b.length:=by
 have R:=g.right
 have h1:=R.len
 have h2:=R.ju
 have h3:=R.jx
 omega
def Ix{N:Nat}{v:VVm}(g:bb N v)(n:Int):bb (N+1) (lT v n).1:=by
 have b:=LM g
 have q:=r4 v.mem v.here n
 have p:=tX (m:=v.mem) n b.1 b.2
 exact TX g q p.1 (by rw[q.len];exact p.2)
def Kt{N:Nat}{w:FW}(g:bb N w.f.vm)(n:Int):bb (N+1) (b9 w n).f.vm:=by
 unfold b9;split
 ·exact Ix g n
 exact g.up (by omega)
def HD:∀(l:List Int) (N:Nat) (w:FW),bb N w.f.vm->bb (N+l.length) (l.foldl b9 w).f.vm
 | [],_,_,h=>h
 | x::l,N,w,h=>by
  have:=HD l (N+1) _ (Kt h x)
  rw[List.foldl_cons,List.length_cons,show N+(l.length+1)=N+1+l.length by omega];exact this
def mp(w:FW)(e:Int):(okF w e).f=w.f:=by unfold okF;split<;>rfl
def zu{N:Nat}{w:FW}(g:bb N w.f.vm)(n:Int):bb (N+1) (dv w n).f.vm:=by
 unfold dv;rw[mp]
 exact Df g (cM _ _ _)
def Mh{l:List aL}(h:ib l=true)(name:Str)(xt:Int){flags limit:Int}(h0:0<=flags)(h7:flags<=7)(hl:(l.length:Int)<=limit):ib (bU l name xt flags limit).1=true/\((bU l name xt flags limit).1.length:Int)<=limit:=by
 unfold bU
 by_cases q1:cI name≠0
 ·rw[if_pos q1];exact⟨h,hl⟩
 rw[if_neg q1]
 by_cases q2:(if 1024<limit then 1024 else limit)<=(l.length:Int)
 ·rw[if_pos q2];exact⟨h,hl⟩
 rw[if_neg q2]
 have hl2:(l.length:Int)<1024/\(l.length:Int)<limit:=by split at q2<;>omega
 unfold ib at h ⊢
 simp only[Bool.and_eq_true,decide_eq_true_eq]at h
 refine⟨?_,by show((l++[_]).length:Int)<=limit;rw[List.length_append,List.length_singleton];omega⟩
 simp only[List.all_append,List.all_cons,List.all_nil,Bool.and_true,Bool.and_eq_true,decide_eq_true_eq,List.length_append,List.length_singleton]
 exact⟨⟨h.1,by unfold AF;simp only[decide_eq_true_eq];exact⟨Decidable.not_not.1 q1,h0,h7⟩⟩,by omega⟩
def Ti{N:Nat}{w:FW}(g:bb N w.f.vm)(name:Str){flags:Int}(h0:0<=flags)(h7:flags<=7):bb (N+1) (fb w (aM w.f.vm.mem w.f.vm.here) (bU w.f.vm.dict name (aM w.f.vm.mem w.f.vm.here).2.1 flags w.f.vm.conf.words)).f.vm:=by
 have b:=LM g
 unfold fb
 split
 ·unfold FW.placed
  rw[mp,mp]
  have q:dy w.f.vm.mem (aM w.f.vm.mem w.f.vm.here).1 1:=gR _
  have p:1368<=(aM w.f.vm.mem w.f.vm.here).2.1/\(aM w.f.vm.mem w.f.vm.here).2.1<=w.f.vm.mem.b.length:=iu _ b.1 b.2
  have d:=Mh g.right.dict name (aM w.f.vm.mem w.f.vm.here).2.1 (limit:=w.f.vm.conf.words) h0 h7 g.right.dl
  exact DM (TX g q p.1 (by rw[q.len];exact p.2)) d.1 d.2
 rw[mp,mp];exact g.up (by omega)
def DP{N:Nat}{w:FW}(g:bb N w.f.vm)(name:Str){flags:Int}{l:List Int}(h0:0<=flags)(h7:flags<=7):bb (N+1+l.length) (dP w name flags l).1.f.vm:=HD l (N+1) _ (Ti g name h0 h7)
def wE{N:Nat}{v:VVm}(g:bb N v):ab (aM v.mem v.here).2.1:=by
 have b:=LM g
 have p:1368<=(aM v.mem v.here).2.1/\(aM v.mem v.here).2.1<=v.mem.b.length:=iu _ b.1 b.2
 have R:=g.right
 have hc:=R.fV
 unfold dW at hc
 have h1:=R.len
 unfold ab;omega
def NQ(w:FW)(name:Str)(flags:Int)(l:List Int):(dP w name flags l).1.f.comp=w.f.comp:=by
 have h:∀(l:List Int) (w:FW),(l.foldl b9 w).f.comp=w.f.comp:=by
  intro l
  induction l with
  | nil=>intro w;rfl
  | cons x l ih=>intro w;rw[List.foldl_cons,ih];unfold b9;split<;>rfl
 unfold dP
 rw[h]
 unfold fb
 split
 ·unfold FW.placed;rw[mp,mp]
 rw[mp,mp]
def Ju(w:FW)(n:Int):(b9 w n).f.vm.conf=w.f.vm.conf/\(b9 w n).f.vm.dict=w.f.vm.dict/\(b9 w n).f.vm.hand=w.f.vm.hand/\((b9 w n).bad=0->w.bad=0):=by
 unfold b9;split
 ·rename_i q;exact⟨rfl,rfl,rfl,fun _=>q⟩
 exact⟨rfl,rfl,rfl,id⟩
def Di:∀(l:List Int) (w:FW),(l.foldl b9 w).f.vm.conf=w.f.vm.conf/\(l.foldl b9 w).f.vm.dict=w.f.vm.dict/\(l.foldl b9 w).f.vm.hand=w.f.vm.hand/\((l.foldl b9 w).bad=0->w.bad=0)
 | [],w=>⟨rfl,rfl,rfl,id⟩
 | x::l,w=>by
  have a:=Di l (b9 w x)
  have b:=Ju w x
  rw[List.foldl_cons]
  exact⟨a.1.trans b.1,a.2.1.trans b.2.1,a.2.2.1.trans b.2.2.1,fun q=>b.2.2.2 (a.2.2.2 q)⟩
def uw{w:FW}{e:Int}(h:(okF w e).bad=0):w.bad=0/\e=0:=by
 unfold okF at h
 split at h
 ·rename_i q;exact⟨q,h⟩
 rename_i q;exact absurd h q
def UC(l:List aL)(name:Str)(xt flags limit:Int):((bU l name xt flags limit).2=0->(bU l name xt flags limit).1.length=l.length+1)/\l.length<=(bU l name xt flags limit).1.length:=by
 unfold bU
 by_cases q1:cI name≠0
 ·rw[if_pos q1];exact⟨fun z=>absurd z q1,Nat.le_refl _⟩
 rw[if_neg q1]
 by_cases q2:(if 1024<limit then 1024 else limit)<=(l.length:Int)
 ·rw[if_pos q2];exact⟨fun z=>absurd z (by show ¬((-8:Int)=0);decide),Nat.le_refl _⟩
 rw[if_neg q2]
 dsimp only
 rw[List.length_append,List.length_singleton]
 exact⟨fun _=>rfl,by omega⟩
def Lh(w:FW)(a:bf×Int×Int)(d:List aL×Int):(fb w a d).f.vm.conf=w.f.vm.conf/\(fb w a d).f.vm.hand=w.f.vm.hand/\((fb w a d).bad=0->(fb w a d).f.vm.dict=d.1/\d.2=0)/\((fb w a d).f.vm.dict=d.1\/(fb w a d).f.vm.dict=w.f.vm.dict):=by
 unfold fb
 split
 ·rename_i q
  unfold FW.placed
  rw[mp,mp]
  exact⟨rfl,rfl,fun _=>⟨rfl,(uw q).2⟩,.inl rfl⟩
 rename_i q
 rw[mp,mp]
 exact⟨rfl,rfl,fun z=>absurd z q,.inr rfl⟩
def Qo(w:FW)(name:Str)(flags:Int)(l:List Int):(dP w name flags l).1.f.vm.conf=w.f.vm.conf/\(dP w name flags l).1.f.vm.hand=w.f.vm.hand/\((dP w name flags l).1.bad=0->(dP w name flags l).1.f.vm.dict.length=w.f.vm.dict.length+1)/\w.f.vm.dict.length<=(dP w name flags l).1.f.vm.dict.length:=by
 have a:=Di l (fb w (aM w.f.vm.mem w.f.vm.here) (bU w.f.vm.dict name (aM w.f.vm.mem w.f.vm.here).2.1 flags w.f.vm.conf.words))
 have b:=Lh w (aM w.f.vm.mem w.f.vm.here) (bU w.f.vm.dict name (aM w.f.vm.mem w.f.vm.here).2.1 flags w.f.vm.conf.words)
 have c:=UC w.f.vm.dict name (aM w.f.vm.mem w.f.vm.here).2.1 flags w.f.vm.conf.words
 unfold dP
 refine⟨a.1.trans b.1,a.2.2.1.trans b.2.1,fun q=>?_,?_⟩
 ·have:=b.2.2.1 (a.2.2.2 q)
  dsimp only
  rw[a.2.1,this.1];exact c.1 this.2
 dsimp only
 rw[a.2.1]
 rcases b.2.2.2 with e|e
 ·rw[e];exact c.2
 rw[e];exact Nat.le_refl _
def ae2{l:List aL}(h:DX l)(name:Str){xt:Int}(flags limit:Int)(hx:ab xt):DX (bU l name xt flags limit).1:=by
 unfold bU
 by_cases q1:cI name≠0
 ·rw[if_pos q1];exact h
 rw[if_neg q1]
 by_cases q2:(if 1024<limit then 1024 else limit)<=(l.length:Int)
 ·rw[if_pos q2];exact h
 rw[if_neg q2]
 intro x hx'
 rcases List.mem_append.1 hx' with q|q
 ·exact h x q
 rw[List.mem_singleton.1 q];exact hx
def Do{N:Nat}{w:FW}(g:bb N w.f.vm)(h:DX w.f.vm.dict)(name:Str)(flags:Int)(l:List Int):DX (dP w name flags l).1.f.vm.dict:=by
 have a:=Di l (fb w (aM w.f.vm.mem w.f.vm.here) (bU w.f.vm.dict name (aM w.f.vm.mem w.f.vm.here).2.1 flags w.f.vm.conf.words))
 have b:=Lh w (aM w.f.vm.mem w.f.vm.here) (bU w.f.vm.dict name (aM w.f.vm.mem w.f.vm.here).2.1 flags w.f.vm.conf.words)
 unfold dP
 dsimp only
 rw[a.2.1]
 rcases b.2.2.2 with e|e
 ·rw[e];exact ae2 h name flags _ (wE g)
 rw[e];exact h
def lQ{N:Nat}{f:ae}(h:OkF N f)(name:Str)(last:Bool)(l:List Int):OkF (N+1+l.length) (bR f name last l).1:=by
 unfold bR
 split
 ·exact h.up (by omega)
 rename_i q
 unfold gd
 split
 ·exact h.up (by omega)
 have g:=DP (l:=l) (w:=aK f) h.g name (flags:=0) (by decide) (by decide)
 have c:=NQ (aK f) name 0 l
 have hx:f.comp.xt=0:=Decidable.not_not.1 q
 have go:bb (N+1+l.length) (iL (dP (aK f) name 0 l) last).f.vm:=by
  unfold iL;split
  ·exact xP g (wE h.g)
  exact g
 have dd:DX (iL (dP (aK f) name 0 l) last).f.vm.dict:=by
  have q:=Do (w:=aK f) h.g h.xts name 0 l
  unfold iL;split<;>exact q
 have cc:(iL (dP (aK f) name 0 l) last).f.comp=f.comp:=by unfold iL;split<;>exact c
 exact⟨go,by show(iL _ _).f.comp.cf.length<=32;rw[cc];exact h.cfl,by show ∀c∈(iL _ _).f.comp.cf,_;rw[cc];exact h.cf,by show(iL _ _).f.comp.xt≠0->_;rw[cc];exact fun z=>absurd hx z,by show(iL _ _).f.comp.xt≠0->_;rw[cc];exact fun z=>absurd hx z,by show ab (iL _ _).f.comp.last;rw[cc];exact h.la,by show(iL _ _).f.comp.on=true->0<=(iL _ _).f.comp.fuel;rw[cc];exact h.fu,dd⟩
structure KV (v w:VVm):Prop where
 conf:w.conf=v.conf
 dict:w.dict=v.dict
 hand:w.hand=v.hand
def KV.rf(v:VVm):KV v v:=⟨rfl,rfl,rfl⟩
def KV.tr{a b c:VVm}(h:KV a b)(g:KV b c):KV a c:=⟨g.conf.trans h.conf,g.dict.trans h.dict,g.hand.trans h.hand⟩
def fP{c:Prop}[Decidable c]{v:VVm}{a b:VWk}(h1:KV v a.v)(h2:KV v b.v):KV v (if c then a else b).v:=by
 by_cases hc:c
 ·rw[if_pos hc];exact h1
 rw[if_neg hc];exact h2
section
variable (k : VWk)
def lG(e:Int):KV k.v (cG k e).v:=fP (.rf _) (.rf _)
def ky(n:Int):KV k.v (jw k n).v:=⟨rfl,rfl,rfl⟩
def qH:KV k.v (fM k).1.v:=⟨rfl,rfl,rfl⟩
def jI(n:Int):KV k.v (dS k n).v:=by show KV k.v (ga k.v n).1;unfold ga;split<;>exact⟨rfl,rfl,rfl⟩
def mJ:KV k.v (g7 k).1.v:=by show KV k.v (eS k.v).2.1;unfold eS;split<;>exact⟨rfl,rfl,rfl⟩
def mc(a:Int):KV k.v (bn k a).1.v:=lG _ _
def HK(a n:Int):KV k.v (ml k a n).v:=⟨rfl,rfl,rfl⟩
def Ac(n:Int):KV k.v (ku k n).1.v:=by unfold ku;split;exact lG _ _;exact .rf _
def Ll:KV k.v (dTo k).v:=mc _ _
def DL:KV k.v (vG k).1.v:=(qH k).tr (qH _)
def Lv(n:Int):KV k.v (y4 k n).v:=by
 unfold y4
 dsimp only
 have h1:KV k.v (ku (ku k 1).1 0).1.v:=(Ac k 1).tr (Ac _ 0)
 refine fP h1 ?_
 have h2:=h1.tr (mJ _)
 exact fP (h2.tr (mJ _)) ((h2.tr (jI _ _)).tr (Ll _))
def Oa:KV k.v (uD k).v:=by
 unfold uD
 exact fP (lG _ _) ⟨rfl,rfl,rfl⟩
def U9:KV k.v (CC k).v:=by
 unfold CC
 dsimp only
 exact fP (lG _ _) (((HK _ _ _).tr (HK _ _ _)).tr (mJ _))
def aa1:KV k.v (Wy k).v:=by
 unfold Wy
 dsimp only
 exact((KV.tr (mc k _) (fP (.rf _) (lG _ _))).tr (ky _ _)).tr (ky _ _)
def mm{c:Prop}[Decidable c]{v:VVm}{a b:VWk×Bool}(h1:KV v a.1.v)(h2:KV v b.1.v):KV v (if c then a else b).1.v:=by
 by_cases hc:c
 ·rw[if_pos hc];exact h1
 rw[if_neg hc];exact h2
def Kv(name:Str):KV k.v (r8 k name).1.v:=by
 unfold r8
 dsimp only
 refine mm (mJ k) (mm ((mc k _).tr (ky _ _)) (mm (Ll k) (mm ?_ (mm ?_ (mm ?_ (mm (Lv k 1) (mm ((qH k).tr (Lv _ _)) (mm (.rf _) (mm (Oa k) (mm (U9 k) (mm (aa1 k) (.rf _))))))))))))
 ·exact fP ((qH k).tr (Ll _)) (qH k)
 ·exact((DL k).tr (jI _ _)).tr (jI _ _)
 exact fP ((DL k).tr (Ll _)) (((DL k).tr (jI _ _)).tr (jI _ _))
def OF:KV k.v (AO k).v:=by
 unfold AO
 dsimp only
 have h:KV k.v (if 64<=((fM k).1.v.f.length:Int)then cG (fM k).1 (-5)else(fM k).1).v:=(qH k).tr (fP (lG _ _) (.rf _))
 exact h.tr ⟨rfl,rfl,rfl⟩
def Ui(name:Str):KV k.v (FI k name).v:=by
 unfold FI
 dsimp only
 refine fP (qH k) (fP (OF k) (fP ((qH k).tr (lG _ _)) (fP ((Ac k 0).tr (ky _ _)) (fP ((Ac k 2).tr (ky _ _)) (fP ?_ (fP ((qH k).tr (jI _ _)) (fP ((mJ k).tr (ky _ _)) (fP ?_ (fP ?_ (.rf _))))))))))
 ·exact((Ac k 1).tr (mJ _)).tr (mJ _)
 ·exact((DL k).tr (jI _ _)).tr (jI _ _)
 exact(((mJ k).tr (mJ _)).tr (ky _ _)).tr (ky _ _)
def J0(xt:Int):KV k.v (o7 k xt).v:=by
 unfold o7
 dsimp only
 have h:∀c:Prop,[Decidable c]->∀a b:Int,KV k.v (bn (if c then cG (bn (bn k (W64 (xt+16))).1 a).1 (-24)else(bn (bn k (W64 (xt+16))).1 a).1) b).1.v:=fun c _ a b =>
  (((mc k _).tr (mc _ _)).tr (fP (lG _ _) (.rf _))).tr (mc _ _)
 exact fP (h _ _ _) (h _ _ _)
def ay9{v:VVm}{n:Int}{N:Nat}(g:uX N v):KV v (doS v n).1:=by
 have s:=Ho (n:=n) g
 unfold CF at s
 exact⟨by have q:=congrArg VVm.conf s;exact q,by have q:=congrArg VVm.dict s;exact q,by have q:=congrArg VVm.hand s;exact q⟩
def Uz(xt:Int){N:Nat}(g:uX N k.v):KV k.v (qZ k xt).v:=by
 unfold qZ
 dsimp only
 refine fP (lG _ _) (fP (lG _ _) (fP (jI _ _) (fP (ky _ _) (fP ((mc _ _).tr (ky _ _)) (fP (((mc _ _).tr (ky _ _)).tr (jI _ _)) (fP (J0 k xt) (fP (ay9 g) (fP (Kv _ _) ((Kv _ _).tr (Ui _ _))))))))))
end
def y2(a:bD)(bad:Int):KV a.vm (cp a bad).1.vm:=by unfold cp;split<;>exact⟨rfl,rfl,rfl⟩
def UJ{r:bD}{N:Nat}(g:gh N r):KV r.vm (bS r).1.vm:=by
 have gv:=g.m.v
 unfold bS
 dsimp only
 by_cases h:r.fuel<1
 ·rw[if_pos h];exact .rf _
 rw[if_neg h]
 have hq:∀q:VWk×Int,q.1.v=r.vm->KV r.vm (if q.1.bad=0 then qZ q.1 q.2 else q.1).v:=fun q e=>by
  refine fP ?_ (by rw[e];exact .rf _)
  have:=Uz q.1 q.2 (N:=N) (by rw[e];exact gv)
  rw[e]at this;exact this
 have e0:(if r.dof=true then((⟨r.vm,r.ip,0,false,false,0⟩:VWk),r.w)else(if (bn ⟨r.vm,r.ip,0,false,false,0⟩ r.ip).1.bad=0 then jB (bn ⟨r.vm,r.ip,0,false,false,0⟩ r.ip).1 else(bn ⟨r.vm,r.ip,0,false,false,0⟩ r.ip).1,(bn ⟨r.vm,r.ip,0,false,false,0⟩ r.ip).2)).1.v=r.vm:=by
  split
  ·rfl
  dsimp only
  unfold bn cG jB
  dsimp only
  (repeat' split)<;>rfl
 have h1:=hq _ e0
 revert h1
 generalize (if r.dof=true then((⟨r.vm,r.ip,0,false,false,0⟩:VWk),r.w)else(if (bn ⟨r.vm,r.ip,0,false,false,0⟩ r.ip).1.bad=0 then jB (bn ⟨r.vm,r.ip,0,false,false,0⟩ r.ip).1 else(bn ⟨r.vm,r.ip,0,false,false,0⟩ r.ip).1,(bn ⟨r.vm,r.ip,0,false,false,0⟩ r.ip).2))=q at e0 ⊢
 intro h1
 have ca:∀b:Int,KV r.vm (cp ⟨r.vm,q.1.ip,0,false,W64 (r.fuel-1)⟩ b).1.vm:=fun b=>y2 ⟨r.vm,q.1.ip,0,false,W64 (r.fuel-1)⟩ b
 generalize (if q.1.bad=0 then qZ q.1 q.2 else q.1)=k at h1 ⊢
 split
 ·exact h1
 exact ca _
open Go.RowKit
structure CG (N:Nat) (v:VVm) (w:CW):Prop where
 g:bb N w.v
 k:KV v w.v
 len:w.l.length<=32
 cf:∀c∈w.l,wb c
section
variable {N : Nat} {v : VVm} {w : CW}
def CG.up(h:CG N v w){M:Nat}(hM:N<=M):CG M v w:=⟨h.g.up hM,h.k,h.len,h.cf⟩
def CG.fit(h:CG N v w):ab w.v.here:=by
 have R:=h.g.right
 have hc:=R.fV
 unfold dW at hc
 have h1:=R.ju
 have h2:=R.jx
 unfold ab;omega
def EL(h:CG N v w)(e:Int):CG N v (w.fail e):=by
 unfold CW.fail;split
 ·exact⟨h.g,h.k,h.len,h.cf⟩
 exact h
def qA(h:CG N v w)(n:Int):CG (N+1) v (gi w n):=by
 unfold gi;split
 ·exact⟨Ix h.g n,h.k.tr ⟨rfl,rfl,rfl⟩,h.len,h.cf⟩
 exact h.up (by omega)
def iP(h:CG N v w)(name:Str):CG (N+1) v (ce w name):=qA h _
def oN(h:CG N v w)(name:Str):CG (N+2) v (eO w name):=qA (iP h name) 0
def yl(h:CG N v w)(a:Int):CG (N+1) v (gV w a):=by
 unfold gV;split
 ·exact⟨Df h.g (cM _ _ _),h.k.tr ⟨rfl,rfl,rfl⟩,h.len,h.cf⟩
 exact h.up (by omega)
def qp(h:CG N v w){c:VCf}(hc:wb c):CG N v (io w c):=by
 unfold io;split
 ·exact EL h _
 rename_i q
 refine⟨h.g,h.k,by simp only[List.length_append,List.length_singleton];omega,fun x hx=>?_⟩
 rcases List.mem_append.1 hx with hx|hx
 ·exact h.cf x hx
 rw[List.mem_singleton.1 hx];exact hc
def nI(h:CG N v w)(kind:Int):CG N v (aZ w kind).1/\wb (aZ w kind).2:=by
 unfold aZ;split
 ·exact⟨EL h _,Rg⟩
 rename_i q
 have hl:w.l.length≠0:=fun z=>q (.inl z)
 refine⟨⟨h.g,h.k,by simp only[List.length_take];have:=h.len;omega,fun x hx=>h.cf x (List.mem_of_mem_take hx)⟩,?_⟩
 show wb (w.l.getD (w.l.length-1) zCf)
 rw[List.getD_eq_getElem?_getD,List.getElem?_eq_getElem (by omega)]
 exact h.cf _ (List.getElem_mem _)
def AU(h:CG N v w)(kind:Int):wb ⟨kind,w.v.here,[]⟩:=⟨h.fit,Nat.zero_le _,fun x hx=>by cases hx⟩
def LF:∀(l:List Int) (N:Nat) (w:CW),CG N v w->CG (N+l.length) v (l.foldl gV w)
 | [],_,_,h=>h
 | x::l,N,w,h=>by
  have:=LF l (N+1) _ (yl h x)
  rw[List.foldl_cons,List.length_cons,show N+(l.length+1)=N+1+l.length by omega];exact this
def Ld(name:Str)(h:CG N v w):CG (N+2) v (uO name w):=qA (iP (nI h 2).1 name) _
def Pb(name:Str)(h:CG N v w):CG (N+40) v (vP name w):=by
 have c:=nI h 3
 have q:=LF (aZ w 3).2.leaves _ _ (qA (iP c.1 name) (aZ w 3).2.at_)
 exact q.up (by have:=c.2.len;omega)
def T8(h:CG N v w):CG (N+40) v (qd w):=by
 unfold qd
 split
 ·exact(EL h _).up (by omega)
 rename_i q
 have a:=iP h [85,78,76,79,79,80]
 have b:=oN a [40,98,114,97,110,99,104,41]
 have rg:=sn w.l w.l.length
 have hn:(jd w.l w.l.length).toNat<w.l.length:=by omega
 have ho:wb (w.l.getD (jd w.l w.l.length).toNat zCf):=by
  rw[List.getD_eq_getElem?_getD,List.getElem?_eq_getElem hn]
  exact h.cf _ (List.getElem_mem _)
 refine⟨b.g.up (by omega),b.k,by show(w.l.set _ _).length<=32;rw[List.length_set];exact h.len,fun x hx=>?_⟩
 rcases List.mem_or_eq_of_mem_set hx with hx|hx
 ·exact h.cf x hx
 subst hx
 refine⟨ho.fit,by simp only[List.length_append,List.length_singleton];omega,fun y hy=>?_⟩
 rcases List.mem_append.1 hy with hy|hy
 ·exact ho.each y hy
 rw[List.mem_singleton.1 hy];exact(iP a [40,98,114,97,110,99,104,41]).fit
def ac7(h:CG N v w):CG (N+2) v (TL w):=by
 have b:=oN h [40,63,100,111,41]
 exact qp b ⟨b.fit,by show(1:Nat)<=32;decide,fun x hx=>by rw[List.mem_singleton.1 hx];exact(iP h [40,63,100,111,41]).fit⟩
def ao6{name:Str}{g:CW->CW}(hg:brF name=some g)(h:CG N v w):CG (N+40) v (g w):=by
 unfold brF at hg
 rcases aj hg with rfl|hg
 ·exact(qp (oN h _) (AU (iP h _) 1)).up (by omega)
 rcases aj hg with rfl|hg
 ·have c:=nI h 1
  exact(qp (yl (oN c.1 _) _) (AU (iP c.1 _) 1)).up (by omega)
 rcases aj hg with rfl|hg
 ·exact(yl (nI h 1).1 _).up (by omega)
 rcases aj hg with rfl|hg
 ·exact(qp h (AU h 2)).up (by omega)
 rcases aj hg with rfl|hg
 ·have c:=nI h 2
  exact(qp (qp (oN c.1 _) (AU (iP c.1 _) 1)) c.2).up (by omega)
 rcases aj hg with rfl|hg
 ·have c:=nI h 2
  have o:=nI c.1 1
  exact(yl (qA (iP o.1 _) _) _).up (by omega)
 rcases aj hg with rfl|hg
 ·exact(Ld _ h).up (by omega)
 rcases aj hg with rfl|hg
 ·exact(Ld _ h).up (by omega)
 rcases aj hg with rfl|hg
 ·exact(qp (iP h _) (AU (iP h _) 3)).up (by omega)
 rcases aj hg with rfl|hg
 ·exact(ac7 h).up (by omega)
 rcases aj hg with rfl|hg
 ·exact Pb _ h
 rcases aj hg with rfl|hg
 ·exact Pb _ h
 rcases aj hg with rfl|hg
 ·exact T8 h
 cases hg
end
def KQ{N:Nat}{v:VVm}(g:bb N v):CG N v (kN v):=⟨g,.rf _,Nat.zero_le _,(fun c hc=>by cases hc)⟩
def KH{N M:Nat}{v:VVm}{w:CW}(g:bb N v)(h:CG M v w)(hM:N<=M):bb M (yQ w v).1/\KV v (yQ w v).1:=by
 unfold yQ nS
 split
 ·exact⟨g.up hM,.rf _⟩
 exact⟨h.g,h.k⟩
def Py{N:Nat}{v:VVm}(g:bb N v)(n:Int):bb (N+2) (Gt v n).1/\KV v (Gt v n).1 :=
 KH g (qA (iP (KQ g) _) n) (by omega)
def Vj{N:Nat}{v:VVm}{x:CW}(h:CG N v x)(s:Str):CG (N+2) v (vF x s):=by
 unfold vF
 split
 ·unfold CP
  have b:=LM h.g
  have m1:dy x.v.mem (cJ x.v.mem x.v.here s).1 1:=gR _
  have p1:=iu (m:=x.v.mem) s b.1 b.2
  split
  ·have m2:dy (cJ x.v.mem x.v.here s).1 (aM (cJ x.v.mem x.v.here s).1 (cJ x.v.mem x.v.here s).2.1).1 1:=gR _
   have p2:1368<=(aM (cJ x.v.mem x.v.here s).1 (cJ x.v.mem x.v.here s).2.1).2.1/\(aM (cJ x.v.mem x.v.here s).1 (cJ x.v.mem x.v.here s).2.1).2.1<=(cJ x.v.mem x.v.here s).1.b.length:=iu _ p1.1 (by rw[m1.len];exact p1.2)
   have l1:=m1.len
   have l2:=m2.len
   exact⟨TX h.g (m1.trans m2) p2.1 (by omega),h.k.tr ⟨rfl,rfl,rfl⟩,h.len,h.cf⟩
  exact⟨h.g.up (by omega),h.k,h.len,h.cf⟩
 exact h.up (by omega)
def Qy{N:Nat}{v:VVm}(g:bb N v)(s:Str):bb (N+4) (J6 v s).1/\KV v (J6 v s).1 :=
 KH g (Vj (qA (iP (KQ g) _) _) s) (by omega)
def OkF.vm{N M:Nat}{f:ae}(h:OkF N f){v:VVm}(g:bb M v)(hd:f.vm.dict.length<=v.dict.length)(hc:v.conf=f.vm.conf)(hx:DX v.dict):OkF M {f with vm:=v} :=
 ⟨g,h.cfl,h.cf,fun q=>⟨(h.dict q).1,by have:=(h.dict q).2;show f.comp.dict<(v.dict.length:Int);omega⟩,fun q=>by show _/\_<=v.conf.mem;rw[hc];exact h.here q,h.la,h.fu,hx⟩
def OkF.kv{N M:Nat}{f:ae}(h:OkF N f){v:VVm}(g:bb M v)(k:KV f.vm v):OkF M {f with vm:=v}:=h.vm g (by rw[k.dict];exact Nat.le_refl _) k.conf (by rw[k.dict];exact h.xts)
def FO{N:Nat}{f:ae}(h:OkF N f)(name:Str):OkF (N+40) {f with vm:=(bh f.vm f.comp.cf name).1}/\OkF (N+40) {f with vm:=(bh f.vm f.comp.cf name).1,comp:={f.comp with cf:=(bh f.vm f.comp.cf name).2.1}}:=by
 have up:OkF (N+40) f:=h.up (by omega)
 unfold bh
 cases hb:brF name with
 | none=>exact⟨up,up⟩
 | some g =>
  dsimp only
  split
  ·exact⟨up,up⟩
  unfold nS
  split
  ·exact⟨up,up⟩
  have q:=ao6 hb (w:=⟨f.vm,f.comp.cf,0⟩) (v:=f.vm) ⟨h.g,.rf _,h.cfl,h.cf⟩
  have o:=h.kv q.g q.k
  exact⟨o,⟨o.g,q.len,q.cf,o.dict,o.here,o.la,o.fu,o.xts⟩⟩
open Go.RowKit
def xR(w:FW)(n:Int):(dv w n).f.vm.conf=w.f.vm.conf/\(dv w n).f.vm.dict=w.f.vm.dict/\(dv w n).f.vm.hand=w.f.vm.hand/\(dv w n).f.comp=w.f.comp/\(dv w n).f.vm.here=w.f.vm.here/\((dv w n).bad=0->w.bad=0):=by
 unfold dv
 rw[mp]
 exact⟨rfl,rfl,rfl,rfl,rfl,fun q=>(uw q).1⟩
def On{N:Nat}{f:ae}(h:OkF N f)(name:Str)(on:Bool)(fuel:Int):OkF (N+3) (gX f name on fuel).1:=by
 unfold gX
 by_cases hB:(fw f on fuel).bad≠0
 ·rw[if_pos hB];exact h.up (by omega)
 rw[if_neg hB]
 have ck:=yv (Decidable.not_not.1 hB)
 rw[ck.2.1]
 obtain⟨fu,hfu⟩:∃fu,(if on=true then fuel else 0)=fu:=⟨_,rfl⟩
 rw[hfu]
 unfold gd
 split
 ·exact h.up (by omega)
 rename_i q
 have q:(dv (dP (aK f) name 2 [256]).1 (-1)).bad=0:=Decidable.not_not.1 q
 have s:=xR (dP (aK f) name 2 [256]).1 (-1)
 have w:=Qo (aK f) name 2 [256]
 have g:=zu (DP (l:=[256]) (w:=aK f) h.g name (flags:=2) (by decide) (by decide)) (-1)
 have hd:=w.2.2.1 (s.2.2.2.2.2 q)
 have R:=h.g.right
 refine⟨g,Nat.zero_le _,(fun c hc=>by cases hc),fun _=>⟨Int.natCast_nonneg _,?_⟩,fun _=>⟨R.ju,?_⟩,h.g.la,fun z=>?_,?_⟩
 ·show(f.vm.dict.length:Int)<((dv (dP (aK f) name 2 [256]).1 (-1)).f.vm.dict.length:Int)
  rw[s.2.1,hd]
  show(f.vm.dict.length:Int)<((f.vm.dict.length+1:Nat):Int)
  omega
 ·show f.vm.here<=(dv (dP (aK f) name 2 [256]).1 (-1)).f.vm.conf.mem
  rw[s.1,w.1];exact R.jx
 ·have z:on=true:=z
  have:=(ck.2.2 z).1
  show 0<=fu
  rw[<-hfu,if_pos z];omega
 show DX (dv (dP (aK f) name 2 [256]).1 (-1)).f.vm.dict
 rw[s.2.1];exact Do (w:=aK f) h.g h.xts name 2 [256]
def V1{N:Nat}{v:VVm}(g:bb N v){l:List rF}(h:l.all EP=true)(hl:l.length<=64):bb N {v with hand:=l}:=by
 have R:=g.right
 exact⟨⟨R.fV,R.mem,R.dict,R.pic,R.len,R.ju,R.jx,R.f,h,R.d,R.r,R.fl,R.dl,R.out,R.req,R.free0,R.free1,R.next0,R.next1,hl⟩,g.old,g.fd,g.fr,g.ff,g.ints,g.la⟩
def Ah{l:List aL}(h:ib l=true)(a:Int){n:Int}(h0:0<=n)(h7:n<=7):ib (cz l a n).1=true/\(cz l a n).1.length=l.length:=by
 unfold cz
 split
 ·exact⟨h,rfl⟩
 rename_i q
 have hlt:a.toNat<l.length:=by omega
 refine⟨?_,List.length_set ..⟩
 unfold ib at h ⊢
 simp only[Bool.and_eq_true,decide_eq_true_eq]at h ⊢
 refine⟨List.all_eq_true.2 fun x hx=>?_,by show(l.set _ _).length<=_;rw[List.length_set];exact h.2⟩
 rcases List.mem_or_eq_of_mem_set hx with hx|hx
 ·exact List.all_eq_true.1 h.1 x hx
 subst hx
 have:=List.all_eq_true.1 h.1 (l.getD a.toNat default) (by rw[List.getD_eq_getElem?_getD,List.getElem?_eq_getElem hlt];exact List.getElem_mem _)
 unfold AF at this ⊢
 simp only[decide_eq_true_eq]at this ⊢
 exact⟨this.1,h0,h7⟩
def K5{N:Nat}{v:VVm}(g:bb N v)(a:Int){n:Int}(h0:0<=n)(h7:n<=7):bb N {v with dict:=(cz v.dict a n).1}:=by
 have q:=Ah g.right.dict a h0 h7
 exact DM g q.1 (by rw[q.2];exact g.right.dl)
def yG{N:Nat}{v:VVm}(g:bb N v)(hx:DX v.dict):OkF N ⟨v,im⟩:=⟨g,Nat.zero_le _,(fun c hc=>by cases hc),fun q=>absurd rfl q,fun q=>absurd rfl q,bt,(fun q=>by cases q),hx⟩
def Lu{l:List aL}(h:DX l)(a n:Int):DX (cz l a n).1:=by
 unfold cz
 split
 ·exact h
 rename_i q
 intro x hx
 rcases List.mem_or_eq_of_mem_set hx with hx|hx
 ·exact h x hx
 subst hx
 show ab (l.getD a.toNat default).xt
 rw[List.getD_eq_getElem?_getD,List.getElem?_eq_getElem (by omega)]
 exact h _ (List.getElem_mem _)
def Tl{l:List aL}(h:DX l)(n:Int):DX (fZ l n).1:=by
 unfold fZ
 split
 ·exact h
 exact fun x hx=>h x (List.mem_of_mem_take hx)
def IF(w:FW)(d:List aL×Int):(mv w d).f.vm={w.f.vm with dict:=d.1}:=by unfold mv;rw[mp]
def ag5{l:List aL}(h:ib l=true)(i:Nat):0<=gQ (l.getD i default).flags/\gQ (l.getD i default).flags<=7:=by
 by_cases hi:i<l.length
 ·have q:=((sV h).get hi)
  exact LN q.2.1 q.2.2
 rw[List.getD_eq_getElem?_getD,List.getElem?_eq_none (by omega)];exact⟨by decide,by decide⟩
def Uf{N:Nat}{f:ae}(h:OkF N f):OkF (N+2) (kj f).1:=by
 unfold kj
 by_cases hE:lM f≠0
 ·rw[if_pos hE];exact h.up (by omega)
 rw[if_neg hE]
 have hE:lM f=0:=Decidable.not_not.1 hE
 have ho:¬(f.comp.on=true/\64<=f.vm.hand.length):=fun q=>by
  unfold lM at hE
  by_cases c1:f.comp.xt=0
  ·rw[if_pos c1]at hE;cases hE
  by_cases c2:0<f.comp.cf.length
  ·rw[if_neg c1,if_pos c2]at hE;cases hE
  rw[if_neg c1,if_neg c2,if_pos q]at hE;cases hE
 unfold gd
 split
 ·exact h.up (by omega)
 have hdx:DX (xE f).f.vm.dict:=by
  have e1:(xE f).f.vm.dict=(dv (mv (b9 ⟨f,0⟩ 32) (sk (b9 ⟨f,0⟩ 32) f.comp)) 0).f.vm.dict:=by unfold xE iK;split<;>rfl
  rw[e1,(xR _ 0).2.1,IF]
  show DX (cz (b9 ⟨f,0⟩ 32).f.vm.dict _ _).1
  rw[(Ju ⟨f,0⟩ 32).2.1];exact Lu h.xts _ _
 refine yG ?_ hdx
 have g1:bb (N+1) (b9 ⟨f,0⟩ 32).f.vm:=Kt (w:=⟨f,0⟩) h.g 32
 have c1:=Ju ⟨f,0⟩ 32
 have u7:=ag5 g1.right.dict f.comp.dict.toNat
 have g2:bb (N+1) (mv (b9 ⟨f,0⟩ 32) (sk (b9 ⟨f,0⟩ 32) f.comp)).f.vm:=by rw[IF];exact K5 g1 _ u7.1 u7.2
 have g3:=zu g2 0
 have s3:=xR (mv (b9 ⟨f,0⟩ 32) (sk (b9 ⟨f,0⟩ 32) f.comp)) 0
 have hh:(dv (mv (b9 ⟨f,0⟩ 32) (sk (b9 ⟨f,0⟩ 32) f.comp)) 0).f.vm.hand=f.vm.hand:=by rw[s3.2.2.1,IF];exact c1.2.2.1
 show bb (N+2) (xE f).f.vm
 unfold xE iK
 split
 ·rename_i q
  have hr:=h.g.right.hand
  refine V1 g3 ?_ ?_
  ·rw[hh,List.all_append,hr,Bool.true_and,List.all_cons,List.all_nil,Bool.and_true]
   unfold EP
   exact decide_eq_true (h.fu q)
  rw[hh,List.length_append,List.length_singleton]
  have:¬64<=f.vm.hand.length:=fun z=>ho ⟨q,z⟩
  omega
 exact g3
def Jv{l:List aL}(h:ib l=true)(n:Nat):ib (l.take n)=true:=by
 unfold ib at h ⊢
 simp only[Bool.and_eq_true,decide_eq_true_eq]at h ⊢
 exact⟨List.all_eq_true.2 fun x hx=>List.all_eq_true.1 h.1 x (List.mem_of_mem_take hx),by rw[List.length_take];omega⟩
def OP{N:Nat}{v:VVm}(g:bb N v)(n:Int):bb N {v with dict:=(fZ v.dict n).1}:=by
 unfold fZ
 split
 ·exact g
 exact DM g (Jv g.right.dict _) (by have:=g.right.dl;rw[List.length_take];omega)
def LE{N:Nat}{v:VVm}(g:bb N v){here:Int}(h0:1368<=here)(h1:here<=v.conf.mem):bb N {v with here:=here}:=by
 have R:=g.right
 exact⟨⟨R.fV,R.mem,R.dict,R.pic,R.len,h0,h1,R.f,R.hand,R.d,R.r,R.fl,R.dl,R.out,R.req,R.free0,R.free1,R.next0,R.next1,R.handl⟩,g.old,g.fd,g.fr,g.ff,g.ints,g.la⟩
def Pj{N:Nat}{f:ae}(h:OkF N f):OkF (N+1) (iB f):=by
 unfold iB
 split
 ·exact h.up (by omega)
 rename_i q
 have g:=zu (w:=⟨f,0⟩) h.g 0
 have s:=xR ⟨f,0⟩ 0
 refine yG (v:={(dv ⟨f,0⟩ 0).f.vm with dict:=(fZ (dv ⟨f,0⟩ 0).f.vm.dict f.comp.dict).1,here:=f.comp.here,last:=f.comp.last}) ?_ (by show DX (fZ (dv ⟨f,0⟩ 0).f.vm.dict f.comp.dict).1;rw[s.2.1];exact Tl h.xts _)
 have hq:=h.here q
 exact xP (LE (OP g _) hq.1 (by show f.comp.here<=(dv ⟨f,0⟩ 0).f.vm.conf.mem;rw[s.1];exact hq.2)) h.la
def Wx{N:Nat}{v:VVm}(g:bb N v){n:Int}(hn:ab n):bb N (gD v n).1:=by
 unfold gD gn
 by_cases c:v.conf.data<=(v.d.length:Int)
 ·rw[if_pos c];exact g
 rw[if_neg c];exact Sv g (by simp only[List.length_append,List.length_singleton];omega) (i9 g.fd (cU hn))
def SM{N:Nat}{v:VVm}(g:bb N v):bb N (dO v).2.1/\ab (dO v).1:=by
 refine⟨?_,(Ej g.x).2⟩
 unfold dO bk
 split
 ·exact g
 exact Sv g (by have:=g.right.d;simp only[List.length_take];omega) (m6 _ g.fd)
def Gi{N:Nat}{v:VVm}(g:bb N v)(s:Str):bb N (iJ v s).1/\KV v (iJ v s).1:=by
 unfold iJ
 split
 ·exact⟨g,.rf _⟩
 rename_i q
 have R:=g.right
 exact⟨⟨⟨R.fV,R.mem,R.dict,R.pic,R.len,R.ju,R.jx,R.f,R.hand,R.d,R.r,R.fl,R.dl,by show((v.out++s).length:Int)<=v.conf.out;rw[List.length_append];omega,R.req,R.free0,R.free1,R.next0,R.next1,R.handl⟩,g.old,g.fd,g.fr,g.ff,g.ints,g.la⟩,⟨rfl,rfl,rfl⟩⟩
structure Nx (N:Nat) (l0 l:ag):Prop where
 f:OkF N l.f
 s:l.s=l0.s
 a:l0.at_<=l.at_
 b:l.at_<=l0.s.length
 u:l.fuel=l0.fuel
def Nx.up{N M:Nat}{l0 l:ag}(h:Nx N l0 l)(hM:N<=M):Nx M l0 l:=⟨h.f.up hM,h.s,h.a,h.b,h.u⟩
def Nx.to{N M:Nat}{l0 l l':ag}(h:Nx N l0 l)(hf:OkF M l'.f)(hs:l'.s=l.s)(ha:l'.at_=l.at_)(hu:l'.fuel=l.fuel):Nx M l0 l':=⟨hf,hs.trans h.s,by rw[ha];exact h.a,by rw[ha];exact h.b,hu.trans h.u⟩
def yD(l:ag)(e:Int):(oOk l e).s=l.s/\(oOk l e).at_=l.at_/\(oOk l e).fuel=l.fuel:=by unfold oOk;split<;>exact⟨rfl,rfl,rfl⟩
def Dx(l:ag)(r:VVm×Int):(fJ l r).s=l.s/\(fJ l r).at_=l.at_/\(fJ l r).fuel=l.fuel:=by
 have q:=yD l r.2
 unfold fJ;split<;>exact q
def xY(l:ag)(r:ae×Int):(ka l r).s=l.s/\(ka l r).at_=l.at_/\(ka l r).fuel=l.fuel:=by
 have q:=yD l r.2
 unfold ka;split<;>exact q
def Ec(s:Str){a:Int}(h0:0<=a)(h1:a<=s.length)(hw:(bu s a).1≠[]):a<(bu s a).2/\(bu s a).2<=s.length/\(a+2<=(bu s a).2\/(bu s a).2=s.length):=by
 have hf:dr s a=a.toNat:=by unfold dr;rw[if_neg (by omega)]
 have hb:=zO s (s.length-dr s a) (dr s a) (EE s a)
 have he:=Dd s (s.length-k9 s (dr s a)) (k9 s (dr s a)) hb.2
 have hb1:dr s a<=k9 s (dr s a):=hb.1
 have he1:nq s (k9 s (dr s a))<=s.length:=he.2
 have hlt:k9 s (dr s a)<nq s (k9 s (dr s a)):=by
  refine Nat.lt_of_not_le fun q=>hw ?_
  unfold bu
  dsimp only
  exact List.drop_eq_nil_of_le (by rw[List.length_take];omega)
 have e2:(bu s a).2=min ((nq s (k9 s (dr s a)):Int)+1) s.length:=rfl
 omega
def V5(s:Str){a:Int}(c:UInt8)(h0:0<=a)(h1:a<=s.length):a<=(kZ s a c).2.1/\(kZ s a c).2.1<=s.length:=by
 have hf:dr s a=a.toNat:=by unfold dr;rw[if_neg (by omega)]
 have hi:=Ax (s.drop (dr s a)) c
 rw[List.length_drop]at hi
 unfold kZ
 dsimp only
 split
 ·exact⟨h1,Int.le_refl _⟩
 rename_i q
 dsimp only
 rw[hf]at hi q ⊢
 omega
section
variable {N M : Nat} {l0 l : ag}
def uG(h:Nx N l0 l)(e:Int):Nx N l0 (oOk l e):=h.to (by rw[(uh l e).1];exact h.f) (yD l e).1 (yD l e).2.1 (yD l e).2.2
def xV(h:Nx M l0 l){r:VVm×Int}(hr:OkF M {l.f with vm:=r.1}):Nx M l0 (fJ l r):=by
 refine h.to ?_ (Dx l r).1 (Dx l r).2.1 (Dx l r).2.2
 unfold fJ
 rw[(uh l r.2).1]
 split
 ·exact hr
 rw[(uh l r.2).1];exact h.f
def yo(h:Nx M l0 l){r:ae×Int}(hr:OkF M r.1):Nx M l0 (ka l r):=by
 refine h.to ?_ (xY l r).1 (xY l r).2.1 (xY l r).2.2
 rcases IY l r with e|e
 ·rw[e];exact hr
 rw[e];exact h.f
def GM(h:Nx M l0 l){r:VVm×Int}(hr:OkF M {l.f with vm:=r.1}):Nx M l0 (oDo l r):=by
 unfold oDo;split
 ·exact xV h hr
 exact h
def Dn(h:Nx N l0 l)(n:Int):Nx (N+1) l0 (ri l n):=GM (h.up (by omega)) (h.f.kv (Ix h.f.g n) ⟨rfl,rfl,rfl⟩)
def za(h:Nx N l0 l)(n:Int):Nx (N+2) l0 (th l n):=GM (h.up (by omega)) (h.f.kv (Py h.f.g n).1 (Py h.f.g n).2)
def Em(h:Nx N l0 l){n:Int}(hn:ab n):Nx N l0 (uW l n):=GM h (h.f.kv (Wx h.f.g hn) ⟨rfl,rfl,rfl⟩)
def I3(h:Nx N l0 l):Nx N l0 (mg l).1/\ab (mg l).2:=⟨xV h (h.f.kv (SM h.f.g).1 ⟨rfl,rfl,rfl⟩),(SM h.f.g).2⟩
def xO(h:Nx N l0 l)(name:Str):Nx (N+1) l0 (xc l name):=Dn h _
def vN(h:Nx N l0 l)(h0:0<=l0.at_):Nx N l0 (bY l).1:=by
 unfold bY;split
 ·exact uG h _
 rename_i q
 have w:=Ec l.s (a:=l.at_) (by have:=h.a;omega) (by rw[h.s];exact h.b) q
 have e:=h.s
 have a:=h.a
 exact⟨h.f,e,by show l0.at_<=(bu l.s l.at_).2;omega,by show(bu l.s l.at_).2<=_;rw[<-e];exact w.2.1,h.u⟩
def Er(h:Nx N l0 l)(h0:0<=l0.at_)(c:UInt8):Nx N l0 (iv l c).1:=by
 have w:=V5 l.s (a:=l.at_) c (by have:=h.a;omega) (by rw[h.s];exact h.b)
 unfold iv;split
 ·have e:=h.s
  have a:=h.a
  exact⟨h.f,e,by show l0.at_<=(kZ l.s l.at_ c).2.1;omega,by show(kZ l.s l.at_ c).2.1<=_;rw[<-e];exact w.2,h.u⟩
 exact uG h _
def U7(h:Nx N l0 l):Nx N l0 (R7 l):=⟨h.f,h.s,by show l0.at_<=(l.s.length:Int);rw[h.s];have:=h.a;have:=h.b;omega,by show(l.s.length:Int)<=_;rw[h.s];exact Int.le_refl _,h.u⟩
def E3(h:Nx N l0 l)(h0:0<=l0.at_)(on:Bool)(fuel:Int):Nx (N+3) l0 (ui l on fuel):=by
 have q:=vN h h0
 unfold ui;split
 ·exact yo (q.up (by omega)) (On q.f _ _ _)
 exact q.up (by omega)
def Vo(h:Nx N l0 l):Nx (N+2) l0 (yJ l):=yo (h.up (by omega)) (Uf h.f)
def Kn(h:Nx N l0 l)(h0:0<=l0.at_):Nx (N+4) l0 (vj l):=by
 have q:=Er h h0 34
 exact GM (q.up (by omega)) (q.f.kv (Qy q.f.g _).1 (Qy q.f.g _).2)
def TG(h:Nx N l0 l)(h0:0<=l0.at_):Nx (N+5) l0 (ue l):=by
 unfold ue;split
 ·exact xO (Kn h h0) _
 have q:=Er h h0 34
 exact(GM q (q.f.kv (Gi q.f.g _).1 (Gi q.f.g _).2)).up (by omega)
def Io(h:Nx N l0 l)(name:Str):Nx (N+40) l0 (kI l name):=by
 have b:=FO h.f name
 have m:Nx (N+40) l0 (fJ l ((bh l.f.vm l.f.comp.cf name).1,(bh l.f.vm l.f.comp.cf name).2.2)):=xV (h.up (by omega)) b.1
 have e:(fJ l ((bh l.f.vm l.f.comp.cf name).1,(bh l.f.vm l.f.comp.cf name).2.2)).err=0->(fJ l ((bh l.f.vm l.f.comp.cf name).1,(bh l.f.vm l.f.comp.cf name).2.2)).f={l.f with vm:=(bh l.f.vm l.f.comp.cf name).1}:=fun q=>by
  unfold fJ at q ⊢
  split at q
  ·rename_i z;rw[if_pos z];dsimp only;rw[(uh l _).1]
  rename_i z;exact absurd q z
 unfold kI
 split
 ·rename_i q
  refine m.to ?_ rfl rfl rfl
  rw[e q];exact b.2
 exact m
def vl(h:Nx N l0 l)(h0:0<=l0.at_){D:ae->Str->ae×Int}{j:Nat}(hD:∀f name,OkF N f->OkF (N+j) (D f name).1):Nx (N+j) l0 (jz l D):=by
 have q:=vN h h0
 unfold jz;split
 ·exact yo (q.up (by omega)) (hD _ _ q.f)
 exact q.up (by omega)
def NH(h:Nx N l0 l)(h0:0<=l0.at_):Nx (N+3) l0 (dT l):=vl h h0 fun f name o=>lQ o name true [257,0]
def BR(h:Nx N l0 l)(h0:0<=l0.at_){D:ae->Str->Int->ae×Int}{j:Nat}(hD:∀f name n,OkF N f->OkF (N+j) (D f name n).1):Nx (N+j) l0 (sx l D):=by
 have p:=I3 h
 unfold sx;split
 ·exact vl p.1 h0 fun f name o=>hD f name _ o
 exact p.1.up (by omega)
def Tb(h:Nx N l0 l)(h0:0<=l0.at_):Nx (N+4) l0 (JC l):=BR h h0 fun f name n o=>lQ o name false [258,0,n]
end
open Go.RowKit
def ii:List Str:=[[58],[67,82,69,65,84,69],[86,65,82,73,65,66,76,69],[67,79,78,83,84,65,78,84],[73,77,77,69,68,73,65,84,69],[39],[67,72,65,82],[46,34],[40],[92],[91],[93],[70,79,82,71,69,84],[77,65,67,72,73,78,69],[79,78,58]]
def uC(k:Int):Bool:=if k<300 then false else !decide (bG.getD (k-300).toNat []∈ii)
def EW(k:Int)(h1:k<337)(h0:ab k):af prog 68 [i64 k] (boo (uC k)):=by
 have hL:=ij
 unfold ab at h0
 have w1:¬k<300->IntKind.i64.wrap (k-300)=k-300:=fun q=>by rw[gq (by omega) (by omega)]
 obtain⟨x,hx⟩:∃x,bG.getD (k-300).toNat []=x:=⟨_,rfl⟩
 have e1:¬k<300->uC k = !decide (x∈ii):=fun q=>by unfold uC;rw[if_neg q,hx]
 refine zY func68 fun B=>?_
 refine zu1 ?_
 refine Ws<|zu2 ?_
 refine Wi rfl (fun hi1=>?_) (fun hi1=>?_)
 ·have q:k<300:=oT hi1
  refine zu1 ?_
  refine zR ?_
  (unfold uC;rw[if_pos q];rfl)
 have q:¬k<300:=oF hi1
 refine Wj<|Ws<|z8 ?_
 refine zc rfl func71 ((eG) _) ?_
 refine zy2 ?_
 refine Wa 7 rfl (zI9 (w1 q)) ?_
 refine Wv tG rfl rfl rfl (by omega) (iR fa 1 (fun _=>rfl) [] (by omega)) ?_
 refine z1 ?_
 refine Wa 9 rfl (congrArg str hx) ?_
 refine Wn<|Wl<|Ws<|zp1 ?_
 refine zq 11 ?_
 refine zs1 ?_
 refine Wi rfl (fun hi2=>?_) (fun hi2=>?_)
 ·have m:x∈ii:=by rw[oT hi2];decide
  refine Wj<|Wt rfl hi2 ?_
  refine zu1 ?_
  refine zR ?_
  (rw[e1 q,decide_eq_true m];rfl)
 have n0:=oF hi2
 refine zp1 ?_
 refine zq 12 ?_
 refine zs1 ?_
 refine Wi rfl (fun hi3=>?_) (fun hi3=>?_)
 ·have m:x∈ii:=by rw[oT hi3];decide
  refine Wj<|Wt rfl hi3 ?_
  refine zu1 ?_
  refine zR ?_
  (rw[e1 q,decide_eq_true m];rfl)
 have n1:=oF hi3
 refine zp1 ?_
 refine zq 13 ?_
 refine zs1 ?_
 refine Wi rfl (fun hi4=>?_) (fun hi4=>?_)
 ·have m:x∈ii:=by rw[oT hi4];decide
  refine Wj<|Wt rfl hi4 ?_
  refine zu1 ?_
  refine zR ?_
  (rw[e1 q,decide_eq_true m];rfl)
 have n2:=oF hi4
 refine zp1 ?_
 refine zq 14 ?_
 refine zs1 ?_
 refine Wi rfl (fun hi5=>?_) (fun hi5=>?_)
 ·have m:x∈ii:=by rw[oT hi5];decide
  refine Wj<|Wt rfl hi5 ?_
  refine zu1 ?_
  refine zR ?_
  (rw[e1 q,decide_eq_true m];rfl)
 have n3:=oF hi5
 refine zp1 ?_
 refine zq 15 ?_
 refine zs1 ?_
 refine Wi rfl (fun hi6=>?_) (fun hi6=>?_)
 ·have m:x∈ii:=by rw[oT hi6];decide
  refine Wj<|Wt rfl hi6 ?_
  refine zu1 ?_
  refine zR ?_
  (rw[e1 q,decide_eq_true m];rfl)
 have n4:=oF hi6
 refine zp1 ?_
 refine zq 16 ?_
 refine zs1 ?_
 refine Wi rfl (fun hi7=>?_) (fun hi7=>?_)
 ·have m:x∈ii:=by rw[oT hi7];decide
  refine Wj<|Wt rfl hi7 ?_
  refine zu1 ?_
  refine zR ?_
  (rw[e1 q,decide_eq_true m];rfl)
 have n5:=oF hi7
 refine zp1 ?_
 refine zq 17 ?_
 refine zs1 ?_
 refine Wi rfl (fun hi8=>?_) (fun hi8=>?_)
 ·have m:x∈ii:=by rw[oT hi8];decide
  refine Wj<|Wt rfl hi8 ?_
  refine zu1 ?_
  refine zR ?_
  (rw[e1 q,decide_eq_true m];rfl)
 have n6:=oF hi8
 refine zp1 ?_
 refine zq 18 ?_
 refine zs1 ?_
 refine Wi rfl (fun hi9=>?_) (fun hi9=>?_)
 ·have m:x∈ii:=by rw[oT hi9];decide
  refine Wj<|Wt rfl hi9 ?_
  refine zu1 ?_
  refine zR ?_
  (rw[e1 q,decide_eq_true m];rfl)
 have n7:=oF hi9
 refine zp1 ?_
 refine zq 19 ?_
 refine zs1 ?_
 refine Wi rfl (fun hi10=>?_) (fun hi10=>?_)
 ·have m:x∈ii:=by rw[oT hi10];decide
  refine Wj<|Wt rfl hi10 ?_
  refine zu1 ?_
  refine zR ?_
  (rw[e1 q,decide_eq_true m];rfl)
 have n8:=oF hi10
 refine zp1 ?_
 refine zq 20 ?_
 refine zs1 ?_
 refine Wi rfl (fun hi11=>?_) (fun hi11=>?_)
 ·have m:x∈ii:=by rw[oT hi11];decide
  refine Wj<|Wt rfl hi11 ?_
  refine zu1 ?_
  refine zR ?_
  (rw[e1 q,decide_eq_true m];rfl)
 have n9:=oF hi11
 refine zp1 ?_
 refine zq 21 ?_
 refine zs1 ?_
 refine Wi rfl (fun hi12=>?_) (fun hi12=>?_)
 ·have m:x∈ii:=by rw[oT hi12];decide
  refine Wj<|Wt rfl hi12 ?_
  refine zu1 ?_
  refine zR ?_
  (rw[e1 q,decide_eq_true m];rfl)
 have n10:=oF hi12
 refine zp1 ?_
 refine zq 22 ?_
 refine zs1 ?_
 refine Wi rfl (fun hi13=>?_) (fun hi13=>?_)
 ·have m:x∈ii:=by rw[oT hi13];decide
  refine Wj<|Wt rfl hi13 ?_
  refine zu1 ?_
  refine zR ?_
  (rw[e1 q,decide_eq_true m];rfl)
 have n11:=oF hi13
 refine zp1 ?_
 refine zq 23 ?_
 refine zs1 ?_
 refine Wi rfl (fun hi14=>?_) (fun hi14=>?_)
 ·have m:x∈ii:=by rw[oT hi14];decide
  refine Wj<|Wt rfl hi14 ?_
  refine zu1 ?_
  refine zR ?_
  (rw[e1 q,decide_eq_true m];rfl)
 have n12:=oF hi14
 refine zp1 ?_
 refine zq 24 ?_
 refine zs1 ?_
 refine Wi rfl (fun hi15=>?_) (fun hi15=>?_)
 ·have m:x∈ii:=by rw[oT hi15];decide
  refine Wj<|Wt rfl hi15 ?_
  refine zu1 ?_
  refine zR ?_
  (rw[e1 q,decide_eq_true m];rfl)
 have n13:=oF hi15
 refine aa rfl ?_
 refine z1 ?_
 refine zq 25 ?_
 refine zs1 ?_
 refine Wi rfl (fun hi16=>?_) (fun hi16=>?_)
 ·have m:x∈ii:=by rw[oT hi16];decide
  refine zu1 ?_
  refine zR ?_
  (rw[e1 q,decide_eq_true m];rfl)
 have n14:=oF hi16
 have m:¬x∈ii:=by unfold ii;simp only[List.mem_cons,List.not_mem_nil,or_false,not_or];exact⟨n0,n1,n2,n3,n4,n5,n6,n7,n8,n9,n10,n11,n12,n13,n14⟩
 refine Wj<|zu1 ?_
 refine zR ?_
 (rw[e1 q,decide_eq_false m];rfl)
def kC:Int:=300+tf bG [67,82,69,65,84,69] bG.length 0
def AZ(r:bD)(xt ip:Int):Bool×Int:=(decide ((az r.vm xt).2=0/\(az r.vm xt).1=kC),ip)
def Yk{r:bD}{xt ip:Int}(h:(az r.vm xt).2=0):AZ r xt ip=((az r.vm xt).1==kC,ip):=by
 unfold AZ
 by_cases q:(az r.vm xt).1=kC
 ·rw[decide_eq_true ⟨h,q⟩,beq_iff_eq.2 q]
 rw[decide_eq_false (fun z=>q z.2),beq_eq_false_iff_ne.2 q]
def Yp{r:bD}{xt ip:Int}(h:¬(az r.vm xt).2=0):AZ r xt ip=(false,ip):=by
 unfold AZ;rw[decide_eq_false (fun z=>h z.1)]
def cD(r:bD):Bool×Int:=if r.dof=true then AZ r r.w r.ip else if (an r.vm.mem r.ip).2≠0 then(false,r.ip)else AZ r (an r.vm.mem r.ip).1 (W64 (r.ip+8))
def AX(r:bD)(hm:r.vm.mem.b.length<=140737488355328)(hi:ab r.ip)(hw:ab r.w):af prog 85 [wq r] (gY (boo (cD r).1) (i64 (cD r).2)):=by
 have hL:=ij
 have w1:IntKind.i64.wrap (300+tf bG [67,82,69,65,84,69] bG.length 0)=kC:=by decide +kernel
 have c1:r.dof=true->cD r=AZ r r.w r.ip:=fun q=>by unfold cD;rw[if_pos q]
 have c2:r.dof=false->(an r.vm.mem r.ip).2≠0->cD r=(false,r.ip):=fun q q1=>by unfold cD;rw[if_neg (by rw[q];decide),if_pos q1]
 have c3:r.dof=false->¬(an r.vm.mem r.ip).2≠0->cD r=AZ r (an r.vm.mem r.ip).1 (W64 (r.ip+8)):=fun q q1=>by unfold cD;rw[if_neg (by rw[q];decide),if_neg q1]
 refine zY func85 fun B=>?_
 refine zu3 ?_
 refine Ws<|am [0,1,0,1,0,0] [0,1,2,3,4,5] mG rfl (by kernel_rfl) ?_
 refine z3 ?_
 refine z5 ?_
 refine z3 ?_
 refine z5 ?_
 iterate 2 refine z3 ?_
 refine ap ?_
 refine Ws<|zu3 ?_
 refine Wi rfl (fun hi1=>?_) (fun hi1=>?_)
 ·have q0:r.dof=false:=by simpa using hi1
  have k0:=qh r.vm (an r.vm.mem r.ip).1 hm (sL _ _)
  refine zp5 ?_
  refine zc rfl func39 ((fX r.vm.mem r.ip hm hi) _) ?_
  refine zs5 ?_
  refine Ws<|zu2 ?_
  refine Wi rfl (fun hi2=>?_) (fun hi2=>?_)
  ·have q1:(an r.vm.mem r.ip).2≠0:=by simpa using hi2
   refine zu3 ?_
   refine zR ?_
   (rw[c2 q0 q1];rfl)
  have q1:¬(an r.vm.mem r.ip).2≠0:=by simpa using hi2
  refine Wj<|aa rfl ?_
  refine zs5 ?_
  refine zp3 ?_
  refine zc rfl func67 ((k0) _) ?_
  refine zs5 ?_
  refine zp3 ?_
  refine Wb 41 rfl (fun hg1=>?_) (fun hg1=>?_)
  ·refine z1 ?_
   refine zc rfl func71 ((eG) _) ?_
   refine zc rfl func113 ((sZ bG [67,82,69,65,84,69] (by rw[hL];omega)) _) ?_
   refine z1 ?_
   refine Wa 45 rfl (zI9 w1) ?_
   refine zs5 ?_
   refine zR ?_
   (rw[c3 q0 q1,Yk (by simpa using hg1)];rfl)
  refine z6 ?_
  iterate 4 refine z6 ?_
  refine zs4 ?_
  refine zR ?_
  (rw[c3 q0 q1,Yp (by simpa using hg1)];rfl)
 have q0:r.dof=true:=by simpa using hi1
 have k0:=qh r.vm r.w hm hw
 refine Wj<|zp3 ?_
 refine zc rfl func67 ((k0) _) ?_
 refine zs5 ?_
 refine zp3 ?_
 refine Wb 41 rfl (fun hg1=>?_) (fun hg1=>?_)
 ·refine z1 ?_
  refine zc rfl func71 ((eG) _) ?_
  refine zc rfl func113 ((sZ bG [67,82,69,65,84,69] (by rw[hL];omega)) _) ?_
  refine z1 ?_
  refine Wa 45 rfl (zI9 w1) ?_
  refine zs5 ?_
  refine zR ?_
  (rw[c1 q0,Yk (by simpa using hg1)];rfl)
 refine z6 ?_
 iterate 4 refine z6 ?_
 refine zs4 ?_
 refine zR ?_
 (rw[c1 q0,Yp (by simpa using hg1)];rfl)
def rr(s:List Int)(n:Nat)(hs:s.length<=1000000)(hn:n<=1000000):af prog 160 [sq au s,i64 (n:Int)] (sqc au (ko s n)):=by
 refine zY func160 fun B=>?_
 refine zu1 ?_
 refine zp1 ?_
 refine z2 ?_ (q:=(by(simp_all;omega)))
 refine zs1 ?_
 refine zp2 ?_
 refine Wd rfl rfl (mZ (lO tG rfl) rfl (lO tG rfl) rfl rfl rfl rfl (al _ 1 (fun _=>rfl) _) (bi _ (fun _=>rfl) _) (by rw[l7 _ _ rfl];simp)) ?_
 refine iS (H':=[.cells ((ko s n).flatMap au) 3]) (by refine congrArg (fun z=>[Ob.cells z 3]) (xz s n ?_ ?_).symm<;>rfl) ?_
 refine Wn<|zp1 ?_
 refine zV 11 0 n n rfl rfl (by rw[oa,List.length_map,ly];exact Nat.le_refl _) ?_
 refine Wa 11 rfl (L8 s n) ?_
 refine zs1 ?_
 refine Wq ?_
 exact nE rfl rfl
def LQ(r:bD×Int):PV:=gY (wq r.1) (i64 r.2)
@[simp] theorem ae5 (r : bD × Int) : aQ (LQ r) := by simp [LQ]
def DU(r:bD)(e:Int)(N:Nat)(g:bb N r.vm):af prog 115 [wq r,i64 e] (LQ (cp r e)):=by
 have R:=g.right
 have hc:=R.fV
 unfold dW at hc
 have hfl:=R.fl
 have hd:=R.d
 have hr:=R.r
 by_cases h0:r.vm.f.length=0
 ·have e1:cp r e=(r,e):=by unfold cp;rw[if_pos h0]
  rw[e1]
  refine zY func115 fun B=>?_
  refine zu3 ?_
  refine zu5 ?_
  refine Ws<|zu2 ?_
  refine Wt rfl (by(try simp only[dnL]at *);omega) ?_
  refine zu4 ?_
  refine zR ?_
  rfl
 have hm:r.vm.f.getD (r.vm.f.length-1) default∈r.vm.f:=by rw[List.getD_eq_getElem?_getD,List.getElem?_eq_getElem (by omega)];exact List.getElem_mem _
 have hf:=List.all_eq_true.1 R.f _ hm
 unfold pT at hf
 simp only[decide_eq_true_eq,Bool.and_eq_true]at hf
 have e1:cp r e=({r with vm:={r.vm with f:=r.vm.f.take (r.vm.f.length-1),d:=ko r.vm.d (min (r.vm.f.getD (r.vm.f.length-1) default).d (r.vm.conf.data-1)).toNat++[e],r:=ko r.vm.r (min (r.vm.f.getD (r.vm.f.length-1) default).r r.vm.conf.ret).toNat},ip:=(r.vm.f.getD (r.vm.f.length-1) default).ip},0):=by
  unfold cp;rw[if_neg h0]
 rw[e1]
 have w0:IntKind.i64.wrap ((r.vm.f.length:Int)-1)=((r.vm.f.length-1:Nat):Int):=by((rw[bB];unfold wrap64;(try simp only[dnL]at *);omega))
 have w1:IntKind.i64.wrap (r.vm.conf.data-1)=r.vm.conf.data-1:=by((rw[bB];unfold wrap64;(try simp only[dnL]at *);omega))
 have w2:(if r.vm.conf.data-1<(r.vm.f.getD (r.vm.f.length-1) default).d then r.vm.conf.data-1 else(r.vm.f.getD (r.vm.f.length-1) default).d)=((min (r.vm.f.getD (r.vm.f.length-1) default).d (r.vm.conf.data-1)).toNat:Int):=by split<;>omega
 have w3:(if r.vm.conf.ret<(r.vm.f.getD (r.vm.f.length-1) default).r then r.vm.conf.ret else(r.vm.f.getD (r.vm.f.length-1) default).r)=((min (r.vm.f.getD (r.vm.f.length-1) default).r r.vm.conf.ret).toNat:Int):=by split<;>omega
 have hdl:=ly r.vm.d (min (r.vm.f.getD (r.vm.f.length-1) default).d (r.vm.conf.data-1)).toNat
 refine zY func115 fun B=>?_
 refine zu3 ?_
 refine zu5 ?_
 refine Ws<|zu2 ?_
 refine Wf rfl (by(try simp only[dnL]at *);omega) ?_
 refine Wj<|zp5 ?_
 refine Wa 20 rfl (zI9 w0) ?_
 refine Wv tG rfl rfl rfl (by omega) (iN jc 3 (fun _=>rfl) default (by omega)) ?_
 refine zs3 ?_
 refine zp5 ?_
 refine Wa 27 rfl (zI9 w0) ?_
 refine z2 ?_ (q:=(by(simp_all;done)))
 refine Wa 28 rfl (cF jc 3 (fun _=>rfl) (by omega)) ?_
 refine zs3 ?_
 refine zp5 ?_
 refine zy5 ?_
 refine Wa 40 rfl (zI9 w1) ?_
 refine z1 ?_
 refine Wa 41 rfl (zI9 w2) ?_
 refine zc rfl func160 ((rr r.vm.d (min (r.vm.f.getD (r.vm.f.length-1) default).d (r.vm.conf.data-1)).toNat (by omega) (by omega)) _) ?_
 refine zy2 ?_
 refine Wa 44 rfl (bsL au [_] rfl rfl) ?_
 refine Wd rfl rfl (bK (lO tG rfl) rfl (lO tG rfl) (lO tG rfl) rfl rfl (by exact⟨_,rfl⟩) (by exact⟨rfl,rfl,al _ 1 (fun _=>rfl) _,bi _ (fun _=>rfl) _⟩) (by exact al _ 1 (fun _=>rfl) _) (by((simp_all;omega))) (by((simp_all;omega)))) ?_
 refine Wa 45 rfl (bT au) ?_
 refine zs3 ?_
 refine zp5 ?_
 refine zy5 ?_
 refine Wa 57 rfl (zI9 w3) ?_
 refine zc rfl func160 ((rr r.vm.r (min (r.vm.f.getD (r.vm.f.length-1) default).r r.vm.conf.ret).toNat (by omega) (by omega)) _) ?_
 refine zs3 ?_
 refine zu4 ?_
 refine zu3 ?_
 refine zR ?_
 rfl
end Go.Proofs.YtjcminooghmpeaaGreatDoor
namespace Go.Proofs.YtjcminooghmpeaaGreatDoor
open Go.RowKit Go.Extern.Stop Go.Stop Go.Extern
def Ji(t:Addr)(w:World):(ReflectliteValue.unpack (.iface 143 (.pointer (some t)))).run prog w
  = .ok (.agg #[.pointer (some ⟨5,143,none⟩),.pointer (some ⟨w.heap.size,0,none⟩),.int .u64 150]) (w.alloc (.cells #[.pointer (some t)] 143)):=by kernel_rfl
def Vc (a : Addr) (w : World) : (ReflectliteValue.methodAny (ReflectliteValue.valueError "reflectlite.Value.Type" 0) (fun t _ _ _ => ReflectliteType.toType t) #[.agg #[.pointer (some ⟨5, 143, none⟩), .pointer (some a), .int .u64 150]]).run prog w
  = .ok (.iface 221 (.agg #[.pointer (some ⟨5,143,none⟩)])) w:=by kernel_rfl
def Qf (h : Value) (w : World) : (Go.method 513 221 (.agg #[h]) "Kind").run prog w = .ok (408, h) w := by kernel_rfl
def Ry(w:World):((ReflectliteType.abiMethod fun t=>(fun a:Nat=>Value.int IntKind.u8 (a:Int)) <$> Rtype.kind t) #[.pointer (some ⟨5,143,none⟩)]).run prog w=.ok (.int .u8 22) w:=by kernel_rfl
def TE(w:World):((ReflectliteType.abiMethod fun t=>(fun a:Nat=>Value.int IntKind.u8 (a:Int)) <$> Rtype.kind t) #[.pointer (some ⟨5,141,none⟩)]).run prog w=.ok (.int .u8 25) w:=by kernel_rfl
def Px(z:Sem Value)(f:TypeId->Addr->Nat->Nat->Sem Value)(v:Value):
  ReflectliteValue.method z f #[v]=(do match <-ReflectliteValue.parts v with|none=>z|some (t,a,fl)=>f t a fl (fl%32)):=rfl
def Co(a:Addr)(w:World):(ReflectliteValue.parts (.agg #[.pointer (some ⟨5,143,none⟩),.pointer (some a),.int .u64 150])).run prog w=.ok (some (143,a,150)) w:=by kernel_rfl
def PL(a p:Addr)(W:World)(ha:W.cell? a=some (.pointer (some p))):
  (ReflectliteValue.method (ReflectliteValue.valueError "reflectlite.Value.IsNil" 0) ReflectliteValue.isNil #[.agg #[.pointer (some ⟨5, 143, none⟩), .pointer (some a), .int .u64 150]]).run prog W = .ok (.bool false) W := by
 rw[Px]
 simp only[Sem.run_bind,Co,Result.andThen]
 simp[ReflectliteValue.isNil,loadVar,isAgg,underlying,underlying143,ha,Result.andThen]
def S4 (h : Value) (w : World) : (Go.method 513 221 (.agg #[h]) "Elem").run prog w = .ok (421, .agg #[h]) w := by kernel_rfl
def Tp (h : Value) (w : World) : (Go.method 513 221 (.agg #[h]) "Implements").run prog w = .ok (422, .agg #[h]) w := by kernel_rfl
def JJ (h : Value) (w : World) : (Go.method 513 221 (.agg #[h]) "AssignableTo").run prog w = .ok (419, .agg #[h]) w := by kernel_rfl
def Ve(w:World):(ReflectliteType.method ReflectliteType.elem #[.agg #[.pointer (some ⟨5,143,none⟩)]]).run prog w=.ok (.iface 221 (.agg #[.pointer (some ⟨5,141,none⟩)])) w:=by kernel_rfl
def U6 (w : World) : (ReflectliteType.relation "Implements" ReflectliteType.implements_ #[.agg #[.pointer (some ⟨5, 141, none⟩)], .iface 221 (.agg #[.pointer (some ⟨5, 87, none⟩)])]).run prog w = .ok (.bool true) w := by kernel_rfl
def Ss(v:Value)(w:World):(ReflectliteType.typeOf #[.iface 141 v]).run prog w=.ok (.iface 221 (.agg #[.pointer (some ⟨5,141,none⟩)])) w:=by kernel_rfl
def XT (w : World) : (ReflectliteType.relation "AssignableTo" ReflectliteType.assignableTo #[.agg #[.pointer (some ⟨5, 141, none⟩)], .iface 221 (.agg #[.pointer (some ⟨5, 141, none⟩)])]).run prog w = .ok (.bool true) w := by kernel_rfl
def M3(c:Int)(w:World):(ReflectliteValue.unpack (.iface 141 (.agg #[.int .i64 c]))).run prog w
  = .ok (.agg #[.pointer (some ⟨5,141,none⟩),.pointer (some ⟨w.heap.size,0,none⟩),.int .u64 153]) (w.alloc (.cells #[.int .i64 c] 141)):=by kernel_rfl
def MC(w:World):(Rtype.elem? 143).run prog w=.ok (some 141) w:=by kernel_rfl
def au8(p:Addr)(w:World):(ReflectliteValue.mk 141 p ReflectliteValue.flagAddr).run prog w=.ok (.agg #[.pointer (some ⟨5,141,none⟩),.pointer (some p),.int .u64 409]) w:=by kernel_rfl
def R8(a p:Addr)(W:World)(ha:W.cell? a=some (.pointer (some p))):
  (ReflectliteValue.method (ReflectliteValue.valueError "reflectlite.Value.Elem" 0) ReflectliteValue.elem #[.agg #[.pointer (some ⟨5, 143, none⟩), .pointer (some a), .int .u64 150]]).run prog W
   = .ok (.agg #[.pointer (some ⟨5,141,none⟩),.pointer (some p),.int .u64 409]) W:=by
 rw[Px]
 simp only[Sem.run_bind,Co,Result.andThen]
 simp[ReflectliteValue.elem,loadVar,isAgg,underlying,underlying143,ha,Result.andThen,MC,au8]
def Mg(a:Addr)(w:World):(ReflectliteValue.parts (.agg #[.pointer (some ⟨5,141,none⟩),.pointer (some a),.int .u64 409])).run prog w=.ok (some (141,a,409)) w:=by kernel_rfl
def N5(a:Addr)(w:World):(ReflectliteValue.parts (.agg #[.pointer (some ⟨5,141,none⟩),.pointer (some a),.int .u64 153])).run prog w=.ok (some (141,a,153)) w:=by kernel_rfl
def Mn(w:World):(Rtype.directlyAssignable 141 141).run prog w=.ok true w:=by kernel_rfl
def aa5(v x:Value):ReflectliteValue.set #[v,x]=(do
  let (some (dst,a,fl),some (src,b,_)):=(<-ReflectliteValue.parts v,<-ReflectliteValue.parts x)
   | unsupported (.noEntry "extern/(internal/reflectlite.Value).Set.zeroValue")
  if fl / ReflectliteValue.flagAddr % 2 == 0 then unsupported (.noEntry "extern/(internal/reflectlite.Value).Set.unaddressable")
  let val <-loadVar src b
  if <-Rtype.directlyAssignable dst src then storeVar dst a val
  else if <-Rtype.implements dst src then
   if (<-Rtype.kind src)==20 then
    match val with
    | .nilIface => unsupported (.noEntry "extern/reflectlite: a nil value of one interface type handed on as a value of another")
    | _=>storeVar dst a val
   else storeVar dst a (.iface src val)
  else panicString ("reflectlite.Set: value of type " ++ (← Rtype.spelt src) ++ " is not assignable to type " ++ (← Rtype.spelt dst))
  pure (.tuple #[])):=rfl
def LP(w:World):(sizeOf 141).run prog w=.ok 1 w:=by kernel_rfl
def ZJ(ta b:Addr)(c:Int)(old:Value)(W:World)(hb:W.cell? b=some (.int .i64 c))(ht:W.cell? ta=some old)(hf:W.frozen? ta=false):
  (ReflectliteValue.set #[.agg #[.pointer (some ⟨5,141,none⟩),.pointer (some ta),.int .u64 409],.agg #[.pointer (some ⟨5,141,none⟩),.pointer (some b),.int .u64 153]]).run prog W
   = .ok (.tuple #[]) (W.setCell ta (.int .i64 c)):=by
 have hl:(loadVar 141 b).run prog W=.ok (.agg #[.int .i64 c]) W:=by
  have h1:=run_loadCells_list (P:=prog) W b [.int .i64 c] (fun j v hj=>by
   match j,hj with
   | 0,hj=>cases hj;rw[show b.add 0=b from by simp[Addr.add]];exact hb
   | j+1,hj=>simp at hj)
  unfold loadVar
  have h2:(loadCells b 1).run prog W=.ok #[.int .i64 c] W:=by simpa using h1
  simp[isAgg,underlying,underlying141,Result.andThen,LP,h2]
 have hs:(storeVar 141 ta (.agg #[.int .i64 c])).run prog W=.ok () (W.setCell ta (.int .i64 c)):=by
  simp[storeVar,Value.cells,storeCells,Addr.add,LP,Result.andThen]
  rw[run_store prog W ta _ _ (by rfl)]
  simp[ht,hf]
 rw[aa5]
 simp only[Sem.run_bind,Mg,N5,Result.andThen]
 simp[ReflectliteValue.flagAddr,hl,hs,Result.andThen,Mn]
def VI(c:Int)(t:Addr)(old:Value)(w:World)(hg:w.cell? ⟨0,0,none⟩=some (.iface 221 (.agg #[.pointer (some ⟨5,87,none⟩)])))(ht0:w.cell? t=some old)(hf0:w.frozen? t=false):
  Calls prog 83 #[.iface 141 (.agg #[.int .i64 c]),.iface 143 (.pointer (some t))] w fun ev w'=>ev=.returned (.bool true)/\∃w1,be w w1/\w'=w1.setCell t (.int .i64 c):=by
 have h6:=@run_callFunc_extern prog 108 _ (fun args=>ReflectliteValue.unpack (args.getD 0 (.tuple #[]))) func108 (by kernel_rfl) (by kernel_rfl) (by kernel_rfl) (by kernel_rfl)
 have h7 := @run_callFunc_extern prog 109 _ (ReflectliteValue.methodAny (ReflectliteValue.valueError "reflectlite.Value.Type" 0) (fun t _ _ _ => ReflectliteType.toType t)) func109 (by kernel_rfl) (by kernel_rfl) (by kernel_rfl) (by kernel_rfl)
 have h8 := @run_callFunc_extern prog 110 _ (ReflectliteValue.method (ReflectliteValue.valueError "reflectlite.Value.IsNil" 0) ReflectliteValue.isNil) func110 (by kernel_rfl) (by kernel_rfl) (by kernel_rfl) (by kernel_rfl)
 have h27:=@run_callFunc_extern prog 408 _ (ReflectliteType.abiMethod fun t=>do pure (.int .u8 (<-Rtype.kind t))) func408 (by kernel_rfl) (by kernel_rfl) (by kernel_rfl) (by kernel_rfl)
 have h37:=@run_callFunc_extern prog 421 _ (ReflectliteType.method ReflectliteType.elem) func421 (by kernel_rfl) (by kernel_rfl) (by kernel_rfl) (by kernel_rfl)
 have h38 := @run_callFunc_extern prog 422 _ (ReflectliteType.relation "Implements" ReflectliteType.implements_) func422 (by kernel_rfl) (by kernel_rfl) (by kernel_rfl) (by kernel_rfl)
 have h10:=@run_callFunc_extern prog 155 _ ReflectliteType.typeOf func155 (by kernel_rfl) (by kernel_rfl) (by kernel_rfl) (by kernel_rfl)
 have h35 := @run_callFunc_extern prog 419 _ (ReflectliteType.relation "AssignableTo" ReflectliteType.assignableTo) func419 (by kernel_rfl) (by kernel_rfl) (by kernel_rfl) (by kernel_rfl)
 have h11 := @run_callFunc_extern prog 156 _ (ReflectliteValue.method (ReflectliteValue.valueError "reflectlite.Value.Elem" 0) ReflectliteValue.elem) func156 (by kernel_rfl) (by kernel_rfl) (by kernel_rfl) (by kernel_rfl)
 have h12:=@run_callFunc_extern prog 157 _ ReflectliteValue.set func157 (by kernel_rfl) (by kernel_rfl) (by kernel_rfl) (by kernel_rfl)
 have tT:=Ss
 have mA:=JJ
 have aT:=XT
 have vT:=M3
 have f6:=Ji
 have f7:=Vc
 have mK:=Qf
 have mE:=S4
 have mI:=Tp
 have kP:=Ry
 have kT:=TE
 have eP:=Ve
 have iT:=U6
 have hlt:0<w.heap.size:=by
  rcases Nat.lt_or_ge 0 w.heap.size with h|h
  ·exact h
  simp[World.cell?,Array.getElem?_eq_none h]at hg
 have htl:t.block<w.heap.size:=by
  rcases Nat.lt_or_ge t.block w.heap.size with h|h
  ·exact h
  simp[World.cell?,Array.getElem?_eq_none h]at ht0
 let A1:Obj:=.cells #[.pointer (some t)] 143
 let A2:Obj:=.cells #[.pointer (some ⟨5,143,none⟩),.pointer (some ⟨w.heap.size,0,none⟩),.int .u64 150] 184
 let A5:Obj:=.cells #[.int .i64 c] 141
 have n8:=PL ⟨w.heap.size,0,none⟩ t ((w.alloc A1).alloc A2) (by simp[A1])
 have hg2:((w.alloc A1).alloc A2).cell? ⟨0,0,none⟩=some (.iface 221 (.agg #[.pointer (some ⟨5,87,none⟩)])):=by
  rw[World.cell?_alloc_lt _ _ ⟨0,0,none⟩ (by(simp;done)),World.cell?_alloc_lt _ _ ⟨0,0,none⟩ hlt];exact hg
 have el:=R8 ⟨w.heap.size,0,none⟩ t (((w.alloc A1).alloc A2).alloc A2) (by rw[World.cell?_alloc_lt _ _ ⟨w.heap.size,0,none⟩ (by(simp;omega)),World.cell?_alloc_lt _ _ ⟨w.heap.size,0,none⟩ (by simp)];simp[A1])
 have st:=ZJ t ⟨w.heap.size+1+1+1,0,none⟩ c old ((((w.alloc A1).alloc A2).alloc A2).alloc A5)
  (by rw[World.cell?_alloc_at _ _ _ _ (by simp)];rfl)
  (by rw[World.cell?_alloc_lt _ _ t (by(simp;omega)),World.cell?_alloc_lt _ _ t (by(simp;omega)),World.cell?_alloc_lt _ _ t (by(simp;omega)),World.cell?_alloc_lt _ _ t htl];exact ht0)
  (by rw[World.frozen?_alloc_old _ _ t (by(simp;omega)),World.frozen?_alloc_old _ _ t (by(simp;omega)),World.frozen?_alloc_old _ _ t (by(simp;omega)),World.frozen?_alloc_old _ _ t (Nat.ne_of_lt htl)];exact hf0)
 simp only[A1,A2,A5]at n8 hg2 el st
 clear A1 A2 A5
 go_enter func83,ntmps83
 go_wp2
 refine wp_loop_rounds 1 ?_
 rw[rounds_succ]
 go_wp2
 go_ret
 exact⟨rfl,_,(((be.alloc _ _).trans (be.alloc _ _)).trans (be.alloc _ _)).trans (be.alloc _ _),rfl⟩
def Vv(t:Value)(w:World):Calls prog 83 #[.nilIface,t] w fun ev w'=>ev=.returned (.bool false)/\w'=w:=by
 go_enter func83,ntmps83
 go_wp2
 go_ret
 exact⟨rfl,rfl⟩
def aA1(k:Int){x0:PV}(H:List Ob)(i j:Nat)(hi:H[i]?=some (.cells [x0] 141))(hj:H[j]?=some (.glob 0 etV)):
  HC prog 83 [.ifc 141 (.agg [i64 k]),.ifc 143 (.ptr i 0)] H (boo true) (H.set i (.cells [i64 k] 141)):=by
 intro B σ w vs s hv
 obtain⟨b,vs0,fr,hb,hw,hfr,p,q,rfl,hp⟩:=s.holds i _ hi
 simp only[cx]at hb hw
 match p,hp with
 | [],hp=>have:=ay.length hp;simp at this
 | _::_::_,hp=>have:=ay.length hp;simp at this
 | [old],hp =>
 have hvs:vs=[.iface 141 (.agg #[.int .i64 k]),.iface 143 (.pointer (some ⟨b,0,none⟩))]:=uH hv (fun u hu=>x9 hu) (fun u hu=>by
  unfold Rep at hu
  obtain⟨z,rfl,hz⟩:=hu
  unfold Rep at hz
  obtain⟨_,b2,h2,rfl⟩:=hz
  simp only[cx]at h2
  rw[hb]at h2;cases h2;rfl)
 subst hvs
 obtain⟨hg,_⟩:=s.holds j _ hj
 have ht0:w.cell? ⟨b,0,none⟩=some old:=by rw[d9 hw];rfl
 have hf0:w.frozen? ⟨b,0,none⟩=false:=by
  rcases hfr with rfl|hz
  ·simp[World.frozen?,hw]
  obtain⟨lo,hi'⟩:=fr
  simp only[World.frozen?,hw,Bool.and_eq_false_iff,decide_eq_false_iff_not]
  simp only[List.length_append,List.length_cons]at hz
  exact .inl (by omega)
 refine Calls.mono (VI k ⟨b,0,none⟩ old w hg ht0 hf0) ?_
 rintro e w' ⟨rfl,w1,g,rfl⟩
 obtain⟨s1,st1⟩:=gu s g
 have hw1:w1.heap[b]?=some (Obj.cells (old::q).toArray 141 fr):=(g.block b (Array.getElem?_eq_some_iff.1 hw).1).trans hw
 obtain⟨s2,st2⟩:=lm s1 (ys:=[i64 k]) (us:=.int .i64 k::q) hi hb hw1 hfr rfl ⟨[.int .i64 k],q,rfl,ai.2 ⟨av _ _,aF.2 rfl⟩⟩
 have e1:w1.setCell ⟨b,0,none⟩ (.int .i64 k)=w1.setRow b (Value.int .i64 k::q).toArray:=by
  rw[setCell_eq_setRow w1 b 0 _ _ _ _ hw1];simp
 rw[e1]
 exact⟨.bool true,σ,rfl,av _ _,s2,st1.trans st2⟩
def at7(H:List Ob)(y:PV):HC prog 83 [.val .nilIface,y] H (boo false) H:=by
 intro B σ w vs s hv
 match vs,hv with
 | [],hv=>have:=ay.length hv;simp at this
 | [_],hv=>have:=ay.length hv;simp at this
 | p::q::r::l,hv=>have:=ay.length hv;simp at this
 | [p,q],hv =>
 have hp:p=.nilIface:=AH (ai.1 hv).1
 subst hp
 refine Calls.mono (Vv q w) ?_
 rintro e w' ⟨rfl,rfl⟩
 exact⟨.bool false,σ,rfl,av _ _,s,dU.refl _ _ _ _⟩
open Go.RowKit
def ac1{P:Program}{f:FuncId}{x y:PV}{l:List PV}{H H':List Ob}{res:PV}(h:Imp x y)(k:HC P f (y::l) H res H'):HC P f (x::l) H res H':=by
 intro B σ w vs s hv
 match vs,hv with
 | [],hv=>have:=ay.length hv;simp at this
 | v::vs,hv=>exact k B σ w (v::vs) s (ai.2 ⟨h _ _ (ai.1 hv).1,(ai.1 hv).2⟩)
def UN(e:Int):Imp (.val (.iface 141 (.agg #[.int .i64 e]))) (.ifc 141 (.agg [i64 e])):=fun c v h=>by
 rw[AH h]
 unfold Rep
 refine⟨_,rfl,?_⟩
 unfold Rep
 exact⟨[.int .i64 e],rfl,ai.2 ⟨av _ _,aF.2 rfl⟩⟩
def fH(a:Addr)(e:Int):∀(H:List Ob),(∀o∈fS a,∃k:Nat,H[k]?=some o)->HC prog 44 [Ba e] H (i64 e) H:=by
 by_cases he:e=0
 ·subst he
  refine fh (ey a) tG (rs:=[.tmp 2]) func44 rfl rfl rfl (by simp) (by simp) (fun B=>?_)
  refine zu1 ?_
  refine zu1 ?_
  refine Ws<|zp1 ?_
  refine Wa 4 rfl (aB0) ?_
  refine Wd rfl rfl (pj rfl (by kernel_rfl) rfl) ?_
  refine zc rfl func83 (at7 _ _) ?_
  refine Wn<|Wf rfl (by rfl) ?_
  refine Wj<|zu1 ?_
  refine zR ?_
  rfl
 have h1:=RZ he
 refine fh (ey a) tG (rs:=[.tmp 2]) func44 rfl rfl rfl (by simp) (by simp) (fun B=>?_)
 refine zu1 ?_
 refine zu1 ?_
 refine Ws<|zp1 ?_
 refine Wa 4 rfl (h1) ?_
 refine Wd rfl rfl (pj rfl (by kernel_rfl) rfl) ?_
 refine zc rfl func83 (ac1 (UN e) (aA1 e _ 2 1 rfl rfl)) ?_
 refine Wn<|Wt rfl (by rfl) ?_
 refine zu3 ?_
 refine zR ?_
 rfl
def SmE(e:Int):Prop:=-1000<=e/\e<=0
def SmE.fit{e:Int}(h:SmE e):ab e:=by unfold SmE at h;unfold ab;omega
def smk{e:Int}(h:(decide (-1000<=e)&&decide (e<=0))=true):SmE e:=by
 rw[Bool.and_eq_true]at h;exact⟨oT h.1,oT h.2⟩
def SJ(m:bf)(here:Int)(b:List UInt8):SmE (cJ m here b).2.2:=by unfold cJ;split;exact(smk rfl:SmE (-8));exact(smk rfl:SmE 0)
def O9(m:bf)(here n:Int):SmE (bW m here n).2.2:=by
 unfold bW;split
 ·exact SJ _ _ _
 exact(smk rfl:SmE (-23))
def S5(s:Str):SmE (cI s):=by
 unfold cI SmE
 (repeat' split)<;>exact⟨by decide,by decide⟩
def ae7(l:List aL)(name:Str)(xt flags limit:Int):SmE (bU l name xt flags limit).2:=by
 unfold bU
 by_cases q1:cI name≠0
 ·rw[if_pos q1];exact S5 name
 rw[if_neg q1]
 by_cases q2:(if 1024<limit then 1024 else limit)<=(l.length:Int)
 ·rw[if_pos q2];exact(smk rfl:SmE (-8))
 rw[if_neg q2];exact(smk rfl:SmE 0)
def QY{w:FW}{e:Int}(h:SmE w.bad)(he:SmE e):SmE (okF w e).bad:=by unfold okF;split;exact he;exact h
def V8{w:FW}(h:SmE w.bad)(n:Int):SmE (b9 w n).bad:=by
 unfold b9;split
 ·exact O9 _ _ _
 exact h
def Fo:∀(l:List Int) (w:FW),SmE w.bad->SmE (l.foldl b9 w).bad
 | [],_,h=>h
 | x::l,w,h=>Fo l _ (V8 h x)
def UI{w:FW}(h:SmE w.bad)(name:Str)(flags:Int)(l:List Int):SmE (dP w name flags l).1.bad:=by
 refine Fo l _ ?_
 have q:SmE (okF (okF w (aM w.f.vm.mem w.f.vm.here).2.2) (bU w.f.vm.dict name (aM w.f.vm.mem w.f.vm.here).2.1 flags w.f.vm.conf.words).2).bad:=QY (QY h (SJ _ _ _)) (ae7 _ _ _ _ _)
 unfold fb
 split
 ·exact q
 exact q
def IS(f:ae)(name:Str)(last:Bool)(l:List Int):SmE (bR f name last l).2:=by
 unfold bR
 split
 ·exact(smk rfl:SmE (-29))
 unfold gd
 split
 ·have q:SmE (dP (aK f) name 0 l).1.bad:=UI (by unfold aK;split;exact(smk rfl:SmE 0);exact(smk rfl:SmE (-29))) _ _ _
  unfold iL;split<;>exact q
 exact(smk rfl:SmE 0)
def JP{l:ag}{e:Int}(h:SmE l.err)(he:SmE e):SmE (oOk l e).err:=by unfold oOk;split;exact he;exact h
def Ke{l:ag}(h:SmE l.err):SmE (bY l).1.err:=by
 unfold bY;split
 ·exact JP h (smk rfl:SmE (-16))
 exact h
def VV{l:ag}{r:ae×Int}(h:SmE l.err)(he:SmE r.2):SmE (ka l r).err:=by
 unfold ka;split
 ·exact JP h he
 exact JP h he
def Nl{l:ag}(h:SmE l.err):SmE (dT l).err:=by
 unfold dT jz;split
 ·exact VV (Ke h) (IS _ _ _ _)
 exact Ke h
def aw4{N k:Nat}{f:ae}(g:bb N f.vm)(hk:N+k<=1000000):FK k f:=by
 have R:=g.right
 have hc:=R.fV
 unfold dW at hc
 have h1:=R.len
 have h2:=R.ju
 have h3:=R.jx
 have h4:=g.old
 have h5:=R.handl
 have h6:=R.dict
 have h7:f.vm.dict.length<=1024:=by
  unfold ib at h6
  simp only[Bool.and_eq_true,decide_eq_true_eq]at h6
  exact h6.2
 exact⟨by omega,by omega,h2,by omega,by omega,sV h6,by omega⟩
def J7{N:Nat}{f:ae}(g:bb N f.vm)(name:Str)(last:Bool)(l:List Int):bb (N+1+l.length) (bR f name last l).1.vm:=by
 unfold bR
 split
 ·exact g.up (by omega)
 unfold gd
 split
 ·exact g.up (by omega)
 have q:=DP (l:=l) (w:=aK f) g name (flags:=0) (by decide) (by decide)
 unfold iL;split
 ·exact xP q (wE g)
 exact q
def NV{N:Nat}{l:ag}(g:bb N l.f.vm):bb (N+3) (dT l).f.vm:=by
 have e:=(lA l).1
 unfold dT jz
 split
 ·rcases IY (bY l).1 (bR (bY l).1.f (bY l).2 true [257,0])with q|q
  ·rw[q,e];exact J7 g _ _ [257,0]
  rw[q,e];exact g.up (by omega)
 rw[e];exact g.up (by omega)
def kg(l:ag)(r:bD):ag:=⟨⟨r.vm,l.f.comp⟩,l.s,l.at_,0,0⟩
def JR(v:VVm)(r:bD)(ip:Int):bD:=⟨v,ip,0,false,W64 (r.fuel-1)⟩
def iQ(l:ag)(r:bD)(ip:Int):ag×bD×Int :=
 if r.fuel<1 then(l,r,-256)else if (dT (kg l r)).err=0 then({l with at_:=(dT (kg l r)).at_},JR (dT (kg l r)).f.vm r ip,0)else(l,cp (JR r.vm r ip) (dT (kg l r)).err)
def Su{l:ag}{r:bD}{ip:Int}(h:r.fuel<1):iQ l r ip=(l,r,-256):=by unfold iQ;rw[if_pos h]
def ay1{l:ag}{r:bD}{ip:Int}(h:¬r.fuel<1)(q:(dT (kg l r)).err=0):iQ l r ip=({l with at_:=(dT (kg l r)).at_},JR (dT (kg l r)).f.vm r ip,0):=by unfold iQ;rw[if_neg h,if_pos q]
def Yi{l:ag}{r:bD}{ip:Int}(h:¬r.fuel<1)(q:¬(dT (kg l r)).err=0):iQ l r ip=(l,cp (JR r.vm r ip) (dT (kg l r)).err):=by unfold iQ;rw[if_neg h,if_neg q]
def WW(a:Addr)(l:ag)(r:bD)(ip:Int)(N:Nat)(g:bb N r.vm)(hN:N+3<=1000000)(hs:l.s.length<=1000000):∀(H:List Ob) (i:Nat),H[i]?=some (.cells (aR l) 89)->(∀o∈fS a,∃k:Nat,H[k]?=some o)->HC prog 86 (.ptr i 0::[wq r,i64 ip]) H (LQ (iQ l r ip).2) (H.set i (.cells (aR (iQ l r ip).1) 89)):=by
 have pC:=Ck (kg l r) hs (aw4 (f:=(kg l r).f) g hN)
 have m0:=Su (l:=l) (r:=r) (ip:=ip)
 have m1:=ay1 (l:=l) (r:=r) (ip:=ip)
 have m2:=Yi (l:=l) (r:=r) (ip:=ip)
 obtain⟨c,hc⟩:∃c,dT (kg l r)=c:=⟨_,rfl⟩
 rw[hc]at pC m1 m2
 refine ls (ey a) tG (rs:=[.cell 6 145,.tmp 7]) func86 rfl rfl rfl (by simp) (by simp) (by simp) (by simp) (fun B=>?_)
 refine zu3 ?_
 refine Ws<|zu3 ?_
 refine Wi rfl (fun hi1=>?_) (fun hi1=>?_)
 ·have q0:r.fuel<1:=oT hi1
  refine zu3 ?_
  refine Wq<|aP rfl rfl ?_ ?_
  ·(rw[m0 q0];rfl)
  (rw[m0 q0];rfl)
 have q0:¬r.fuel<1:=oF hi1
 refine Wj<|Ws<|am [0,1,0,0,0,0,1,0,0,0,0,1,0,0,0,1,0,2,3] [0,1,2,3,4,5,6,7,8,9,10,11,12,13,14,15,16,17,18] mG rfl (by kernel_rfl) ?_
 refine z3 ?_
 refine z5 ?_
 iterate 4 refine z3 ?_
 refine z5 ?_
 iterate 4 refine z3 ?_
 refine z5 ?_
 iterate 3 refine z3 ?_
 refine z5 ?_
 refine z3 ?_
 refine mj tG rfl rfl rfl rfl rfl trivial rfl ?_
 refine ct tG rfl rfl rfl rfl rfl trivial ?_
 refine ap ?_
 refine z8 ?_
 refine zc rfl func114 ((pC) _ _ rfl) ?_
 refine Wn<|Ws<|zp2 ?_
 refine Wd rfl rfl (aW rfl (by kernel_rfl) rfl (by exact dH _)) ?_
 refine Wn<|Wi rfl (fun hi2=>?_) (fun hi2=>?_)
 ·have q1:c.err=0:=oT hi2
  refine zp5 ?_
  refine zs1 ?_
  refine zp5 ?_
  refine zs5 ?_
  refine Wq<|aP rfl rfl ?_ ?_
  ·(rw[m1 q0 q1];rfl)
  (rw[m1 q0 q1];rfl)
 have q1:¬c.err=0:=oF hi2
 refine Wj<|Ws<|am [0,1,0,0,1,0,0,0,1,2,0,0,0,3,0] [0,1,2,3,4,5,6,7,8,9,10,11,12,13,14] mG rfl (by kernel_rfl) ?_
 refine z3 ?_
 refine z5 ?_
 iterate 2 refine z3 ?_
 refine z5 ?_
 iterate 3 refine z3 ?_
 refine z5 ?_
 refine iA rfl rfl rfl rfl (dC rfl func44 rfl rfl (fH a _ _ (bO 1 2 rfl rfl))) ?_
 refine Xc rfl rfl rfl rfl (fun _=>dC rfl func115 rfl rfl ((DU (JR r.vm r ip) c.err N g) _)) ?_
 iterate 2 refine z3 ?_
 refine ct tG rfl rfl rfl rfl rfl trivial ?_
 refine z3 ?_
 refine ap ?_
 refine Wq<|aP rfl rfl ?_ ?_
 ·(rw[m2 q0 q1];rfl)
 (rw[m2 q0 q1];rfl)
structure EX where
 l:ag
 r:bD
 over:Bool
 e:Int
def exM(x:EX):ag×bD×Int:=iQ x.l x.r (cD x.r).2
def oH(x:EX):EX:=if (cD x.r).1=true then⟨(exM x).1,(exM x).2.1,x.over,(exM x).2.2⟩else⟨x.l,(bS x.r).1,(bS x.r).2.1,(bS x.r).2.2⟩
def EX.stops(x:EX):Prop:=x.over=true\/x.e≠0
instance (x:EX):Decidable x.stops:=by unfold EX.stops;infer_instance
def oq:Nat->EX->EX
 | 0,x=>x
 | n+1,x=>if x.stops then x else oq n (oH x)
def EV{x:EX}(h:x.stops):∀n,oq n x=x
 | 0=>rfl
 | n+1=>by rw[oq,if_pos h]
def SL{x:EX}(h:¬x.stops)(n:Nat):oq (n+1) x=oq n (oH x):=by rw[oq,if_neg h]
def WK{x:EX}(h:(cD x.r).1=true):oH x=⟨(exM x).1,(exM x).2.1,x.over,(exM x).2.2⟩:=by unfold oH;rw[if_pos h]
def Ov{x:EX}(h:¬(cD x.r).1=true):oH x=⟨x.l,(bS x.r).1,(bS x.r).2.1,(bS x.r).2.2⟩:=by unfold oH;rw[if_neg h]
structure ExI (R:EX) (s:Nat×EX):Prop where
 out:oq s.1 s.2=R
 live:¬s.2.stops->0<=s.2.r.fuel/\s.2.r.fuel+1<s.1
 g:gh (700000-5*s.1) s.2.r
 n:s.1<=100000
 sl:s.2.l.s.length<=1000000
 fu:ab s.2.r.fuel
def Ps(l:ag)(r:bD)(ip:Int):(iQ l r ip).1.s=l.s/\(iQ l r ip).1.f=l.f/\(iQ l r ip).1.err=l.err:=by
 unfold iQ
 split
 ·exact⟨rfl,rfl,rfl⟩
 split<;>exact⟨rfl,rfl,rfl⟩
def Cw{l:ag}{r:bD}{ip:Int}{N:Nat}(g:gh N r)(hi:ab ip):gh (N+3) (iQ l r ip).2.1:=by
 unfold iQ
 split
 ·exact g.up (by omega)
 split
 ·exact⟨NV (l:=kg l r) g.m,hi,bt⟩
 exact wW (r:=JR r.vm r ip) ⟨g.m.up (by omega),hi,bt⟩ (Nl (smk rfl:SmE 0)).fit
def xa{r:bD}(hi:ab r.ip):ab (cD r).2:=by
 unfold cD AZ
 split
 ·exact hi
 split
 ·exact hi
 exact cR _
def ExI.next{R:EX}{s:Nat×EX}(h:ExI R s)(k:¬s.2.stops):ExI R (s.1-1,oH s.2)/\s.1-1<s.1:=by
 obtain⟨f0,f1⟩:=h.live k
 have f2:=h.n
 obtain⟨n,hn⟩:∃n,s.1=n+1:=⟨s.1-1,by omega⟩
 have hr:=h.out
 rw[hn,SL k]at hr
 have hw:W64 (s.2.r.fuel-1)=s.2.r.fuel-1:=gq (by omega) (by omega)
 refine⟨?_,by omega⟩
 by_cases c:(cD s.2.r).1=true
 ·have e:=WK c
  have fm:¬s.2.r.fuel<1->(exM s.2).2.1.fuel=s.2.r.fuel-1:=fun q=>by
   unfold exM iQ
   rw[if_neg q]
   split
   ·exact hw
   show(cp _ _).1.fuel=_;rw[qJ];exact hw
  have fs:s.2.r.fuel<1->(exM s.2).2.2 = -256/\(exM s.2).2.1.fuel=s.2.r.fuel:=fun q=>by unfold exM;rw[Su q];exact⟨rfl,rfl⟩
  refine⟨by rw[show((s.1-1,oH s.2):Nat×EX).1=n by show s.1-1=n;omega];exact hr,fun k2=>?_,?_,by show s.1-1<=_;omega,?_,?_⟩
  ·rw[e]at k2 ⊢
   by_cases q:s.2.r.fuel<1
   ·exact absurd (.inr (by show(exM s.2).2.2≠0;rw[(fs q).1];decide)) k2
   show 0<=(exM s.2).2.1.fuel/\(exM s.2).2.1.fuel+1<((s.1-1:Nat):Int)
   rw[fm q];omega
  ·rw[e];exact(Cw h.g (xa h.g.ip)).up (by show 700000-5*s.1+3<=700000-5*(s.1-1);omega)
  ·rw[e];show(exM s.2).1.s.length<=_;unfold exM;rw[(Ps _ _ _).1];exact h.sl
  rw[e];show ab (exM s.2).2.1.fuel
  by_cases q:s.2.r.fuel<1
  ·rw[(fs q).2];exact h.fu
  rw[fm q];unfold ab;omega
 have e:=Ov c
 have fm:¬s.2.r.fuel<1->(bS s.2.r).1.fuel=s.2.r.fuel-1:=fun q=>by rw[vV h.g.m.right.d q];exact hw
 have fs:s.2.r.fuel<1->bS s.2.r=(s.2.r,false,-256):=fun q=>wJ q
 refine⟨by rw[show((s.1-1,oH s.2):Nat×EX).1=n by show s.1-1=n;omega];exact hr,fun k2=>?_,?_,by show s.1-1<=_;omega,?_,?_⟩
 ·rw[e]at k2 ⊢
  by_cases q:s.2.r.fuel<1
  ·exact absurd (.inr (by show(bS s.2.r).2.2≠0;rw[fs q];show(-256:Int)≠0;decide)) k2
  show 0<=(bS s.2.r).1.fuel/\(bS s.2.r).1.fuel+1<((s.1-1:Nat):Int)
  rw[fm q];omega
 ·rw[e];exact(tB h.g).up (by show 700000-5*s.1+2<=700000-5*(s.1-1);omega)
 ·rw[e];exact h.sl
 rw[e];show ab (bS s.2.r).1.fuel
 by_cases q:s.2.r.fuel<1
 ·rw[fs q];exact h.fu
 rw[fm q];unfold ab;omega
def BB(l:ag)(xt:Int):EX:=⟨l,zx l.f.vm xt l.fuel,false,0⟩
def uQ(x:EX):ag:={x.l with f:={x.l.f with vm:=yH x.r.vm},fuel:=x.r.fuel}
def exR(l:ag)(xt:Int):EX:=oq (l.fuel.toNat+2) (BB l xt)
def lN(l:ag)(xt:Int):ag:=oOk (uQ (exR l xt)) (exR l xt).e
def p8(a:Addr)(l:ag)(xt:Int)(N:Nat)(g:bb N l.f.vm)(hx:ab xt)(h0:0<=l.fuel)(h1:l.fuel<=90000)(hN:N<=190000)(hs:l.s.length<=1000000):∀(H:List Ob) (i:Nat),H[i]?=some (.cells (aR l) 89)->(∀o∈fS a,∃k:Nat,H[k]?=some o)->HC prog 45 (.ptr i 0::[i64 xt]) H (.tup []) (H.set i (.cells (aR (lN l xt)) 89)):=by
 unfold lN
 obtain⟨R,hR⟩:∃R,exR l xt=R:=⟨_,rfl⟩
 rw[hR]
 have i0:ExI R (l.fuel.toNat+2,BB l xt):=⟨hR,fun _=>⟨h0,by show l.fuel+1<((l.fuel.toNat+2:Nat):Int);omega⟩,(As g hx).up (by show N<=700000-5*(l.fuel.toNat+2);omega),by show l.fuel.toNat+2<=100000;omega,hs,by show ab l.fuel;unfold ab;omega⟩
 clear hR
 refine ls (ey a) tG (rs:=[]) func45 rfl rfl rfl (by simp) (by simp) (by simp) (by simp) (fun B=>?_)
 refine Ws<|am [0,0,0,0,1,0,0,0,0,1,0,2,3] [0,1,2,3,4,5,6,7,8,9,10,11,12] mG rfl (by kernel_rfl) ?_
 iterate 4 refine z3 ?_
 refine z5 ?_
 iterate 4 refine z3 ?_
 refine z5 ?_
 refine Xc rfl rfl rfl rfl (fun _=>dC rfl func84 rfl rfl ((F0 l.f.vm xt l.fuel) _)) ?_
 refine mj tG rfl rfl rfl rfl rfl trivial rfl ?_
 refine ct tG rfl rfl rfl rfl rfl trivial ?_
 refine ap ?_
 refine zu2 ?_
 refine Ws<|Wl ?_
 show W _ _ _ _ _ _ _
 refine cQ (fun(s:(Nat×EX))=>[(0,.ptr 0 0),(4,.ptr 3 0),(5,boo s.2.over),(6,i64 s.2.e)]) (fun(s:(Nat×EX))=>[.cells (aR s.2.l) 89,.glob 1 (haltV a),.glob 0 etV,.cells (si s.2.r) 145]) (fun(s:(Nat×EX))=>[]) (fun(s:(Nat×EX))=>ExI R s) (fun(s:(Nat×EX))=>s.1) ((l.fuel.toNat+2,BB l xt)) (by exact i0) [] ?_ ?_
 ·exact cV
 intro s hs
 refine Ws<|zp3 ?_
 refine Wb 25 rfl (fun hg1=>?_) (fun hg1=>?_)
 ·have q1:s.2.over=false:=by simpa using hg1
  refine zs3 ?_
  refine Wi rfl (fun hi1=>?_) (fun hi1=>?_)
  ·have q2:s.2.e=0:=by simpa using hi1
   have lv:¬s.2.stops:=fun z=>z.elim (fun z=>by rw[q1]at z;cases z) (fun z=>z q2)
   have nx:=hs.next lv
   refine Wj<|Wl<|Ws<|zp1 ?_
   refine zc rfl func85 ((AX s.2.r (by have:=hs.g.m.right.len;have:=hs.g.m.right.fV;unfold dW at this;omega) hs.g.ip hs.g.w) _) ?_
   refine zs5 ?_
   refine zu1 ?_
   refine Wi rfl (fun hi2=>?_) (fun hi2=>?_)
   ·have q3:(cD s.2.r).1=true:=hi2
    have ee:=WK q3
    rw[ee]at nx
    let xx:EX:=⟨(exM s.2).1,(exM s.2).2.1,s.2.over,(exM s.2).2.2⟩
    refine zp3 ?_
    refine zc rfl func86 (WW a s.2.l s.2.r (cD s.2.r).2 _ hs.g.m (by omega) hs.sl _ 0 rfl (bO 1 2 rfl rfl)) ?_
    refine zs5 ?_
    refine aU ?_
    exact⟨(s.1-1,xx),[],(by exact nx.1),(by exact nx.2),cV⟩
   have q3:¬(cD s.2.r).1=true:=by rw[hi2];decide
   have ee:=Ov q3
   rw[ee]at nx
   let xx:EX:=⟨s.2.l,(bS s.2.r).1,(bS s.2.r).2.1,(bS s.2.r).2.2⟩
   refine Wj<|zp1 ?_
   refine zc rfl func87 (Fx a s.2.r _ hs.g (by omega) hs.fu _ (bO 1 2 rfl rfl)) ?_
   refine zy5 ?_
   refine zs3 ?_
   refine aa rfl ?_
   refine zy5 ?_
   refine zs1 ?_
   exact⟨(s.1-1,xx),[],(by exact nx.1),(by exact nx.2),cV⟩
  have q2:¬s.2.e=0:=by simpa using hi1
  have st:s.2=R:=(EV (.inr q2) s.1).symm.trans hs.out
  refine aU ?_
  refine zp5 ?_
  refine zs1 ?_
  refine Ws<|am [0,0,0,10,0,10,0,0,0,5,0,0,5] [0,1,2,3,4,5,6,7,8,9,10,11,12] mG rfl (by kernel_rfl) ?_
  iterate 3 refine z3 ?_
  refine zU 3 ?_
  refine z3 ?_
  refine zU 3 ?_
  iterate 3 refine z3 ?_
  refine dK 0 tG rfl rfl rfl rfl rfl trivial rfl ?_
  iterate 2 refine z3 ?_
  refine dK 0 tG rfl rfl rfl rfl rfl trivial rfl ?_
  refine ap ?_
  refine Lq 0 rfl rfl (ys:=aR (uQ s.2)) rfl rfl ?_
  refine aa rfl ?_
  refine zy2 ?_
  refine zc rfl func41 ((oy (uQ s.2) s.2.e) _ _ rfl) ?_
  refine Wn<|aS rfl rfl ?_ ?_
  ·rfl
  rw[<-st];rfl
 have q1:s.2.over=true:=by simpa using hg1
 have st:s.2=R:=(EV (.inl q1) s.1).symm.trans hs.out
 iterate 2 refine z6 ?_
 refine zs1 ?_
 refine Wf rfl rfl ?_
 refine aU ?_
 refine zp5 ?_
 refine zs1 ?_
 refine Ws<|am [0,0,0,10,0,10,0,0,0,5,0,0,5] [0,1,2,3,4,5,6,7,8,9,10,11,12] mG rfl (by kernel_rfl) ?_
 iterate 3 refine z3 ?_
 refine zU 3 ?_
 refine z3 ?_
 refine zU 3 ?_
 iterate 3 refine z3 ?_
 refine dK 0 tG rfl rfl rfl rfl rfl trivial rfl ?_
 iterate 2 refine z3 ?_
 refine dK 0 tG rfl rfl rfl rfl rfl trivial rfl ?_
 refine ap ?_
 refine Lq 0 rfl rfl (ys:=aR (uQ s.2)) rfl rfl ?_
 refine aa rfl ?_
 refine zy2 ?_
 refine zc rfl func41 ((oy (uQ s.2) s.2.e) _ _ rfl) ?_
 refine Wn<|aS rfl rfl ?_ ?_
 ·rfl
 rw[<-st];rfl
structure KD (v w:VVm):Prop where
 conf:w.conf=v.conf
 hand:w.hand=v.hand
 dict:v.dict.length<=w.dict.length
 xts:DX v.dict->DX w.dict
def KV.kd{v w:VVm}(h:KV v w):KD v w:=⟨h.conf,h.hand,by rw[h.dict];exact Nat.le_refl _,by rw[h.dict];exact id⟩
def KD.tr{a b c:VVm}(h:KD a b)(g:KD b c):KD a c:=⟨g.conf.trans h.conf,g.hand.trans h.hand,Nat.le_trans h.dict g.dict,fun q=>g.xts (h.xts q)⟩
def J8{N:Nat}(f:ae)(name:Str)(last:Bool)(l:List Int)(g:bb N f.vm):KD f.vm (bR f name last l).1.vm:=by
 have w:=Qo (aK f) name 0 l
 unfold bR
 split
 ·exact(KV.rf _).kd
 unfold gd
 split
 ·exact(KV.rf _).kd
 unfold iL
 split<;>exact⟨w.1,w.2.1,w.2.2.2,fun q=>Do (w:=aK f) g q name 0 l⟩
def NC{N:Nat}(l:ag)(g:bb N l.f.vm):KD l.f.vm (dT l).f.vm:=by
 have e:=(lA l).1
 unfold dT jz
 split
 ·rcases IY (bY l).1 (bR (bY l).1.f (bY l).2 true [257,0])with q|q
  ·rw[q,<-e];exact J8 _ _ _ _ (by rw[e];exact g)
  rw[q,e];exact(KV.rf _).kd
 rw[e];exact(KV.rf _).kd
def Ul{N:Nat}(l:ag)(r:bD)(ip:Int)(g:bb N r.vm):KD r.vm (iQ l r ip).2.1.vm:=by
 unfold iQ
 split
 ·exact(KV.rf _).kd
 split
 ·exact NC (kg l r) g
 exact(y2 (JR r.vm r ip) _).kd
def VQ{l:ag}{r:bD}{ip:Int}(h0:0<=l.at_)(h1:l.at_<=l.s.length):l.at_<=(iQ l r ip).1.at_/\(iQ l r ip).1.at_<=l.s.length:=by
 unfold iQ
 split
 ·exact⟨Int.le_refl _,h1⟩
 split
 ·show l.at_<=(dT (kg l r)).at_/\(dT (kg l r)).at_<=_
  have q:l.at_<=(bY (kg l r)).1.at_/\(bY (kg l r)).1.at_<=l.s.length:=by
   unfold bY;split
   ·rw[(yD (kg l r) (-16)).2.1];exact⟨Int.le_refl _,h1⟩
   rename_i z
   have w:=Ec l.s h0 h1 z
   exact⟨by show l.at_<=(bu l.s l.at_).2;omega,w.2.1⟩
  unfold dT jz
  split
  ·rw[(xY _ _).2.1];exact q
  exact q
 exact⟨Int.le_refl _,h1⟩
structure ExG (M:Nat) (l0:ag) (v0:VVm) (x:EX):Prop where
 g:gh (M-3*x.r.fuel.toNat) x.r
 m:3*x.r.fuel.toNat<=M
 k:KD v0 x.r.vm
 s:x.l.s=l0.s
 f:x.l.f=l0.f
 a:l0.at_<=x.l.at_
 b:x.l.at_<=l0.s.length
 u0:0<=x.r.fuel
 u1:x.r.fuel<=l0.fuel
def Xo{M:Nat}{l0:ag}{v0:VVm}{x:EX}(h:ExG M l0 v0 x)(h0:0<=l0.at_)(h9:l0.fuel<=90000):ExG M l0 v0 (oH x):=by
 have u0:=h.u0
 have u1:=h.u1
 have m:=h.m
 by_cases hf:x.r.fuel<1
 ·by_cases c:(cD x.r).1=true
  ·rw[WK c]
   have e:exM x=(x.l,x.r,-256):=Su hf
   rw[e]
   exact⟨h.g,h.m,h.k,h.s,h.f,h.a,h.b,h.u0,h.u1⟩
  rw[Ov c]
  have e:bS x.r=(x.r,false,-256):=wJ hf
  rw[e]
  exact⟨h.g,h.m,h.k,h.s,h.f,h.a,h.b,h.u0,h.u1⟩
 have hw:W64 (x.r.fuel-1)=x.r.fuel-1:=gq (by omega) (by omega)
 have hm:M-3*x.r.fuel.toNat+3<=M-3*(x.r.fuel-1).toNat:=by omega
 by_cases c:(cD x.r).1=true
 ·rw[WK c]
  have fu:(exM x).2.1.fuel=x.r.fuel-1:=by
   unfold exM iQ
   rw[if_neg hf]
   split
   ·exact hw
   show(cp _ _).1.fuel=_;rw[qJ];exact hw
  have sf:=Ps x.l x.r (cD x.r).2
  have at_:=VQ (l:=x.l) (r:=x.r) (ip:=(cD x.r).2) (by have:=h.a;omega) (by rw[h.s];exact h.b)
  have a:=h.a
  have es:=h.s
  refine⟨?_,?_,h.k.tr (Ul x.l x.r _ h.g.m),sf.1.trans es,sf.2.1.trans h.f,by show l0.at_<=(iQ x.l x.r (cD x.r).2).1.at_;omega,by show(iQ x.l x.r (cD x.r).2).1.at_<=_;rw[<-es];exact at_.2,?_,?_⟩
  ·show gh (M-3*(exM x).2.1.fuel.toNat) (exM x).2.1
   rw[fu];exact(Cw h.g (xa h.g.ip)).up hm
  ·show 3*(exM x).2.1.fuel.toNat<=M
   rw[fu];omega
  ·show 0<=(exM x).2.1.fuel
   rw[fu];omega
  show(exM x).2.1.fuel<=_
  rw[fu];omega
 rw[Ov c]
 have fu:(bS x.r).1.fuel=x.r.fuel-1:=by rw[vV h.g.m.right.d hf];exact hw
 refine⟨?_,?_,h.k.tr (UJ h.g).kd,h.s,h.f,h.a,h.b,?_,?_⟩
 ·show gh (M-3*(bS x.r).1.fuel.toNat) (bS x.r).1
  rw[fu];exact(tB h.g).up (by omega)
 ·show 3*(bS x.r).1.fuel.toNat<=M
  rw[fu];omega
 ·show 0<=(bS x.r).1.fuel
  rw[fu];omega
 show(bS x.r).1.fuel<=_
 rw[fu];omega
def KT{M:Nat}{l0:ag}{v0:VVm}(h0:0<=l0.at_)(h9:l0.fuel<=90000):∀(n:Nat) (x:EX),ExG M l0 v0 x->ExG M l0 v0 (oq n x)
 | 0,x,h=>h
 | n+1,x,h=>by
  rw[oq]
  split
  ·exact h
  exact KT h0 h9 n _ (Xo h h0 h9)
structure Nr (l0 l:ag) (N:Nat):Prop where
 f:OkF (N+3*l0.fuel.toNat-3*l.fuel.toNat) l.f
 s:l.s=l0.s
 a:l0.at_<=l.at_
 b:l.at_<=l0.s.length
 u0:0<=l.fuel
 u1:l.fuel<=l0.fuel
def Pq{N:Nat}{l:ag}(h:OkF N l.f){xt:Int}(hx:ab xt)(h0:0<=l.at_)(h1:l.at_<=l.s.length)(u0:0<=l.fuel)(u9:l.fuel<=90000):Nr l (lN l xt) N:=by
 have b:ExG (N+3*l.fuel.toNat) l l.f.vm (BB l xt):=by
  refine⟨?_,?_,⟨rfl,rfl,Nat.le_refl _,id⟩,rfl,rfl,Int.le_refl _,h1,u0,Int.le_refl _⟩
  ·show gh (N+3*l.fuel.toNat-3*l.fuel.toNat) (zx l.f.vm xt l.fuel)
   rw[Nat.add_sub_cancel];exact As h.g hx
  show 3*l.fuel.toNat<=_;omega
 have r:=KT h0 u9 (l.fuel.toNat+2) _ b
 unfold lN exR
 generalize oq (l.fuel.toNat+2) (BB l xt)=x at r ⊢
 have g:=r.g.m
 have hc:=g.right.fV
 unfold dW at hc
 have g2:=QX (Qx g (r:=[]) (by show(0:Int)<=_;omega) bA) (f:=[]) rfl (by show(0:Nat)<=64;omega) (fun y hy=>by cases hy)
 have hf:(uQ x).f={l.f with vm:=yH x.r.vm}:=by unfold uQ;dsimp only;rw[r.f]
 have o:OkF (N+3*l.fuel.toNat-3*x.r.fuel.toNat) (uQ x).f:=by
  rw[hf]
  exact h.vm (v:=yH x.r.vm) g2 r.k.dict r.k.conf (r.k.xts h.xts)
 have sf:=yD (uQ x) x.e
 refine⟨?_,sf.1.trans r.s,?_,?_,?_,?_⟩
 ·rw[(uh _ _).1,sf.2.2];exact o
 ·rw[sf.2.1];exact r.a
 ·rw[sf.2.1];exact r.b
 ·rw[sf.2.2];exact r.u0
 rw[sf.2.2];exact r.u1
end Go.Proofs.YtjcminooghmpeaaGreatDoor
