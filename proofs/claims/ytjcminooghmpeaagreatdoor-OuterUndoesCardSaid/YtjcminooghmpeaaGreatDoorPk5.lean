import Derived.Stop.IfaceNil
import Derived.Test.YtjcminooghmpeaaGreatDoorPk4
set_option linter.all false
set_option maxRecDepth 100000
set_option maxHeartbeats 40000000
open Go.Proofs.Tryz
namespace Go.Proofs.YtjcminooghmpeaaGreatDoor
open Go.RowKit
def pZ(a b:Int):lJ [47] a b=((two .quo a b).1,true,(two .quo a b).2):=rfl
def qa(a b:Int):lJ [77,79,68] a b=((two .rem a b).1,true,(two .rem a b).2):=rfl
def qg(a b:Int):lJ [43] a b=((two .add a b).1,true,(two .add a b).2):=rfl
def qi(a b:Int):lJ [45] a b=((two .sub a b).1,true,(two .sub a b).2):=rfl
def qM(a b:Int):lJ [42] a b=((two .mul a b).1,true,(two .mul a b).2):=rfl
def qO(a b:Int):lJ [65,78,68] a b=((two .and a b).1,true,(two .and a b).2):=rfl
def uN(a b:Int):lJ [79,82] a b=((two .or a b).1,true,(two .or a b).2):=rfl
def qw(a b:Int):lJ [88,79,82] a b=((two .xor a b).1,true,(two .xor a b).2):=rfl
def p7(a b:Int):lJ [76,83,72,73,70,84] a b=((two .shl a b).1,true,(two .shl a b).2):=rfl
def qu(a b:Int):lJ [82,83,72,73,70,84] a b=((two .shr a b).1,true,(two .shr a b).2):=rfl
def qX(a b:Int):lJ [77,73,78] a b=((two .min a b).1,true,(two .min a b).2):=rfl
def qj(a b:Int):lJ [77,65,88] a b=((two .max a b).1,true,(two .max a b).2):=rfl
def R3{s:Str}{a b:Int}(h0:s≠[47])(h1:s≠[77,79,68])(h2:s≠[43])(h3:s≠[45])(h4:s≠[42])(h5:s≠[65,78,68])(h6:s≠[79,82])(h7:s≠[88,79,82])(h8:s≠[76,83,72,73,70,84])(h9:s≠[82,83,72,73,70,84])(h10:s≠[77,73,78])(h11:s≠[77,65,88]):ww (lJ s a b)=jC (i64 (Gv s a b).1) (boo (Gv s a b).2) (i64 0):=by
 unfold Gv
 by_cases h12:s=[61]
 ·subst h12;rfl
 rw[if_neg h12]
 by_cases h13:s=[60,62]
 ·subst h13;rfl
 rw[if_neg h13]
 by_cases h15:s=[62]
 ·subst h15;rfl
 rw[if_neg h15]
 by_cases h14:s=[60]
 ·subst h14;rfl
 rw[if_neg h14]
 by_cases h16:s=[60,61]
 ·subst h16;rfl
 rw[if_neg h16]
 by_cases h17:s=[62,61]
 ·subst h17;rfl
 rw[if_neg h17]
 by_cases h19:s=[85,62]
 ·subst h19;rfl
 rw[if_neg h19]
 by_cases h18:s=[85,60]
 ·subst h18;rfl
 rw[if_neg h18]
 rw[XX (Qn h0 h1 h2 h3 h4 h5 h6 h7 h8 h9 h10 h11 h12 h13 h14 h15 h16 h17 h18 h19)];rfl
def W7(name:Str)(a b:Int)(hb:Fit b):af prog 242 [str name,i64 a,i64 b] (ww (lJ name a b)):=by
 refine zY func242 fun B=>?_
 refine zu3 ?_
 refine Ws<|zu1 ?_
 refine Wl<|Ws<|zp1 ?_
 refine zq 16 ?_
 refine zs1 ?_
 refine Wi rfl (fun hi1=>?_) (fun hi1=>?_)
 ·refine Wj<|Wt rfl hi1 ?_
  refine zp2 ?_
  refine zc rfl func272 ((Q6 a b hb) _) ?_
  refine zy5 ?_
  refine zs2 ?_
  refine Ws<|zp2 ?_
  refine zq 26 ?_
  refine Wn<|Wi rfl (fun hi2=>?_) (fun hi2=>?_)
  ·refine aa rfl ?_
   refine zs2 ?_
   refine zu5 ?_
   refine zR ?_
   (exfalso;(try simp only[dnL]at *);simp_all;done)
  refine Wj<|zu5 ?_
  refine zR ?_
  ((try simp only[dnL]at *);simp_all[ww,jC,i64,boo,bB,two,Bp,orS,Bj,IntKind.bits,pZ,qa,qg,qi,qM,qO,uN,qw,p7,qu,qX,qj];done)
 refine aa rfl ?_
 refine z1 ?_
 refine zq 17 ?_
 refine zs1 ?_
 refine Wi rfl (fun hi3=>?_) (fun hi3=>?_)
 ·refine zp2 ?_
  refine zc rfl func272 ((Q6 a b hb) _) ?_
  refine zy5 ?_
  refine zs2 ?_
  refine Ws<|zp2 ?_
  refine zq 26 ?_
  refine Wn<|Wi rfl (fun hi2=>?_) (fun hi2=>?_)
  ·refine aa rfl ?_
   refine zs2 ?_
   refine zu5 ?_
   refine zR ?_
   ((try simp only[dnL]at *);simp_all[ww,jC,i64,boo,bB,two,Bp,orS,Bj,IntKind.bits,pZ,qa,qg,qi,qM,qO,uN,qw,p7,qu,qX,qj];done)
  refine Wj<|zu5 ?_
  refine zR ?_
  (exfalso;(try simp only[dnL]at *);simp_all;done)
 refine zp1 ?_
 refine zq 31 ?_
 refine zs1 ?_
 refine Wi rfl (fun hi4=>?_) (fun hi4=>?_)
 ·refine zp5 ?_
  refine zs1 ?_
  refine zR ?_
  ((try simp only[dnL]at *);simp_all[ww,jC,i64,boo,bB,two,Bp,orS,Bj,IntKind.bits,pZ,qa,qg,qi,qM,qO,uN,qw,p7,qu,qX,qj];done)
 refine zp1 ?_
 refine zq 36 ?_
 refine zs1 ?_
 refine Wi rfl (fun hi5=>?_) (fun hi5=>?_)
 ·refine zp5 ?_
  refine zs1 ?_
  refine zR ?_
  ((try simp only[dnL]at *);simp_all[ww,jC,i64,boo,bB,two,Bp,orS,Bj,IntKind.bits,pZ,qa,qg,qi,qM,qO,uN,qw,p7,qu,qX,qj];done)
 refine zp1 ?_
 refine zq 41 ?_
 refine zs1 ?_
 refine Wi rfl (fun hi6=>?_) (fun hi6=>?_)
 ·refine zp5 ?_
  refine zs1 ?_
  refine zR ?_
  ((try simp only[dnL]at *);simp_all[ww,jC,i64,boo,bB,two,Bp,orS,Bj,IntKind.bits,pZ,qa,qg,qi,qM,qO,uN,qw,p7,qu,qX,qj];done)
 refine zp1 ?_
 refine zq 46 ?_
 refine zs1 ?_
 refine Wi rfl (fun hi7=>?_) (fun hi7=>?_)
 ·refine zp5 ?_
  refine zs1 ?_
  refine zR ?_
  ((try simp only[dnL]at *);subst_vars;exact congrArg (fun z=>jC (i64 z) (boo true) (i64 0)) (bB _))
 refine zp1 ?_
 refine zq 51 ?_
 refine zs1 ?_
 refine Wi rfl (fun hi8=>?_) (fun hi8=>?_)
 ·refine zp5 ?_
  refine zs1 ?_
  refine zR ?_
  ((try simp only[dnL]at *);subst_vars;exact congrArg (fun z=>jC (i64 z) (boo true) (i64 0)) (bB _))
 refine zp1 ?_
 refine zq 56 ?_
 refine zs1 ?_
 refine Wi rfl (fun hi9=>?_) (fun hi9=>?_)
 ·refine zp5 ?_
  refine zs1 ?_
  refine zR ?_
  ((try simp only[dnL]at *);subst_vars;exact congrArg (fun z=>jC (i64 z) (boo true) (i64 0)) (bB _))
 refine Ws<|zp1 ?_
 refine zq 61 ?_
 refine zs1 ?_
 refine Wi rfl (fun hi10=>?_) (fun hi10=>?_)
 ·refine Wj<|Wt rfl hi10 ?_
  refine zp4 ?_
  refine zq 66 ?_
  refine zc rfl func273 ((BT a b _) _) ?_
  refine zs3 ?_
  refine zR ?_
  ((try simp only[dnL]at *);simp_all[ww,jC,i64,boo,bB,two,Bp,orS,Bj,IntKind.bits,pZ,qa,qg,qi,qM,qO,uN,qw,p7,qu,qX,qj];done)
 refine aa rfl ?_
 refine z1 ?_
 refine zq 62 ?_
 refine zs1 ?_
 refine Wi rfl (fun hi11=>?_) (fun hi11=>?_)
 ·refine zp4 ?_
  refine zq 66 ?_
  refine zc rfl func273 ((BT a b _) _) ?_
  refine zs3 ?_
  refine zR ?_
  ((try simp only[dnL]at *);simp_all[ww,jC,i64,boo,bB,two,Bp,orS,Bj,IntKind.bits,pZ,qa,qg,qi,qM,qO,uN,qw,p7,qu,qX,qj];done)
 refine zp1 ?_
 refine zq 69 ?_
 refine zs1 ?_
 refine Wi rfl (fun hi12=>?_) (fun hi12=>?_)
 ·refine zp5 ?_
  refine zs1 ?_
  refine zR ?_
  ((try simp only[dnL]at *);simp_all[ww,jC,i64,boo,bB,two,Bp,orS,Bj,IntKind.bits,pZ,qa,qg,qi,qM,qO,uN,qw,p7,qu,qX,qj];done)
 refine zp1 ?_
 refine zq 74 ?_
 refine zs1 ?_
 refine Wi rfl (fun hi13=>?_) (fun hi13=>?_)
 ·refine zp5 ?_
  refine zs1 ?_
  refine zR ?_
  ((try simp only[dnL]at *);simp_all[ww,jC,i64,boo,bB,two,Bp,orS,Bj,IntKind.bits,pZ,qa,qg,qi,qM,qO,uN,qw,p7,qu,qX,qj];done)
 refine Wj<|zp3 ?_
 refine zc rfl func274 ((Pz name a b) _) ?_
 refine zs5 ?_
 refine zu5 ?_
 refine zR ?_
 ((try simp only[dnL]at *);exact(R3 (by assumption) (by assumption) (by assumption) (by assumption) (by assumption) (by assumption) (by assumption) (by assumption) (by assumption) (by assumption) (by assumption) (by assumption)).symm)
def Sc(p:dL)(n:Int)(hp:p.b.length<=1000000):af prog 343 [xK p,i64 n] (Mk (ow p n)):=by
 refine zY func343 fun B=>?_
 refine zu3 ?_
 refine Ws<|zu2 ?_
 refine Wi rfl (fun hi1=>?_) (fun hi1=>?_)
 ·have h0:0<=n:=by(try simp only[dnL]at *);omega
  refine zu3 ?_
  refine zR ?_
  rw[ow,if_pos h0];rfl
 have h0:¬0<=n:=by(try simp only[dnL]at *);omega
 refine Wj<|zp1 ?_
 refine zc rfl func342 ((AA p 45 hp) _) ?_
 refine zs4 ?_
 refine zR ?_
 rw[ow,if_neg h0];rfl
def FS(p:dL)(lo hi base:Int):dL×Int:=gm p (vx (il lo (il hi 0 base).2.1 base).2.1)
def aN(p:dL)(lo hi base:Int):dL×Int×Int×Int :=
 if base<2\/36<base then(p,lo,hi,-24)else
  if (FS p lo hi base).2=0 then((FS p lo hi base).1,(il lo (il hi 0 base).2.1 base).1,(il hi 0 base).1,0)else(p,lo,hi,(FS p lo hi base).2)
def YV(r:dL×Int×Int×Int):PV:=Ow (xK r.1) (i64 r.2.1) (i64 r.2.2.1) (i64 r.2.2.2)
@[simp] theorem aj4 (r : dL × Int × Int × Int) : aQ (YV r) := by simp [YV]
def Mt(n:Int):IntKind.i64.wrap (vx n)=vx n:=by rw[bB];unfold vx wrap64;split<;>(try split)<;>omega
def Cr(p:dL)(lo hi base:Int)(hp:p.b.length<=1000000):af prog 339 [xK p,i64 lo,i64 hi,i64 base] (YV (aN p lo hi base)):=by
 refine zY func339 fun B=>?_
 refine zu5 ?_
 refine Ws<|zp3 ?_
 refine Wb 22 rfl (fun hg1=>?_) (fun hg1=>?_)
 ·refine z6 ?_
  refine z6 ?_
  refine zs1 ?_
  refine Wt rfl rfl ?_
  refine zp5 ?_
  refine zs2 ?_
  refine zR ?_
  rw[aN,if_pos (by(try simp only[dnL]at *);omega)];rfl
 refine zs3 ?_
 refine Wi rfl (fun hi1=>?_) (fun hi1=>?_)
 ·have hb:base<2\/36<base:=by(try simp only[dnL]at *);omega
  refine zp5 ?_
  refine zs2 ?_
  refine zR ?_
  rw[aN,if_pos hb];rfl
 have hb:¬(base<2\/36<base):=by(try simp only[dnL]at *);omega
 refine Wj<|zp2 ?_
 refine zc rfl func287 ((IJ hi 0 base) _) ?_
 refine zy5 ?_
 refine zs2 ?_
 refine zp3 ?_
 refine zc rfl func287 ((IJ lo _ base) _) ?_
 refine zy5 ?_
 refine zs2 ?_
 refine Ws<|am [1,0,0,0,0,0,0,0,2,3,0] [0,1,2,3,4,5,6,7,8,9,10] mG rfl (by kernel_rfl) ?_
 refine z5 ?_
 refine z3 ?_
 refine Xc rfl rfl rfl rfl (fun _=>dC rfl func379 rfl rfl ((UE _) _)) ?_
 refine z3 ?_
 refine Xa 48 rfl (zI9 (Mt _)) ?_
 refine Xc rfl rfl rfl rfl (fun _=>dC rfl func342 rfl rfl ((AA p _ hp) _)) ?_
 iterate 3 refine z3 ?_
 refine mj tG rfl rfl rfl rfl rfl trivial rfl ?_
 refine ct tG rfl rfl rfl rfl rfl trivial ?_
 refine z3 ?_
 refine ap ?_
 refine Ws<|zu2 ?_
 refine Wi rfl (fun hi2=>?_) (fun hi2=>?_)
 ·have h0:¬(FS p lo hi base).2=0:=by(try simp only[dnL]at *);exact hi2
  refine zp5 ?_
  refine zs3 ?_
  refine zR ?_
  rw[aN,if_neg hb,if_neg h0];rfl
 have h0:(FS p lo hi base).2=0:=by(try simp only[dnL]at *);exact hi2
 refine Wj<|zp5 ?_
 refine zs2 ?_
 refine zR ?_
 rw[aN,if_neg hb,if_pos h0];rfl
def lg(p:dL):List UInt8×Int:=if p.on then(p.b.reverse,0)else([],-17)
def MD{l:List UInt8}{x:Int}{k:Nat}{s:SK}(h0:0<=x)(h1:x+k<l.length)(k2:IntKind.i64.wrap (x+(k:Int))=x+k):
  PV.seq ((l.drop x.toNat).take k++[l.getD (IntKind.i64.wrap (x+(k:Int))).toNat 0]).length (((l.drop x.toNat).take k++[l.getD (IntKind.i64.wrap (x+(k:Int))).toNat 0]).flatMap ar) s=.seq ((l.drop x.toNat).take (k+1)).length (((l.drop x.toNat).take (k+1)).flatMap ar) s:=by
 rw[k2,fI _ k 0 (by simp;omega)]
 have:l.getD (x+(k:Int)).toNat 0=(l.drop x.toNat).getD k 0:=by
  unfold List.getD
  rw[List.getElem?_drop]
  congr 2;omega
 rw[this]
def Ph(m:bf)(at_ n:Int)(hm:cy m)(ha:ab at_)(hn:ab n):af prog 60 [gH m,i64 at_,i64 n] (KE (cv m at_ n)):=by
 have hm1:=hm.b
 refine zY func60 fun B=>?_
 refine zu3 ?_
 refine zp3 ?_
 refine zc rfl func59 ((BN m at_ n (by omega) ha hn) _) ?_
 refine zs1 ?_
 refine Ws<|zu2 ?_
 refine Wi rfl (fun hi1=>?_) (fun hi1=>?_)
 ·have ht:¬aV m at_ n=true:=by simpa using hi1
  refine zu2 ?_
  refine zR ?_
  rw[cv,if_neg ht];rfl
 have ht:aV m at_ n=true:=by simpa using hi1
 have hN:0<=n/\(0<n->0<=at_/\at_+n<=m.b.length):=by unfold aV at ht;simp only[decide_eq_true_eq]at ht;omega
 refine Wj<|zp1 ?_
 refine wo 9 0 1 rfl rfl ?_
 refine Wn<|Ws<|zu1 ?_
 refine Wl ?_
 show W _ _ _ _ _ _ _
 refine cQ (fun(k:Nat)=>[(1,i64 at_),(2,i64 n),(3,.ptr 0 0),(10,i64 k),(9,.seq ((m.b.drop at_.toNat).take k).length (((m.b.drop at_.toNat).take k).flatMap ar) (.own 2 1))]) (fun(k:Nat)=>[.cells (yC m) 28,.dead]) (fun(k:Nat)=>[.free (((m.b.drop at_.toNat).take k).length*1)]) (fun(k:Nat)=>(k:Int)<=n) (fun(k:Nat)=>n.toNat-k) (0) (by omega) [1] ?_ ?_
 ·exact cV
 intro k hk
 refine Ws<|zu3 ?_
 refine Wi rfl (fun hi2=>?_) (fun hi2=>?_)
 ·have hlt:(k:Int)<n:=oT hi2
  have k2:IntKind.i64.wrap (at_+(k:Int))=at_+k:=xU (by omega) (by omega)
  refine Wj<|Ws<|Wl<|aa rfl ?_
  refine zy5 ?_
  refine z1 ?_
  refine Wv tG rfl rfl rfl (by rw[k2];omega) (iR ar 1 (fun _=>rfl) 0 (by rw[k2];omega)) ?_
  refine zy2 ?_
  refine Wa 30 rfl (bsL ar [_] rfl rfl) ?_
  refine Wd rfl rfl (cH (lO tG rfl) rfl (lO tG rfl) (lO tG rfl) rfl rfl rfl rfl (by simp) (by exact⟨_,rfl⟩) (by exact⟨rfl,rfl,al _ 1 (fun _=>rfl) _,bi _ (fun _=>rfl) _⟩) (by((simp_all;omega))) (by((simp_all;omega)))) ?_
  refine Wa 31 rfl (bT ar) ?_
  refine z1 ?_
  skip
  refine Wn<|aa rfl ?_
  refine zs3 ?_
  exact⟨k+1,[3],(by omega),(by omega),(cV (sub:=by repeat (first|exact ez|refine dA (by first|exact cq rfl|exact cq (MD (by omega) (by omega) k2)|exact cq (congrArg i64 (by(rw[bB];unfold wrap64;omega)))) ?_)))⟩
 have hkn:k=n.toNat:=by have:=oF hi2;omega
 refine aU ?_
 refine zu3 ?_
 refine zR ?_
 rw[cv,if_pos ht,<-hkn];rfl
def Mu(l:List UInt8)(k:Nat):d7 l k []=l:=by simp[d7]
def IQ{l b:List UInt8}{p k:Nat}(hk:k<b.length)(h:p+b.length<=l.length):(d7 l p (b.take k)).set (p+k) (b.getD k 0)=d7 l p (b.take (k+1)):=by
 unfold d7
 rw[fI b k 0 hk]
 apply List.ext_getElem?
 intro i
 have e1:(List.take p l).length=p:=by simp;omega
 have e2:(List.take k b).length=k:=by simp;omega
 simp only[List.getElem?_set,List.getElem?_append,List.length_append,e1,e2,List.length_singleton,List.getElem?_drop,List.length_drop]
 by_cases hi:p+k=i
 ·subst hi
  rw[if_pos rfl,if_pos (by omega),if_pos (by omega),if_neg (by omega),if_neg (by omega)]
  simp
 rw[if_neg hi]
 by_cases h1:i<p
 ·rw[if_pos (by omega),if_pos h1,if_pos (by omega),if_pos h1]
 by_cases h2:i<p+k
 ·rw[if_pos h2,if_neg h1,if_pos (by omega),if_neg h1,if_pos (by omega)]
 rw[if_neg h2,if_neg (by omega)]
 congr 1;omega
def Ka{A B':Ob}{l b:List UInt8}{p k o:Nat}{e:TypeId}(hk:k<b.length)(h:p+b.length<=l.length)(ho:o=p+k):
  [A,B',Ob.cells ((d7 l p (b.take (k+1))).flatMap ar) e]=[A,B',.cells (cr ((d7 l p (b.take k)).flatMap ar) o [.val (.int .u8 ((b.getD k 0).toNat:Int))]) e]:=by
 subst ho
 rw[<-IQ hk h,<-rR (by rw[pq (by simp;omega)];omega)]
def ON{l b:List UInt8}{p k:Nat}(hk:b.length<=k)(h:p+b.length<=l.length):PV.seq l.length (((d7 l p (b.take k)).flatMap ar).take (d7 l p (b.take k)).length) .any=sq ar (d7 l p b):=by
 rw[List.take_of_length_le hk,xN,List.take_length]
 unfold sq
 rw[pq h]
def Od(m:bf)(at_:Int)(b:List UInt8)(hm:cy m)(ha:ab at_)(hb:b.length<=1000000):af prog 31 [gH m,i64 at_,sq ar b] (tQ (bV m at_ b)):=by
 have hm1:=hm.b
 have hm2:=hm.old
 refine zY func31 fun B=>?_
 refine zu3 ?_
 refine zp4 ?_
 refine zc rfl func59 ((BN m at_ b.length (by omega) ha (UR hb)) _) ?_
 refine zs1 ?_
 refine Ws<|zu2 ?_
 refine Wi rfl (fun hi1=>?_) (fun hi1=>?_)
 ·rw[xk (by simpa using hi1)]
  refine zu3 ?_
  refine zR ?_
  rfl
 have ht:aV m at_ b.length=true:=by simpa using hi1
 refine Wj<|Ws<|zu3 ?_
 refine Wi rfl (fun hi2=>?_) (fun hi2=>?_)
 ·rw[vz ht (by simpa using hi2)]
  refine zu3 ?_
  refine zR ?_
  rfl
 have hne:b.length≠0:=by simpa using hi2
 obtain⟨k0,k1⟩:=AQ ht hne
 have hX:(cv m at_ b.length).1=(m.b.drop at_.toNat).take b.length:=by unfold cv;rw[if_pos ht];simp
 refine Wj<|zp4 ?_
 refine zc rfl func60 ((Ph m at_ b.length hm ha (UR hb)) _) ?_
 refine zs5 ?_
 refine zp3 ?_
 refine Wd rfl rfl (kG (lO tG rfl) rfl (lO tG rfl) (lO tG rfl) rfl rfl ⟨_,rfl⟩ ⟨rfl,rfl,al _ 1 (fun _=>rfl) _,bi _ (fun _=>rfl) _⟩ rfl (by dsimp only;omega) (by omega) (by omega)) ?_
 refine Wa 36 rfl (show PV.arw 2 0 (0+m.b.length)=.arw 2 0 m.b.length by rw[Nat.zero_add]) ?_
 refine iS (H':=[.cells (yC m) 28,.cells [.seq 0 [] .clip,.seq 0 [] .clip] 28,.cells ((d7 m.b at_.toNat (b.take 0)).flatMap ar) 5]) (by rw[List.take_zero,Mu];rfl) ?_
 refine zs1 ?_
 refine Ws<|zu1 ?_
 refine Wl ?_
 show W _ _ _ _ _ _ _
 refine cQ (fun(k:Nat)=>[(1,i64 at_),(2,sq ar b),(3,.ptr 0 0),(6,.ptr 1 0),(9,sq ar (cv m at_ b.length).1),(11,.arw 2 0 m.b.length),(12,i64 k)]) (fun(k:Nat)=>[.cells (yC m) 28,.cells [.seq 0 [] .clip,.seq 0 [] .clip] 28,.cells ((d7 m.b at_.toNat (b.take k)).flatMap ar) 5]) (fun(k:Nat)=>[]) (fun(k:Nat)=>k<=b.length) (fun(k:Nat)=>b.length-k) (0) (by omega) [] ?_ ?_
 ·exact cV
 intro k hk
 refine Ws<|zu4 ?_
 refine Wi rfl (fun hi3=>?_) (fun hi3=>?_)
 ·have hlt:k<b.length:=by have:=oT hi3;omega
  have k2:IntKind.i64.wrap (at_+(k:Int))=at_+k:=xU (by omega) (by omega)
  refine Wj<|Ws<|Wl<|aa rfl ?_
  refine zy5 ?_
  refine z1 ?_
  refine Wv tG rfl rfl rfl (by omega) (iN ar 1 (fun _=>rfl) 0 (by omega)) ?_
  refine z1 ?_
  refine z2 ?_ (q:=(by rw[k2];omega))
  refine Wd rfl rfl (bH (lO tG rfl) rfl rfl rfl rfl rfl rfl (by rw[Nat.ble_eq,eH,pq (by simp;omega)];dsimp only;rw[k2];simp;omega)) ?_
  refine iS (H':=[.cells (yC m) 28,.cells [.seq 0 [] .clip,.seq 0 [] .clip] 28,.cells ((d7 m.b at_.toNat (b.take (k+1))).flatMap ar) 5]) (Ka hlt (by omega) (by rw[k2];dsimp only;omega)) ?_
  refine Wn<|aa rfl ?_
  refine zs3 ?_
  exact⟨k+1,[],(by omega),(by omega),cV⟩
 have hge:b.length<=k:=by have:=oF hi3;omega
 refine aU ?_
 refine zp1 ?_
 refine m7 52 2 _ (d7 m.b at_.toNat (b.take k)).length rfl rfl (by rw[eH];exact Nat.le_refl _) ?_
 refine Wa 52 rfl (ON hge (by omega)) ?_
 refine zy3 ?_
 refine Wd rfl rfl (bK (lO tG rfl) rfl (lO tG rfl) (lO tG rfl) rfl rfl (by exact⟨_,rfl⟩) (by exact⟨rfl,rfl,al _ 2 (fun _=>rfl) _,bi _ (fun _=>rfl) _⟩) (by rfl) (by(dsimp only;omega)) (by(omega))) ?_
 refine Wa 56 rfl (sr jX) ?_
 refine zy4 ?_
 refine Wa 60 rfl ((show PV.seq 1 _ .clip=.seq (List.length [(⟨at_,(cv m at_ b.length).1⟩:oL)]) (List.flatMap jX [(⟨at_,(cv m at_ b.length).1⟩:oL)]) .clip from rfl)) ?_
 refine Wd rfl rfl (cH (lO tG rfl) rfl (lO tG rfl) (lO tG rfl) rfl rfl rfl rfl (by simp) (by exact⟨_,rfl⟩) (by exact⟨rfl,rfl,al _ 2 (fun _=>rfl) _,bi _ (fun _=>rfl) _⟩) (by((simp_all;omega))) (by((simp_all;omega)))) ?_
 refine Wa 61 rfl (bT jX) ?_
 refine zs3 ?_
 refine zR ?_
 rw[vM ht hne,<-hX];rfl
def Of(n:Nat)(h:n<=1000000):af prog 373 [.val (.int .u64 1),.val (.int .u64 n)] (gY (.val (.int .u64 0)) (.val (.int .u64 n))):=by
 refine dM (P:=prog) (args:=[.int .u64 1,.int .u64 n]) (v:=.tuple #[.int .u64 0,.int .u64 n]) (fun c=>?_) (fun w=>?_)
 ·unfold gY Rep
  exact⟨[_,_],rfl,ai.2 ⟨av _ _,ai.2 ⟨av _ _,aF.2 rfl⟩⟩⟩
 refine Calls.mono (Tryz.bits_Mul 1 n (by omega) (by omega) w) ?_
 rintro e w' ⟨rfl,rfl⟩
 refine⟨?_,be.refl _⟩
 rw[Nat.one_mul,Nat.div_eq_of_lt (by omega),Nat.mod_eq_of_lt (by omega)];rfl
def XH{n:Nat}(h:n<=1000000):PV.val (.int .u64 (IntKind.u64.wrap (n:Int)))=.val (.int .u64 (n:Int)):=by
 exact congrArg (fun z=>PV.val (Value.int .u64 z)) (by rw[IntKind.wrap_u64];omega)
def US{n:Nat}(h:n<=1000000):PV.val (.int .i64 (IntKind.i64.wrap (n:Int)))=.val (.int .i64 (n:Int)):=by
 exact zI9 (by rw[bB];unfold wrap64;omega)
def dq(c:UInt8)(n k:Nat):List PV:=(List.replicate k c).flatMap ar++List.replicate (n-k) .any
def hJ{c:UInt8}{n k:Nat}(h:k<=n):(dq c n k).length=n:=by
 unfold dq
 rw[List.length_append,al ar 1 (fun _=>rfl)]
 simp;omega
def wR(c:UInt8)(k:Nat):(List.replicate k c).flatMap ar=List.replicate k (.val (.int .u8 (c.toNat:Int))):=by
 rw[List.flatMap_replicate]
 induction k with
 | zero=>rfl
 | succ k ih=>rw[List.replicate_succ,List.flatten_cons,ih];rfl
def uB{c:UInt8}{n k q:Nat}(h:k+q<=n):cr (dq c n k) k ((List.replicate q c).flatMap ar)=dq c n (k+q):=by
 unfold dq cr
 rw[wR,wR,wR,List.take_append_of_le_length (by simp),List.take_of_length_le (by simp),List.drop_append,List.length_replicate,List.length_replicate,List.drop_of_length_le (by simp),List.nil_append,List.drop_replicate,List.replicate_append_replicate]
 congr 2;omega
def qy{c:UInt8}{n k q:Nat}(h:q<=k):((dq c n k).drop 0).take q=(List.replicate q c).flatMap ar:=by
 unfold dq
 rw[wR,wR,List.drop_zero,List.take_append_of_le_length (by simpa using h),List.take_replicate,Nat.min_eq_left h]
def vK(c:UInt8)(n:Nat):List.replicate n .any=dq c n 0:=by simp[dq]
def Wg:Tryz.f388.body.isNone=true:=by kernel_rfl
def UP:Extern.findNext Tryz.f388=none:=by kernel_rfl
def VP:Extern.find Tryz.f388=some (Extern.BytealgMakeNoZero.makeNoZero #[3] #[22]):=by kernel_rfl
def Vr : (Tryz.f388.name == "runtime.NumGoroutine") = false := by kernel_rfl
def L9{B:Nat->Nat->Prop}{o:Oper}{T:Nat->PV}{H:List Ob}{x:Operand}{ats:Array TypeId}{m:Nat}(ho:o.op=.call {callee:=.value (.func 388),args:=#[x],argTypes:=ats})(hx:opv T x=.val (.int .i64 (m:Int)))(hm:m<=281474976710656):
  bL prog B o T H (.arw H.length 0 m) (H++[.cells (List.replicate m .any) 5]) :=
 xA ho func388 Vr Wg UP VP (lO (G:=tys) (t:=22) tG rfl) rfl hx hm
def hZ(n:Nat):Nat:=if 8192<n then 8192 else n
def NB{n:Nat}(h:n≠0):0<hZ n:=by unfold hZ;split<;>omega
def LY{n:Nat}(h:n≠0):PV.val (.int .i64 ((min 1 n:Nat):Int))=.val (.int .i64 ((1:Nat):Int)):=by rw[Nat.min_eq_left (by omega)]
def CZ{c:UInt8}{n:Nat}{e:TypeId}(h:n≠0):[Ob.cells (dq c n 1) e]=[Ob.cells (cr (dq c n 0) 0 ((List.flatMap ar [c]).take (min 1 n*1))) e]:=by
 rw[Nat.min_eq_left (by omega)]
 have:=uB (c:=c) (n:=n) (k:=0) (q:=1) (by omega)
 rw[Nat.zero_add]at this
 rw[<-this];rfl
def Lc{k q:Nat}:PV.val (.int .i64 (if (q:Int)<(k:Int)then(q:Int)else(k:Int)))=.val (.int .i64 ((min k q:Nat):Int)) :=
 zI9 (by split<;>omega)
@[simp] theorem VT (c : UInt8) (n k : Nat) : aG (dq c n k) := by
 unfold dq
 refine fp (bo nZ _) ?_
 induction (n-k)with
 | zero=>trivial
 | succ m ih=>rw[List.replicate_succ];exact⟨trivial,ih⟩
def HM{n k:Nat}(h:k<n):PV.arr 0 (if n=(k:Int).toNat then 0 else 0+(k:Int).toNat*1) (n-(k:Int).toNat) (n-(k:Int).toNat)=.arr 0 k (n-k) (n-k):=by
 rw[Int.toNat_natCast,if_neg (by omega)];congr 1;omega
def Gy{n q:Nat}:PV.arr 0 (if n=0 then 0 else 0+0*1) ((q:Int).toNat-0) (n-0)=.arr 0 0 q n:=by
 simp
def Av{c:UInt8}{n k q:Nat}(h:q<=k):∀z∈((dq c n k).drop 0).take q,okC z=true:=by
 rw[qy h,wR]
 intro z hz
 rw[List.eq_of_mem_replicate hz];rfl
def E4{c:UInt8}{n k q:Nat}{e:TypeId}(h:q<=k)(h2:k+q<=n):[Ob.cells (dq c n (k+q)) e]=[Ob.cells (cr (dq c n k) k (((dq c n k).drop 0).take (q*1))) e]:=by
 rw[Nat.mul_one,qy h,uB h2]
def Ki{a b:Nat}(h:a+b<=1000000):PV.val (.int .i64 (IntKind.i64.wrap ((a:Int)+(b:Int))))=.val (.int .i64 ((a+b:Nat):Int)) :=
 zI9 (by rw[bB];unfold wrap64;omega)
def L0{c:UInt8}{n k:Nat}(h:n<=k)(h2:k<=n):PV.seq n ((dq c n k).take n) .any=sq ar (List.replicate n c):=by
 have:k=n:=by omega
 subst this
 have:=qy (c:=c) (n:=k) (k:=k) (q:=k) (Nat.le_refl _)
 rw[List.drop_zero]at this
 rw[this]
 unfold sq
 rw[List.length_replicate]
def A3(c:UInt8)(n:Nat)(h:n<=1000000):af prog 369 [sq ar [c],i64 n] (sq ar (List.replicate n c)):=by
 refine zY func369 fun B=>?_
 refine zu1 ?_
 refine Ws<|zu2 ?_
 refine Wi rfl (fun hi1=>?_) (fun hi1=>?_)
 ·have hz:n=0:=by simpa using hi1
  subst hz
  refine zu2 ?_
  refine zR ?_
  rfl
 have hn:n≠0:=by simpa using hi1
 have hcp:=NB hn
 refine Wj<|Ws<|zu2 ?_
 refine Wf rfl (by(simp only[dnL]at *;omega)) ?_
 refine Wj<|zp3 ?_
 refine Wa 21 rfl ((rfl:PV.val (.int .u64 (IntKind.u64.wrap ((1:Nat):Int)))=.val (.int .u64 1))) ?_
 refine zy2 ?_
 refine Wa 23 rfl (XH h) ?_
 refine zc rfl func373 ((Of n h) _) ?_
 refine zs5 ?_
 refine Ws<|zp3 ?_
 refine nB 29 rfl (by rfl) ?_
 refine zs3 ?_
 refine Wf rfl (by(simp only[dnL]at *;omega)) ?_
 refine Wj<|zp2 ?_
 refine Wa 35 rfl (US h) ?_
 refine zs1 ?_
 refine Ws<|zu3 ?_
 refine Wf rfl (by rfl) ?_
 refine Wj<|zu2 ?_
 refine Ws<|zu2 ?_
 refine Wi rfl (fun hi5=>?_) (fun hi5=>?_)
 ·have hq:8192=hZ n:=by unfold hZ;rw[if_pos (by have:=oT hi5;omega)]
  refine zp3 ?_
  refine Wa 45 rfl (zI9 (show IntKind.i64.wrap (Int.tdiv 8192 ((1:Nat):Int))=8192 by decide)) ?_
  refine zy3 ?_
  refine Wa 48 rfl (zI9 (show IntKind.i64.wrap (8192*((1:Nat):Int))=(hZ n:Int) by rw[<-hq];decide)) ?_
  refine zs1 ?_
  refine zu2 ?_
  refine Wf rfl (by(simp;omega)) ?_
  refine Wj<|zp1 ?_
  have hmk:n<=281474976710656:=by omega
  refine Wd (x:=.arw 0 0 n) (H':=[.cells (List.replicate n .any) 5]) rfl rfl (L9 (H:=[]) (m:=n) rfl rfl hmk) ?_
  refine zy2 ?_
  refine Wd rfl rfl (my (lO tG rfl) rfl (lO tG rfl) rfl rfl ⟨_,_,rfl,by omega,by simp⟩ ⟨_,_,rfl,by omega,by simp⟩) ?_
  refine iS (H':=[.cells (dq c n 0) 5]) (by rw[<-vK]) ?_
  refine zs1 ?_
  refine zp2 ?_
  refine Wd rfl rfl (mZ (lO tG rfl) rfl (lO tG rfl) rfl rfl rfl rfl (al _ 1 (fun _=>rfl) _) (bi _ (fun _=>rfl) _) (by rw[hJ (by omega)];(try dsimp only);(try omega))) ?_
  refine Wa 60 rfl (LY hn) ?_
  refine iS (H':=[.cells (dq c n 1) 5]) (CZ hn) ?_
  refine zs1 ?_
  refine Ws<|Wl ?_
  show W _ _ _ _ _ _ _
  refine cQ (fun(k:Nat)=>[(7,i64 n),(8,i64 (hZ n)),(9,.arr 0 0 n n),(10,i64 k)]) (fun(k:Nat)=>[.cells (dq c n k) 5]) (fun(k:Nat)=>[]) (fun(k:Nat)=>1<=k/\k<=n) (fun(k:Nat)=>n-k) (1) (by omega) [] ?_ ?_
  ·exact(cV (sub:=by repeat (first|exact ez|refine dA (by exact cq rfl) ?_)))
  intro k hk
  refine Ws<|zu3 ?_
  refine Wi rfl (fun hi7=>?_) (fun hi7=>?_)
  ·have hlt:k<n:=by have:=oT hi7;omega
   have hm1:min k (hZ n)<=n:=by omega
   refine Wj<|Wl<|zp3 ?_
   refine Wa 66 rfl (Lc) ?_
   refine zs1 ?_
   refine am [0,0,0,0,0,0,0,3,0,0] [0,1,2,3,4,5,6,7,8,9] mG rfl (by kernel_rfl) ?_
   iterate 3 refine z3 ?_
   refine z4 ?_ (q:=(by(simp;omega)))
   refine Xa 70 rfl (HM hlt) ?_
   iterate 2 refine z3 ?_
   refine z4 ?_ (q:=(by(simp;omega)))
   refine Xa 73 rfl (Gy) ?_
   refine kM rfl rfl rfl rfl (ry (lO tG rfl) rfl (lO tG rfl) rfl rfl rfl rfl (Av (by dsimp only;omega)) (by rw[hJ hk.2];dsimp only;omega) (by rw[hJ hk.2];dsimp only;omega)) ?_
   refine L6 (H':=[.cells (dq c n (k+min (min k (hZ n)) (n-k))) 5]) (E4 (by omega) (by omega)) ?_
   refine z3 ?_
   refine Xa 75 rfl (Ki (by omega)) ?_
   refine z3 ?_
   refine ap ?_
   exact⟨k+min (min k (hZ n)) (n-k),[],(by omega),(by omega),cV⟩
  have hge:n<=k:=by have:=oF hi7;omega
  refine aU ?_
  refine zp1 ?_
  refine Wm 76 rfl (oE (Nat.le_refl _)) ?_
  refine m7 76 0 _ n rfl rfl (by rw[hJ hk.2];exact Nat.le_refl _) ?_
  refine Wa 76 rfl (L0 hge hk.2) ?_
  refine zs1 ?_
  refine zR ?_
  rfl
 have hq:hZ n=n:=by unfold hZ;rw[if_neg (by have:=oF hi5;omega)]
 refine Wj<|zp1 ?_
 have hmk:n<=281474976710656:=by omega
 refine Wd (x:=.arw 0 0 n) (H':=[.cells (List.replicate n .any) 5]) rfl rfl (L9 (H:=[]) (m:=n) rfl rfl hmk) ?_
 refine zy2 ?_
 refine Wd rfl rfl (my (lO tG rfl) rfl (lO tG rfl) rfl rfl ⟨_,_,rfl,by omega,by simp⟩ ⟨_,_,rfl,by omega,by simp⟩) ?_
 refine iS (H':=[.cells (dq c n 0) 5]) (by rw[<-vK]) ?_
 refine zs1 ?_
 refine zp2 ?_
 refine Wd rfl rfl (mZ (lO tG rfl) rfl (lO tG rfl) rfl rfl rfl rfl (al _ 1 (fun _=>rfl) _) (bi _ (fun _=>rfl) _) (by rw[hJ (by omega)];(try dsimp only);(try omega))) ?_
 refine Wa 60 rfl (LY hn) ?_
 refine iS (H':=[.cells (dq c n 1) 5]) (CZ hn) ?_
 refine zs1 ?_
 refine Ws<|Wl ?_
 show W _ _ _ _ _ _ _
 refine cQ (fun(k:Nat)=>[(7,i64 n),(8,i64 (hZ n)),(9,.arr 0 0 n n),(10,i64 k)]) (fun(k:Nat)=>[.cells (dq c n k) 5]) (fun(k:Nat)=>[]) (fun(k:Nat)=>1<=k/\k<=n) (fun(k:Nat)=>n-k) (1) (by omega) [] ?_ ?_
 ·exact(cV (sub:=by repeat (first|exact ez|refine dA (by first|exact cq rfl|exact cq (congrArg i64 (by rw[hq]))) ?_)))
 intro k hk
 refine Ws<|zu3 ?_
 refine Wi rfl (fun hi7=>?_) (fun hi7=>?_)
 ·have hlt:k<n:=by have:=oT hi7;omega
  have hm1:min k (hZ n)<=n:=by omega
  refine Wj<|Wl<|zp3 ?_
  refine Wa 66 rfl (Lc) ?_
  refine zs1 ?_
  refine am [0,0,0,0,0,0,0,3,0,0] [0,1,2,3,4,5,6,7,8,9] mG rfl (by kernel_rfl) ?_
  iterate 3 refine z3 ?_
  refine z4 ?_ (q:=(by(simp;omega)))
  refine Xa 70 rfl (HM hlt) ?_
  iterate 2 refine z3 ?_
  refine z4 ?_ (q:=(by(simp;omega)))
  refine Xa 73 rfl (Gy) ?_
  refine kM rfl rfl rfl rfl (ry (lO tG rfl) rfl (lO tG rfl) rfl rfl rfl rfl (Av (by dsimp only;omega)) (by rw[hJ hk.2];dsimp only;omega) (by rw[hJ hk.2];dsimp only;omega)) ?_
  refine L6 (H':=[.cells (dq c n (k+min (min k (hZ n)) (n-k))) 5]) (E4 (by omega) (by omega)) ?_
  refine z3 ?_
  refine Xa 75 rfl (Ki (by omega)) ?_
  refine z3 ?_
  refine ap ?_
  exact⟨k+min (min k (hZ n)) (n-k),[],(by omega),(by omega),cV⟩
 have hge:n<=k:=by have:=oF hi7;omega
 refine aU ?_
 refine zp1 ?_
 refine Wm 76 rfl (oE (Nat.le_refl _)) ?_
 refine m7 76 0 _ n rfl rfl (by rw[hJ hk.2];exact Nat.le_refl _) ?_
 refine Wa 76 rfl (L0 hge hk.2) ?_
 refine zs1 ?_
 refine zR ?_
 rfl
def RK(m:bf)(at_ n c:Int)(hm:cy m)(ha:ab at_)(hn:ab n):af prog 305 [gH m,i64 at_,i64 n,i64 c] (tQ (mM m at_ n c)):=by
 have hm1:=hm.b
 have hm2:=hm.old
 refine zY func305 fun B=>?_
 refine zu3 ?_
 refine Ws<|zp3 ?_
 refine zc rfl func102 ((o6 m at_ n (by omega) ha hn) _) ?_
 refine zs1 ?_
 refine Wi rfl (fun hi1=>?_) (fun hi1=>?_)
 ·have ht:¬aV m at_ n=true:=by simpa using hi1
  refine zu3 ?_
  refine zR ?_
  rw[mM,if_neg ht];rfl
 have ht:aV m at_ n=true:=by simpa using hi1
 have hN:0<=n/\n<=1000000:=by unfold aV at ht;simp only[decide_eq_true_eq]at ht;omega
 refine Wj<|Ws<|am [1,0,0,0,0,0,0,0,0,0,3,0] [0,1,2,3,4,5,6,7,8,9,10,11] mG rfl (by kernel_rfl) ?_
 refine z5 ?_
 iterate 3 refine z3 ?_
 refine Xa 19 rfl (zf c) ?_
 refine z3 ?_
 refine Xa 20 rfl (bsL ar [_] rfl rfl) ?_
 refine z3 ?_
 refine Xa 21 rfl ((show PV.val (.int .i64 n)=i64 ((n.toNat:Nat):Int) by rw[Int.toNat_of_nonneg hN.1];rfl)) ?_
 refine Xc rfl rfl rfl rfl (fun _=>dC rfl func369 rfl rfl ((A3 (loB c) n.toNat (by omega)) _)) ?_
 refine Xc rfl rfl rfl rfl (fun _=>dC rfl func123 rfl rfl ((nc m at_ _ hm ha (by simp;omega)) _)) ?_
 iterate 2 refine z3 ?_
 refine ct tG rfl rfl rfl rfl rfl trivial ?_
 refine z3 ?_
 refine ap ?_
 refine zR ?_
 rw[mM,if_pos ht];rfl
def lR(m:bf)(low here n:Int):Int×Int:=if n>m.b.length-here\/n<low-here then(here,-8)else(here+n,0)
def cJ(m:bf)(here:Int)(b:List UInt8):bf×Int×Int:=if (b.length:Int)>m.b.length-here then(m,here,-8)else((bV m here b).1,here+b.length,0)
def bW(m:bf)(here n:Int):bf×Int×Int:=if here.tmod 8=0 then cJ m here (rk n)else(m,here,-23)
def aM(m:bf)(here:Int):bf×Int×Int:=cJ m here (List.replicate ((8-here.tmod 8).tmod 8).toNat 0)
def wL(r:bf×Int×Int):PV:=jC (gH r.1) (i64 r.2.1) (i64 r.2.2)
@[simp] theorem aj3 (r : bf × Int × Int) : aQ (wL r) := by simp [wL]
structure fG (m:bf) (here:Int):Prop where
 h0:0<=here
 h1:here<=m.b.length
def fG.fit{m:bf}{here:Int}(h:fG m here)(hm:cy m):ab here:=by have:=h.h0;have:=h.h1;have:=hm.b;unfold ab;omega
def BK(m:bf)(here:Int)(hm:cy m)(hh:fG m here):af prog 209 [.agg [sq ar m.b,sq jX m.old,i64 here]] (i64 (m.b.length-here)):=by
 have h0:=hh.h0
 have h1:=hh.h1
 have h2:=hm.b
 refine zY func209 fun B=>?_
 refine zu2 ?_
 refine zp5 ?_
 refine zs3 ?_
 refine zR ?_
 exact congrArg i64 (by((rw[bB];unfold wrap64;(try simp only[dnL]at *);omega)))
def Ny(m:bf)(low here n:Int)(hm:cy m)(hh:fG m here)(hl:ab low/\0<=low)(hn:ab n):af prog 318 [gH m,i64 low,i64 here,i64 n] (qq (lR m low here n)):=by
 have h0:=hh.h0
 have h1:=hh.h1
 have h2:=hm.b
 unfold ab at hl hn
 have w1:IntKind.i64.wrap (low-here)=low-here:=by((rw[bB];unfold wrap64;(try simp only[dnL]at *);omega))
 refine zY func318 fun B=>?_
 refine zu3 ?_
 refine zu5 ?_
 refine Ws<|zp2 ?_
 refine Wc rfl rfl (dQ rfl rfl func209 rfl rfl (BK m here hm hh _)) ?_
 refine zy2 ?_
 refine Wb 19 rfl (fun hg1=>?_) (fun hg1=>?_)
 ·refine z6 ?_
  iterate 4 refine z6 ?_
  refine zs1 ?_
  refine Wt rfl rfl ?_
  refine zu3 ?_
  refine zR ?_
  (rw[lR,if_pos (by(try simp only[dnL]at *);omega)];rfl)
 refine zy5 ?_
 refine zs1 ?_
 refine Wi rfl (fun hi1=>?_) (fun hi1=>?_)
 ·refine zu3 ?_
  refine zR ?_
  (rw[lR,if_pos (by(try simp only[dnL]at *);omega)];rfl)
 refine Wj<|zu5 ?_
 refine zR ?_
 (rw[lR,if_neg (by(try simp only[dnL]at *);omega)];exact congrArg (fun z=>gY (i64 z) (i64 0)) (by((rw[bB];unfold wrap64;(try simp only[dnL]at *);omega))))
def xQ(m:bf)(here:Int)(b:List UInt8)(hm:cy m)(hh:fG m here)(hb:b.length<=1000000):af prog 174 [gH m,i64 here,sq ar b] (wL (cJ m here b)):=by
 have h0:=hh.h0
 have h1:=hh.h1
 have h2:=hm.b
 refine zY func174 fun B=>?_
 refine zu4 ?_
 refine zu5 ?_
 refine Ws<|zp3 ?_
 refine Wc rfl rfl (dQ rfl rfl func209 rfl rfl (BK m here hm hh _)) ?_
 refine zs1 ?_
 refine Wi rfl (fun hi1=>?_) (fun hi1=>?_)
 ·refine zu5 ?_
  refine zR ?_
  rw[cJ,if_pos (by(try simp only[dnL]at *);omega)];rfl
 refine Wj<|zp3 ?_
 refine zc rfl func123 ((nc m here b hm (hh.fit hm) hb) _) ?_
 refine zs4 ?_
 refine zp5 ?_
 refine zs3 ?_
 refine zR ?_
 rw[cJ,if_neg (by(try simp only[dnL]at *);omega)];exact congrArg (fun z=>jC (gH (bV m here b).1) (i64 z) (i64 0)) (by((rw[bB];unfold wrap64;(try simp only[dnL]at *);omega)))
def KJ(m:bf)(here:Int)(b:List UInt8)(hm:cy m)(hh:fG m here)(hb:b.length<=1000000):af prog 120 [gH m,i64 here,sq ar b] (wL (cJ m here b)):=by
 have h0:=hh.h0
 have h1:=hh.h1
 have h2:=hm.b
 have w2:IntKind.i64.wrap (m.b.length-here)=m.b.length-here:=by((rw[bB];unfold wrap64;(try simp only[dnL]at *);omega))
 refine zY func120 fun B=>?_
 refine zu4 ?_
 refine Ws<|zp5 ?_
 refine zs3 ?_
 refine Wi rfl (fun hi1=>?_) (fun hi1=>?_)
 ·refine zu5 ?_
  refine zR ?_
  rw[cJ,if_pos (by(try simp only[dnL]at *);omega)];rfl
 refine Wj<|zp3 ?_
 refine zc rfl func31 ((Od m here b hm (hh.fit hm) hb) _) ?_
 refine zy5 ?_
 refine zs1 ?_
 refine zp5 ?_
 refine zs3 ?_
 refine zR ?_
 rw[cJ,if_neg (by(try simp only[dnL]at *);omega)];exact congrArg (fun z=>jC (gH (bV m here b).1) (i64 z) (i64 0)) (by((rw[bB];unfold wrap64;(try simp only[dnL]at *);omega)))
def B2(m:bf)(here n:Int)(hm:cy m)(hh:fG m here):af prog 127 [gH m,i64 here,i64 n] (wL (bW m here n)):=by
 have h0:=hh.h0
 have h1:=hh.h1
 have h2:=hm.b
 refine zY func127 fun B=>?_
 refine zu4 ?_
 refine Ws<|zu3 ?_
 refine Wi rfl (fun hi1=>?_) (fun hi1=>?_)
 ·refine zu5 ?_
  refine zR ?_
  rw[bW,if_neg (by(try simp only[dnL]at *);omega)];rfl
 refine Wj<|Ws<|am [1,0,0,0,0,0,0,0,3,0,0] [0,1,2,3,4,5,6,7,8,9,10] mG rfl (by kernel_rfl) ?_
 refine z5 ?_
 iterate 2 refine z3 ?_
 refine Xc rfl rfl rfl rfl (fun _=>dC rfl func124 rfl rfl ((CR n) _)) ?_
 refine Xc rfl rfl rfl rfl (fun _=>dC rfl func174 rfl rfl ((xQ m here (rk n) hm hh (by rw[jD];omega)) _)) ?_
 iterate 3 refine z3 ?_
 refine ct tG rfl rfl rfl rfl rfl trivial ?_
 iterate 2 refine z3 ?_
 refine ap ?_
 refine zR ?_
 rw[bW,if_pos (by(try simp only[dnL]at *);omega)];rfl
def Nf(m:bf)(here n:Int)(hm:cy m)(hh:fG m here):af prog 170 [gH m,i64 here,i64 n] (wL (bW m here n)):=by
 have h0:=hh.h0
 have h1:=hh.h1
 have h2:=hm.b
 refine zY func170 fun B=>?_
 refine zu4 ?_
 refine Ws<|zu3 ?_
 refine Wi rfl (fun hi1=>?_) (fun hi1=>?_)
 ·refine zu5 ?_
  refine zR ?_
  rw[bW,if_neg (by(try simp only[dnL]at *);omega)];rfl
 refine Wj<|Ws<|am [1,0,0,0,0,0,0,0,3,0,0] [0,1,2,3,4,5,6,7,8,9,10] mG rfl (by kernel_rfl) ?_
 refine z5 ?_
 iterate 2 refine z3 ?_
 refine Xc rfl rfl rfl rfl (fun _=>dC rfl func32 rfl rfl ((PC n) _)) ?_
 refine Xc rfl rfl rfl rfl (fun _=>dC rfl func120 rfl rfl ((KJ m here (rk n) hm hh (by rw[jD];omega)) _)) ?_
 iterate 3 refine z3 ?_
 refine ct tG rfl rfl rfl rfl rfl trivial ?_
 iterate 2 refine z3 ?_
 refine ap ?_
 refine zR ?_
 rw[bW,if_pos (by(try simp only[dnL]at *);omega)];rfl
def Ym{x:Int}(h:0<=x):0<=(8-x.tmod 8).tmod 8/\(8-x.tmod 8).tmod 8<8:=by
 rw[Int.tmod_eq_emod_of_nonneg h,Int.tmod_eq_emod_of_nonneg (by omega)];omega
def OS{c:UInt8}{n:Nat}{d:TD}(hz:d.zero=ar 0):fg n d=(List.replicate n (0:UInt8)).flatMap ar:=by
 unfold fg;rw[hz,List.flatMap_replicate]
def Fb(m:bf)(here:Int)(hm:cy m)(hh:fG m here):af prog 89 [gH m,i64 here] (wL (aM m here)):=by
 have h0:=hh.h0
 have h1:=hh.h1
 have h2:=hm.b
 obtain⟨u0,u1⟩:=Ym h0
 have hK:∃q:Nat,(q:Int)=(8-here.tmod 8).tmod 8/\q<8:=⟨((8-here.tmod 8).tmod 8).toNat,by omega,by omega⟩
 obtain⟨q,hq,hq8⟩:=hK
 have hend:∀k:Nat,k<=q->(k=q↔(here+k).tmod 8=0):=by
  intro k hk
  rw[Int.tmod_eq_emod_of_nonneg h0,Int.tmod_eq_emod_of_nonneg (by omega)]at hq
  rw[Int.tmod_eq_emod_of_nonneg (by omega)]
  omega
 have hwr:∀k:Nat,k<=q->IntKind.i64.wrap (here+(k:Int))=here+k:=fun k hk=>by((rw[bB];unfold wrap64;(try simp only[dnL]at *);omega))
 refine zY func89 fun B=>?_
 refine zu4 ?_
 refine zp1 ?_
 refine wo 7 0 1 rfl rfl ?_
 refine Wn<|Ws<|Wl ?_
 show W _ _ _ _ _ _ _
 refine cQ (fun(k:Nat)=>[(1,i64 here),(2,.ptr 0 0),(4,.ptr 1 0),(7,.seq (List.replicate k (0:UInt8)).length ((List.replicate k (0:UInt8)).flatMap ar) (.own 3 1))]) (fun(k:Nat)=>[.cells (yC m) 28,.cells [.seq 0 [] .clip,.seq 0 [] .clip] 28,.dead]) (fun(k:Nat)=>[.free ((List.replicate k (0:UInt8)).length*1)]) (fun(k:Nat)=>k<=q) (fun(k:Nat)=>q-k) (0) (by omega) [2] ?_ ?_
 ·exact cV
 intro k hk
 refine Ws<|zp5 ?_
 refine zs1 ?_
 refine Wi rfl (fun hi1=>?_) (fun hi1=>?_)
 ·have hne:k≠q:=by have h9:=hend k hk;simp only[List.length_replicate,hwr k hk]at hi1;(try simp only[dnL]at *);omega
  refine Wj<|Wl<|aa rfl ?_
  refine zy2 ?_
  refine Wa 15 rfl ((show PV.seq 1 _ .clip=.seq (List.length [(0:UInt8)]) (List.flatMap ar [(0:UInt8)]) .clip from rfl)) ?_
  refine Wd rfl rfl (cH (lO tG rfl) rfl (lO tG rfl) (lO tG rfl) rfl rfl rfl rfl (by simp) (by exact⟨_,rfl⟩) (by exact⟨rfl,rfl,al _ 1 (fun _=>rfl) _,bi _ (fun _=>rfl) _⟩) (by((simp_all;omega))) (by((simp_all;omega)))) ?_
  refine Wa 16 rfl (bT ar) ?_
  refine z1 ?_
  skip
  refine Wn ?_
  exact⟨k+1,[4],(by omega),(by omega),(cV (sub:=by repeat (first|exact ez|refine dA (by first|exact cq rfl|exact cq (by rw[List.replicate_succ'];rfl)) ?_)))⟩
 have hkq:k=q:=by have h9:=hend k hk;simp only[List.length_replicate,hwr k hk]at hi1;(try simp only[dnL]at *);omega
 refine aU ?_
 refine zp3 ?_
 refine zc rfl func120 ((KJ m here (List.replicate k 0) hm hh (by simp;omega)) _) ?_
 refine zy5 ?_
 refine zs1 ?_
 refine zR ?_
 rw[aM,<-hq,<-hkq];rfl
def OM{n:Int}{d:TD}(hz:d.zero=ar 0):PV.seq n.toNat (fg n.toNat d) .clip=sqc ar (List.replicate n.toNat (0:UInt8)):=by
 rw[OS (c:=0) hz];unfold sqc;rw[List.length_replicate]
def rH(m:bf)(here:Int)(hm:cy m)(hh:fG m here):af prog 220 [gH m,i64 here] (wL (aM m here)):=by
 have h0:=hh.h0
 have h1:=hh.h1
 have h2:=hm.b
 obtain⟨u0,u1⟩:=Ym h0
 have w1:IntKind.i64.wrap (8-here.tmod 8)=8-here.tmod 8:=by
  rw[bB];unfold wrap64;rw[Int.tmod_eq_emod_of_nonneg h0];omega
 refine zY func220 fun B=>?_
 refine zu4 ?_
 refine Ws<|am [1,0,0,0,0,0,0,0,0,0,0,3,0,0] [0,1,2,3,4,5,6,7,8,9,10,11,12,13] mG rfl (by kernel_rfl) ?_
 refine z5 ?_
 iterate 5 refine z3 ?_
 refine Xa 12 rfl ((show PV.val (.int .i64 _)=.val (.int .i64 ((8-here.tmod 8).tmod 8)) by rw[w1])) ?_
 refine fN rfl rfl rfl rfl (fun _=>DN (lO tG rfl) rfl (lO tG rfl) rfl rfl rfl u0 (by dsimp only;omega) (by omega)) ?_
 refine Xa 13 rfl (OM rfl) ?_
 refine Xc rfl rfl rfl rfl (fun _=>dC rfl func174 rfl rfl ((xQ m here (List.replicate ((8-here.tmod 8).tmod 8).toNat 0) hm hh (by simp;omega)) _)) ?_
 iterate 3 refine z3 ?_
 refine ct tG rfl rfl rfl rfl rfl trivial ?_
 iterate 2 refine z3 ?_
 refine ap ?_
 refine zR ?_
 rfl
def lD(s:List Int)(takes:Nat)(leaves:List Int)(limit:Int):List Int×Bool×Int :=
 if ((s.length-takes+leaves.length:Nat):Int)>limit then(s,true,-3)else(s.take (s.length-takes)++leaves,true,0)
def A6(r:List Int×Bool×Int):PV:=jC (sq au r.1) (boo r.2.1) (i64 r.2.2)
@[simp] theorem al6 (r : List Int × Bool × Int) : aQ (A6 r) := by simp [A6]
def pr(s:List Int)(takes:Nat)(leaves:List Int)(limit:Int)(hs:s.length<=100000)(ht:takes<=s.length)(hl:leaves.length<=100000)(hm : -9223372036854775808<=limit/\limit<=9223372036854775807):
  af prog 237 [sq au s,i64 takes,sq au leaves,i64 limit] (A6 (lD s takes leaves limit)):=by
 have w1:IntKind.i64.wrap ((s.length:Int)-(takes:Int))=((s.length-takes:Nat):Int):=by((rw[bB];unfold wrap64;(try simp only[dnL]at *);omega))
 have w2:IntKind.i64.wrap (((s.take (s.length-takes)).length:Int)+(leaves.length:Int))=((s.length-takes+leaves.length:Nat):Int):=by
  rw[List.length_take,Nat.min_eq_left (by omega)];((rw[bB];unfold wrap64;(try simp only[dnL]at *);omega))
 refine zY func237 fun B=>?_
 refine zu3 ?_
 refine zp5 ?_
 refine Wa 16 rfl (zI9 w1) ?_
 refine z2 ?_ (q:=(by(simp_all;done)))
 refine Wa 17 rfl (cF au 1 (fun _=>rfl) (by omega)) ?_
 refine Wa 17 rfl ((show _=sq au (s.take (s.length-takes)) by rw[Int.toNat_natCast,List.drop_zero];rfl)) ?_
 refine zs1 ?_
 refine Ws<|zp5 ?_
 refine Wa 22 rfl (zI9 w2) ?_
 refine zs2 ?_
 refine Wi rfl (fun hi1=>?_) (fun hi1=>?_)
 ·refine zu4 ?_
  refine zR ?_
  rw[lD,if_pos (by(try simp only[dnL]at *);omega)];rfl
 refine Wj<|zp3 ?_
 refine Wa 28 rfl (bsL Br [_,_] rfl rfl) ?_
 refine zc rfl func202 ((La _ _ (by simp;omega) (by omega)) _) ?_
 refine zs3 ?_
 refine zR ?_
 rw[lD,if_neg (by(try simp only[dnL]at *);omega)];rfl
def bk(s:List Int):Int×List Int×Int:=if s.length=0 then(0,s,-4)else(s.getD (s.length-1) 0,s.take (s.length-1),0)
def ad4(r:Int×List Int×Int):PV:=jC (i64 r.1) (sq au r.2.1) (i64 r.2.2)
@[simp] theorem ak9 (r : Int × List Int × Int) : aQ (ad4 r) := by simp [ad4]
def Da(s:List Int)(hs:s.length<=100000):af prog 259 [sq au s] (ad4 (bk s)):=by
 refine zY func259 fun B=>?_
 refine zu3 ?_
 refine Ws<|zu3 ?_
 refine Wi rfl (fun hi1=>?_) (fun hi1=>?_)
 ·have h0:s.length=0:=by(try simp only[dnL]at *);omega
  refine zu4 ?_
  refine zR ?_
  rw[bk,if_pos h0];rfl
 have h0:s.length≠0:=by(try simp only[dnL]at *);omega
 have w1:IntKind.i64.wrap ((s.length:Int)-1)=((s.length-1:Nat):Int):=by((rw[bB];unfold wrap64;(try simp only[dnL]at *);omega))
 refine Wj<|Ws<|am [0,0,0,0,0,1,0,0,0,0,0,0,0,0] [0,1,2,3,4,5,6,7,8,9,10,11,12,13] mG rfl (by kernel_rfl) ?_
 iterate 4 refine z3 ?_
 refine Xa 12 rfl (zI9 w1) ?_
 refine Xi tG rfl rfl rfl rfl (fun _=>rfl) (by omega) (iN au 1 (fun _=>rfl) 0 (by omega)) ?_
 refine z5 ?_
 iterate 4 refine z3 ?_
 refine Xa 18 rfl (zI9 w1) ?_
 refine z4 ?_ (q:=(by(simp_all;done)))
 refine Xa 19 rfl (cF au 1 (fun _=>rfl) (by omega)) ?_
 refine Xa 19 rfl ((show _=sq au (s.take (s.length-1)) by rw[Int.toNat_natCast,List.drop_zero];rfl)) ?_
 iterate 3 refine z3 ?_
 refine ap ?_
 refine zR ?_
 rw[bk,if_neg h0];rfl
abbrev W64(n:Int):Int:=IntKind.i64.wrap n
def xat(x:List Int)(i:Nat):Int:=x.getD i 0
def bz(x:List Int):List Int×Int:=([(mP (xat x 0) (xat x 1)).2.1,(mP (xat x 0) (xat x 1)).1],(mP (xat x 0) (xat x 1)).2.2)
def yu(x:List Int):Int×Int×Int:=jt (wB (xat x 0) (xat x 1)).1 (wB (xat x 0) (xat x 1)).2 (xat x 2)
def bc(x:List Int):List Int×Int:=([(yu x).2.1,(yu x).1],(yu x).2.2)
def cZ(x:List Int):List Int×Int:=([(yu x).1],(yu x).2.2)
def pUM(x:List Int):List Int×Int:=([(r2 (xat x 0) (xat x 1)).1,(r2 (xat x 0) (xat x 1)).2],0)
def pM(x:List Int):List Int×Int:=([(wB (xat x 0) (xat x 1)).1,(wB (xat x 0) (xat x 1)).2],0)
def cX(x:List Int):List Int×Int:=([(il (xat x 0) (xat x 1) (xat x 2)).2.1,(il (xat x 0) (xat x 1) (xat x 2)).1],(il (xat x 0) (xat x 1) (xat x 2)).2.2)
def da(x:List Int):List Int×Int:=([(kY (xat x 0) (xat x 1) (xat x 2)).2.1,(kY (xat x 0) (xat x 1) (xat x 2)).1],(kY (xat x 0) (xat x 1) (xat x 2)).2.2)
def cY(x:List Int):List Int×Int:=([(jt (xat x 0) (xat x 1) (xat x 2)).2.1,(jt (xat x 0) (xat x 1) (xat x 2)).1],(jt (xat x 0) (xat x 1) (xat x 2)).2.2)
def pSD(x:List Int):List Int×Int:=([xat x 0,eV (decide (xat x 0<0))],0)
def bx(x:List Int):List Int×Int:=([eV (decide (U (wrap64 (xat x 0-xat x 1))<U (wrap64 (xat x 2-xat x 1))))],0)
def qs(name:Str)(x:List Int):Option (List Int×Int) :=
 if name=[47,77,79,68]then some (bz x)else
 if name=[42,47]then some (cZ x)else
 if name=[42,47,77,79,68]then some (bc x)else
 if name=[85,77,42]then some (pUM x)else
 if name=[77,42]then some (pM x)else
 if name=[85,77,47,77,79,68]then some (cX x)else
 if name=[83,77,47,82,69,77]then some (da x)else
 if name=[70,77,47,77,79,68]then some (cY x)else
 if name=[83,62,68]then some (pSD x)else
 if name=[87,73,84,72,73,78]then some (bx x)else
 if name=[84,82,85,69]then some ([-1],0)else
 if name=[66,65,83,69]then some ([0],0)else
 if name=[70,65,76,83,69]then some ([0],0)else
 if name=[83,84,65,84,69]then some ([8],0)else
 if name=[66,76]then some ([32],0)else none
def r6(v:VVm)(m:bf):VVm:={v with mem:=m}
def b8(v:VVm)(x:List Int):VVm×List Int×Int:=(v,[(an v.mem (xat x 0)).1],(an v.mem (xat x 0)).2)
def bC(v:VVm)(x:List Int):VVm×List Int×Int:=(v,[(dN v.mem (xat x 0)).1],(dN v.mem (xat x 0)).2)
def di(v:VVm)(r:bf×Int):VVm×List Int×Int:=(r6 v r.1,[],r.2)
def ro(v:VVm)(x:List Int):bf×Int:=if (an v.mem (xat x 1)).2=0 then aH v.mem (xat x 1) (W64 ((an v.mem (xat x 1)).1+xat x 0))else(v.mem,(an v.mem (xat x 1)).2)
def kK(v:VVm)(x:List Int):VVm×List Int×Int :=
 if (an v.mem (xat x 0)).2=0 then(v,[(an v.mem (W64 (xat x 0+8))).1,(an v.mem (xat x 0)).1],(an v.mem (W64 (xat x 0+8))).2)else(v,[],(an v.mem (xat x 0)).2)
def oe(v:VVm)(x:List Int):bf×Int:=if (aH v.mem (xat x 2) (xat x 1)).2=0 then aH (aH v.mem (xat x 2) (xat x 1)).1 (W64 (xat x 2+8)) (xat x 0)else aH v.mem (xat x 2) (xat x 1)
def b7(v:VVm)(x:List Int):VVm×List Int×Int:=(v,[W64 (xat x 0+1),(dN v.mem (xat x 0)).1],(dN v.mem (xat x 0)).2)
def jW(v:VVm)(s b:Int):Int:=if (an v.mem (W64 (b+8))).2=0 then(if s<0\/(an v.mem (W64 (b+8))).1<=s then -24 else 0)else(an v.mem (W64 (b+8))).2
def gB(v:VVm)(x:List Int):VVm×List Int×Int:=if jW v (xat x 0) (xat x 1)=0 then di v (aH v.mem (xat x 1) (xat x 0))else(v,[],jW v (xat x 0) (xat x 1))
def iY(v:VVm)(x:List Int):VVm×List Int×Int:=if jW v (xat x 1) (xat x 2)=0 then di v (aH v.mem (W64 (W64 (xat x 2+16)+W64 (8*xat x 1))) (xat x 0))else(v,[],jW v (xat x 1) (xat x 2))
def pY(v:VVm)(name:Str)(x:List Int):Option (VVm×List Int×Int) :=
 if name=[64]\/name=[71,69,84,45,83,84,65,84,69]then some (b8 v x)else
 if name=[67,64]then some (bC v x)else
 if name=[33]then some (di v (aH v.mem (xat x 1) (xat x 0)))else
 if name=[67,33]then some (di v (mN v.mem (xat x 1) (xat x 0)))else
 if name=[43,33]then some (di v (ro v x))else
 if name=[50,64]then some (kK v x)else
 if name=[50,33]then some (di v (oe v x))else
 if name=[70,73,76,76]then some (di v (mM v.mem (xat x 0) (xat x 1) (xat x 2)))else
 if name=[77,79,86,69]then some (di v (mL v.mem (xat x 0) (xat x 1) (xat x 2)))else
 if name=[67,79,85,78,84]then some (b7 v x)else
 if name=[68,69,67,73,77,65,76]then some (di v (aH v.mem 0 10))else
 if name=[72,69,88]then some (di v (aH v.mem 0 16))else
 if name=[83,69,84,45,83,84,65,84,69]then some (gB v x)else
 if name=[65,84,45,83,84,65,84,69]then some (iY v x)else none
def ei(v:VVm)(r:bf×Int×Int):VVm×List Int×Int:=({v with mem:=r.1,here:=r.2.1},[],r.2.2)
def tH(v:VVm)(x:List Int):bf×Int×Int:=(v.mem,(lR v.mem 1368 v.here (xat x 0)).1,(lR v.mem 1368 v.here (xat x 0)).2)
def t6(v:VVm)(name:Str)(x:List Int):Option (VVm×List Int×Int) :=
 if name=[65,76,76,79,84]then some (ei v (tH v x))else
 if name=[44]then some (ei v (bW v.mem v.here (xat x 0)))else
 if name=[67,44]then some (ei v (cJ v.mem v.here [loB (xat x 0)]))else
 if name=[65,76,73,71,78]then some (ei v (aM v.mem v.here))else none
def j5(v:VVm):Int:=(an v.mem 0).1
def vc(v:VVm)(x:List Int):Str:=List.replicate (min (max (xat x 0) 0) (v.conf.out+1)).toNat 32
def rh(r:Str×Int):Str×Int:=(r.1++[32],r.2)
def Fl(v:VVm)(name:Str)(x:List Int):Option (Str×Int) :=
 if name=[69,77,73,84]then some ([loB (xat x 0)],0)else
 if name=[67,82]then some ([10],0)else
 if name=[83,80,65,67,69]then some ([32],0)else
 if name=[83,80,65,67,69,83]then some (vc v x,0)else
 if name=[84,89,80,69]then some (cv v.mem (xat x 0) (xat x 1))else
 if name=[46]then some (rh (iV (xat x 0) (j5 v)))else
 if name=[85,46]then some (rh (gy (xat x 0) (j5 v)))else none
def dm(v:VVm)(r:Str×Int):VVm×List Int×Int:=if r.2=0 then((iJ v r.1).1,[],(iJ v r.1).2)else(v,[],r.2)
def tp(v:VVm)(p:dL):VVm:={v with pic:=p}
def qK:Nat->dL->Int->Int->Int->dL×Int
 | 0,q,lo,hi,base=>(q,(aN q lo hi base).2.2.2)
 | n+1,q,lo,hi,base=>if (aN q lo hi base).2.2.2≠0 then(q,(aN q lo hi base).2.2.2)else if (aN q lo hi base).2.1=0/\(aN q lo hi base).2.2.1=0 then((aN q lo hi base).1,0)else qK n (aN q lo hi base).1 (aN q lo hi base).2.1 (aN q lo hi base).2.2.1 base
def qW(q:dL)(lo hi base:Int):dL×Int:=qK (131-q.b.length) q lo hi base
def OC(p:dL)(r:dL×Int):dL×Int:=if r.2=0 then(r.1,0)else(p,r.2)
def tO(p:dL)(lo hi base:Int):dL×Int:=OC p (qW p lo hi base)
def fR(v:VVm)(x:List Int):VVm×List Int×Int:=(tp v (aN v.pic (xat x 0) (xat x 1) (j5 v)).1,[(aN v.pic (xat x 0) (xat x 1) (j5 v)).2.1,(aN v.pic (xat x 0) (xat x 1) (j5 v)).2.2.1],(aN v.pic (xat x 0) (xat x 1) (j5 v)).2.2.2)
def fF(v:VVm)(x:List Int):VVm×List Int×Int:=(tp v (tO v.pic (xat x 0) (xat x 1) (j5 v)).1,[0,0],(tO v.pic (xat x 0) (xat x 1) (j5 v)).2)
def fy(v:VVm)(r:dL×Int):VVm×List Int×Int:=(tp v r.1,[],r.2)
def wV(v:VVm):VVm×List Int×Int :=
 if (lg v.pic).2=0 then(tp (r6 v (bV v.mem (W64 (v.conf.mem-136)) (lg v.pic).1).1) ⟨[],false⟩,[W64 (v.conf.mem-136),((lg v.pic).1.length:Int)],(bV v.mem (W64 (v.conf.mem-136)) (lg v.pic).1).2)else(v,[],(lg v.pic).2)
def zX(v:VVm)(name:Str)(x:List Int):Option (VVm×List Int×Int) :=
 if name=[60,35]then some (tp v ⟨[],true⟩,[],0)else
 if name=[35]then some (fR v x)else
 if name=[35,83]then some (fF v x)else
 if name=[72,79,76,68]then some (fy v (gm v.pic (xat x 0)))else
 if name=[83,73,71,78]then some (fy v (ow v.pic (xat x 0)))else
 if name=[35,62]then some (wV v)else none
def BD(v:VVm)(q:u4):VVm:={v with req:=v.req++[q]}
def iW(v:VVm)(x:List Int):Prop:=xat x 1<0\/(v.hand.length:Int)<=xat x 1\/xat x 2<0\/3<xat x 2
instance (v:VVm) (x:List Int):Decidable (iW v x):=by unfold iW;infer_instance
def jo(v:VVm)(x:List Int):VVm×List Int×Int:=if 16<=(v.req.length:Int)then(v,[],-257)else(BD v ⟨4,0,0,0,0,xat x 0⟩,[],0)
def jJ(v:VVm)(x:List Int):VVm×List Int×Int:=if iW v x then(v,[],-259)else if 16<=(v.req.length:Int)then(v,[],-257)else(BD v ⟨1,xat x 0,xat x 1,xat x 2,0,0⟩,[],0)
def dk(kind:Int)(v:VVm)(x:List Int):VVm×List Int×Int :=
 if iW v x then(v,[],-259)else if xat x 3<1\/4294967295<xat x 3 then(v,[],-24)else if 16<=(v.req.length:Int)then(v,[],-257)else if v.free=0\/v.next=4611686018427387904 then(v,[],-258)else
  ({BD v ⟨kind,xat x 0,xat x 1,xat x 2,xat x 3,v.next⟩with free:=W64 (v.free-1),next:=W64 (v.next+1)},[v.next],0)
def zP(v:VVm)(name:Str)(x:List Int):Option (VVm×List Int×Int) :=
 if name=[80,79,83,84]then some (jJ v x)else
 if name=[67,65,78,67,69,76]then some (jo v x)else
 if name=[65,70,84,69,82]then some (dk 2 v x)else
 if name=[69,86,69,82,89]then some (dk 3 v x)else none
def va(v:VVm)(x:List Int):VVm×List Int×Int:=if (az v (xat x 0)).2=0/\((az v (xat x 0)).1<257\/260<(az v (xat x 0)).1)then(v,[],-31)else(v,[W64 (xat x 0+16)],(az v (xat x 0)).2)
def GE(v:VVm)(name:Str)(x:List Int):VVm×List Int×Int :=
 if name=[72,69,82,69]then(v,[v.here],0)else
 if name=[65,82,71]then(v,[v.arg],0)else
 if name=[83,69,76,70]then(v,[v.self],0)else
 if name=[78,79,87]then(v,[v.now],0)else
 if name=[62,66,79,68,89]then va v x else(v,[],-1)
def bM(v:VVm)(n:Int)(name:Str)(x:List Int):VVm×List Int×Int :=
 if n<=58 then(v,[(lJ name (xat x 0) (xat x 1)).1],(lJ name (xat x 0) (xat x 1)).2.2)else
 if n<=72 then(v,[(vr name (xat x 0)).1],0)else
 match qs name x with
 | some r=>(v,r.1,r.2)
 | none=>match pY v name x with
  | some r=>r
  | none=>match t6 v name x with
   | some r=>r
   | none=>match Fl v name x with
    | some r=>dm v r
    | none=>match zX v name x with
     | some r=>r
     | none=>match zP v name x with
      | some r=>r
      | none=>GE v name x
def bj(n:Int)(name:Str):Nat :=
 if n<=58 then 2 else if n<=72 then 1 else
 if name=[65,70,84,69,82]\/name=[69,86,69,82,89]then 4 else
 if name=[42,47]\/name=[42,47,77,79,68]\/name=[85,77,47,77,79,68]\/name=[83,77,47,82,69,77]\/name=[70,77,47,77,79,68]\/name=[87,73,84,72,73,78]\/name=[50,33]\/name=[70,73,76,76]\/name=[77,79,86,69]\/name=[80,79,83,84]\/name=[65,84,45,83,84,65,84,69]then 3 else
 if name=[47,77,79,68]\/name=[85,77,42]\/name=[77,42]\/name=[33]\/name=[67,33]\/name=[43,33]\/name=[84,89,80,69]\/name=[35]\/name=[35,83]\/name=[35,62]\/name=[83,69,84,45,83,84,65,84,69]then 2 else
 if name=[83,62,68]\/name=[64]\/name=[67,64]\/name=[50,64]\/name=[67,79,85,78,84]\/name=[65,76,76,79,84]\/name=[44]\/name=[67,44]\/name=[69,77,73,84]\/name=[83,80,65,67,69,83]\/name=[46]\/name=[85,46]\/name=[72,79,76,68]\/name=[83,73,71,78]\/name=[62,66,79,68,89]\/name=[67,65,78,67,69,76]\/name=[71,69,84,45,83,84,65,84,69]then 1 else 0
def nY(name:Str)(s:List Int):Int :=
 if name=[68,69,80,84,72]then 0 else
 if name=[68,85,80]\/name=[68,82,79,80]\/name=[63,68,85,80]then 1 else
 if name=[83,87,65,80]\/name=[79,86,69,82]\/name=[78,73,80]\/name=[84,85,67,75]\/name=[50,68,85,80]\/name=[50,68,82,79,80]then 2 else
 if name=[82,79,84]\/name=[45,82,79,84]then 3 else
 if name=[50,83,87,65,80]\/name=[50,79,86,69,82]then 4 else
 if name=[80,73,67,75]\/name=[82,79,76,76]then(if s.length=0\/s.getD (s.length-1) 0<0\/(s.length:Int)-1<=s.getD (s.length-1) 0 then(s.length:Int)+1 else s.getD (s.length-1) 0+2)else -1
def yF(name:Str)(x:List Int)(depth:Nat):List Int :=
 if name=[68,85,80]then [xat x 0,xat x 0]else
 if name=[83,87,65,80]then [xat x 1,xat x 0]else
 if name=[79,86,69,82]then [xat x 0,xat x 1,xat x 0]else
 if name=[78,73,80]then [xat x 1]else
 if name=[84,85,67,75]then [xat x 1,xat x 0,xat x 1]else
 if name=[82,79,84]then [xat x 1,xat x 2,xat x 0]else
 if name=[45,82,79,84]then [xat x 2,xat x 0,xat x 1]else
 if name=[50,68,85,80]then [xat x 0,xat x 1,xat x 0,xat x 1]else
 if name=[50,83,87,65,80]then [xat x 2,xat x 3,xat x 0,xat x 1]else
 if name=[50,79,86,69,82]then [xat x 0,xat x 1,xat x 2,xat x 3,xat x 0,xat x 1]else
 if name=[63,68,85,80]then(if xat x 0=0 then x else [xat x 0,xat x 0])else
 if name=[68,69,80,84,72]then [(depth:Int)]else
 if name=[80,73,67,75]then x.take (x.length-1)++[xat x 0]else
 if name=[82,79,76,76]then(x.take (x.length-1)).drop 1++[xat x 0]else []
def dz(name:Str)(s:List Int)(limit:Int):List Int×Bool×Int :=
 if nY name s<0 then(s,false,0)else
 if (s.length:Int)<nY name s then(s,true,-4)else
 if limit<((s.length-(nY name s).toNat+(yF name (s.drop (s.length-(nY name s).toNat)) s.length).length:Nat):Int)then(s,true,-3)else
 (s.take (s.length-(nY name s).toNat)++yF name (s.drop (s.length-(nY name s).toNat)) s.length,true,0)
def doS(v:VVm)(n:Int):VVm×Int :=
 if n<23\/129<n then(v,-24)else
 let name:=aq.getD n.toNat []
 if n<=38 then({v with d:=(dz name v.d v.conf.data).1},(dz name v.d v.conf.data).2.2)else
 let k:=bj n name
 if v.d.length<k then(v,-4)else
 let r:=bM v n name (v.d.drop (v.d.length-k))
 if r.2.2≠0 then(v,r.2.2)else
 if v.conf.data<((v.d.length-k+r.2.1.length:Nat):Int)then(v,-3)else({r.1 with d:=v.d.take (v.d.length-k)++r.2.1},0)
def tLv(r:List Int×Int):PV:=gY (sq au r.1) (i64 r.2)
@[simp] theorem as9 (r : List Int × Int) : aQ (tLv r) := by simp [tLv]
structure bD where
 vm:VVm
 ip:Int
 w:Int
 dof:Bool
 fuel:Int
 deriving DecidableEq,Inhabited
def si(x:bD):List PV:=cVm x.vm++[i64 x.ip,i64 x.w,boo x.dof,i64 x.fuel]
@[simp] theorem Oy (x : bD) : aG (si x) := by simp [si, cVm]
def wq(x:bD):PV:=.agg (si x)
@[simp] theorem aj7 (x : bD) : aQ (wq x) := by unfold wq aQ; exact Oy x
structure VWk where
 v:VVm
 ip:Int
 w:Int
 dof:Bool
 over:Bool
 bad:Int
 deriving DecidableEq,Inhabited
def gn(s:List Int)(n limit:Int):List Int×Int:=if limit<=(s.length:Int)then(s,-3)else(s++[n],0)
def gD(v:VVm)(n:Int):VVm×Int:=({v with d:=(gn v.d n v.conf.data).1},(gn v.d n v.conf.data).2)
def dO(v:VVm):Int×VVm×Int:=((bk v.d).1,{v with d:=(bk v.d).2.1},(bk v.d).2.2)
def ga(v:VVm)(n:Int):VVm×Int:=if v.conf.ret<=(v.r.length:Int)then(v,-5)else({v with r:=v.r++[n]},0)
def eS(v:VVm):Int×VVm×Int:=if v.r.length=0 then(0,v,-6)else(v.r.getD (v.r.length-1) 0,{v with r:=v.r.take (v.r.length-1)},0)
def cG(k:VWk)(e:Int):VWk:=if k.bad=0 then {k with bad:=e} else k
def jw(k:VWk)(n:Int):VWk:={cG k (gD k.v n).2 with v:=(gD k.v n).1}
def fM(k:VWk):VWk×Int:=({cG k (dO k.v).2.2 with v:=(dO k.v).2.1},(dO k.v).1)
def dS(k:VWk)(n:Int):VWk:={cG k (ga k.v n).2 with v:=(ga k.v n).1}
def g7(k:VWk):VWk×Int:=({cG k (eS k.v).2.2 with v:=(eS k.v).2.1},(eS k.v).1)
def bn(k:VWk)(at_:Int):VWk×Int:=(cG k (an k.v.mem at_).2,(an k.v.mem at_).1)
def ml(k:VWk)(at_ n:Int):VWk:={cG k (aH k.v.mem at_ n).2 with v:=r6 k.v (aH k.v.mem at_ n).1}
def ku(k:VWk)(n:Int):VWk×Int:=if (k.v.r.length:Int)<=n then(cG k (-6),0)else(k,k.v.r.getD (k.v.r.length-1-n.toNat) 0)
def dTo(k:VWk):VWk:={(bn k k.ip).1 with ip:=(bn k k.ip).2}
def jB(k:VWk):VWk:={k with ip:=W64 (k.ip+8)}
def L4(k:VWk)(xt:Int):VWk:={k with w:=xt,dof:=true}
def nH(i l n:Int):Int×Bool:=(W64 (i+n),if 0<=n then decide (W64 (i-l)<0)&&decide (0<=W64 (W64 (i-l)+n))else decide (0<=W64 (i-l))&&decide (W64 (W64 (i-l)+n)<0))
def y4(k:VWk)(n:Int):VWk :=
 let a:=ku k 1
 let b:=ku a.1 0
 if b.1.bad≠0 then b.1 else
  let c:=(g7 b.1).1
  if (nH b.2 a.2 n).2 then jB (g7 c).1 else dTo (dS c (nH b.2 a.2 n).1)
def vG(k:VWk):VWk×Int×Int:=let a:=fM k;let b:=fM a.1;(b.1,a.2,b.2)
def uD(k:VWk):VWk:=if k.v.f.length=0 then cG k (-6)else
 jw {k with ip:=(k.v.f.getD (k.v.f.length-1) default).ip,v:={k.v with f:=k.v.f.take (k.v.f.length-1)}} 0
def CC(k:VWk):VWk :=
 if k.v.last=0\/(az k.v k.v.last).2≠0\/((az k.v k.v.last).1≠257/\(az k.v k.v.last).1≠259)then cG k (-31)else
  let b:=ml (ml k k.v.last 259) (W64 ((ml k k.v.last 259).v.last+8)) (ml k k.v.last 259).ip
  {(g7 b).1 with ip:=(g7 b).2}
def Wy(k:VWk):VWk :=
 let a:=bn k k.ip
 let at_:=W64 (k.ip+8)
 let b:=if aV a.1.v.mem at_ a.2 then a.1 else cG a.1 (-9)
 {jw (jw b at_) a.2 with ip:=(vr [65,76,73,71,78,69,68] (W64 (at_+a.2))).1}
def r8(k:VWk)(name:Str):VWk×Bool :=
 if name=[40,101,120,105,116,41]then({(g7 k).1 with ip:=(g7 k).2},true)else
 if name=[40,108,105,116,41]then(jB (jw (bn k k.ip).1 (bn k k.ip).2),true)else
 if name=[40,98,114,97,110,99,104,41]then(dTo k,true)else
 if name=[40,48,98,114,97,110,99,104,41]then(if (fM k).2=0 then dTo (fM k).1 else jB (fM k).1,true)else
 if name=[40,100,111,41]then(let t:=vG k;dS (dS t.1 t.2.2) t.2.1,true)else
 if name=[40,63,100,111,41]then(let t:=vG k;if t.2.1=t.2.2 then dTo t.1 else jB (dS (dS t.1 t.2.2) t.2.1),true)else
 if name=[40,108,111,111,112,41]then(y4 k 1,true)else
 if name=[40,43,108,111,111,112,41]then(y4 (fM k).1 (fM k).2,true)else
 if name=[40,104,97,108,116,41]then({k with over:=true},true)else
 if name=[40,99,97,117,103,104,116,41]then(uD k,true)else
 if name=[40,100,111,101,115,41]then(CC k,true)else
 if name=[40,115,116,114,41]then(Wy k,true)else(k,false)
def AO(k:VWk):VWk :=
 let a:=fM k
 let b:=if 64<=(a.1.v.f.length:Int)then cG a.1 (-5)else a.1
 L4 {b with ip:=24,v:={b.v with f:=b.v.f++[⟨(b.v.d.length:Int),(b.v.r.length:Int),b.ip⟩]}} a.2
def FI(k:VWk)(name:Str):VWk :=
 if name=[69,88,69,67,85,84,69]then L4 (fM k).1 (fM k).2 else
 if name=[67,65,84,67,72]then AO k else
 if name=[84,72,82,79,87]then cG (fM k).1 (fM k).2 else
 if name=[73]\/name=[82,64]then jw (ku k 0).1 (ku k 0).2 else
 if name=[74]then jw (ku k 2).1 (ku k 2).2 else
 if name=[85,78,76,79,79,80]then(g7 (g7 (ku k 1).1).1).1 else
 if name=[62,82]then dS (fM k).1 (fM k).2 else
 if name=[82,62]then jw (g7 k).1 (g7 k).2 else
 if name=[50,62,82]then(let t:=vG k;dS (dS t.1 t.2.2) t.2.1)else
 if name=[50,82,62]then(let a:=g7 k;let b:=g7 a.1;jw (jw b.1 b.2) a.2)else k
def o7(k:VWk)(xt:Int):VWk :=
 let a:=bn k (W64 (xt+16))
 let b:=bn a.1 (W64 (xt+24))
 let c:=if a.2<0\/b.2<=a.2 then cG b.1 (-24)else b.1
 let d:=bn c (W64 (W64 (xt+32)+W64 (8*a.2)))
 if d.2=0 then d.1 else L4 d.1 d.2
def qZ(k:VWk)(xt:Int):VWk :=
 let q:=az k.v xt
 if q.2≠0 then cG k q.2 else
 if 300<=q.1 then cG k (-14)else
 if q.1=256 then {dS k k.ip with ip:=W64 (xt+8)} else
 if q.1=257 then jw k (W64 (xt+16))else
 if q.1=258 then jw (bn k (W64 (xt+16))).1 (bn k (W64 (xt+16))).2 else
 if q.1=259 then(let a:=bn k (W64 (xt+8));{dS (jw a.1 (W64 (xt+16))) (jw a.1 (W64 (xt+16))).ip with ip:=a.2})else
 if q.1=260 then o7 k xt else
 if 23<=q.1 then {cG k (doS k.v q.1).2 with v:=(doS k.v q.1).1} else
 if (r8 k (aq.getD q.1.toNat [])).2 then(r8 k (aq.getD q.1.toNat [])).1 else FI (r8 k (aq.getD q.1.toNat [])).1 (aq.getD q.1.toNat [])
def ko(s:List Int)(n:Nat):List Int:=s.take n++List.replicate (n-s.length) 0
def cp(a:bD)(bad:Int):bD×Int :=
 if a.vm.f.length=0 then(a,bad)else
  let f:=a.vm.f.getD (a.vm.f.length-1) default
  ({a with vm:={a.vm with f:=a.vm.f.take (a.vm.f.length-1),d:=ko a.vm.d (min f.d (a.vm.conf.data-1)).toNat++[bad],r:=ko a.vm.r (min f.r a.vm.conf.ret).toNat},ip:=f.ip},0)
def bS(r:bD):bD×Bool×Int :=
 if r.fuel<1 then(r,false,-256)else
  let k0:VWk:=⟨r.vm,r.ip,0,false,false,0⟩
  let q:=if r.dof then(k0,r.w)else(let a:=bn k0 r.ip;(if a.1.bad=0 then jB a.1 else a.1,a.2))
  let ahead:bD:=⟨r.vm,q.1.ip,0,false,W64 (r.fuel-1)⟩
  let k:=if q.1.bad=0 then qZ q.1 q.2 else q.1
  if k.bad=0 then(⟨k.v,k.ip,k.w,k.dof,W64 (r.fuel-1)⟩,k.over,0)else((cp ahead k.bad).1,false,(cp ahead k.bad).2)
def zx(v:VVm)(xt fuel:Int):bD:=⟨{v with r:=[],f:=[]},16,xt,true,fuel⟩
def yH(v:VVm):VVm:={v with r:=[],f:=[]}
def xl:Nat->bD->VVm×Int×Int
 | 0,r=>(yH r.vm,r.fuel,-256)
 | n+1,r=>if (bS r).2.1=true\/(bS r).2.2≠0 then(yH (bS r).1.vm,(bS r).1.fuel,(bS r).2.2)else xl n (bS r).1
inductive xH where
 | ok
 | bad (e:Int)
 | halt
 deriving DecidableEq,Inhabited
structure PW where
 r:bD
 err:xH
 deriving DecidableEq,Inhabited
def pOk(k:PW)(v:VVm)(e:Int):PW:=match k.err with
 | .ok=>if e=0 then {k with r:={k.r with vm:=v}} else {k with err:=.bad e}
 | _=>k
def ia:xH->Bool
 | .ok=>true
 | _=>false
def db(k:PW)(n:Int):PW:=pOk k (gD k.r.vm n).1 (gD k.r.vm n).2
def aY(k:PW):PW×Int:=(pOk k (dO k.r.vm).2.1 (dO k.r.vm).2.2,if ia (pOk k (dO k.r.vm).2.1 (dO k.r.vm).2.2).err then(dO k.r.vm).1 else 0)
def iZ(k:PW)(n:Int):PW:=pOk k (ga k.r.vm n).1 (ga k.r.vm n).2
def fT(k:PW):PW×Int:=(pOk k (eS k.r.vm).2.1 (eS k.r.vm).2.2,if ia (pOk k (eS k.r.vm).2.1 (eS k.r.vm).2.2).err then(eS k.r.vm).1 else 0)
def bq(k:PW)(a:Int):PW×Int:=(pOk k k.r.vm (an k.r.vm.mem a).2,(an k.r.vm.mem a).1)
def mi(k:PW)(a n:Int):PW:=pOk k (r6 k.r.vm (aH k.r.vm.mem a n).1) (aH k.r.vm.mem a n).2
def uP(k:PW)(xt:Int):PW:={k with r:={k.r with w:=xt,dof:=true}}
def wIp(k:PW)(a:Int):PW:={k with r:={k.r with ip:=a}}
def Xk(k:PW)(e:xH):PW:={k with err:=e}
def cn(k:PW)(n:Nat):PW×Int:=if k.r.vm.r.length<=n then(pOk k k.r.vm (-6),0)else(k,k.r.vm.r.getD (k.r.vm.r.length-1-n) 0)
def kE(k:PW)(b:Bool):PW:=if b then wIp (bq k k.r.ip).1 (bq k k.r.ip).2 else wIp k (W64 (k.r.ip+8))
def oS(k:PW)(n:Int):PW :=
 if ia (cn (cn k 1).1 0).1.err then
  kE (if (nH (cn (cn k 1).1 0).2 (cn k 1).2 n).2 then(fT (fT (cn (cn k 1).1 0).1).1).1 else iZ (fT (cn (cn k 1).1 0).1).1 (nH (cn (cn k 1).1 0).2 (cn k 1).2 n).1) (!(nH (cn (cn k 1).1 0).2 (cn k 1).2 n).2)
 else(cn (cn k 1).1 0).1
def mb(k:PW):PW :=
 if k.r.vm.last=0\/(az k.r.vm k.r.vm.last).2≠0\/((az k.r.vm k.r.vm.last).1≠257/\(az k.r.vm k.r.vm.last).1≠259)then pOk k k.r.vm (-31)else
  mi (mi k k.r.vm.last 259) (W64 (k.r.vm.last+8)) (mi k k.r.vm.last 259).r.ip
def sa(k:PW):PW:=wIp (fT k).1 (fT k).2
def wDo(k:PW):PW:=iZ (iZ (aY (aY k).1).1 (aY (aY k).1).2) (aY k).2
def zm(k:PW):PW :=
 if (aY k).2=(aY (aY k).1).2 then kE (aY (aY k).1).1 true else
  wDo (wIp (db (db (aY (aY k).1).1 (aY (aY k).1).2) (aY k).2) (W64 ((db (db (aY (aY k).1).1 (aY (aY k).1).2) (aY k).2).r.ip+8)))
def NN(k:PW):PW:=wIp (db (bq k k.r.ip).1 (bq k k.r.ip).2) (W64 ((db (bq k k.r.ip).1 (bq k k.r.ip).2).r.ip+8))
def kD(k:PW):PW:=if k.r.vm.f.length=0 then pOk k k.r.vm (-6)else
 db {k with r:={k.r with ip:=(k.r.vm.f.getD (k.r.vm.f.length-1) default).ip,vm:={k.r.vm with f:=k.r.vm.f.take (k.r.vm.f.length-1)}}} 0
def Ir(k:PW):PW :=
 wIp (db (db (pOk (bq k k.r.ip).1 (bq k k.r.ip).1.r.vm (cv (bq k k.r.ip).1.r.vm.mem (W64 (k.r.ip+8)) (bq k k.r.ip).2).2) (W64 (k.r.ip+8))) (bq k k.r.ip).2)
  (vr [65,76,73,71,78,69,68] (W64 (W64 (k.r.ip+8)+(bq k k.r.ip).2))).1
def wFr(b:PW):PW:={b with r:={b.r with ip:=24,vm:={b.r.vm with f:=b.r.vm.f++[⟨(b.r.vm.d.length:Int),(b.r.vm.r.length:Int),b.r.ip⟩]}}}
def nX(k:PW):PW:=uP (wFr (if 64<=((aY k).1.r.vm.f.length:Int)then pOk (aY k).1 (aY k).1.r.vm (-5)else(aY k).1)) (aY k).2
def Ad(k:PW):PW:=iZ (iZ (aY (aY k).1).1 (aY (aY k).1).2) (aY k).2
def r7(k:PW):PW:=db (db (fT (fT k).1).1 (fT (fT k).1).2) (fT k).2
def Gj(k:PW)(name:Str):PW :=
 if name=[40,99,97,117,103,104,116,41]then kD k else
 if name=[40,115,116,114,41]then Ir k else
 if name=[69,88,69,67,85,84,69]then uP (aY k).1 (aY k).2 else
 if name=[67,65,84,67,72]then nX k else
 if name=[84,72,82,79,87]then pOk (aY k).1 (aY k).1.r.vm (aY k).2 else
 if name=[73]then db (cn k 0).1 (cn k 0).2 else
 if name=[74]then db (cn k 2).1 (cn k 2).2 else
 if name=[85,78,76,79,79,80]then(fT (fT (cn k 1).1).1).1 else
 if name=[62,82]then iZ (aY k).1 (aY k).2 else
 if name=[82,62]then db (fT k).1 (fT k).2 else
 if name=[82,64]then db (cn k 0).1 (cn k 0).2 else
 if name=[50,62,82]then Ad k else
 if name=[50,82,62]then r7 k else k
def lX(k:PW)(name:Str):PW :=
 if name=[40,100,111,101,115,41]then sa (mb k)else
 if name=[40,101,120,105,116,41]then sa k else
 if name=[40,108,105,116,41]then NN k else
 if name=[40,98,114,97,110,99,104,41]then kE k true else
 if name=[40,48,98,114,97,110,99,104,41]then kE (aY k).1 (decide ((aY k).2=0))else
 if name=[40,63,100,111,41]then zm k else
 if name=[40,100,111,41]then wDo k else
 if name=[40,108,111,111,112,41]then oS k 1 else
 if name=[40,43,108,111,111,112,41]then oS (aY k).1 (aY k).2 else
 if name=[40,104,97,108,116,41]then Xk k .halt else Gj k name
def eW(k:PW)(b:Int):PW :=
 let p:=bq k b
 let q:=bq p.1 (W64 (b+8))
 let c:=if ia q.1.err&&(decide (p.2<0)||decide (q.2<=p.2))then pOk q.1 q.1.r.vm (-24)else q.1
 let x:=bq c (W64 (W64 (b+16)+W64 (8*p.2)))
 if x.2=0 then x.1 else uP x.1 x.2
def jY(k0:PW)(xt:Int):PW :=
 let n:=(az k0.r.vm xt).1
 let k:=pOk k0 k0.r.vm (az k0.r.vm xt).2
 if ia k.err then
  if 300<=n then pOk k k.r.vm (-14)else
  if n=256 then wIp (iZ k k.r.ip) (W64 (xt+8))else
  if n=257 then db k (W64 (xt+16))else
  if n=258 then db (bq k (W64 (xt+16))).1 (bq k (W64 (xt+16))).2 else
  if n=259 then wIp (iZ (db (bq k (W64 (xt+8))).1 (W64 (xt+16))) (db (bq k (W64 (xt+8))).1 (W64 (xt+16))).r.ip) (bq k (W64 (xt+8))).2 else
  if n=260 then eW k (W64 (xt+16))else
  if 23<=n/\n<=129 then pOk k (doS k.r.vm n).1 (doS k.r.vm n).2 else lX k (aq.getD n.toNat [])
 else k
def fW(r:bD):PW:=⟨{r with w:=0,dof:=false,fuel:=W64 (r.fuel-1)},.ok⟩
def cb(r:bD):PW×Int :=
 if r.dof then(fW r,r.w)else
  (if ia (bq (fW r) r.ip).1.err then wIp (bq (fW r) r.ip).1 (W64 ((bq (fW r) r.ip).1.r.ip+8))else(bq (fW r) r.ip).1,(bq (fW r) r.ip).2)
def ik(r:bD):PW:=if ia (cb r).1.err then jY (cb r).1 (cb r).2 else(cb r).1
def r3(r:bD):bD×Bool×Int :=
 if r.fuel<1 then(r,false,-256)else
  match (ik r).err with
  | .ok=>((ik r).r,false,0)
  | .halt=>((ik r).r,true,0)
  | .bad e=>((cp (cb r).1.r e).1,false,(cp (cb r).1.r e).2)
def Rel(p:PW)(d:VWk):Prop:=match p.err with
 | .ok=>d=⟨p.r.vm,p.r.ip,p.r.w,p.r.dof,false,0⟩
 | .bad e=>d.bad=e/\e≠0
 | .halt=>False
def JZ(p:PW×Int)(d:VWk×Int):Prop:=Rel p.1 d.1/\(p.1.err=.ok->p.2=d.2)
def Rel.ok{p:PW}{d:VWk}(h:Rel p d)(k:p.err=.ok):d=⟨p.r.vm,p.r.ip,p.r.w,p.r.dof,false,0⟩:=by unfold Rel at h;rw[k]at h;exact h
def Rel.bad{p:PW}{d:VWk}{e:Int}(h:Rel p d)(k:p.err=.bad e):d.bad=e/\e≠0:=by unfold Rel at h;rw[k]at h;exact h
def Rel.cases{p:PW}{d:VWk}(h:Rel p d):(p.err=.ok)\/∃e,p.err=.bad e:=by
 unfold Rel at h
 cases k:p.err with
 | ok=>exact .inl rfl
 | bad e=>exact .inr ⟨e,rfl⟩
 | halt=>rw[k]at h;exact h.elim
def wA{p:PW}{d:VWk}(k:p.err=.ok)(h:d=⟨p.r.vm,p.r.ip,p.r.w,p.r.dof,false,0⟩):Rel p d:=by unfold Rel;rw[k];exact h
def jn{p:PW}{d:VWk}{e:Int}(k:p.err=.bad e)(h:d.bad=e)(h0:e≠0):Rel p d:=by unfold Rel;rw[k];exact⟨h,h0⟩
def iO{k:PW}{c e:Int}{v:VVm}(h:k.err=.bad c):pOk k v e=k:=by unfold pOk;rw[h]
def gU{k:PW}{e:Int}{v:VVm}(h:(pOk k v e).err=.ok):k.err=.ok/\e=0:=by
 unfold pOk at h
 cases k1:k.err with
 | ok =>
  rw[k1]at h;simp only at h
  by_cases he:e=0
  ·exact⟨rfl,he⟩
  rw[if_neg he]at h;cases h
 | bad c=>rw[k1]at h;simp only at h;rw[k1]at h;cases h
 | halt=>rw[k1]at h;simp only at h;rw[k1]at h;cases h
def gS{e:xH}:ia e=true↔e=.ok:=by cases e<;>simp[ia]
def G3{d:VWk}{e:Int}(h:d.bad≠0):cG d e=d:=by unfold cG;rw[if_neg h]
def rE{p:PW}{d:VWk}{v v':VVm}{e e':Int}(h:Rel p d)(he:p.err=.ok->e=e'/\(e=0->v=v')):Rel (pOk p v e) {cG d e' with v:=v'}:=by
 rcases h.cases with k|⟨c,k⟩
 ·obtain⟨rfl,hv⟩:=he k
  have hd:=h.ok k
  subst hd
  unfold pOk cG;rw[k];simp only[if_true]
  by_cases he:e=0
  ·rw[if_pos he];exact wA rfl (by rw[hv he,he])
  rw[if_neg he];exact jn rfl rfl he
 have hb:=h.bad k
 rw[iO k]
 exact jn k (by rw[G3 (by rw[hb.1];exact hb.2)];exact hb.1) hb.2
def lL{p:PW}{d:VWk}{e:Int}(h:Rel p d):Rel (pOk p p.r.vm e) (cG d e):=by
 have k:=rE (v:=p.r.vm) (v':=d.v) (e:=e) (e':=e) h (fun k=>⟨rfl,fun _=>by rw[h.ok k]⟩)
 have e2:({cG d e with v:=d.v}:VWk)=cG d e:=by unfold cG;split<;>rfl
 rw[e2]at k;exact k
def gN{p:PW}{d:VWk}(h:Rel p d){n n':Int}(hn:p.err=.ok->n=n'):Rel (db p n) (jw d n') :=
 rE h (fun k=>by rw[h.ok k,hn k];exact⟨rfl,fun _=>rfl⟩)
def kc{p:PW}{d:VWk}(h:Rel p d){n n':Int}(hn:p.err=.ok->n=n'):Rel (iZ p n) (dS d n') :=
 rE h (fun k=>by rw[h.ok k,hn k];exact⟨rfl,fun _=>rfl⟩)
def BJ{p:PW}{d:VWk}(h:Rel p d){a a' n n':Int}(hn:p.err=.ok->a=a'/\n=n'):Rel (mi p a n) (ml d a' n') :=
 rE h (fun k=>by rw[h.ok k,(hn k).1,(hn k).2];exact⟨rfl,fun _=>rfl⟩)
def jg{p:PW}{d:VWk}(h:Rel p d):JZ (aY p) (fM d) :=
 ⟨rE h (fun k=>by rw[h.ok k];exact⟨rfl,fun _=>rfl⟩),fun k=>by
  have k':(pOk p (dO p.r.vm).2.1 (dO p.r.vm).2.2).err=.ok:=k
  show(if ia _ then _ else _)=_
  rw[if_pos (gS.2 k'),h.ok (gU k).1];rfl⟩
def jG{p:PW}{d:VWk}(h:Rel p d):JZ (fT p) (g7 d) :=
 ⟨rE h (fun k=>by rw[h.ok k];exact⟨rfl,fun _=>rfl⟩),fun k=>by
  have k':(pOk p (eS p.r.vm).2.1 (eS p.r.vm).2.2).err=.ok:=k
  show(if ia _ then _ else _)=_
  rw[if_pos (gS.2 k'),h.ok (gU k).1];rfl⟩
def ji{p:PW}{d:VWk}(h:Rel p d){a a':Int}(ha:p.err=.ok->a=a'):JZ (bq p a) (bn d a'):=by
 refine⟨?_,fun k=>by
  show(an _ _).1=(an _ _).1
  rw[h.ok (gU k).1,ha (gU k).1]⟩
 have k:=rE (v:=p.r.vm) (v':=d.v) (e:=(an p.r.vm.mem a).2) (e':=(an d.v.mem a').2) h (fun k=>⟨by rw[h.ok k,ha k],fun _=>by rw[h.ok k]⟩)
 have e2:({cG d (an d.v.mem a').2 with v:=d.v}:VWk)=(bn d a').1:=by unfold bn cG;dsimp only;split<;>rfl
 rw[e2]at k;exact k
def wK{p:PW}{d:VWk}(h:Rel p d){a a':Int}(ha:p.err=.ok->a=a'):Rel (wIp p a) {d with ip:=a'}:=by
 rcases h.cases with k|⟨c,k⟩
 ·exact wA k (by rw[h.ok k,ha k];rfl)
 exact jn k (h.bad k).1 (h.bad k).2
def Fk{p:PW}{d:VWk}(h:Rel p d){a a':Int}(ha:p.err=.ok->a=a'):Rel (uP p a) (L4 d a'):=by
 rcases h.cases with k|⟨c,k⟩
 ·exact wA k (by rw[h.ok k,ha k];rfl)
 exact jn k (h.bad k).1 (h.bad k).2
def sX{p A B:PW}{d A' B':VWk}{c c':Prop}[Decidable c][Decidable c'](h:Rel p d)(hc:p.err=.ok->(c↔c'))(h1:Rel A A')(h2:Rel B B')
  (hp:∀e,p.err=.bad e->A.err=.bad e/\B.err=.bad e) (hd:d.bad≠0->A'.bad=d.bad/\B'.bad=d.bad):Rel (if c then A else B) (if c' then A' else B'):=by
 rcases h.cases with k|⟨e,k⟩
 ·by_cases q:c
  ·rw[if_pos q,if_pos ((hc k).1 q)];exact h1
  rw[if_neg q,if_neg (fun q'=>q ((hc k).2 q'))];exact h2
 have hb:=h.bad k
 have h3:=hp e k
 have h4:=hd (by rw[hb.1];exact hb.2)
 have a1:(if c then A else B).err=.bad e:=by split;exact h3.1;exact h3.2
 have a2:(if c' then A' else B').bad=e:=by split;rw[h4.1,hb.1];rw[h4.2,hb.1]
 exact jn a1 a2 hb.2
section
variable {p : PW} {e : Int} (h : p.err = .bad e)
include h
def Iu{n:Int}:db p n=p:=iO h
def LC{n:Int}:iZ p n=p:=iO h
def Lm{a n:Int}:mi p a n=p:=iO h
def Ys:(aY p).1=p:=iO h
def Jp:(fT p).1=p:=iO h
def Um{a:Int}:(bq p a).1=p:=iO h
def TC{n:Nat}:(cn p n).1=p:=by unfold cn;split;exact iO h;rfl
end
section
variable {d : VWk} (h : d.bad ≠ 0)
include h
def mn{e:Int}:(cG d e).bad=d.bad:=by rw[G3 h]
def sz{n:Int}:(dS d n).bad=d.bad:=mn h
def Ep{a n:Int}:(ml d a n).bad=d.bad:=mn h
def ab0:(g7 d).1.bad=d.bad:=mn h
def Ur{a:Int}:(bn d a).1.bad=d.bad:=mn h
def am9{n:Int}:(ku d n).1.bad=d.bad:=by unfold ku;split;exact mn h;rfl
def ar3:(dTo d).bad=d.bad:=Ur h
end
def kJ{p:PW}{d:VWk}(h:Rel p d)(n:Nat):JZ (cn p n) (ku d (n:Int)):=by
 rcases h.cases with k|⟨e,k⟩
 ·have hd:=h.ok k
  by_cases q:p.r.vm.r.length<=n
  ·have q':(d.v.r.length:Int)<=(n:Int):=by rw[hd];dsimp only;omega
   unfold cn ku;rw[if_pos q,if_pos q']
   exact⟨lL h,fun _=>rfl⟩
  have q':¬(d.v.r.length:Int)<=(n:Int):=by rw[hd];dsimp only;omega
  unfold cn ku;rw[if_neg q,if_neg q']
  exact⟨h,fun _=>by rw[hd];rfl⟩
 have hb:=h.bad k
 have hb0:d.bad≠0:=by rw[hb.1];exact hb.2
 exact⟨jn (by rw[TC k];exact k) (by rw[am9 hb0,hb.1]) hb.2,fun q=>by rw[TC k,k]at q;cases q⟩
def zC{p:PW}{d:VWk}(h:Rel p d):Rel (kE p true) (dTo d):=by
 have f:=ji h (a:=p.r.ip) (a':=d.ip) (fun k=>by rw[h.ok k])
 exact wK f.1 f.2
def sj{p:PW}{d:VWk}(h:Rel p d):Rel (kE p false) (jB d):=wK h (fun k=>by rw[h.ok k])
def HV{p:PW}{e:Int}(h:p.err=.bad e)(b:Bool):(kE p b).err=.bad e:=by
 unfold kE;split
 ·show(bq p p.r.ip).1.err=_;rw[Um h];exact h
 exact h
def xW{p:PW}{n:Nat}(h:(cn p n).1.err=.ok):p.err=.ok:=by
 unfold cn at h;split at h
 ·exact(gU h).1
 exact h
def IZ{p:PW}(h:(aY p).1.err=.ok):p.err=.ok:=(gU h).1
def W1{p:PW}(h:(fT p).1.err=.ok):p.err=.ok:=(gU h).1
def vu{p:PW}{n:Int}(h:(db p n).err=.ok):p.err=.ok:=(gU h).1
def GG{p:PW}{n:Int}(h:(iZ p n).err=.ok):p.err=.ok:=(gU h).1
def FR{p:PW}{n:Int}(h:(bq p n).1.err=.ok):p.err=.ok:=(gU h).1
def ye{p:PW}{n:Int}:(bq p n).1.r=p.r:=by
 unfold bq pOk;dsimp only;cases p.err<;>dsimp only;split<;>rfl
def Ql{p:PW}{v:VVm}{e:Int}:(pOk p v e).r.ip=p.r.ip:=by
 unfold pOk;cases p.err<;>dsimp only;split<;>rfl
def Fh{p:PW}{d:VWk}(h:Rel p d):Rel (sa p) {(g7 d).1 with ip:=(g7 d).2}:=wK (jG h).1 (jG h).2
def XP{p:PW}{d:VWk}(h:Rel p d):Rel (NN p) (jB (jw (bn d d.ip).1 (bn d d.ip).2)):=by
 have f:=ji h (a:=p.r.ip) (a':=d.ip) (fun k=>by rw[h.ok k])
 exact sj (gN f.1 f.2)
def ag3{p:PW}{d:VWk}(h:Rel p d):Rel (kE (aY p).1 (decide ((aY p).2=0))) (if (fM d).2=0 then dTo (fM d).1 else jB (fM d).1):=by
 have f:=jg h
 have e:kE (aY p).1 (decide ((aY p).2=0))=if (aY p).2=0 then kE (aY p).1 true else kE (aY p).1 false:=by
  by_cases q:(aY p).2=0
  ·rw[if_pos q,decide_eq_true q]
  rw[if_neg q,decide_eq_false q]
 rw[e]
 exact sX f.1 (fun k=>by rw[f.2 k]) (zC f.1) (sj f.1) (fun e k=>⟨HV k _,HV k _⟩) (fun k=>⟨ar3 k,rfl⟩)
def FH{p:PW}{d:VWk}(h:Rel p d){n n':Int}(hn:p.err=.ok->n=n'):Rel (oS p n) (y4 d n'):=by
 have a:JZ (cn p 1) (ku d 1):=kJ h 1
 have b:JZ (cn (cn p 1).1 0) (ku (ku d 1).1 0):=kJ a.1 0
 rcases b.1.cases with k|⟨e,k⟩
 ·have hb:(ku (ku d 1).1 0).1.bad=0:=by rw[b.1.ok k]
  have a2:=a.2 (xW k)
  have b2:=b.2 k
  have n2:=hn (xW (xW k))
  have c:=(jG b.1).1
  unfold oS y4
  dsimp only
  have hb':¬(ku (ku d 1).1 0).1.bad≠0:=fun q=>q hb
  rw[if_pos (gS.2 k),if_neg hb',a2,b2,n2]
  by_cases q:(nH (ku (ku d 1).1 0).2 (ku d 1).2 n').2=true
  ·rw[if_pos q,if_pos q,q]
   exact sj (jG c).1
  have q':(nH (ku (ku d 1).1 0).2 (ku d 1).2 n').2=false:=by simpa using q
  rw[if_neg q,if_neg q,q']
  exact zC (kc c (fun _=>rfl))
 have hb:=b.1.bad k
 unfold oS y4
 dsimp only
 rw[if_neg (by rw[k];simp[ia]),if_pos (fun q=>hb.2 (hb.1.symm.trans q))]
 exact b.1
def LV{p:PW}{d:VWk}(h:Rel p d):Rel (Ad p) (dS (dS (vG d).1 (vG d).2.2) (vG d).2.1):=by
 have a:=jg h
 have b:=jg a.1
 exact kc (kc b.1 b.2) (fun k=>a.2 (IZ (GG k)))
def TT{p:PW}{d:VWk}(h:Rel p d):Rel (r7 p) (jw (jw (g7 (g7 d).1).1 (g7 (g7 d).1).2) (g7 d).2):=by
 have a:=jG h
 have b:=jG a.1
 exact gN (gN b.1 b.2) (fun k=>a.2 (W1 (vu k)))
def Hk{q:PW}{n:Int}(k:q.err=.ok)(h:(q.r.vm.d.length:Int)<q.r.vm.conf.data):aY (db q n)=(q,n):=by
 obtain⟨⟨v,ip,w,df,fu⟩,err⟩:=q
 simp only at k;subst k
 have e:db ⟨⟨v,ip,w,df,fu⟩,.ok⟩ n=⟨⟨{v with d:=v.d++[n]},ip,w,df,fu⟩,.ok⟩:=by
  unfold db gD gn pOk
  simp only at h
  simp only[if_neg (show ¬v.conf.data<=(v.d.length:Int) by omega),if_true]
 rw[e]
 have e2:bk (v.d++[n])=(n,v.d,0):=by
  unfold bk
  rw[if_neg (by simp)]
  simp
 unfold aY dO pOk
 simp only[e2,if_true,ia]
def ZT{q:PW}{a:Int}:aY (wIp q a)=(wIp (aY q).1 a,(aY q).2):=by
 obtain⟨r,err⟩:=q
 unfold aY wIp pOk
 cases err<;>dsimp only
 split<;>rfl
def yW{d:VWk}{n:Int}:jB (dS d n)=dS (jB d) n:=by
 unfold jB dS cG;dsimp only;split<;>rfl
def YF{p:PW}(k:(aY p).1.err=.ok):(aY p).1.r.vm.d.length+1=p.r.vm.d.length/\(aY p).1.r.vm.conf=p.r.vm.conf:=by
 obtain⟨r,err⟩:=p
 have h1:=gU k
 simp only at h1
 obtain⟨rfl,h2⟩:=h1
 have hl:r.vm.d.length≠0:=by
  intro q
  unfold dO bk at h2;rw[if_pos q]at h2;cases h2
 unfold aY pOk
 simp only[h2,if_true]
 unfold dO bk
 simp only[if_neg hl,List.length_take]
 exact⟨by omega,trivial⟩
def UM{p:PW}{d:VWk}(h:Rel p d)(hd:(p.r.vm.d.length:Int)<=p.r.vm.conf.data):
  Rel (zm p) (if (vG d).2.1=(vG d).2.2 then dTo (vG d).1 else jB (dS (dS (vG d).1 (vG d).2.2) (vG d).2.1)):=by
 have a:=jg h
 have b:=jg a.1
 rcases b.1.cases with k|⟨e,k⟩
 ·have a2:=a.2 (IZ k)
  have b2:=b.2 k
  have l1:=YF (IZ k)
  have l2:=YF k
  unfold zm vG
  dsimp only
  by_cases q:(aY p).2=(aY (aY p).1).2
  ·rw[if_pos q,if_pos (show(fM d).2=(fM (fM d).1).2 by rw[<-a2,<-b2];exact q)]
   exact zC b.1
  rw[if_neg q,if_neg (show ¬(fM d).2=(fM (fM d).1).2 by rw[<-a2,<-b2];exact q)]
  have b1:Rel (aY (aY p).1).1 (fM (fM d).1).1:=b.1
  generalize hP:(aY (aY p).1).1=P at *
  have e1:=Hk (n:=(aY (aY p).1).2) k (by rw[l2.2,l1.2];omega)
  have l3:(db P (aY (aY p).1).2).err=.ok:=by
   have:(pOk P (gD P.r.vm (aY (aY p).1).2).1 (gD P.r.vm (aY (aY p).1).2).2).err=.ok:=by
    unfold pOk gD gn
    simp only[k,if_neg (show ¬P.r.vm.conf.data<=(P.r.vm.d.length:Int) by rw[l2.2,l1.2];omega),if_true]
   exact this
  have l4:(db P (aY (aY p).1).2).r.vm.d.length=P.r.vm.d.length+1/\(db P (aY (aY p).1).2).r.vm.conf=P.r.vm.conf:=by
   unfold db pOk gD gn
   simp only[k,if_neg (show ¬P.r.vm.conf.data<=(P.r.vm.d.length:Int) by rw[l2.2,l1.2];omega),if_true]
   simp
  have e2:=Hk (n:=(aY p).2) l3 (by rw[l4.2,l2.2,l1.2];omega)
  have ip1:(db (db P (aY (aY p).1).2) (aY p).2).r.ip=P.r.ip:=by
   show(pOk (pOk P _ _) _ _).r.ip=_
   rw[Ql,Ql]
  unfold wDo
  simp only[ZT,e2,e1,ip1]
  rw[yW,yW]
  exact kc (kc (sj b1) (fun k=>b2)) (fun k=>a2)
 have hb:=b.1.bad k
 have hb0:(fM (fM d).1).1.bad≠0:=by rw[hb.1];exact hb.2
 have w1:∀A:PW,A.err=.bad e->∀n m a,(wDo (wIp (db (db A n) m) a)).err=.bad e:=by
  intro A kA n m a
  rw[Iu kA,Iu kA]
  unfold wDo
  have k1:(wIp A a).err=.bad e:=kA
  rw[Ys k1,Ys k1,LC k1,LC k1];exact k1
 refine sX b.1 (fun q=>by rw[k]at q;cases q) (zC b.1) (jn (e:=e) (w1 _ k _ _ _) ?_ hb.2) (fun e' k'=>⟨HV k' _,?_⟩) (fun _=>⟨ar3 hb0,?_⟩)
 ·show(dS (dS (fM (fM d).1).1 _) _).bad=e
  rw[sz (by rw[sz hb0];exact hb0),sz hb0];exact hb.1
 ·rw[k]at k';cases k';exact w1 _ k _ _ _
 show(dS (dS (fM (fM d).1).1 _) _).bad=(fM (fM d).1).1.bad
 rw[sz (by rw[sz hb0];exact hb0),sz hb0]
def TS{p:PW}{d:VWk}(h:Rel p d):Rel (sa (mb p)) (CC d):=by
 rcases h.cases with k|⟨e,k⟩
 ·have hd:=h.ok k
  unfold mb CC
  have hv:d.v=p.r.vm:=by rw[hd]
  rw[hv]
  split
  ·have k2:(pOk p p.r.vm (-31)).err=.bad (-31):=by unfold pOk;rw[k];rfl
   refine jn (e:=-31) ?_ ?_ (by decide)
   ·show(fT _).1.err=_;rw[Jp k2];exact k2
   unfold cG;rw[hd];rfl
  have s1:=BJ h (a:=p.r.vm.last) (a':=d.v.last) (n:=259) (n':=259) (fun _=>⟨by rw[hv],rfl⟩)
  rw[hv]at s1
  have e1:(mi p p.r.vm.last 259).err=.ok->(ml d p.r.vm.last 259).v.last=p.r.vm.last/\(ml d p.r.vm.last 259).ip=(mi p p.r.vm.last 259).r.ip:=fun k3=>by
   rw[s1.ok k3]
   refine⟨?_,rfl⟩
   unfold mi pOk;rw[k];dsimp only;split<;>rfl
  exact Fh (BJ s1 (fun k3=>⟨by rw[(e1 k3).1],by rw[(e1 k3).2]⟩))
 have hb:=h.bad k
 have hb0:d.bad≠0:=by rw[hb.1];exact hb.2
 refine jn (e:=e) ?_ ?_ hb.2
 ·unfold sa mb
  show(fT _).1.err=_
  split
  ·rw[iO k,Jp k];exact k
  rw[Lm k,Lm k,Jp k];exact k
 unfold CC
 split
 ·rw[mn hb0];exact hb.1
 show(g7 _).1.bad=e
 have s1:(ml d d.v.last 259).bad≠0:=by rw[Ep hb0];exact hb0
 have s2:=Ep s1 (a:=W64 ((ml d d.v.last 259).v.last+8)) (n:=(ml d d.v.last 259).ip)
 rw[ab0 (by rw[s2];exact s1),s2,Ep hb0];exact hb.1
def IV{p:PW}{d:VWk}(h:Rel p d):Rel (kD p) (uD d):=by
 unfold kD uD
 refine sX h (fun k=>by rw[h.ok k]) (lL h) (gN ?_ (fun _=>rfl)) (fun e k=>⟨by rw[iO k];exact k,?_⟩) (fun k=>⟨mn k,?_⟩)
 ·rcases h.cases with k|⟨e,k⟩
  ·exact wA k (by rw[h.ok k])
  exact jn k (h.bad k).1 (h.bad k).2
 ·have hX:∀X:PW,X.err=.bad e->(db X 0).err=.bad e:=fun X hX=>by rw[Iu hX];exact hX
  exact hX _ k
 exact mn (d:={d with ip:=_,v:=_}) (by exact k)
def Ou{d:VWk}:cG d 0=d:=by
 obtain⟨v,ip,w,df,ov,bad⟩:=d
 unfold cG;dsimp only;split
 ·rename_i q;rw[q]
 rfl
def Xg{p:PW}{d:VWk}(h:Rel p d):Rel (Ir p) (Wy d):=by
 have f:=ji h (a:=p.r.ip) (a':=d.ip) (fun k=>by rw[h.ok k])
 have ip1:(bq p p.r.ip).1.err=.ok->p.r.ip=d.ip:=fun k=>by rw[h.ok (FR k)]
 have g:Rel (pOk (bq p p.r.ip).1 (bq p p.r.ip).1.r.vm (cv (bq p p.r.ip).1.r.vm.mem (W64 (p.r.ip+8)) (bq p p.r.ip).2).2) (if aV (bn d d.ip).1.v.mem (W64 (d.ip+8)) (bn d d.ip).2 then(bn d d.ip).1 else cG (bn d d.ip).1 (-9)):=by
  rcases f.1.cases with k|⟨e,k⟩
  ·have e1:(if aV (bn d d.ip).1.v.mem (W64 (d.ip+8)) (bn d d.ip).2 then(bn d d.ip).1 else cG (bn d d.ip).1 (-9))=cG (bn d d.ip).1 (cv (bq p p.r.ip).1.r.vm.mem (W64 (p.r.ip+8)) (bq p p.r.ip).2).2:=by
    rw[<-f.2 k,f.1.ok k,<-ip1 k]
    unfold cv
    split
    ·rw[Ou]
    rfl
   rw[e1];exact lL f.1
  have hb:=f.1.bad k
  have hb0:(bn d d.ip).1.bad≠0:=by rw[hb.1];exact hb.2
  exact jn (by rw[iO k];exact k) (by split;exact hb.1;rw[mn hb0];exact hb.1) hb.2
 refine wK (gN (gN g ?_) ?_) ?_
 ·intro k;rw[ip1 (gU k).1]
 ·intro k;exact f.2 (gU (vu k)).1
 intro k
 have k1:=(gU (vu (vu k))).1
 rw[f.2 k1,ip1 k1]
def MH{p:PW}{d:VWk}(h:Rel p d):Rel (nX p) (AO d):=by
 have a:=jg h
 have b:Rel (if 64<=((aY p).1.r.vm.f.length:Int)then pOk (aY p).1 (aY p).1.r.vm (-5)else(aY p).1) (if 64<=((fM d).1.v.f.length:Int)then cG (fM d).1 (-5)else(fM d).1) :=
  sX a.1 (fun k=>by rw[a.1.ok k]) (lL a.1) a.1 (fun e k=>⟨by rw[iO k];exact k,k⟩) (fun k=>⟨mn k,rfl⟩)
 have hk:(if 64<=((aY p).1.r.vm.f.length:Int)then pOk (aY p).1 (aY p).1.r.vm (-5)else(aY p).1).err=.ok->(aY p).2=(fM d).2:=fun k=>a.2 (by
  split at k
  ·exact(gU k).1
  exact k)
 unfold nX wFr AO
 dsimp only
 generalize (if 64<=((aY p).1.r.vm.f.length:Int)then pOk (aY p).1 (aY p).1.r.vm (-5)else(aY p).1)=P at *
 generalize (if 64<=((fM d).1.v.f.length:Int)then cG (fM d).1 (-5)else(fM d).1)=D at *
 rcases b.cases with k|⟨e,k⟩
 ·rw[b.ok k,hk k];exact wA k rfl
 exact jn (e:=e) k (b.bad k).1 (b.bad k).2
def Lw(a b:Int):W64 (W64 a+b)=W64 (a+b):=by show IntKind.i64.wrap (IntKind.i64.wrap a+b)=IntKind.i64.wrap (a+b);rw[bB,bB,bB];exact Ds a b
def MN{p:PW}{d:VWk}(h:Rel p d):Rel (pOk (aY p).1 (aY p).1.r.vm (aY p).2) (cG (fM d).1 (fM d).2):=by
 have a:=jg h
 rcases a.1.cases with k|⟨e,k⟩
 ·rw[a.2 k];exact lL a.1
 have hb:=a.1.bad k
 exact jn (by rw[iO k];exact k) (by rw[mn (by rw[hb.1];exact hb.2)];exact hb.1) hb.2
def E1{p:PW}{d:VWk}(h:Rel p d)(xt:Int):Rel (eW p (W64 (xt+16))) (o7 d xt):=by
 have a:=ji h (a:=W64 (xt+16)) (a':=W64 (xt+16)) (fun _=>rfl)
 have b:=ji a.1 (a:=W64 (W64 (xt+16)+8)) (a':=W64 (xt+24)) (fun _=>by rw[Lw];exact congrArg W64 (by omega))
 unfold eW o7
 dsimp only
 generalize hb:bn (bn d (W64 (xt+16))).1 (W64 (xt+24))=B at *
 generalize ha:bn d (W64 (xt+16))=A at *
 generalize hb':bq (bq p (W64 (xt+16))).1 (W64 (W64 (xt+16)+8))=B' at *
 have hba:B'.1.err=.ok->(bq p (W64 (xt+16))).2=A.2:=fun k=>a.2 (FR (by rw[hb'];exact k))
 generalize ha':bq p (W64 (xt+16))=A' at *
 have c:Rel (if ia B'.1.err&&(decide (A'.2<0)||decide (B'.2<=A'.2))then pOk B'.1 B'.1.r.vm (-24)else B'.1) (if A.2<0\/B.2<=A.2 then cG B.1 (-24)else B.1) :=
  sX b.1 (fun k=>by rw[hba k,b.2 k,gS.2 k];simp) (lL b.1) b.1 (fun e k=>⟨by rw[iO k];exact k,k⟩) (fun k=>⟨mn k,rfl⟩)
 have hc:(if ia B'.1.err&&(decide (A'.2<0)||decide (B'.2<=A'.2))then pOk B'.1 B'.1.r.vm (-24)else B'.1).err=.ok->B'.1.err=.ok:=fun k=>by
  split at k
  ·exact(gU k).1
  exact k
 generalize (if ia B'.1.err&&(decide (A'.2<0)||decide (B'.2<=A'.2))then pOk B'.1 B'.1.r.vm (-24)else B'.1)=C' at *
 generalize (if A.2<0\/B.2<=A.2 then cG B.1 (-24)else B.1)=C at *
 have x:=ji c (a:=W64 (W64 (W64 (xt+16)+16)+W64 (8*A'.2))) (a':=W64 (W64 (xt+32)+W64 (8*A.2))) (fun k=>by rw[hba (hc k),Lw (xt+16)];exact congrArg W64 (congrArg (·+W64 (8*A.2)) (congrArg W64 (by omega))))
 exact sX x.1 (fun k=>by rw[x.2 k]) x.1 (Fk x.1 x.2) (fun e k=>⟨k,k⟩) (fun _=>⟨rfl,rfl⟩)
def IX(p:PW)(d:VWk):Prop:=match p.err with
 | .halt=>d=⟨p.r.vm,p.r.ip,p.r.w,p.r.dof,true,0⟩
 | _=>Rel p d
def cK{p:PW}{d:VWk}(h:Rel p d):IX p d:=by
 unfold IX
 rcases h.cases with k|⟨e,k⟩<;>rw[k]<;>exact h
def Tz{p:PW}{d:VWk}(h:Rel p d)(k:p.err=.ok):IX (Xk p .halt) {d with over:=true}:=by
 unfold IX Xk;dsimp only;rw[h.ok k]
def UA{p:PW}{d:VWk}(h:Rel p d)(k:p.err=.ok)(hd:(p.r.vm.d.length:Int)<=p.r.vm.conf.data)(m:Nat)(hm:m<23):
  IX (lX p (aq.getD m [])) (if (r8 d (aq.getD m [])).2 then(r8 d (aq.getD m [])).1 else FI (r8 d (aq.getD m [])).1 (aq.getD m [])):=by
 match m,hm with
 | 0,_=>exact cK (Fh h)
 | 1,_=>exact cK (XP h)
 | 2,_=>exact cK (zC h)
 | 3,_=>exact cK (ag3 h)
 | 4,_=>exact cK (LV h)
 | 5,_=>exact cK (UM h hd)
 | 6,_=>exact cK (FH h (fun _=>rfl))
 | 7,_=>exact cK (FH (jg h).1 (jg h).2)
 | 8,_=>exact Tz h k
 | 9,_=>exact cK (IV h)
 | 10,_=>exact cK (TS h)
 | 11,_=>exact cK (Xg h)
 | 12,_=>exact cK (Fk (jg h).1 (jg h).2)
 | 13,_=>exact cK (MH h)
 | 14,_=>exact cK (MN h)
 | 15,_=>exact cK (gN (kJ h 0).1 (kJ h 0).2)
 | 16,_=>exact cK (gN (kJ h 2).1 (kJ h 2).2)
 | 17,_=>exact cK (jG (jG (kJ h 1).1).1).1
 | 18,_=>exact cK (kc (jg h).1 (jg h).2)
 | 19,_=>exact cK (gN (jG h).1 (jG h).2)
 | 20,_=>exact cK (gN (kJ h 0).1 (kJ h 0).2)
 | 21,_=>exact cK (LV h)
 | 22,_=>exact cK (TT h)
 | m+23,hm=>exact absurd hm (by omega)
def EY{v:VVm}{xt:Int}(h:(az v xt).2=0):eU (az v xt).1:=by
 unfold az at h ⊢
 split
 ·rename_i h1
  rw[if_pos h1]at h
  split
  ·assumption
  rename_i h2
  rw[if_neg h2]at h;cases h
 rename_i h1;rw[if_neg h1]at h;exact absurd h h1
def cN{k:PW}{v:VVm}{e:Int}:(pOk k v e).r.fuel=k.r.fuel:=by
 unfold pOk;cases k.err<;>dsimp only;split<;>rfl
def dX{k:PW}{n:Int}:(db k n).r.fuel=k.r.fuel:=cN
def lu{k:PW}{n:Int}:(iZ k n).r.fuel=k.r.fuel:=cN
def gz{k:PW}:(aY k).1.r.fuel=k.r.fuel:=cN
def jr{k:PW}:(fT k).1.r.fuel=k.r.fuel:=cN
def fL{k:PW}{n:Int}:(bq k n).1.r.fuel=k.r.fuel:=cN
def AD{k:PW}{a n:Int}:(mi k a n).r.fuel=k.r.fuel:=cN
def qC{k:PW}{n:Int}:(wIp k n).r.fuel=k.r.fuel:=rfl
def wM{k:PW}{n:Int}:(uP k n).r.fuel=k.r.fuel:=rfl
def bp{c:Prop}[Decidable c]{a b:PW}{f:Int}(ha:a.r.fuel=f)(hb:b.r.fuel=f):(if c then a else b).r.fuel=f:=by split<;>assumption
def iE{k:PW}{n:Nat}:(cn k n).1.r.fuel=k.r.fuel:=by unfold cn;split;exact cN;rfl
def ss{k:PW}{b:Bool}:(kE k b).r.fuel=k.r.fuel:=by unfold kE;exact bp (by rw[qC,fL]) rfl
def Ca{k:PW}:(sa k).r.fuel=k.r.fuel:=by unfold sa;rw[qC,jr]
def MX{k:PW}:(mb k).r.fuel=k.r.fuel:=by unfold mb;exact bp cN (by rw[AD,AD])
def Tj{k:PW}:(NN k).r.fuel=k.r.fuel:=by unfold NN;rw[qC,dX,fL]
def Fs{k:PW}:(Ad k).r.fuel=k.r.fuel:=by unfold Ad;rw[lu,lu,gz,gz]
def Lt{k:PW}:(wDo k).r.fuel=k.r.fuel:=Fs
def NJ{k:PW}:(r7 k).r.fuel=k.r.fuel:=by unfold r7;rw[dX,dX,jr,jr]
def QD{k:PW}:(zm k).r.fuel=k.r.fuel:=by
 unfold zm;exact bp (by rw[ss,gz,gz]) (by rw[Lt,qC,dX,dX,gz,gz])
def Bu{k:PW}{n:Int}:(oS k n).r.fuel=k.r.fuel:=by
 unfold oS;exact bp (by rw[ss];exact bp (by rw[jr,jr,iE,iE]) (by rw[lu,jr,iE,iE])) (by rw[iE,iE])
def Hd{k:PW}:(kD k).r.fuel=k.r.fuel:=by unfold kD;exact bp cN (by rw[dX])
def Rs{k:PW}:(Ir k).r.fuel=k.r.fuel:=by unfold Ir;rw[qC,dX,dX,cN,fL]
def Ie{k:PW}:(nX k).r.fuel=k.r.fuel:=by unfold nX;rw[wM];show(ite _ _ _:PW).r.fuel=_;exact bp (by rw[cN,gz]) gz
def Eb{k:PW}{b:Int}:(eW k b).r.fuel=k.r.fuel:=by
 have h:∀(c:Bool) (x:PW),(if c then pOk x x.r.vm (-24)else x).r.fuel=x.r.fuel:=fun c x=>bp cN rfl
 unfold eW;dsimp only;exact bp (by rw[fL,h,fL,fL]) (by rw[wM,fL,h,fL,fL])
def DV{k:PW}{name:Str}:(lX k name).r.fuel=k.r.fuel:=by
 unfold lX Gj
 refine bp (by rw[Ca,MX]) (bp Ca (bp Tj (bp ss (bp (by rw[ss,gz]) (bp QD (bp Lt (bp Bu (bp (by rw[Bu,gz]) (bp rfl ?_)))))))))
 refine bp Hd (bp Rs (bp (by rw[wM,gz]) (bp Ie (bp (by rw[cN,gz]) ?_))))
 refine bp (by rw[dX,iE]) (bp (by rw[dX,iE]) (bp (by rw[jr,jr,iE]) (bp (by rw[lu,gz]) (bp (by rw[dX,jr]) (bp (by rw[dX,iE]) (bp Fs (bp NJ rfl)))))))
def CH{p:PW}{xt:Int}:(jY p xt).r.fuel=p.r.fuel:=by
 unfold jY;dsimp only
 refine bp (bp (by rw[cN,cN]) (bp (by rw[qC,lu,cN]) (bp (by rw[dX,cN]) (bp (by rw[dX,fL,cN]) (bp (by rw[qC,lu,dX,fL,cN]) (bp (by rw[Eb,cN]) (bp (by rw[cN,cN]) (by rw[DV,cN])))))))) cN
def Sp{p:PW}{d:VWk}(h:Rel p d)(k:p.err=.ok)(hd:(p.r.vm.d.length:Int)<=p.r.vm.conf.data)(xt:Int):IX (jY p xt) (qZ d xt):=by
 have hv:d.v=p.r.vm:=by rw[h.ok k]
 have hip:d.ip=p.r.ip:=by rw[h.ok k]
 have hK:=EY (v:=p.r.vm) (xt:=xt)
 unfold jY qZ
 dsimp only
 rw[hv]
 generalize az p.r.vm xt=q at *
 by_cases he:q.2=0
 ·have e1:pOk p p.r.vm q.2=p:=by unfold pOk;rw[k];dsimp only;rw[if_pos he,<-k]
  have hk:=hK he
  unfold eU at hk
  rw[e1,if_pos (gS.2 k),if_neg (show ¬q.2≠0 from fun h=>h he)]
  by_cases c1:300<=q.1
  ·rw[if_pos c1,if_pos c1];exact cK (lL h)
  rw[if_neg c1,if_neg c1]
  by_cases c2:q.1=256
  ·rw[if_pos c2,if_pos c2];exact cK (wK (kc h (fun _=>hip.symm)) (fun _=>rfl))
  rw[if_neg c2,if_neg c2]
  by_cases c3:q.1=257
  ·rw[if_pos c3,if_pos c3];exact cK (gN h (fun _=>rfl))
  rw[if_neg c3,if_neg c3]
  by_cases c4:q.1=258
  ·rw[if_pos c4,if_pos c4]
   have f:=ji h (a:=W64 (xt+16)) (a':=W64 (xt+16)) (fun _=>rfl)
   exact cK (gN f.1 f.2)
  rw[if_neg c4,if_neg c4]
  by_cases c5:q.1=259
  ·rw[if_pos c5,if_pos c5]
   have f:=ji h (a:=W64 (xt+8)) (a':=W64 (xt+8)) (fun _=>rfl)
   have g:=gN f.1 (n:=W64 (xt+16)) (n':=W64 (xt+16)) (fun _=>rfl)
   refine cK (wK (kc g (fun k=>by rw[g.ok k])) (fun k=>f.2 (vu (GG k))))
  rw[if_neg c5,if_neg c5]
  by_cases c6:q.1=260
  ·rw[if_pos c6,if_pos c6];exact cK (E1 h xt)
  rw[if_neg c6,if_neg c6]
  by_cases c7:23<=q.1
  ·rw[if_pos ⟨c7,by omega⟩,if_pos c7]
   exact cK (rE h (fun _=>⟨rfl,fun _=>rfl⟩))
  rw[if_neg (fun h=>c7 h.1),if_neg c7]
  exact UA h k hd q.1.toNat (by omega)
 have e1:(pOk p p.r.vm q.2).err=.bad q.2:=by unfold pOk;rw[k];dsimp only;rw[if_neg he]
 rw[if_neg (by rw[e1];simp[ia]),if_pos (show q.2≠0 from he)]
 exact cK (lL h)
def xi(r:bD):VWk×Int :=
 if r.dof then(⟨r.vm,r.ip,0,false,false,0⟩,r.w)else
  (if (bn ⟨r.vm,r.ip,0,false,false,0⟩ r.ip).1.bad=0 then jB (bn ⟨r.vm,r.ip,0,false,false,0⟩ r.ip).1 else(bn ⟨r.vm,r.ip,0,false,false,0⟩ r.ip).1,(bn ⟨r.vm,r.ip,0,false,false,0⟩ r.ip).2)
def uY(r:bD):JZ (cb r) (xi r)/\(cb r).1.r=⟨r.vm,(xi r).1.ip,0,false,W64 (r.fuel-1)⟩:=by
 have h0:Rel (fW r) ⟨r.vm,r.ip,0,false,false,0⟩:=wA rfl rfl
 have f:=ji h0 (a:=r.ip) (a':=r.ip) (fun _=>rfl)
 unfold cb xi
 by_cases q:r.dof=true
 ·rw[if_pos q,if_pos q];exact⟨⟨h0,fun _=>rfl⟩,rfl⟩
 rw[if_neg q,if_neg q]
 rcases f.1.cases with k|⟨e,k⟩
 ·have hb:(bn ⟨r.vm,r.ip,0,false,false,0⟩ r.ip).1.bad=0:=by rw[f.1.ok k]
  rw[if_pos (gS.2 k),if_pos hb]
  refine⟨⟨sj f.1,fun _=>f.2 k⟩,?_⟩
  dsimp only
  unfold jB wIp
  dsimp only
  rw[f.1.ok k,ye];rfl
 have hb:=f.1.bad k
 rw[if_neg (by rw[k];simp[ia]),if_neg (by rw[hb.1];exact hb.2)]
 refine⟨⟨f.1,fun q=>by rw[k]at q;cases q⟩,?_⟩
 dsimp only
 rw[ye]
 unfold bn cG
 dsimp only
 split<;>rfl
def D1(r:bD)(hd:(r.vm.d.length:Int)<=r.vm.conf.data):r3 r=bS r:=by
 unfold r3 bS
 by_cases hf:r.fuel<1
 ·rw[if_pos hf,if_pos hf]
 rw[if_neg hf,if_neg hf]
 obtain⟨⟨h1,h2⟩,h3⟩:=uY r
 have e0:(if r.dof then((⟨r.vm,r.ip,0,false,false,0⟩:VWk),r.w)else(let a:=bn ⟨r.vm,r.ip,0,false,false,0⟩ r.ip;(if a.1.bad=0 then jB a.1 else a.1,a.2)))=xi r:=rfl
 dsimp only at e0 ⊢
 rw[e0]
 unfold ik
 rcases h1.cases with k|⟨e,k⟩
 ·have hb:(xi r).1.bad=0:=by rw[h1.ok k]
  rw[if_pos (gS.2 k),if_pos hb,<-h2 k,<-h3]
  have hw:=Sp h1 k (by rw[h3];exact hd) (cb r).2
  have hfu:(jY (cb r).1 (cb r).2).r.fuel=W64 (r.fuel-1):=by rw[CH,h3]
  generalize jY (cb r).1 (cb r).2=P at *
  generalize qZ (xi r).1 (cb r).2=D at *
  unfold IX at hw
  cases kp:P.err with
  | ok =>
   rw[kp]at hw;simp only at hw
   rw[hw.ok kp]
   simp only[if_true]
   rw[<-hfu]
  | halt =>
   rw[kp]at hw;simp only at hw
   rw[hw]
   simp only[if_true]
   rw[<-hfu]
  | bad c =>
   rw[kp]at hw;simp only at hw
   have hb:=hw.bad kp
   simp only[hb.1,if_neg hb.2]
 have hb:=h1.bad k
 have hz:¬(xi r).1.bad=0:=by rw[hb.1];exact hb.2
 rw[if_neg (by rw[k];simp[ia]),if_neg hz,if_neg hz,k,hb.1,h3]
open Go.RowKit
section
variable {P : Program} {B : Nat -> Nat -> Prop} {n : Nat} {all : Array Oper} {T : Nat -> PV} {H : List Ob} {o : Oper}
def zB{t g j:Nat}{td:TD}{u:Value}(f:ao P t td)(ha:td.agg=false)(ho:o.op=.load t (.global g))(hj:H[j]?=some (.glob g u)):bL P B o T H (.val u) H :=
 aO fun σ w a s h=>by
  obtain⟨q1,_⟩:=s.holds j _ hj
  obtain⟨v,h2,h3⟩:=jN (P:=P) (w:=w) (b:=g) (off:=0) (k:=0) (x:=.val u) f (c:=cx B H σ w) (ai.2 ⟨av _ u,aF.2 rfl⟩) (fun i u' hi=>by
   match i,hi with
   | 0,hi=>cases hi;exact q1
   | i+1,hi=>simp at hi) (by unfold kh;rw[ha];rfl)
  have h1:a.eval (.global g)=.pointer (some ⟨g,0,none⟩):=rfl
  exact⟨v,by simp[execOp,ho,h1,Instr.loadAt,Instr.sureAddr,h2],h3⟩
def pj{t:TypeId}{x:Operand}{v:PV}(ho:o.op=.makeInterface t x)(hc:P.concrete t=true)(hx:opv T x=v):bL P B o T H (.ifc t v) H :=
 aO fun σ w a s h=>by
  have h1:=h x (by simp[ho,Op.operands])
  rw[hx]at h1
  exact⟨.iface t (a.eval x),by simp[execOp,ho,run_makeInterface w t (a.eval x) hc],by unfold Rep;exact⟨_,rfl,h1⟩⟩
def vX:PV->Option Bool
 | .val .nilIface=>some true
 | .val (.iface _ _)=>some false
 | .ifc _ _=>some false
 | _=>none
def FP{c:Cx}{x:PV}{v:Value}{b:Bool}(h:vX x=some b)(k:Rep c x v):(v=.nilIface/\b=true)\/∃t u,v=.iface t u/\b=false:=by
 unfold vX at h
 split at h
 ·unfold Rep at k;cases h;exact .inl ⟨k,rfl⟩
 ·unfold Rep at k;cases h;exact .inr ⟨_,_,k,rfl⟩
 ·unfold Rep at k;obtain⟨u,k1,_⟩:=k;cases h;exact .inr ⟨_,u,k1,rfl⟩
 cases h
def aW{t yt:TypeId}{x:Operand}{y:PV}{b:Bool}(ho:o.op=.binOp .eql t x (.const .nilIface) yt)(ht:P.isIface t=true)(hx:opv T x=y)(hy:vX y=some b):bL P B o T H (.val (.bool b)) H :=
 aO fun σ w a s h=>by
  have h1:=h x (by simp[ho,Op.operands])
  rw[hx]at h1
  have hc:a.eval (.const .nilIface)=.nilIface:=rfl
  rcases FP hy h1 with ⟨h2,rfl⟩|⟨u,z,h2,rfl⟩
  ·exact⟨_,by simp[execOp,ho,h2,hc,eqGuard,run_eql_nil_nil_at w t ht],av _ _⟩
  exact⟨_,by simp[execOp,ho,h2,hc,eqGuard,run_eql_iface_nil w t ht],av _ _⟩
def i3{t yt:TypeId}{x:Operand}{y:PV}{b:Bool}(ho:o.op=.binOp .neq t x (.const .nilIface) yt)(ht:P.isIface t=true)(hx:opv T x=y)(hy:vX y=some b):bL P B o T H (.val (.bool (!b))) H :=
 aO fun σ w a s h=>by
  have h1:=h x (by simp[ho,Op.operands])
  rw[hx]at h1
  have hc:a.eval (.const .nilIface)=.nilIface:=rfl
  rcases FP hy h1 with ⟨h2,rfl⟩|⟨u,z,h2,rfl⟩
  ·exact⟨_,by simp[execOp,ho,h2,hc,eqGuard,run_neq_nil_nil_at w t ht],av _ _⟩
  exact⟨_,by simp[execOp,ho,h2,hc,eqGuard,run_neq_iface_nil w t ht],av _ _⟩
def dh{n:Nat}{all:Array Oper}{K:(Nat->PV)->List Ob->Prop}{l:List Oper}{dd:Option Tmp}{H':List Ob}{t:TypeId}{d:TD}{x y:Operand}{i off:Nat}{xs ys zs:List PV}{e:TypeId}(f:ao P t d)(ho:o.op=.store t x y)(hx:opv T x=.ptr i off)(hi:H[i]?=some (.cells xs e))(hy:qE (opv T y)=some ys)(hl:Nat.beq ys.length d.size=true)(hok:ys.all okC=true)
  (hle:Nat.ble (off+ys.length) xs.length=true) (hz:cr xs off ys=zs) (hH:nfH (H.set i (.cells zs e))=some H') (hd:nfD n o.dst=some dd) (hw:bs all T o=some true) (k:WO P B n all l (eK dd (.val undef) T) H' K):WO P B n all (o::l) T H K :=
 Wd hd hw (bH f ho hx hi hy hl hok hle) (by rw[hz,<-r5 hH];exact k)
def DS{n:Nat}{σ:Nat->Option Nat}{w:World}{a:Act}(g:nP B n T H σ w a){d i m q:Nat}{xs:List PV}{e:TypeId}(hT:T d=.arr i 0 m m)(hi:H[i]?=some (.cells xs e))(hq:q<=xs.length):
  nP B n (upd d (.seq m (xs.take q) .clip) T) (H.set i .dead) σ w a/\dU B H σ w (H.set i .dead) σ w:=by
 obtain⟨s',st⟩:=lr g.sim hi
 refine⟨⟨s',fun j=>?_,g.size,g.defers⟩,st⟩
 by_cases hj:j=d
 ·subst hj
  rw[eZ]
  have h1:=g.rep j
  rw[hT]at h1
  unfold Rep at h1
  obtain⟨_,b,hb,hv⟩:=h1
  obtain⟨b',vs,fr,hb',hg,_,hp⟩:=g.sim.holds i _ hi
  simp only[cx]at hb hb' hg
  rw[hb]at hb'
  cases hb'
  rw[hv]
  unfold Rep
  refine⟨_,m,vs.take q,rfl,Nat.le_refl _,(fun h=>by cases h),ay.mono st.le (hp.take hq),fun b1 hb1=>.inl ?_,rfl⟩
  cases hb1
  refine⟨rfl,fun j' u hu=>⟨?_,?_⟩⟩
  ·rw[List.getElem?_take]at hu
   split at hu
   ·show w.cell? ⟨b,0+j',none⟩=some u
    rw[Nat.zero_add,d9 hg];exact hu
   cases hu
  rintro(h2|⟨k,ok,h2,h3,h4⟩)
  ·exact g.sim.sep i b _ hi rfl hb _ h2
  have hlk:ok.live=true:=by cases ok<;>first|rfl|cases h4
  by_cases hki:k=i
  ·subst hki
   rw[List.getElem?_set_self (cL hi)]at h2;cases h2;cases h4
  rw[List.getElem?_set_ne (Ne.symm hki)]at h2
  exact hki (g.sim.inj k i b _ _ h2 hi hlk rfl h3 hb)
 rw[dt _ _ _ _ hj];exact(g.rep j).mono st.le
def zV{n:Nat}{all:Array Oper}{K:(Nat->PV)->List Ob->Prop}{l:List Oper}(d i m q:Nat){xs:List PV}{e:TypeId}(hT:T d=.arr i 0 m m)(hi:H[i]?=some (.cells xs e))(hq:q<=xs.length)(h1:WO P B n all l (upd d (.seq m (xs.take q) .clip) T) (H.set i .dead) K):WO P B n all l T H K:=by
 intro hall σ w a g
 obtain⟨g',st⟩:=DS g hT hi hq
 exact fQ (fun _ _ _ h=>gM st (fun _ _ _ h=>h) h) _ _ _ (h1 hall σ w a g')
def B5{c:Cx}:∀l:List Value,ay c (l.map .val) l
 | []=>aF.2 rfl
 | x::l=>ai.2 ⟨av _ _,B5 l⟩
def rJ{f:FuncId}{args:List PV}{l:List Value}{r:PV}{v:Value}(hl:∀(c:Cx) vs,ay c args vs->vs=l)(hr:∀c,Rep c r v)(h:∀w,Calls P f l.toArray w fun e w'=>e=.returned v/\be w w'):af P f args r:=by
 intro H B σ w vs s hv
 have:=hl _ _ hv
 subst this
 exact dM (args:=vs) hr h H B σ w vs s (B5 vs)
end
open Go.RowKit
def wa(l:List Int)(hl:l.length<=1000000):af prog 154 [sq au l] (sqc au l):=by
 refine zY func154 fun B=>?_
 refine zu1 ?_
 refine zp5 ?_
 refine z2 ?_ (q:=(by(simp_all;done)))
 refine Wa 8 rfl (cF au 1 (fun _=>rfl) (by omega)) ?_
 refine zs1 ?_
 refine Wq ?_
 exact nE rfl (by simp[sqc];rfl)
@[simp] theorem X4 (l : List ja) : aQ (sqc jc l) := kQ (fun x => by simp) l
def w7(l:List ja)(hl:l.length<=1000000):af prog 258 [sq jc l] (sqc jc l):=by
 refine zY func258 fun B=>?_
 refine zu1 ?_
 refine zp5 ?_
 refine z2 ?_ (q:=(by(simp_all;done)))
 refine Wa 8 rfl (cF jc 3 (fun _=>rfl) (by omega)) ?_
 refine zs1 ?_
 refine Wq ?_
 exact nE rfl (by simp[sqc];rfl)
def SB(r:List Int×Int):PV:=gY (sq au r.1) (i64 r.2)
@[simp] theorem af1 (r : List Int × Int) : aQ (SB r) := by simp [SB]
def GH(s:List Int)(n limit:Int)(hs:s.length<=100000)(hm:ab limit):af prog 107 [sq au s,i64 n,i64 limit] (SB (gn s n limit)):=by
 unfold ab at hm
 refine zY func107 fun B=>?_
 refine zu2 ?_
 refine Ws<|zu4 ?_
 refine Wi rfl (fun hi1=>?_) (fun hi1=>?_)
 ·have h0:limit<=(s.length:Int):=by(try simp only[dnL]at *);omega
  refine zu3 ?_
  refine zR ?_
  rw[gn,if_pos h0];rfl
 have h0:¬limit<=(s.length:Int):=by(try simp only[dnL]at *);omega
 refine Wj<|zp1 ?_
 refine zc rfl func154 ((wa s (by omega)) _) ?_
 refine zy2 ?_
 refine Wa 16 rfl (bsL au [_] rfl rfl) ?_
 refine Wd rfl rfl (bK (lO tG rfl) rfl (lO tG rfl) (lO tG rfl) rfl rfl (by exact⟨_,rfl⟩) (by exact⟨rfl,rfl,al _ 1 (fun _=>rfl) _,bi _ (fun _=>rfl) _⟩) (by exact al _ 1 (fun _=>rfl) _) (by((simp_all;omega))) (by((simp_all;omega)))) ?_
 refine Wa 17 rfl (bT au) ?_
 refine zs2 ?_
 refine zR ?_
 rw[gn,if_neg h0];rfl
def Ky(r:Int×VVm×Int):PV:=jC (i64 r.1) (eVm r.2.1) (i64 r.2.2)
@[simp] theorem ab1 (r : Int × VVm × Int) : aQ (Ky r) := by simp [Ky]
def K7(v:VVm)(n:Int)(hs:v.d.length<=100000)(hm:ab v.conf.data):af prog 82 [eVm v,i64 n] (tVm (gD v n)):=by
 refine zY func82 fun B=>?_
 refine zu3 ?_
 refine zp5 ?_
 refine z1 ?_
 refine zc rfl func107 ((GH v.d n v.conf.data hs hm) _) ?_
 refine zs5 ?_
 refine zu3 ?_
 refine zu4 ?_
 refine zR ?_
 rfl
def Rc(v:VVm)(hs:v.d.length<=100000):af prog 211 [eVm v] (Ky (dO v)):=by
 refine zY func211 fun B=>?_
 refine zu4 ?_
 refine zp2 ?_
 refine zc rfl func259 ((Da v.d hs) _) ?_
 refine zy5 ?_
 refine zs2 ?_
 refine zu3 ?_
 refine Ws<|am [0,1,0,0,3,0] [0,1,2,3,4,5] mG rfl (by kernel_rfl) ?_
 refine z3 ?_
 refine z5 ?_
 iterate 2 refine z3 ?_
 refine ct tG rfl rfl rfl rfl rfl trivial ?_
 refine z3 ?_
 refine ap ?_
 refine zR ?_
 rfl
def xw(e:Int):Int:=if e = -3 then -5 else if e = -4 then -6 else e
def KR(e:Int):af prog 236 [i64 e] (i64 (xw e)):=by
 refine zY func236 fun B=>?_
 refine zu1 ?_
 refine Ws<|zu1 ?_
 refine Wl<|zu2 ?_
 refine Wi rfl (fun hi1=>?_) (fun hi1=>?_)
 ·refine zu1 ?_
  refine zR ?_
  exact congrArg i64 (by unfold xw;(try simp only[dnL]at *);split<;>(try split)<;>omega)
 refine zu2 ?_
 refine Wi rfl (fun hi2=>?_) (fun hi2=>?_)
 ·refine zu1 ?_
  refine zR ?_
  exact congrArg i64 (by unfold xw;(try simp only[dnL]at *);split<;>(try split)<;>omega)
 refine Wj<|zu2 ?_
 refine zR ?_
 exact congrArg i64 (by unfold xw;(try simp only[dnL]at *);split<;>(try split)<;>omega)
def RA(v:VVm)(n:Int):ga v n=({v with r:=(gn v.r n v.conf.ret).1},xw (gn v.r n v.conf.ret).2):=by
 unfold ga gn xw;split<;>rfl
def WC(v:VVm):eS v=((bk v.r).1,{v with r:=(bk v.r).2.1},xw (bk v.r).2.2):=by
 unfold eS bk xw;split<;>rfl
def SU(v:VVm)(n:Int)(hs:v.r.length<=100000)(hm:ab v.conf.ret):af prog 197 [eVm v,i64 n] (tVm (ga v n)):=by
 rw[RA]
 refine zY func197 fun B=>?_
 refine zu3 ?_
 refine zp5 ?_
 refine z1 ?_
 refine zc rfl func107 ((GH v.r n v.conf.ret hs hm) _) ?_
 refine zs5 ?_
 refine zu3 ?_
 refine Ws<|am [1,0,0,3,0] [0,1,2,3,4] mG rfl (by kernel_rfl) ?_
 refine z5 ?_
 refine z3 ?_
 refine Xc rfl rfl rfl rfl (fun _=>dC rfl func236 rfl rfl ((KR _) _)) ?_
 refine ct tG rfl rfl rfl rfl rfl trivial ?_
 refine z3 ?_
 refine ap ?_
 refine zR ?_
 rfl
def Vh(v:VVm)(hs:v.r.length<=100000):af prog 254 [eVm v] (Ky (eS v)):=by
 rw[WC]
 refine zY func254 fun B=>?_
 refine zu4 ?_
 refine zp2 ?_
 refine zc rfl func259 ((Da v.r hs) _) ?_
 refine zy5 ?_
 refine zs2 ?_
 refine zu3 ?_
 refine Ws<|am [0,1,0,0,0,3,0] [0,1,2,3,4,5,6] mG rfl (by kernel_rfl) ?_
 refine z3 ?_
 refine z5 ?_
 refine z3 ?_
 refine Xc rfl rfl rfl rfl (fun _=>dC rfl func236 rfl rfl ((KR _) _)) ?_
 refine z3 ?_
 refine ct tG rfl rfl rfl rfl rfl trivial ?_
 refine z3 ?_
 refine ap ?_
 refine zR ?_
 rfl
def SG(i l n:Int):af prog 256 [i64 i,i64 l,i64 n] (jR (nH i l n)):=by
 refine zY func256 fun B=>?_
 refine zu2 ?_
 refine zu4 ?_
 refine Ws<|zu2 ?_
 refine Wi rfl (fun hi1=>?_) (fun hi1=>?_)
 ·have h0:0<=n:=by(try simp only[dnL]at *);omega
  refine zp5 ?_
  refine z1 ?_
  refine Wb 19 rfl (fun hg1=>?_) (fun hg1=>?_)
  ·have q1:decide (W64 (i-l)<0)=true:=hg1
   refine zy5 ?_
   refine zs2 ?_
   refine zR ?_
   (rw[nH,if_pos h0,q1];rfl)
  have q1:decide (W64 (i-l)<0)=false:=hg1
  iterate 4 refine z6 ?_
  refine zs3 ?_
  refine zR ?_
  (rw[nH,if_pos h0,q1];rfl)
 have h0:¬0<=n:=by(try simp only[dnL]at *);omega
 refine Wj<|zp5 ?_
 refine z1 ?_
 refine Wb 30 rfl (fun hg2=>?_) (fun hg2=>?_)
 ·have q1:decide (0<=W64 (i-l))=true:=hg2
  refine zy5 ?_
  refine zs2 ?_
  refine zR ?_
  (rw[nH,if_neg h0,q1];rfl)
 have q1:decide (0<=W64 (i-l))=false:=hg2
 iterate 4 refine z6 ?_
 refine zs3 ?_
 refine zR ?_
 (rw[nH,if_neg h0,q1];rfl)
def haltV(a:Addr):Value:=.iface 383 (.pointer (some a))
def Bo(a:Addr):xH->PV
 | .ok=>.val .nilIface
 | .bad e=>.ifc 201 (.agg [i64 e])
 | .halt=>.val (haltV a)
@[simp] theorem ak5 (a : Addr) (e : xH) : aQ (Bo a e) := by cases e <;> simp [Bo, aQ, aG]
def sD(a:Addr)(e:xH):vX (Bo a e)=some (ia e):=by cases e<;>rfl
def cPW(a:Addr)(k:PW):List PV:=si k.r++[Bo a k.err]
@[simp] theorem aq2 (a : Addr) (k : PW) : aG (cPW a k) := by simp [cPW, si, cVm]
def FG(e:Int):xH:=if e=0 then .ok else .bad e
def zh(a:Addr)(e:Int):af prog 196 [i64 e] (Bo a (FG e)):=by
 refine zY func196 fun B=>?_
 refine zu1 ?_
 refine Ws<|zu2 ?_
 refine Wi rfl (fun hi1=>?_) (fun hi1=>?_)
 ·have h0:e=0:=by(try simp only[dnL]at *);omega
  refine zu1 ?_
  refine zR ?_
  rw[FG,if_pos h0];rfl
 have h0:¬e=0:=by(try simp only[dnL]at *);omega
 refine Wj<|zp2 ?_
 refine Wd rfl rfl (pj rfl (by kernel_rfl) rfl) ?_
 refine zs1 ?_
 refine zR ?_
 rw[FG,if_neg h0];rfl
section
variable (a : Addr)
def WH(r:bD)(v:VVm):∀(H:List Ob) (i:Nat),H[i]?=some (.cells (cPW a ⟨r,.ok⟩) 197)->HC prog 161 (.ptr i 0::[eVm v,i64 0]) H (boo true) (H.set i (.cells (cPW a ⟨{r with vm:=v},.ok⟩) 197)):=by
 refine zM func161 fun B=>?_
 refine zu2 ?_
 refine Ws<|zp4 ?_
 refine Wd rfl rfl (aW rfl (by kernel_rfl) rfl (by rfl)) ?_
 refine Wn<|Wt rfl (by rfl) ?_
 refine aa rfl ?_
 refine zy2 ?_
 refine zc rfl func196 ((zh a 0) _) ?_
 refine Wa 14 rfl ((show _=PV.val .nilIface from rfl)) ?_
 refine zs3 ?_
 refine Ws<|zp4 ?_
 refine Wd rfl rfl (aW rfl (by kernel_rfl) rfl (by rfl)) ?_
 refine Wn<|Wt rfl (by rfl) ?_
 refine aa rfl ?_
 refine zy5 ?_
 refine zs1 ?_
 refine zp4 ?_
 refine Wd rfl rfl (aW rfl (by kernel_rfl) rfl (by rfl)) ?_
 refine zs1 ?_
 refine Wq<|aP rfl rfl ?_ ?_
 ·rfl
 rfl
def Sy(r:bD)(v:VVm)(e:Int)(he:e≠0):∀(H:List Ob) (i:Nat),H[i]?=some (.cells (cPW a ⟨r,.ok⟩) 197)->HC prog 161 (.ptr i 0::[eVm v,i64 e]) H (boo false) (H.set i (.cells (cPW a ⟨r,.bad e⟩) 197)):=by
 have hm:Bo a (FG e)=.ifc 201 (.agg [i64 e]):=by rw[FG,if_neg he];rfl
 refine zM func161 fun B=>?_
 refine zu2 ?_
 refine Ws<|zp4 ?_
 refine Wd rfl rfl (aW rfl (by kernel_rfl) rfl (by rfl)) ?_
 refine Wn<|Wt rfl (by rfl) ?_
 refine aa rfl ?_
 refine zy2 ?_
 refine zc rfl func196 ((zh a e) _) ?_
 refine Wa 14 rfl (hm) ?_
 refine zs3 ?_
 refine Ws<|zp4 ?_
 refine Wd rfl rfl (aW rfl (by kernel_rfl) rfl (by rfl)) ?_
 refine Wn<|Wf rfl (by rfl) ?_
 refine Wj<|zp4 ?_
 refine Wd rfl rfl (aW rfl (by kernel_rfl) rfl (by rfl)) ?_
 refine zs1 ?_
 refine Wq<|aP rfl rfl ?_ ?_
 ·rfl
 rfl
def VH(r:bD)(v:VVm)(e c:Int):∀(H:List Ob) (i:Nat),H[i]?=some (.cells (cPW a ⟨r,.bad c⟩) 197)->HC prog 161 (.ptr i 0::[eVm v,i64 e]) H (boo false) (H.set i (.cells (cPW a ⟨r,.bad c⟩) 197)):=by
 refine zM func161 fun B=>?_
 refine zu2 ?_
 refine Ws<|zp4 ?_
 refine Wd rfl rfl (aW rfl (by kernel_rfl) rfl (by rfl)) ?_
 refine Wn<|Wf rfl (by rfl) ?_
 refine Wj<|Ws<|zp4 ?_
 refine Wd rfl rfl (aW rfl (by kernel_rfl) rfl (by rfl)) ?_
 refine Wn<|Wf rfl (by rfl) ?_
 refine Wj<|zp4 ?_
 refine Wd rfl rfl (aW rfl (by kernel_rfl) rfl (by rfl)) ?_
 refine zs1 ?_
 refine Wq<|aP rfl rfl ?_ ?_
 ·rfl
 rfl
def OK(r:bD)(v:VVm)(e:Int):∀(H:List Ob) (i:Nat),H[i]?=some (.cells (cPW a ⟨r,.halt⟩) 197)->HC prog 161 (.ptr i 0::[eVm v,i64 e]) H (boo false) (H.set i (.cells (cPW a ⟨r,.halt⟩) 197)):=by
 refine zM func161 fun B=>?_
 refine zu2 ?_
 refine Ws<|zp4 ?_
 refine Wd rfl rfl (aW rfl (by kernel_rfl) rfl (by rfl)) ?_
 refine Wn<|Wf rfl (by rfl) ?_
 refine Wj<|Ws<|zp4 ?_
 refine Wd rfl rfl (aW rfl (by kernel_rfl) rfl (by rfl)) ?_
 refine Wn<|Wf rfl (by rfl) ?_
 refine Wj<|zp4 ?_
 refine Wd rfl rfl (aW rfl (by kernel_rfl) rfl (by rfl)) ?_
 refine zs1 ?_
 refine Wq<|aP rfl rfl ?_ ?_
 ·rfl
 rfl
def qQ(k:PW)(v:VVm)(e:Int):∀(H:List Ob) (i:Nat),H[i]?=some (.cells (cPW a k) 197)->HC prog 161 (.ptr i 0::[eVm v,i64 e]) H (boo (ia (pOk k v e).err)) (H.set i (.cells (cPW a (pOk k v e)) 197)):=by
 intro H i hi
 obtain⟨r,err⟩:=k
 cases err with
 | ok =>
  by_cases he:e=0
  ·subst he;exact WH a r v H i hi
  have e1:pOk ⟨r,.ok⟩ v e=⟨r,.bad e⟩:=by unfold pOk;dsimp only;rw[if_neg he]
  rw[e1];exact Sy a r v e he H i hi
 | bad c=>exact VH a r v e c H i hi
 | halt=>exact OK a r v e H i hi
end
open Go.RowKit
section
variable {B : Nat -> Nat -> Prop} {n : Nat} {ops : Array Oper} {cl : Nat -> Nat} {i : Nat} {li : List Nat} {T : Nat -> PV} {H : List Ob} {K : (Nat -> PV) -> List Ob -> Prop} {o : Oper} {x : PV} {d : Option Tmp}
def zU{t:TypeId}{td:TD}{y:Operand}{off:Nat}{xs:List PV}{e:TypeId}(b:Nat)(k:WU prog B n ops cl li (eK d x T) H K)(h0:ops[i]?=some o:=by exact rfl)(hc:cl i=4+2*b:=by exact rfl)(hd:nfD n o.dst=some d:=by exact rfl)(hw:bs ops T o=some true:=by exact rfl)(ho:o.op=.load t y:=by exact rfl)(hx:opv T y=.ptr b off:=by exact rfl)(hb:H[b]?=some (.cells xs e):=by exact rfl)(hf:kz tys t=some td:=by exact rfl)(hr:kh td xs off=some x:=by exact rfl)(h9:Nat.blt b 900=true:=by exact rfl):WU prog B n ops cl (i::li) T H K :=
 PZ b h0 hc hd hw hb (fun _ h2=>co (lO tG hf) ho hx h2 hr) k h9
end
open Go.RowKit
def tf(l:List Str)(s:Str):Nat->Nat->Int
 | 0,_=>-1
 | m+1,k=>if s=l.getD k []then(k:Int)else tf l s m (k+1)
def yx(l:List Str)(s:Str):∀m k,k+m<=1000000->-1<=tf l s m k/\tf l s m k<=1000000
 | 0,k,_=>by unfold tf;omega
 | m+1,k,h=>by
  unfold tf
  split
  ·omega
  exact yx l s m (k+1) (by omega)
def M2{l:List Str}{s:Str}{k:Nat}(hk:k<l.length)(h:¬s=l.getD k []):tf l s (l.length-k) k=tf l s (l.length-(k+1)) (k+1):=by
 rw[show l.length-k=(l.length-(k+1))+1 by omega]
 show(if s=l.getD k []then _ else _)=_
 rw[if_neg h]
def Q5{l:List Str}{s:Str}{k:Nat}(hk:k<l.length)(h:s=l.getD k []):tf l s (l.length-k) k=(k:Int):=by
 rw[show l.length-k=(l.length-(k+1))+1 by omega]
 show(if s=l.getD k []then _ else _)=_
 rw[if_pos h]
def sZ(l:List Str)(s:Str)(hl:l.length<=1000000):af prog 113 [sq fa l,str s] (i64 (tf l s l.length 0)):=by
 refine zY func113 fun B=>?_
 refine zu1 ?_
 refine Ws<|zu3 ?_
 refine Wl ?_
 show W _ _ _ _ _ _ _
 refine cQ (fun(k:Nat)=>[(0,sq fa l),(1,str s),(4,i64 0),(7,i64 (l.length:Int)),(8,i64 (k:Int))]) (fun(k:Nat)=>[]) (fun(k:Nat)=>[]) (fun(k:Nat)=>k<=l.length/\tf l s l.length 0=tf l s (l.length-k) k) (fun(k:Nat)=>l.length-k) (0) (by exact⟨Nat.zero_le _,rfl⟩) [] ?_ ?_
 ·exact cV
 intro k hk
 refine zu1 ?_
 refine Ws<|Wi rfl (fun hi1=>?_) (fun hi1=>?_)
 ·have hlt:k<l.length:=by have:=oT hi1;omega
  refine Wj<|Ws<|Wl<|zu2 ?_
  refine zp3 ?_
  refine Wv tG rfl rfl rfl (by omega) (iN fa 1 (fun _=>rfl) [] (by omega)) ?_
  refine zy2 ?_
  refine zq 16 ?_
  refine Wn<|Wi rfl (fun hi2=>?_) (fun hi2=>?_)
  ·have q:s=l.getD k []:=oT hi2
   refine zu2 ?_
   refine zR ?_
   rw[hk.2,Q5 hlt q];rfl
  have q:¬s=l.getD k []:=oF hi2
  refine Wj<|aa rfl ?_
  refine zs2 ?_
  exact⟨k+1,[],(by exact⟨by omega,hk.2.trans (M2 hlt q)⟩),(by omega),cV⟩
 have hge:l.length-k=0:=by have:=oF hi1;omega
 refine aU ?_
 refine zu1 ?_
 refine zR ?_
 rw[hk.2,hge];rfl
def iG{a k:Str}{ks:List fv}{x:PV}{xs:List PV}{z:PV}:gJ (.s a::ks) (x::xs) (.s k) z=if k=a then(x,true)else gJ ks xs (.s k) z:=by
 rw[gJ]
 by_cases h:k=a
 ·subst h;rw[if_pos rfl,if_pos rfl]
 rw[if_neg (fun e=>h (fv.s.inj e).symm),if_neg h]
def SR{k:fv}{z:PV}:gJ [] [] k z=(z,false):=by unfold gJ;rfl
end Go.Proofs.YtjcminooghmpeaaGreatDoor
