import Derived.Stop.IfaceNil
import Derived.Test.YtjcminooghmpeaaGreatDoorPk4
set_option linter.all false
set_option maxRecDepth 100000
set_option maxHeartbeats 40000000
open Go.Proofs.Tryz
namespace Go.Proofs.YtjcminooghmpeaaGreatDoor
open Go.RowKit
inductive Op2 where
 | quo
 | rem
 | add
 | sub
 | mul
 | and
 | or
 | xor
 | shl
 | shr
 | min
 | max
 | eq
 | ne
 | lt
 | gt
 | le
 | ge
 | ult
 | ugt
deriving DecidableEq
def TK:List (Str×Op2):=[([47],.quo),([77,79,68],.rem),([43],.add),([45],.sub),([42],.mul),([65,78,68],.and),([79,82],.or),([88,79,82],.xor),([76,83,72,73,70,84],.shl),([82,83,72,73,70,84],.shr),([77,73,78],.min),([77,65,88],.max),([61],.eq),([60,62],.ne),([60],.lt),([62],.gt),([60,61],.le),([62,61],.ge),([85,60],.ult),([85,62],.ugt)]
def op2(s:Str):Option Op2:=TK.lookup s
def B6(a b:Int):Int:=wrap64 ((BitVec.ofInt 64 a &&& BitVec.ofInt 64 b).toNat:Int)
def orS(a b:Int):Int:=wrap64 ((BitVec.ofInt 64 a ||| BitVec.ofInt 64 b).toNat:Int)
def B0(a b:Int):Int:=wrap64 ((BitVec.ofInt 64 a ^^^ BitVec.ofInt 64 b).toNat:Int)
def qG(a by_:Int)(up:Bool):Int:=if 63<U by_ then 0 else if up then S (U a*2 ^ U by_%18446744073709551616)else S (U a/2 ^ U by_)
def two(o:Op2)(a b:Int):Int×Int:=match o with
 | .quo=>((nG a b).1,(nG a b).2.2)
 | .rem=>((nG a b).2.1,(nG a b).2.2)
 | .add=>(wrap64 (a+b),0)
 | .sub=>(wrap64 (a-b),0)
 | .mul=>(wrap64 (a*b),0)
 | .and=>(B6 a b,0)
 | .or=>(orS a b,0)
 | .xor=>(B0 a b,0)
 | .shl=>(qG a b true,0)
 | .shr=>(qG a b false,0)
 | .min=>(if b<a then b else a,0)
 | .max=>(if a<b then b else a,0)
 | .eq=>(fH (decide (a=b)),0)
 | .ne=>(fH (!decide (a=b)),0)
 | .lt=>(fH (decide (a<b)),0)
 | .gt=>(fH (decide (b<a)),0)
 | .le=>(fH (decide (a<=b)),0)
 | .ge=>(fH (decide (b<=a)),0)
 | .ult=>(fH (decide (U a<U b)),0)
 | .ugt=>(fH (decide (U b<U a)),0)
def mi(name:Str)(a b:Int):Int×Bool×Int:=match op2 name with
 | some o=>((two o a b).1,true,(two o a b).2)
 | none=>(0,false,0)
def xz(r:Int×Bool×Int):PV:=kg (i64 r.1) (boo r.2.1) (i64 r.2.2)
@[simp] theorem an9 (r : Int × Bool × Int) : aU (xz r) := by simp [xz]
def Yv{name:Str}{a b:Int}(h:op2 name=none):mi name a b=(0,false,0):=by unfold mi;rw[h]
def QV{s:Str}(h0:s≠[47])(h1:s≠[77,79,68])(h2:s≠[43])(h3:s≠[45])(h4:s≠[42])(h5:s≠[65,78,68])(h6:s≠[79,82])(h7:s≠[88,79,82])(h8:s≠[76,83,72,73,70,84])(h9:s≠[82,83,72,73,70,84])(h10:s≠[77,73,78])(h11:s≠[77,65,88])(h12:s≠[61])(h13:s≠[60,62])(h14:s≠[60])(h15:s≠[62])(h16:s≠[60,61])(h17:s≠[62,61])(h18:s≠[85,60])(h19:s≠[85,62]):op2 s=none:=by
 unfold op2 TK
 simp only[List.lookup]
 simp[beq_eq_false_iff_ne.2 h0,beq_eq_false_iff_ne.2 h1,beq_eq_false_iff_ne.2 h2,beq_eq_false_iff_ne.2 h3,beq_eq_false_iff_ne.2 h4,beq_eq_false_iff_ne.2 h5,beq_eq_false_iff_ne.2 h6,beq_eq_false_iff_ne.2 h7,beq_eq_false_iff_ne.2 h8,beq_eq_false_iff_ne.2 h9,beq_eq_false_iff_ne.2 h10,beq_eq_false_iff_ne.2 h11,beq_eq_false_iff_ne.2 h12,beq_eq_false_iff_ne.2 h13,beq_eq_false_iff_ne.2 h14,beq_eq_false_iff_ne.2 h15,beq_eq_false_iff_ne.2 h16,beq_eq_false_iff_ne.2 h17,beq_eq_false_iff_ne.2 h18,beq_eq_false_iff_ne.2 h19]
def Hn(name:Str)(a b:Int):Int×Bool:=if name=[61]then((two .eq a b).1,true)else if name=[60,62]then((two .ne a b).1,true)else if name=[62]then((two .gt a b).1,true)else if name=[60]then((two .lt a b).1,true)else if name=[60,61]then((two .le a b).1,true)else if name=[62,61]then((two .ge a b).1,true)else if name=[85,62]then((two .ugt a b).1,true)else if name=[85,60]then((two .ult a b).1,true)else(0,false)
def Qk(name:Str)(a b:Int):ab prog 274 [str name,i64 a,i64 b] (kf (Hn name a b)):=by
 refine zY func274 fun B=>?_
 refine zu2 ?_
 refine Ws<|zu1 ?_
 refine Wl<|Ws<|Wl<|Ws<|Wl<|Ws<|Wl<|Ws<|Wl<|Ws<|Wl<|Ws<|Wl<|Ws<|Wl<|Ws<|Wl ?_
 iterate 2 refine Ws ?_
 refine zp1 ?_
 refine zq 10 ?_
 refine zs1 ?_
 refine Wi rfl (fun hi1=>?_) (fun hi1=>?_)
 ·obtain rfl:=oT hi1
  refine bi ?_
  refine Ws<|zp3 ?_
  refine zc rfl func358 ((lg _) _) ?_
  refine zs2 ?_
  refine zR ?_
  refine congrArg kf (show(fH _,true)=((two .eq a b).1,true) from ?_)
  simp only[two]<;>rfl
 refine Wj<|Ws<|zp1 ?_
 refine zq 12 ?_
 refine zs1 ?_
 refine Wi rfl (fun hi2=>?_) (fun hi2=>?_)
 ·obtain rfl:=oT hi2
  refine bi ?_
  refine Ws<|zp3 ?_
  refine zc rfl func358 ((lg _) _) ?_
  refine zs2 ?_
  refine zR ?_
  refine congrArg kf (show(fH _,true)=((two .ne a b).1,true) from ?_)
  simp only[two]<;>rfl
 refine Wj<|Ws<|zp1 ?_
 refine zq 14 ?_
 refine zs1 ?_
 refine Wi rfl (fun hi3=>?_) (fun hi3=>?_)
 ·obtain rfl:=oT hi3
  refine bi ?_
  refine aa rfl ?_
  refine zs4 ?_
  refine Ws<|zp3 ?_
  refine zc rfl func358 ((lg _) _) ?_
  refine zs2 ?_
  refine zR ?_
  refine congrArg kf (show(fH _,true)=((two .gt a b).1,true) from ?_)
  simp only[two]<;>first|rfl|(congr 2;done)|(congr 2;rw[Bool.eq_iff_iff]<;>simp)
 refine Wj<|Ws<|zp1 ?_
 refine zq 16 ?_
 refine zs1 ?_
 refine Wi rfl (fun hi4=>?_) (fun hi4=>?_)
 ·obtain rfl:=oT hi4
  refine bi ?_
  refine Ws<|zp3 ?_
  refine zc rfl func358 ((lg _) _) ?_
  refine zs2 ?_
  refine zR ?_
  refine congrArg kf (show(fH _,true)=((two .lt a b).1,true) from ?_)
  simp only[two]<;>first|rfl|(congr 2;done)|(congr 2;rw[Bool.eq_iff_iff]<;>simp)
 refine Wj<|Ws<|zp1 ?_
 refine zq 18 ?_
 refine zs1 ?_
 refine Wi rfl (fun hi5=>?_) (fun hi5=>?_)
 ·obtain rfl:=oT hi5
  refine bi ?_
  refine aa rfl ?_
  refine zs4 ?_
  refine Ws<|zp3 ?_
  refine zc rfl func358 ((lg _) _) ?_
  refine zs2 ?_
  refine zR ?_
  refine congrArg kf (show(fH _,true)=((two .le a b).1,true) from ?_)
  simp only[two]<;>first|rfl|(congr 2;done)|(congr 2;rw[Bool.eq_iff_iff]<;>simp)
 refine Wj<|Ws<|zp1 ?_
 refine zq 20 ?_
 refine zs1 ?_
 refine Wi rfl (fun hi6=>?_) (fun hi6=>?_)
 ·obtain rfl:=oT hi6
  refine bi ?_
  refine Ws<|zp3 ?_
  refine zc rfl func358 ((lg _) _) ?_
  refine zs2 ?_
  refine zR ?_
  refine congrArg kf (show(fH _,true)=((two .ge a b).1,true) from ?_)
  simp only[two]<;>first|rfl|(congr 2;done)|(congr 2;rw[Bool.eq_iff_iff]<;>simp)
 refine Wj<|Ws<|zp1 ?_
 refine zq 22 ?_
 refine zs1 ?_
 refine Wi rfl (fun hi7=>?_) (fun hi7=>?_)
 ·obtain rfl:=oT hi7
  refine bi ?_
  refine aa rfl ?_
  refine zs4 ?_
  refine Ws<|zp2 ?_
  refine zc rfl func359 ((Fl _ _) _) ?_
  refine zc rfl func358 ((lg _) _) ?_
  refine zs2 ?_
  refine zR ?_
  refine congrArg kf (show(fH _,true)=((two .ugt a b).1,true) from ?_)
  simp only[two]<;>first|rfl|(congr 2;done)|(congr 2;rw[Bool.eq_iff_iff]<;>simp)
 refine Wj<|zp1 ?_
 refine zq 24 ?_
 refine zs1 ?_
 refine Wi rfl (fun hi8=>?_) (fun hi8=>?_)
 ·obtain rfl:=oT hi8
  refine bi ?_
  refine Ws<|zp2 ?_
  refine zc rfl func359 ((Fl _ _) _) ?_
  refine zc rfl func358 ((lg _) _) ?_
  refine zs2 ?_
  refine zR ?_
  refine congrArg kf (show(fH _,true)=((two .ult a b).1,true) from ?_)
  simp only[two]<;>first|rfl|(congr 2;done)|(congr 2;rw[Bool.eq_iff_iff]<;>simp)
 refine Wj<|bi ?_
 refine zu2 ?_
 refine zR ?_
 rw[Hn,if_neg (oF hi1),if_neg (oF hi2),if_neg (oF hi3),if_neg (oF hi4),if_neg (oF hi5),if_neg (oF hi6),if_neg (oF hi7),if_neg (oF hi8)];rfl
def K0(x lo hi:Int):ab prog 294 [i64 x,i64 lo,i64 hi] (boo (decide (U (wrap64 (x-lo))<U (wrap64 (hi-lo))))):=by
 refine zY func294 fun B=>?_
 refine zu1 ?_
 refine zp5 ?_
 refine z1 ?_
 refine zc rfl func359 ((Fl _ _) _) ?_
 refine zs1 ?_
 refine zR ?_
 simp only[bU];rfl
def XB{t:TypeId}{x y:Operand}{a b:Int}(h:0<=b):JT .shl t x y (.int .u64 a) (.int .u64 b)=some (.int .u64 (IntKind.u64.wrap (a*2 ^ min b.toNat 64))):=by
 have h1:¬b<0:=by omega
 simp only[JT,eqGuard,binOp,Op.shift,if_neg h1];rfl
def W9{t:TypeId}{x y:Operand}{a b:Int}(h:0<=b):JT .shr t x y (.int .u64 a) (.int .u64 b)=some (.int .u64 (a.fdiv (2 ^ min b.toNat 64))):=by
 have h1:¬b<0:=by omega
 simp only[JT,eqGuard,binOp,Op.shift,if_neg h1];rfl
def pvU(x:Int):PV.val (.int .u64 (IntKind.u64.wrap x))=.val (.int .u64 (U x:Int)):=by rw[kV]
def aw0(x:Int):U x<18446744073709551616:=by unfold U;omega
def UP(a b:Int):IntKind.i64.wrap (IntKind.u64.wrap ((U a:Int)*2 ^ min ((U b:Int)).toNat 64))=qG a b true:=by
 unfold qG
 rw[Int.toNat_natCast,bU,IntKind.wrap_u64]
 by_cases h:63<U b
 ·rw[if_pos h,Nat.min_eq_right (by omega)]
  have e:(2:Int) ^ 64=18446744073709551616:=by decide
  rw[e,Int.mul_emod_left];unfold wrap64;omega
 rw[if_neg h,Nat.min_eq_left (by omega),if_pos rfl]
 unfold S
 congr 1
def Ve(a b:Int):IntKind.i64.wrap ((U a:Int).fdiv (2 ^ min ((U b:Int)).toNat 64))=qG a b false:=by
 unfold qG
 have hp:∀n:Nat,(0:Int)<=2 ^ n:=fun n=>Int.pow_nonneg (by omega)
 rw[Int.toNat_natCast,bU,Int.fdiv_eq_ediv_of_nonneg _ (hp _)]
 by_cases h:63<U b
 ·rw[if_pos h,Nat.min_eq_right (by omega)]
  have e:(2:Int) ^ 64=18446744073709551616:=by decide
  have:=aw0 a
  rw[e,Int.ediv_eq_zero_of_lt (by omega) (by omega)];unfold wrap64;omega
 rw[if_neg h,Nat.min_eq_left (by omega),if_neg (by simp)]
 unfold S
 congr 1
def Cw(a by_:Int)(up:Bool):ab prog 273 [i64 a,i64 by_,boo up] (i64 (qG a by_ up)):=by
 refine zY func273 fun B=>?_
 refine zu1 ?_
 refine zp2 ?_
 refine Wa 9 rfl (pvU by_) ?_
 refine zs1 ?_
 refine Ws<|zu1 ?_
 refine Wi rfl (fun hi1=>?_) (fun hi1=>?_)
 ·obtain rfl:=hi1
  refine zp2 ?_
  refine Wa 12 rfl (pvU a) ?_
  refine z1 ?_
  refine Wd rfl rfl (zP rfl rfl rfl (XB (by omega))) ?_
  refine zs2 ?_
  refine zR ?_
  exact congrArg i64 (UP a by_)
 obtain rfl:=hi1
 refine Wj<|zp2 ?_
 refine Wa 17 rfl (pvU a) ?_
 refine z1 ?_
 refine Wd rfl rfl (zP rfl rfl rfl (W9 (by omega))) ?_
 refine zs2 ?_
 refine zR ?_
 exact congrArg i64 (Ve a by_)
def qI(a b:Int):mi [47] a b=((two .quo a b).1,true,(two .quo a b).2):=rfl
def qP(a b:Int):mi [77,79,68] a b=((two .rem a b).1,true,(two .rem a b).2):=rfl
def qV(a b:Int):mi [43] a b=((two .add a b).1,true,(two .add a b).2):=rfl
def qX(a b:Int):mi [45] a b=((two .sub a b).1,true,(two .sub a b).2):=rfl
def rH(a b:Int):mi [42] a b=((two .mul a b).1,true,(two .mul a b).2):=rfl
def rJ(a b:Int):mi [65,78,68] a b=((two .and a b).1,true,(two .and a b).2):=rfl
def vW(a b:Int):mi [79,82] a b=((two .or a b).1,true,(two .or a b).2):=rfl
def ro(a b:Int):mi [88,79,82] a b=((two .xor a b).1,true,(two .xor a b).2):=rfl
def qL(a b:Int):mi [76,83,72,73,70,84] a b=((two .shl a b).1,true,(two .shl a b).2):=rfl
def rm(a b:Int):mi [82,83,72,73,70,84] a b=((two .shr a b).1,true,(two .shr a b).2):=rfl
def rU(a b:Int):mi [77,73,78] a b=((two .min a b).1,true,(two .min a b).2):=rfl
def qY(a b:Int):mi [77,65,88] a b=((two .max a b).1,true,(two .max a b).2):=rfl
def SE{s:Str}{a b:Int}(h0:s≠[47])(h1:s≠[77,79,68])(h2:s≠[43])(h3:s≠[45])(h4:s≠[42])(h5:s≠[65,78,68])(h6:s≠[79,82])(h7:s≠[88,79,82])(h8:s≠[76,83,72,73,70,84])(h9:s≠[82,83,72,73,70,84])(h10:s≠[77,73,78])(h11:s≠[77,65,88]):xz (mi s a b)=kg (i64 (Hn s a b).1) (boo (Hn s a b).2) (i64 0):=by
 unfold Hn
 by_cases h12:s=[61]
 ·subst h12;rfl
 rw[if_neg h12]
 by_cases h13:s=[60,62]
 ·subst h13;rfl
 rw[if_neg h13]
 by_cases h15:s=[62]
 ·subst h15;rfl
 rw[if_neg h15]
 by_cases h14:s=[60]
 ·subst h14;rfl
 rw[if_neg h14]
 by_cases h16:s=[60,61]
 ·subst h16;rfl
 rw[if_neg h16]
 by_cases h17:s=[62,61]
 ·subst h17;rfl
 rw[if_neg h17]
 by_cases h19:s=[85,62]
 ·subst h19;rfl
 rw[if_neg h19]
 by_cases h18:s=[85,60]
 ·subst h18;rfl
 rw[if_neg h18]
 rw[Yv (QV h0 h1 h2 h3 h4 h5 h6 h7 h8 h9 h10 h11 h12 h13 h14 h15 h16 h17 h18 h19)];rfl
def XJ(name:Str)(a b:Int)(hb:Fit b):ab prog 242 [str name,i64 a,i64 b] (xz (mi name a b)):=by
 refine zY func242 fun B=>?_
 refine zu3 ?_
 refine Ws<|zu1 ?_
 refine Wl<|Ws<|zp1 ?_
 refine zq 16 ?_
 refine zs1 ?_
 refine Wi rfl (fun hi1=>?_) (fun hi1=>?_)
 ·refine Wj<|Wt rfl hi1 ?_
  refine zp2 ?_
  refine zc rfl func272 ((RF a b hb) _) ?_
  refine zy5 ?_
  refine zs2 ?_
  refine Ws<|zp2 ?_
  refine zq 26 ?_
  refine Wn<|Wi rfl (fun hi2=>?_) (fun hi2=>?_)
  ·refine aa rfl ?_
   refine zs2 ?_
   refine zu5 ?_
   refine zR ?_
   (exfalso;(try simp only[dnL]at *);simp_all;done)
  refine Wj<|zu5 ?_
  refine zR ?_
  ((try simp only[dnL]at *);simp_all[xz,kg,i64,boo,bU,two,B6,orS,B0,IntKind.bits,qI,qP,qV,qX,rH,rJ,vW,ro,qL,rm,rU,qY];done)
 refine aa rfl ?_
 refine z1 ?_
 refine zq 17 ?_
 refine zs1 ?_
 refine Wi rfl (fun hi3=>?_) (fun hi3=>?_)
 ·refine zp2 ?_
  refine zc rfl func272 ((RF a b hb) _) ?_
  refine zy5 ?_
  refine zs2 ?_
  refine Ws<|zp2 ?_
  refine zq 26 ?_
  refine Wn<|Wi rfl (fun hi2=>?_) (fun hi2=>?_)
  ·refine aa rfl ?_
   refine zs2 ?_
   refine zu5 ?_
   refine zR ?_
   ((try simp only[dnL]at *);simp_all[xz,kg,i64,boo,bU,two,B6,orS,B0,IntKind.bits,qI,qP,qV,qX,rH,rJ,vW,ro,qL,rm,rU,qY];done)
  refine Wj<|zu5 ?_
  refine zR ?_
  (exfalso;(try simp only[dnL]at *);simp_all;done)
 refine zp1 ?_
 refine zq 31 ?_
 refine zs1 ?_
 refine Wi rfl (fun hi4=>?_) (fun hi4=>?_)
 ·refine zp5 ?_
  refine zs1 ?_
  refine zR ?_
  ((try simp only[dnL]at *);simp_all[xz,kg,i64,boo,bU,two,B6,orS,B0,IntKind.bits,qI,qP,qV,qX,rH,rJ,vW,ro,qL,rm,rU,qY];done)
 refine zp1 ?_
 refine zq 36 ?_
 refine zs1 ?_
 refine Wi rfl (fun hi5=>?_) (fun hi5=>?_)
 ·refine zp5 ?_
  refine zs1 ?_
  refine zR ?_
  ((try simp only[dnL]at *);simp_all[xz,kg,i64,boo,bU,two,B6,orS,B0,IntKind.bits,qI,qP,qV,qX,rH,rJ,vW,ro,qL,rm,rU,qY];done)
 refine zp1 ?_
 refine zq 41 ?_
 refine zs1 ?_
 refine Wi rfl (fun hi6=>?_) (fun hi6=>?_)
 ·refine zp5 ?_
  refine zs1 ?_
  refine zR ?_
  ((try simp only[dnL]at *);simp_all[xz,kg,i64,boo,bU,two,B6,orS,B0,IntKind.bits,qI,qP,qV,qX,rH,rJ,vW,ro,qL,rm,rU,qY];done)
 refine zp1 ?_
 refine zq 46 ?_
 refine zs1 ?_
 refine Wi rfl (fun hi7=>?_) (fun hi7=>?_)
 ·refine zp5 ?_
  refine zs1 ?_
  refine zR ?_
  ((try simp only[dnL]at *);subst_vars;exact congrArg (fun z=>kg (i64 z) (boo true) (i64 0)) (bU _))
 refine zp1 ?_
 refine zq 51 ?_
 refine zs1 ?_
 refine Wi rfl (fun hi8=>?_) (fun hi8=>?_)
 ·refine zp5 ?_
  refine zs1 ?_
  refine zR ?_
  ((try simp only[dnL]at *);subst_vars;exact congrArg (fun z=>kg (i64 z) (boo true) (i64 0)) (bU _))
 refine zp1 ?_
 refine zq 56 ?_
 refine zs1 ?_
 refine Wi rfl (fun hi9=>?_) (fun hi9=>?_)
 ·refine zp5 ?_
  refine zs1 ?_
  refine zR ?_
  ((try simp only[dnL]at *);subst_vars;exact congrArg (fun z=>kg (i64 z) (boo true) (i64 0)) (bU _))
 refine Ws<|zp1 ?_
 refine zq 61 ?_
 refine zs1 ?_
 refine Wi rfl (fun hi10=>?_) (fun hi10=>?_)
 ·refine Wj<|Wt rfl hi10 ?_
  refine zp4 ?_
  refine zq 66 ?_
  refine zc rfl func273 ((Cw a b _) _) ?_
  refine zs3 ?_
  refine zR ?_
  ((try simp only[dnL]at *);simp_all[xz,kg,i64,boo,bU,two,B6,orS,B0,IntKind.bits,qI,qP,qV,qX,rH,rJ,vW,ro,qL,rm,rU,qY];done)
 refine aa rfl ?_
 refine z1 ?_
 refine zq 62 ?_
 refine zs1 ?_
 refine Wi rfl (fun hi11=>?_) (fun hi11=>?_)
 ·refine zp4 ?_
  refine zq 66 ?_
  refine zc rfl func273 ((Cw a b _) _) ?_
  refine zs3 ?_
  refine zR ?_
  ((try simp only[dnL]at *);simp_all[xz,kg,i64,boo,bU,two,B6,orS,B0,IntKind.bits,qI,qP,qV,qX,rH,rJ,vW,ro,qL,rm,rU,qY];done)
 refine zp1 ?_
 refine zq 69 ?_
 refine zs1 ?_
 refine Wi rfl (fun hi12=>?_) (fun hi12=>?_)
 ·refine zp5 ?_
  refine zs1 ?_
  refine zR ?_
  ((try simp only[dnL]at *);simp_all[xz,kg,i64,boo,bU,two,B6,orS,B0,IntKind.bits,qI,qP,qV,qX,rH,rJ,vW,ro,qL,rm,rU,qY];done)
 refine zp1 ?_
 refine zq 74 ?_
 refine zs1 ?_
 refine Wi rfl (fun hi13=>?_) (fun hi13=>?_)
 ·refine zp5 ?_
  refine zs1 ?_
  refine zR ?_
  ((try simp only[dnL]at *);simp_all[xz,kg,i64,boo,bU,two,B6,orS,B0,IntKind.bits,qI,qP,qV,qX,rH,rJ,vW,ro,qL,rm,rU,qY];done)
 refine Wj<|zp3 ?_
 refine zc rfl func274 ((Qk name a b) _) ?_
 refine zs5 ?_
 refine zu5 ?_
 refine zR ?_
 ((try simp only[dnL]at *);exact(SE (by assumption) (by assumption) (by assumption) (by assumption) (by assumption) (by assumption) (by assumption) (by assumption) (by assumption) (by assumption) (by assumption) (by assumption)).symm)
def SO(p:d8)(n:Int)(hp:p.b.length<=1000000):ab prog 343 [yP p,i64 n] (M9 (oZ p n)):=by
 refine zY func343 fun B=>?_
 refine zu3 ?_
 refine Ws<|zu2 ?_
 refine Wi rfl (fun hi1=>?_) (fun hi1=>?_)
 ·have h0:0<=n:=by(try simp only[dnL]at *);omega
  refine zu3 ?_
  refine zR ?_
  rw[oZ,if_pos h0];rfl
 have h0:¬0<=n:=by(try simp only[dnL]at *);omega
 refine Wj<|zp1 ?_
 refine zc rfl func342 ((Bo p 45 hp) _) ?_
 refine zs4 ?_
 refine zR ?_
 rw[oZ,if_neg h0];rfl
def GP(p:d8)(lo hi base:Int):d8×Int:=gX p (lZ (iH lo (iH hi 0 base).2.1 base).2.1)
def aJ(p:d8)(lo hi base:Int):d8×Int×Int×Int :=
 if base<2\/36<base then(p,lo,hi,-24)else
  if (GP p lo hi base).2=0 then((GP p lo hi base).1,(iH lo (iH hi 0 base).2.1 base).1,(iH hi 0 base).1,0)else(p,lo,hi,(GP p lo hi base).2)
def Zr(r:d8×Int×Int×Int):PV:=Pg (yP r.1) (i64 r.2.1) (i64 r.2.2.1) (i64 r.2.2.2)
@[simp] theorem am8 (r : d8 × Int × Int × Int) : aU (Zr r) := by simp [Zr]
def Nh(n:Int):IntKind.i64.wrap (lZ n)=lZ n:=by rw[bU];unfold lZ wrap64;split<;>(try split)<;>omega
def Df(p:d8)(lo hi base:Int)(hp:p.b.length<=1000000):ab prog 339 [yP p,i64 lo,i64 hi,i64 base] (Zr (aJ p lo hi base)):=by
 refine zY func339 fun B=>?_
 refine zu5 ?_
 refine Ws<|zp3 ?_
 refine Wb 22 rfl (fun hg1=>?_) (fun hg1=>?_)
 ·refine z6 ?_
  refine z6 ?_
  refine zs1 ?_
  refine Wt rfl rfl ?_
  refine zp5 ?_
  refine zs2 ?_
  refine zR ?_
  rw[aJ,if_pos (by(try simp only[dnL]at *);omega)];rfl
 refine zs3 ?_
 refine Wi rfl (fun hi1=>?_) (fun hi1=>?_)
 ·have hb:base<2\/36<base:=by(try simp only[dnL]at *);omega
  refine zp5 ?_
  refine zs2 ?_
  refine zR ?_
  rw[aJ,if_pos hb];rfl
 have hb:¬(base<2\/36<base):=by(try simp only[dnL]at *);omega
 refine Wj<|zp2 ?_
 refine zc rfl func287 ((JJ hi 0 base) _) ?_
 refine zy5 ?_
 refine zs2 ?_
 refine zp3 ?_
 refine zc rfl func287 ((JJ lo _ base) _) ?_
 refine zy5 ?_
 refine zs2 ?_
 refine Ws<|ax [1,0,0,0,0,0,0,0,2,3,0] [0,1,2,3,4,5,6,7,8,9,10] mG rfl (by kernel_rfl) ?_
 refine z5 ?_
 refine z3 ?_
 refine Xc rfl rfl rfl rfl (fun _=>dC rfl func379 rfl rfl ((Vc _) _)) ?_
 refine z3 ?_
 refine Xa 48 rfl (congrArg (fun z=>PV.val (Value.int .i64 z)) (Nh _)) ?_
 refine Xc rfl rfl rfl rfl (fun _=>dC rfl func342 rfl rfl ((Bo p _ hp) _)) ?_
 iterate 3 refine z3 ?_
 refine vp tG rfl rfl rfl rfl rfl trivial rfl ?_
 refine dH tG rfl rfl rfl rfl rfl trivial ?_
 refine z3 ?_
 refine aQ ?_
 refine Ws<|zu2 ?_
 refine Wi rfl (fun hi2=>?_) (fun hi2=>?_)
 ·have h0:¬(GP p lo hi base).2=0:=by(try simp only[dnL]at *);exact hi2
  refine zp5 ?_
  refine zs3 ?_
  refine zR ?_
  rw[aJ,if_neg hb,if_neg h0];rfl
 have h0:(GP p lo hi base).2=0:=by(try simp only[dnL]at *);exact hi2
 refine Wj<|zp5 ?_
 refine zs2 ?_
 refine zR ?_
 rw[aJ,if_neg hb,if_pos h0];rfl
def lJ(p:d8):List UInt8×Int:=if p.on then(p.b.reverse,0)else([],-17)
def O4(n:Nat)(h:n<=1000000):ab prog 373 [.val (.int .u64 1),.val (.int .u64 n)] (iA (.val (.int .u64 0)) (.val (.int .u64 n))):=by
 refine d9 (P:=prog) (args:=[.int .u64 1,.int .u64 n]) (v:=.tuple #[.int .u64 0,.int .u64 n]) (fun c=>?_) (fun w=>?_)
 ·unfold iA Rep
  exact⟨[_,_],rfl,aj.2 ⟨aq _ _,aj.2 ⟨aq _ _,az.2 rfl⟩⟩⟩
 refine Calls.mono (Tryz.bits_Mul 1 n (by omega) (by omega) w) ?_
 rintro e w' ⟨rfl,rfl⟩
 refine⟨?_,ba.refl _⟩
 rw[Nat.one_mul,Nat.div_eq_of_lt (by omega),Nat.mod_eq_of_lt (by omega)];rfl
def Yi{n:Nat}(h:n<=1000000):PV.val (.int .u64 (IntKind.u64.wrap (n:Int)))=.val (.int .u64 (n:Int)):=by
 exact congrArg (fun z=>PV.val (Value.int .u64 z)) (by rw[IntKind.wrap_u64];omega)
def Vq{n:Nat}(h:n<=1000000):PV.val (.int .i64 (IntKind.i64.wrap (n:Int)))=.val (.int .i64 (n:Int)):=by
 exact congrArg (fun z=>PV.val (Value.int .i64 z)) (by rw[bU];unfold wrap64;omega)
def dL(c:UInt8)(n k:Nat):List PV:=(List.replicate k c).flatMap aL++List.replicate (n-k) .any
def iv{c:UInt8}{n k:Nat}(h:k<=n):(dL c n k).length=n:=by
 unfold dL
 rw[List.length_append,al aL 1 (fun _=>rfl)]
 simp;omega
def xO(c:UInt8)(k:Nat):(List.replicate k c).flatMap aL=List.replicate k (.val (.int .u8 (c.toNat:Int))):=by
 rw[List.flatMap_replicate]
 induction k with
 | zero=>rfl
 | succ k ih=>rw[List.replicate_succ,List.flatten_cons,ih];rfl
def vE{c:UInt8}{n k q:Nat}(h:k+q<=n):cD (dL c n k) k ((List.replicate q c).flatMap aL)=dL c n (k+q):=by
 unfold dL cD
 rw[xO,xO,xO,List.take_append_of_le_length (by simp),List.take_of_length_le (by simp),List.drop_append,List.length_replicate,List.length_replicate,List.drop_of_length_le (by simp),List.nil_append,List.drop_replicate,List.replicate_append_replicate]
 congr 2;omega
def rq{c:UInt8}{n k q:Nat}(h:q<=k):((dL c n k).drop 0).take q=(List.replicate q c).flatMap aL:=by
 unfold dL
 rw[xO,xO,List.drop_zero,List.take_append_of_le_length (by simpa using h),List.take_replicate,Nat.min_eq_left h]
def wY(c:UInt8)(n:Nat):List.replicate n .any=dL c n 0:=by simp[dL]
def W5:Tryz.f388.body.isNone=true:=by kernel_rfl
def Vo:Extern.findNext Tryz.f388=none:=by kernel_rfl
def WH:Extern.find Tryz.f388=some (Extern.BytealgMakeNoZero.makeNoZero #[3] #[22]):=by kernel_rfl
def VY : (Tryz.f388.name == "runtime.NumGoroutine") = false := by kernel_rfl
def MW{B:Nat->Nat->Prop}{o:Oper}{T:Nat->PV}{H:List Ob}{x:Operand}{ats:Array TypeId}{m:Nat}(ho:o.op=.call {callee:=.value (.func 388),args:=#[x],argTypes:=ats})(hx:opv T x=.val (.int .i64 (m:Int)))(hm:m<=281474976710656):
  bK prog B o T H (.arw H.length 0 m) (H++[.cells (List.replicate m .any) 5]) :=
 yG ho func388 VY W5 Vo WH (lO (G:=tys) (t:=22) tG rfl) rfl hx hm
def iw(n:Nat):Nat:=if 8192<n then 8192 else n
def Oq{n:Nat}(h:n≠0):0<iw n:=by unfold iw;split<;>omega
def MM{n:Nat}(h:n≠0):PV.val (.int .i64 ((min 1 n:Nat):Int))=.val (.int .i64 ((1:Nat):Int)):=by rw[Nat.min_eq_left (by omega)]
def DI{c:UInt8}{n:Nat}{e:TypeId}(h:n≠0):[Ob.cells (dL c n 1) e]=[Ob.cells (cD (dL c n 0) 0 ((List.flatMap aL [c]).take (min 1 n*1))) e]:=by
 rw[Nat.min_eq_left (by omega)]
 have:=vE (c:=c) (n:=n) (k:=0) (q:=1) (by omega)
 rw[Nat.zero_add]at this
 rw[<-this];rfl
def L6{k q:Nat}:PV.val (.int .i64 (if (q:Int)<(k:Int)then(q:Int)else(k:Int)))=.val (.int .i64 ((min k q:Nat):Int)) :=
 congrArg (fun z=>PV.val (Value.int .i64 z)) (by split<;>omega)
@[simp] theorem WK (c : UInt8) (n k : Nat) : aw (dL c n k) := by
 unfold dL
 refine fW (bv oM _) ?_
 induction (n-k)with
 | zero=>trivial
 | succ m ih=>rw[List.replicate_succ];exact⟨trivial,ih⟩
def IZ{n k:Nat}(h:k<n):PV.arr 0 (if n=(k:Int).toNat then 0 else 0+(k:Int).toNat*1) (n-(k:Int).toNat) (n-(k:Int).toNat)=.arr 0 k (n-k) (n-k):=by
 rw[Int.toNat_natCast,if_neg (by omega)];congr 1;omega
def Hr{n q:Nat}:PV.arr 0 (if n=0 then 0 else 0+0*1) ((q:Int).toNat-0) (n-0)=.arr 0 0 q n:=by
 simp
def Bk{c:UInt8}{n k q:Nat}(h:q<=k):∀z∈((dL c n k).drop 0).take q,okC z=true:=by
 rw[rq h,xO]
 intro z hz
 rw[List.eq_of_mem_replicate hz];rfl
def FV{c:UInt8}{n k q:Nat}{e:TypeId}(h:q<=k)(h2:k+q<=n):[Ob.cells (dL c n (k+q)) e]=[Ob.cells (cD (dL c n k) k (((dL c n k).drop 0).take (q*1))) e]:=by
 rw[Nat.mul_one,rq h,vE h2]
def Li{a b:Nat}(h:a+b<=1000000):PV.val (.int .i64 (IntKind.i64.wrap ((a:Int)+(b:Int))))=.val (.int .i64 ((a+b:Nat):Int)) :=
 congrArg (fun z=>PV.val (Value.int .i64 z)) (by rw[bU];unfold wrap64;omega)
def MO{c:UInt8}{n k:Nat}(h:n<=k)(h2:k<=n):PV.seq n ((dL c n k).take n) .any=sq aL (List.replicate n c):=by
 have:k=n:=by omega
 subst this
 have:=rq (c:=c) (n:=k) (k:=k) (q:=k) (Nat.le_refl _)
 rw[List.drop_zero]at this
 rw[this]
 unfold sq
 rw[List.length_replicate]
def BM(c:UInt8)(n:Nat)(h:n<=1000000):ab prog 369 [sq aL [c],i64 n] (sq aL (List.replicate n c)):=by
 refine zY func369 fun B=>?_
 refine zu1 ?_
 refine Ws<|zu2 ?_
 refine Wi rfl (fun hi1=>?_) (fun hi1=>?_)
 ·have hz:n=0:=by simpa using hi1
  subst hz
  refine zu2 ?_
  refine zR ?_
  rfl
 have hn:n≠0:=by simpa using hi1
 have hcp:=Oq hn
 refine Wj<|Ws<|zu2 ?_
 refine Wf rfl (by(simp only[dnL]at *;omega)) ?_
 refine Wj<|zp3 ?_
 refine Wa 21 rfl ((rfl:PV.val (.int .u64 (IntKind.u64.wrap ((1:Nat):Int)))=.val (.int .u64 1))) ?_
 refine zy2 ?_
 refine Wa 23 rfl (Yi h) ?_
 refine zc rfl func373 ((O4 n h) _) ?_
 refine zs5 ?_
 refine Ws<|zp3 ?_
 refine qc 29 rfl (by rfl) ?_
 refine zs3 ?_
 refine Wf rfl (by(simp only[dnL]at *;omega)) ?_
 refine Wj<|zp2 ?_
 refine Wa 35 rfl (Vq h) ?_
 refine zs1 ?_
 refine Ws<|zu3 ?_
 refine Wf rfl (by rfl) ?_
 refine Wj<|zu2 ?_
 refine Ws<|zu2 ?_
 refine Wi rfl (fun hi5=>?_) (fun hi5=>?_)
 ·have hq:8192=iw n:=by unfold iw;rw[if_pos (by have:=oT hi5;omega)]
  refine zp3 ?_
  refine Wa 45 rfl (congrArg (fun z=>PV.val (Value.int .i64 z)) (show IntKind.i64.wrap (Int.tdiv 8192 ((1:Nat):Int))=8192 by decide)) ?_
  refine zy3 ?_
  refine Wa 48 rfl (congrArg (fun z=>PV.val (Value.int .i64 z)) (show IntKind.i64.wrap (8192*((1:Nat):Int))=(iw n:Int) by rw[<-hq];decide)) ?_
  refine zs1 ?_
  refine zu2 ?_
  refine Wf rfl (by(simp;omega)) ?_
  refine Wj<|zp1 ?_
  have hmk:n<=281474976710656:=by omega
  refine Wd (x:=.arw 0 0 n) (H':=[.cells (List.replicate n .any) 5]) rfl rfl (MW (H:=[]) (m:=n) rfl rfl hmk) ?_
  refine zy2 ?_
  refine Wd rfl rfl (ni (lO tG rfl) rfl (lO tG rfl) rfl rfl ⟨_,_,rfl,by omega,by simp⟩ ⟨_,_,rfl,by omega,by simp⟩) ?_
  refine jM (H':=[.cells (dL c n 0) 5]) (by rw[<-wY]) ?_
  refine zs1 ?_
  refine zp2 ?_
  refine Wd rfl rfl (nN (lO tG rfl) rfl (lO tG rfl) rfl rfl rfl rfl (al _ 1 (fun _=>rfl) _) (bF _ (fun _=>rfl) _) (by rw[iv (by omega)];(try dsimp only);(try omega))) ?_
  refine Wa 60 rfl (MM hn) ?_
  refine jM (H':=[.cells (dL c n 1) 5]) (DI hn) ?_
  refine zs1 ?_
  refine Ws<|Wl ?_
  show W _ _ _ _ _ _ _
  refine gz (fun(k:Nat)=>[(7,i64 n),(8,i64 (iw n)),(9,.arr 0 0 n n),(10,i64 k)]) (fun(k:Nat)=>[.cells (dL c n k) 5]) (fun(k:Nat)=>[]) (fun(k:Nat)=>1<=k/\k<=n) (fun(k:Nat)=>n-k) (1) (by omega) [] ?_ ?_
  ·exact(fM (sub:=by repeat (first|exact gl|refine eW (by exact cQ rfl) ?_)))
  intro k hk
  refine Ws<|zu3 ?_
  refine Wi rfl (fun hi7=>?_) (fun hi7=>?_)
  ·have hlt:k<n:=by have:=oT hi7;omega
   have hm1:min k (iw n)<=n:=by omega
   refine Wj<|Wl<|zp3 ?_
   refine Wa 66 rfl (L6) ?_
   refine zs1 ?_
   refine ax [0,0,0,0,0,0,0,3,0,0] [0,1,2,3,4,5,6,7,8,9] mG rfl (by kernel_rfl) ?_
   iterate 3 refine z3 ?_
   refine z4 ?_ (q:=(by(simp;omega)))
   refine Xa 70 rfl (IZ hlt) ?_
   iterate 2 refine z3 ?_
   refine z4 ?_ (q:=(by(simp;omega)))
   refine Xa 73 rfl (Hr) ?_
   refine mD rfl rfl rfl rfl (so (lO tG rfl) rfl (lO tG rfl) rfl rfl rfl rfl (Bk (by dsimp only;omega)) (by rw[iv hk.2];dsimp only;omega) (by rw[iv hk.2];dsimp only;omega)) ?_
   refine UF (H':=[.cells (dL c n (k+min (min k (iw n)) (n-k))) 5]) (FV (by omega) (by omega)) ?_
   refine z3 ?_
   refine Xa 75 rfl (Li (by omega)) ?_
   refine z3 ?_
   refine aQ ?_
   exact⟨k+min (min k (iw n)) (n-k),[],(by omega),(by omega),fM⟩
  have hge:n<=k:=by have:=oF hi7;omega
  refine bi ?_
  refine zp1 ?_
  refine Wm 76 rfl (pg (Nat.le_refl _)) ?_
  refine qp 76 0 _ n rfl rfl (by rw[iv hk.2];exact Nat.le_refl _) ?_
  refine Wa 76 rfl (MO hge hk.2) ?_
  refine zs1 ?_
  refine zR ?_
  rfl
 have hq:iw n=n:=by unfold iw;rw[if_neg (by have:=oF hi5;omega)]
 refine Wj<|zp1 ?_
 have hmk:n<=281474976710656:=by omega
 refine Wd (x:=.arw 0 0 n) (H':=[.cells (List.replicate n .any) 5]) rfl rfl (MW (H:=[]) (m:=n) rfl rfl hmk) ?_
 refine zy2 ?_
 refine Wd rfl rfl (ni (lO tG rfl) rfl (lO tG rfl) rfl rfl ⟨_,_,rfl,by omega,by simp⟩ ⟨_,_,rfl,by omega,by simp⟩) ?_
 refine jM (H':=[.cells (dL c n 0) 5]) (by rw[<-wY]) ?_
 refine zs1 ?_
 refine zp2 ?_
 refine Wd rfl rfl (nN (lO tG rfl) rfl (lO tG rfl) rfl rfl rfl rfl (al _ 1 (fun _=>rfl) _) (bF _ (fun _=>rfl) _) (by rw[iv (by omega)];(try dsimp only);(try omega))) ?_
 refine Wa 60 rfl (MM hn) ?_
 refine jM (H':=[.cells (dL c n 1) 5]) (DI hn) ?_
 refine zs1 ?_
 refine Ws<|Wl ?_
 show W _ _ _ _ _ _ _
 refine gz (fun(k:Nat)=>[(7,i64 n),(8,i64 (iw n)),(9,.arr 0 0 n n),(10,i64 k)]) (fun(k:Nat)=>[.cells (dL c n k) 5]) (fun(k:Nat)=>[]) (fun(k:Nat)=>1<=k/\k<=n) (fun(k:Nat)=>n-k) (1) (by omega) [] ?_ ?_
 ·exact(fM (sub:=by repeat (first|exact gl|refine eW (by first|exact cQ rfl|exact cQ (congrArg i64 (by rw[hq]))) ?_)))
 intro k hk
 refine Ws<|zu3 ?_
 refine Wi rfl (fun hi7=>?_) (fun hi7=>?_)
 ·have hlt:k<n:=by have:=oT hi7;omega
  have hm1:min k (iw n)<=n:=by omega
  refine Wj<|Wl<|zp3 ?_
  refine Wa 66 rfl (L6) ?_
  refine zs1 ?_
  refine ax [0,0,0,0,0,0,0,3,0,0] [0,1,2,3,4,5,6,7,8,9] mG rfl (by kernel_rfl) ?_
  iterate 3 refine z3 ?_
  refine z4 ?_ (q:=(by(simp;omega)))
  refine Xa 70 rfl (IZ hlt) ?_
  iterate 2 refine z3 ?_
  refine z4 ?_ (q:=(by(simp;omega)))
  refine Xa 73 rfl (Hr) ?_
  refine mD rfl rfl rfl rfl (so (lO tG rfl) rfl (lO tG rfl) rfl rfl rfl rfl (Bk (by dsimp only;omega)) (by rw[iv hk.2];dsimp only;omega) (by rw[iv hk.2];dsimp only;omega)) ?_
  refine UF (H':=[.cells (dL c n (k+min (min k (iw n)) (n-k))) 5]) (FV (by omega) (by omega)) ?_
  refine z3 ?_
  refine Xa 75 rfl (Li (by omega)) ?_
  refine z3 ?_
  refine aQ ?_
  exact⟨k+min (min k (iw n)) (n-k),[],(by omega),(by omega),fM⟩
 have hge:n<=k:=by have:=oF hi7;omega
 refine bi ?_
 refine zp1 ?_
 refine Wm 76 rfl (pg (Nat.le_refl _)) ?_
 refine qp 76 0 _ n rfl rfl (by rw[iv hk.2];exact Nat.le_refl _) ?_
 refine Wa 76 rfl (MO hge hk.2) ?_
 refine zs1 ?_
 refine zR ?_
 rfl
def Sm(m:bn)(at_ n c:Int)(hm:da m)(ha:ae at_)(hn:ae n):ab prog 305 [jC m,i64 at_,i64 n,i64 c] (vP (nB m at_ n c)):=by
 have hm1:=hm.b
 have hm2:=hm.old
 refine zY func305 fun B=>?_
 refine zu3 ?_
 refine Ws<|zp3 ?_
 refine zc rfl func102 ((pV m at_ n (by omega) ha hn) _) ?_
 refine zs1 ?_
 refine Wi rfl (fun hi1=>?_) (fun hi1=>?_)
 ·have ht:¬bt m at_ n=true:=by simpa using hi1
  refine zu3 ?_
  refine zR ?_
  rw[nB,if_neg ht];rfl
 have ht:bt m at_ n=true:=by simpa using hi1
 have hN:0<=n/\n<=1000000:=by unfold bt at ht;simp only[decide_eq_true_eq]at ht;omega
 refine Wj<|Ws<|ax [1,0,0,0,0,0,0,0,0,0,3,0] [0,1,2,3,4,5,6,7,8,9,10,11] mG rfl (by kernel_rfl) ?_
 refine z5 ?_
 iterate 3 refine z3 ?_
 refine Xa 19 rfl (Al c) ?_
 refine z3 ?_
 refine Xa 20 rfl (bsL aL [_] rfl rfl) ?_
 refine z3 ?_
 refine Xa 21 rfl ((show PV.val (.int .i64 n)=i64 ((n.toNat:Nat):Int) by rw[Int.toNat_of_nonneg hN.1];rfl)) ?_
 refine Xc rfl rfl rfl rfl (fun _=>dC rfl func369 rfl rfl ((BM (loB c) n.toNat (by omega)) _)) ?_
 refine Xc rfl rfl rfl rfl (fun _=>dC rfl func123 rfl rfl ((nY m at_ _ hm ha (by simp;omega)) _)) ?_
 iterate 2 refine z3 ?_
 refine dH tG rfl rfl rfl rfl rfl trivial ?_
 refine z3 ?_
 refine aQ ?_
 refine zR ?_
 rw[nB,if_pos ht];rfl
def mo(m:bn)(low here n:Int):Int×Int:=if n>m.b.length-here\/n<low-here then(here,-8)else(here+n,0)
def dg(m:bn)(here:Int)(b:List UInt8):bn×Int×Int:=if (b.length:Int)>m.b.length-here then(m,here,-8)else((cn m here b).1,here+b.length,0)
def cy(m:bn)(here n:Int):bn×Int×Int:=if here.tmod 8=0 then dg m here (uj n)else(m,here,-23)
def aN(m:bn)(here:Int):bn×Int×Int:=dg m here (List.replicate ((8-here.tmod 8).tmod 8).toNat 0)
def B4(r:bn×Int×Int):PV:=kg (jC r.1) (i64 r.2.1) (i64 r.2.2)
@[simp] theorem am7 (r : bn × Int × Int) : aU (B4 r) := by simp [B4]
structure iy (m:bn) (here:Int):Prop where
 h0:0<=here
 h1:here<=m.b.length
def iy.fit{m:bn}{here:Int}(h:iy m here)(hm:da m):ae here:=by have:=h.h0;have:=h.h1;have:=hm.b;unfold ae;omega
def Cr(m:bn)(here:Int)(hm:da m)(hh:iy m here):ab prog 209 [.agg [sq aL m.b,sq mZ m.old,i64 here]] (i64 (m.b.length-here)):=by
 have h0:=hh.h0
 have h1:=hh.h1
 have h2:=hm.b
 refine zY func209 fun B=>?_
 refine zu2 ?_
 refine zp5 ?_
 refine zs3 ?_
 refine zR ?_
 exact congrArg i64 (by((rw[bU];unfold wrap64;(try simp only[dnL]at *);omega)))
def Om(m:bn)(low here n:Int)(hm:da m)(hh:iy m here)(hl:ae low/\0<=low)(hn:ae n):ab prog 318 [jC m,i64 low,i64 here,i64 n] (ri (mo m low here n)):=by
 have h0:=hh.h0
 have h1:=hh.h1
 have h2:=hm.b
 unfold ae at hl hn
 have w1:IntKind.i64.wrap (low-here)=low-here:=by((rw[bU];unfold wrap64;(try simp only[dnL]at *);omega))
 refine zY func318 fun B=>?_
 refine zu3 ?_
 refine zu5 ?_
 refine Ws<|zp2 ?_
 refine Wc rfl rfl (ei rfl rfl func209 rfl rfl (Cr m here hm hh _)) ?_
 refine zy2 ?_
 refine Wb 19 rfl (fun hg1=>?_) (fun hg1=>?_)
 ·refine z6 ?_
  iterate 4 refine z6 ?_
  refine zs1 ?_
  refine Wt rfl rfl ?_
  refine zu3 ?_
  refine zR ?_
  (rw[mo,if_pos (by(try simp only[dnL]at *);omega)];rfl)
 refine zy5 ?_
 refine zs1 ?_
 refine Wi rfl (fun hi1=>?_) (fun hi1=>?_)
 ·refine zu3 ?_
  refine zR ?_
  (rw[mo,if_pos (by(try simp only[dnL]at *);omega)];rfl)
 refine Wj<|zu5 ?_
 refine zR ?_
 (rw[mo,if_neg (by(try simp only[dnL]at *);omega)];exact congrArg (fun z=>iA (i64 z) (i64 0)) (by((rw[bU];unfold wrap64;(try simp only[dnL]at *);omega))))
def yU(m:bn)(here:Int)(b:List UInt8)(hm:da m)(hh:iy m here)(hb:b.length<=1000000):ab prog 174 [jC m,i64 here,sq aL b] (B4 (dg m here b)):=by
 have h0:=hh.h0
 have h1:=hh.h1
 have h2:=hm.b
 refine zY func174 fun B=>?_
 refine zu4 ?_
 refine zu5 ?_
 refine Ws<|zp3 ?_
 refine Wc rfl rfl (ei rfl rfl func209 rfl rfl (Cr m here hm hh _)) ?_
 refine zs1 ?_
 refine Wi rfl (fun hi1=>?_) (fun hi1=>?_)
 ·refine zu5 ?_
  refine zR ?_
  rw[dg,if_pos (by(try simp only[dnL]at *);omega)];rfl
 refine Wj<|zp3 ?_
 refine zc rfl func123 ((nY m here b hm (hh.fit hm) hb) _) ?_
 refine zs4 ?_
 refine zp5 ?_
 refine zs3 ?_
 refine zR ?_
 rw[dg,if_neg (by(try simp only[dnL]at *);omega)];exact congrArg (fun z=>kg (jC (cn m here b).1) (i64 z) (i64 0)) (by((rw[bU];unfold wrap64;(try simp only[dnL]at *);omega)))
def CJ(m:bn)(here n:Int)(hm:da m)(hh:iy m here):ab prog 127 [jC m,i64 here,i64 n] (B4 (cy m here n)):=by
 have h0:=hh.h0
 have h1:=hh.h1
 have h2:=hm.b
 refine zY func127 fun B=>?_
 refine zu4 ?_
 refine Ws<|zu3 ?_
 refine Wi rfl (fun hi1=>?_) (fun hi1=>?_)
 ·refine zu5 ?_
  refine zR ?_
  rw[cy,if_neg (by(try simp only[dnL]at *);omega)];rfl
 refine Wj<|Ws<|ax [1,0,0,0,0,0,0,0,3,0,0] [0,1,2,3,4,5,6,7,8,9,10] mG rfl (by kernel_rfl) ?_
 refine z5 ?_
 iterate 2 refine z3 ?_
 refine Xc rfl rfl rfl rfl (fun _=>dC rfl func124 rfl rfl ((DC n) _)) ?_
 refine Xc rfl rfl rfl rfl (fun _=>dC rfl func174 rfl rfl ((yU m here (uj n) hm hh (by rw[kZ];omega)) _)) ?_
 iterate 3 refine z3 ?_
 refine dH tG rfl rfl rfl rfl rfl trivial ?_
 iterate 2 refine z3 ?_
 refine aQ ?_
 refine zR ?_
 rw[cy,if_pos (by(try simp only[dnL]at *);omega)];rfl
def ax4{x:Int}(h:0<=x):0<=(8-x.tmod 8).tmod 8/\(8-x.tmod 8).tmod 8<8:=by
 rw[Int.tmod_eq_emod_of_nonneg h,Int.tmod_eq_emod_of_nonneg (by omega)];omega
def PB{c:UInt8}{n:Nat}{d:TD}(hz:d.zero=aL 0):fT n d=(List.replicate n (0:UInt8)).flatMap aL:=by
 unfold fT;rw[hz,List.flatMap_replicate]
def Pw{n:Int}{d:TD}(hz:d.zero=aL 0):PV.seq n.toNat (fT n.toNat d) .clip=sqc aL (List.replicate n.toNat (0:UInt8)):=by
 rw[PB (c:=0) hz];unfold sqc;rw[List.length_replicate]
def sF(m:bn)(here:Int)(hm:da m)(hh:iy m here):ab prog 220 [jC m,i64 here] (B4 (aN m here)):=by
 have h0:=hh.h0
 have h1:=hh.h1
 have h2:=hm.b
 obtain⟨u0,u1⟩:=ax4 h0
 have w1:IntKind.i64.wrap (8-here.tmod 8)=8-here.tmod 8:=by
  rw[bU];unfold wrap64;rw[Int.tmod_eq_emod_of_nonneg h0];omega
 refine zY func220 fun B=>?_
 refine zu4 ?_
 refine Ws<|ax [1,0,0,0,0,0,0,0,0,0,0,3,0,0] [0,1,2,3,4,5,6,7,8,9,10,11,12,13] mG rfl (by kernel_rfl) ?_
 refine z5 ?_
 iterate 5 refine z3 ?_
 refine Xa 12 rfl ((show PV.val (.int .i64 _)=.val (.int .i64 ((8-here.tmod 8).tmod 8)) by rw[w1])) ?_
 refine im rfl rfl rfl rfl (fun _=>EC (lO tG rfl) rfl (lO tG rfl) rfl rfl rfl u0 (by dsimp only;omega) (by omega)) ?_
 refine Xa 13 rfl (Pw rfl) ?_
 refine Xc rfl rfl rfl rfl (fun _=>dC rfl func174 rfl rfl ((yU m here (List.replicate ((8-here.tmod 8).tmod 8).toNat 0) hm hh (by simp;omega)) _)) ?_
 iterate 3 refine z3 ?_
 refine dH tG rfl rfl rfl rfl rfl trivial ?_
 iterate 2 refine z3 ?_
 refine aQ ?_
 refine zR ?_
 rfl
def ma(s:List Int)(takes:Nat)(leaves:List Int)(limit:Int):List Int×Bool×Int :=
 if ((s.length-takes+leaves.length:Nat):Int)>limit then(s,true,-3)else(s.take (s.length-takes)++leaves,true,0)
def BN(r:List Int×Bool×Int):PV:=kg (sq ap r.1) (boo r.2.1) (i64 r.2.2)
@[simp] theorem ap1 (r : List Int × Bool × Int) : aU (BN r) := by simp [BN]
def qq(s:List Int)(takes:Nat)(leaves:List Int)(limit:Int)(hs:s.length<=100000)(ht:takes<=s.length)(hl:leaves.length<=100000)(hm : -9223372036854775808<=limit/\limit<=9223372036854775807):
  ab prog 237 [sq ap s,i64 takes,sq ap leaves,i64 limit] (BN (ma s takes leaves limit)):=by
 have w1:IntKind.i64.wrap ((s.length:Int)-(takes:Int))=((s.length-takes:Nat):Int):=by((rw[bU];unfold wrap64;(try simp only[dnL]at *);omega))
 have w2:IntKind.i64.wrap (((s.take (s.length-takes)).length:Int)+(leaves.length:Int))=((s.length-takes+leaves.length:Nat):Int):=by
  rw[List.length_take,Nat.min_eq_left (by omega)];((rw[bU];unfold wrap64;(try simp only[dnL]at *);omega))
 refine zY func237 fun B=>?_
 refine zu3 ?_
 refine zp5 ?_
 refine Wa 16 rfl (congrArg (fun z=>PV.val (Value.int .i64 z)) w1) ?_
 refine z2 ?_ (q:=(by(simp_all;done)))
 refine Wa 17 rfl (cM ap 1 (fun _=>rfl) (by omega)) ?_
 refine Wa 17 rfl ((show _=sq ap (s.take (s.length-takes)) by rw[Int.toNat_natCast,List.drop_zero];rfl)) ?_
 refine zs1 ?_
 refine Ws<|zp5 ?_
 refine Wa 22 rfl (congrArg (fun z=>PV.val (Value.int .i64 z)) w2) ?_
 refine zs2 ?_
 refine Wi rfl (fun hi1=>?_) (fun hi1=>?_)
 ·refine zu4 ?_
  refine zR ?_
  rw[ma,if_pos (by(try simp only[dnL]at *);omega)];rfl
 refine Wj<|zp3 ?_
 refine Wa 28 rfl (bsL B8 [_,_] rfl rfl) ?_
 refine zc rfl func202 ((L4 _ _ (by simp;omega) (by omega)) _) ?_
 refine zs3 ?_
 refine zR ?_
 rw[ma,if_neg (by(try simp only[dnL]at *);omega)];rfl
def bo(s:List Int):Int×List Int×Int:=if s.length=0 then(0,s,-4)else(s.getD (s.length-1) 0,s.take (s.length-1),0)
def ag4(r:Int×List Int×Int):PV:=kg (i64 r.1) (sq ap r.2.1) (i64 r.2.2)
@[simp] theorem ao4 (r : Int × List Int × Int) : aU (ag4 r) := by simp [ag4]
def DQ(s:List Int)(hs:s.length<=100000):ab prog 259 [sq ap s] (ag4 (bo s)):=by
 refine zY func259 fun B=>?_
 refine zu3 ?_
 refine Ws<|zu3 ?_
 refine Wi rfl (fun hi1=>?_) (fun hi1=>?_)
 ·have h0:s.length=0:=by(try simp only[dnL]at *);omega
  refine zu4 ?_
  refine zR ?_
  rw[bo,if_pos h0];rfl
 have h0:s.length≠0:=by(try simp only[dnL]at *);omega
 have w1:IntKind.i64.wrap ((s.length:Int)-1)=((s.length-1:Nat):Int):=by((rw[bU];unfold wrap64;(try simp only[dnL]at *);omega))
 refine Wj<|Ws<|ax [0,0,0,0,0,1,0,0,0,0,0,0,0,0] [0,1,2,3,4,5,6,7,8,9,10,11,12,13] mG rfl (by kernel_rfl) ?_
 iterate 4 refine z3 ?_
 refine Xa 12 rfl (congrArg (fun z=>PV.val (Value.int .i64 z)) w1) ?_
 refine Xi tG rfl rfl rfl rfl (fun _=>rfl) (by omega) (iN ap 1 (fun _=>rfl) 0 (by omega)) ?_
 refine z5 ?_
 iterate 4 refine z3 ?_
 refine Xa 18 rfl (congrArg (fun z=>PV.val (Value.int .i64 z)) w1) ?_
 refine z4 ?_ (q:=(by(simp_all;done)))
 refine Xa 19 rfl (cM ap 1 (fun _=>rfl) (by omega)) ?_
 refine Xa 19 rfl ((show _=sq ap (s.take (s.length-1)) by rw[Int.toNat_natCast,List.drop_zero];rfl)) ?_
 iterate 3 refine z3 ?_
 refine aQ ?_
 refine zR ?_
 rw[bo,if_neg h0];rfl
abbrev W64(n:Int):Int:=IntKind.i64.wrap n
def xat(x:List Int)(i:Nat):Int:=x.getD i 0
def bC(x:List Int):List Int×Int:=([(nG (xat x 0) (xat x 1)).2.1,(nG (xat x 0) (xat x 1)).1],(nG (xat x 0) (xat x 1)).2.2)
def zn(x:List Int):Int×Int×Int:=jL (xD (xat x 0) (xat x 1)).1 (xD (xat x 0) (xat x 1)).2 (xat x 2)
def bh(x:List Int):List Int×Int:=([(zn x).2.1,(zn x).1],(zn x).2.2)
def dn(x:List Int):List Int×Int:=([(zn x).1],(zn x).2.2)
def pUM(x:List Int):List Int×Int:=([(s6 (xat x 0) (xat x 1)).1,(s6 (xat x 0) (xat x 1)).2],0)
def pM(x:List Int):List Int×Int:=([(xD (xat x 0) (xat x 1)).1,(xD (xat x 0) (xat x 1)).2],0)
def dk(x:List Int):List Int×Int:=([(iH (xat x 0) (xat x 1) (xat x 2)).2.1,(iH (xat x 0) (xat x 1) (xat x 2)).1],(iH (xat x 0) (xat x 1) (xat x 2)).2.2)
def dq(x:List Int):List Int×Int:=([(lD (xat x 0) (xat x 1) (xat x 2)).2.1,(lD (xat x 0) (xat x 1) (xat x 2)).1],(lD (xat x 0) (xat x 1) (xat x 2)).2.2)
def dm(x:List Int):List Int×Int:=([(jL (xat x 0) (xat x 1) (xat x 2)).2.1,(jL (xat x 0) (xat x 1) (xat x 2)).1],(jL (xat x 0) (xat x 1) (xat x 2)).2.2)
def pSD(x:List Int):List Int×Int:=([xat x 0,fH (decide (xat x 0<0))],0)
def bB(x:List Int):List Int×Int:=([fH (decide (U (wrap64 (xat x 0-xat x 1))<U (wrap64 (xat x 2-xat x 1))))],0)
def rk(name:Str)(x:List Int):Option (List Int×Int) :=
 if name=[47,77,79,68]then some (bC x)else
 if name=[42,47]then some (dn x)else
 if name=[42,47,77,79,68]then some (bh x)else
 if name=[85,77,42]then some (pUM x)else
 if name=[77,42]then some (pM x)else
 if name=[85,77,47,77,79,68]then some (dk x)else
 if name=[83,77,47,82,69,77]then some (dq x)else
 if name=[70,77,47,77,79,68]then some (dm x)else
 if name=[83,62,68]then some (pSD x)else
 if name=[87,73,84,72,73,78]then some (bB x)else
 if name=[84,82,85,69]then some ([-1],0)else
 if name=[66,65,83,69]then some ([0],0)else
 if name=[70,65,76,83,69]then some ([0],0)else
 if name=[83,84,65,84,69]then some ([8],0)else
 if name=[66,76]then some ([32],0)else none
def tb(v:VVm)(m:bn):VVm:={v with mem:=m}
def cb(v:VVm)(x:List Int):VVm×List Int×Int:=(v,[(am v.mem (xat x 0)).1],(am v.mem (xat x 0)).2)
def bH(v:VVm)(x:List Int):VVm×List Int×Int:=(v,[(ea v.mem (xat x 0)).1],(ea v.mem (xat x 0)).2)
def dy(v:VVm)(r:bn×Int):VVm×List Int×Int:=(tb v r.1,[],r.2)
def se(v:VVm)(x:List Int):bn×Int:=if (am v.mem (xat x 1)).2=0 then ay v.mem (xat x 1) (W64 ((am v.mem (xat x 1)).1+xat x 0))else(v.mem,(am v.mem (xat x 1)).2)
def lu(v:VVm)(x:List Int):VVm×List Int×Int :=
 if (am v.mem (xat x 0)).2=0 then(v,[(am v.mem (W64 (xat x 0+8))).1,(am v.mem (xat x 0)).1],(am v.mem (W64 (xat x 0+8))).2)else(v,[],(am v.mem (xat x 0)).2)
def oS(v:VVm)(x:List Int):bn×Int:=if (ay v.mem (xat x 2) (xat x 1)).2=0 then ay (ay v.mem (xat x 2) (xat x 1)).1 (W64 (xat x 2+8)) (xat x 0)else ay v.mem (xat x 2) (xat x 1)
def bZ(v:VVm)(x:List Int):VVm×List Int×Int:=(v,[W64 (xat x 0+1),(ea v.mem (xat x 0)).1],(ea v.mem (xat x 0)).2)
def ko(v:VVm)(s b:Int):Int:=if (am v.mem (W64 (b+8))).2=0 then(if s<0\/(am v.mem (W64 (b+8))).1<=s then -24 else 0)else(am v.mem (W64 (b+8))).2
def g8(v:VVm)(x:List Int):VVm×List Int×Int:=if ko v (xat x 0) (xat x 1)=0 then dy v (ay v.mem (xat x 1) (xat x 0))else(v,[],ko v (xat x 0) (xat x 1))
def jk(v:VVm)(x:List Int):VVm×List Int×Int:=if ko v (xat x 1) (xat x 2)=0 then dy v (ay v.mem (W64 (W64 (xat x 2+16)+W64 (8*xat x 1))) (xat x 0))else(v,[],ko v (xat x 1) (xat x 2))
def qH(v:VVm)(name:Str)(x:List Int):Option (VVm×List Int×Int) :=
 if name=[64]\/name=[71,69,84,45,83,84,65,84,69]then some (cb v x)else
 if name=[67,64]then some (bH v x)else
 if name=[33]then some (dy v (ay v.mem (xat x 1) (xat x 0)))else
 if name=[67,33]then some (dy v (nC v.mem (xat x 1) (xat x 0)))else
 if name=[43,33]then some (dy v (se v x))else
 if name=[50,64]then some (lu v x)else
 if name=[50,33]then some (dy v (oS v x))else
 if name=[70,73,76,76]then some (dy v (nB v.mem (xat x 0) (xat x 1) (xat x 2)))else
 if name=[77,79,86,69]then some (dy v (ny v.mem (xat x 0) (xat x 1) (xat x 2)))else
 if name=[67,79,85,78,84]then some (bZ v x)else
 if name=[68,69,67,73,77,65,76]then some (dy v (ay v.mem 0 10))else
 if name=[72,69,88]then some (dy v (ay v.mem 0 16))else
 if name=[83,69,84,45,83,84,65,84,69]then some (g8 v x)else
 if name=[65,84,45,83,84,65,84,69]then some (jk v x)else none
def fg(v:VVm)(r:bn×Int×Int):VVm×List Int×Int:=({v with mem:=r.1,here:=r.2.1},[],r.2.2)
def uM(v:VVm)(x:List Int):bn×Int×Int:=(v.mem,(mo v.mem 1368 v.here (xat x 0)).1,(mo v.mem 1368 v.here (xat x 0)).2)
def ve(v:VVm)(name:Str)(x:List Int):Option (VVm×List Int×Int) :=
 if name=[65,76,76,79,84]then some (fg v (uM v x))else
 if name=[44]then some (fg v (cy v.mem v.here (xat x 0)))else
 if name=[67,44]then some (fg v (dg v.mem v.here [loB (xat x 0)]))else
 if name=[65,76,73,71,78]then some (fg v (aN v.mem v.here))else none
def kz(v:VVm):Int:=(am v.mem 0).1
def wt(v:VVm)(x:List Int):Str:=List.replicate (min (max (xat x 0) 0) (v.conf.out+1)).toNat 32
def sa(r:Str×Int):Str×Int:=(r.1++[32],r.2)
def Gj(v:VVm)(name:Str)(x:List Int):Option (Str×Int) :=
 if name=[69,77,73,84]then some ([loB (xat x 0)],0)else
 if name=[67,82]then some ([10],0)else
 if name=[83,80,65,67,69]then some ([32],0)else
 if name=[83,80,65,67,69,83]then some (wt v x,0)else
 if name=[84,89,80,69]then some (dU v.mem (xat x 0) (xat x 1))else
 if name=[46]then some (sa (dh (xat x 0) (kz v)))else
 if name=[85,46]then some (sa (dN (xat x 0) (kz v)))else none
def dB(v:VVm)(r:Str×Int):VVm×List Int×Int:=if r.2=0 then((i8 v r.1).1,[],(i8 v r.1).2)else(v,[],r.2)
def ut(v:VVm)(p:d8):VVm:={v with pic:=p}
def rF:Nat->d8->Int->Int->Int->d8×Int
 | 0,q,lo,hi,base=>(q,(aJ q lo hi base).2.2.2)
 | n+1,q,lo,hi,base=>if (aJ q lo hi base).2.2.2≠0 then(q,(aJ q lo hi base).2.2.2)else if (aJ q lo hi base).2.1=0/\(aJ q lo hi base).2.2.1=0 then((aJ q lo hi base).1,0)else rF n (aJ q lo hi base).1 (aJ q lo hi base).2.1 (aJ q lo hi base).2.2.1 base
def rT(q:d8)(lo hi base:Int):d8×Int:=rF (131-q.b.length) q lo hi base
def Pn(p:d8)(r:d8×Int):d8×Int:=if r.2=0 then(r.1,0)else(p,r.2)
def uU(p:d8)(lo hi base:Int):d8×Int:=Pn p (rT p lo hi base)
def gB(v:VVm)(x:List Int):VVm×List Int×Int:=(ut v (aJ v.pic (xat x 0) (xat x 1) (kz v)).1,[(aJ v.pic (xat x 0) (xat x 1) (kz v)).2.1,(aJ v.pic (xat x 0) (xat x 1) (kz v)).2.2.1],(aJ v.pic (xat x 0) (xat x 1) (kz v)).2.2.2)
def gh(v:VVm)(x:List Int):VVm×List Int×Int:=(ut v (uU v.pic (xat x 0) (xat x 1) (kz v)).1,[0,0],(uU v.pic (xat x 0) (xat x 1) (kz v)).2)
def gg(v:VVm)(r:d8×Int):VVm×List Int×Int:=(ut v r.1,[],r.2)
def xR(v:VVm):VVm×List Int×Int :=
 if (lJ v.pic).2=0 then(ut (tb v (cn v.mem (W64 (v.conf.mem-136)) (lJ v.pic).1).1) ⟨[],false⟩,[W64 (v.conf.mem-136),((lJ v.pic).1.length:Int)],(cn v.mem (W64 (v.conf.mem-136)) (lJ v.pic).1).2)else(v,[],(lJ v.pic).2)
def AU(v:VVm)(name:Str)(x:List Int):Option (VVm×List Int×Int) :=
 if name=[60,35]then some (ut v ⟨[],true⟩,[],0)else
 if name=[35]then some (gB v x)else
 if name=[35,83]then some (gh v x)else
 if name=[72,79,76,68]then some (gg v (gX v.pic (xat x 0)))else
 if name=[83,73,71,78]then some (gg v (oZ v.pic (xat x 0)))else
 if name=[35,62]then some (xR v)else none
def Ck(v:VVm)(q:wi):VVm:={v with req:=v.req++[q]}
def jh(v:VVm)(x:List Int):Prop:=xat x 1<0\/(v.hand.length:Int)<=xat x 1\/xat x 2<0\/3<xat x 2
instance (v:VVm) (x:List Int):Decidable (jh v x):=by unfold jh;infer_instance
def jI(v:VVm)(x:List Int):VVm×List Int×Int:=if 16<=(v.req.length:Int)then(v,[],-257)else(Ck v ⟨4,0,0,0,0,xat x 0⟩,[],0)
def j5(v:VVm)(x:List Int):VVm×List Int×Int:=if jh v x then(v,[],-259)else if 16<=(v.req.length:Int)then(v,[],-257)else(Ck v ⟨1,xat x 0,xat x 1,xat x 2,0,0⟩,[],0)
def dA(kind:Int)(v:VVm)(x:List Int):VVm×List Int×Int :=
 if jh v x then(v,[],-259)else if xat x 3<1\/4294967295<xat x 3 then(v,[],-24)else if 16<=(v.req.length:Int)then(v,[],-257)else if v.free=0\/v.next=4611686018427387904 then(v,[],-258)else
  ({Ck v ⟨kind,xat x 0,xat x 1,xat x 2,xat x 3,v.next⟩with free:=W64 (v.free-1),next:=W64 (v.next+1)},[v.next],0)
def AP(v:VVm)(name:Str)(x:List Int):Option (VVm×List Int×Int) :=
 if name=[80,79,83,84]then some (j5 v x)else
 if name=[67,65,78,67,69,76]then some (jI v x)else
 if name=[65,70,84,69,82]then some (dA 2 v x)else
 if name=[69,86,69,82,89]then some (dA 3 v x)else none
def wo(v:VVm)(x:List Int):VVm×List Int×Int:=if (av v (xat x 0)).2=0/\((av v (xat x 0)).1<257\/260<(av v (xat x 0)).1)then(v,[],-31)else(v,[W64 (xat x 0+16)],(av v (xat x 0)).2)
def Hy(v:VVm)(name:Str)(x:List Int):VVm×List Int×Int :=
 if name=[72,69,82,69]then(v,[v.here],0)else
 if name=[65,82,71]then(v,[v.arg],0)else
 if name=[83,69,76,70]then(v,[v.self],0)else
 if name=[78,79,87]then(v,[v.now],0)else
 if name=[62,66,79,68,89]then wo v x else(v,[],-1)
def bP(v:VVm)(n:Int)(name:Str)(x:List Int):VVm×List Int×Int :=
 if n<=58 then(v,[(mi name (xat x 0) (xat x 1)).1],(mi name (xat x 0) (xat x 1)).2.2)else
 if n<=72 then(v,[(wI name (xat x 0)).1],0)else
 match rk name x with
 | some r=>(v,r.1,r.2)
 | none=>match qH v name x with
  | some r=>r
  | none=>match ve v name x with
   | some r=>r
   | none=>match Gj v name x with
    | some r=>dB v r
    | none=>match AU v name x with
     | some r=>r
     | none=>match AP v name x with
      | some r=>r
      | none=>Hy v name x
def bm(n:Int)(name:Str):Nat :=
 if n<=58 then 2 else if n<=72 then 1 else
 if name=[65,70,84,69,82]\/name=[69,86,69,82,89]then 4 else
 if name=[42,47]\/name=[42,47,77,79,68]\/name=[85,77,47,77,79,68]\/name=[83,77,47,82,69,77]\/name=[70,77,47,77,79,68]\/name=[87,73,84,72,73,78]\/name=[50,33]\/name=[70,73,76,76]\/name=[77,79,86,69]\/name=[80,79,83,84]\/name=[65,84,45,83,84,65,84,69]then 3 else
 if name=[47,77,79,68]\/name=[85,77,42]\/name=[77,42]\/name=[33]\/name=[67,33]\/name=[43,33]\/name=[84,89,80,69]\/name=[35]\/name=[35,83]\/name=[35,62]\/name=[83,69,84,45,83,84,65,84,69]then 2 else
 if name=[83,62,68]\/name=[64]\/name=[67,64]\/name=[50,64]\/name=[67,79,85,78,84]\/name=[65,76,76,79,84]\/name=[44]\/name=[67,44]\/name=[69,77,73,84]\/name=[83,80,65,67,69,83]\/name=[46]\/name=[85,46]\/name=[72,79,76,68]\/name=[83,73,71,78]\/name=[62,66,79,68,89]\/name=[67,65,78,67,69,76]\/name=[71,69,84,45,83,84,65,84,69]then 1 else 0
def oK(name:Str)(s:List Int):Int :=
 if name=[68,69,80,84,72]then 0 else
 if name=[68,85,80]\/name=[68,82,79,80]\/name=[63,68,85,80]then 1 else
 if name=[83,87,65,80]\/name=[79,86,69,82]\/name=[78,73,80]\/name=[84,85,67,75]\/name=[50,68,85,80]\/name=[50,68,82,79,80]then 2 else
 if name=[82,79,84]\/name=[45,82,79,84]then 3 else
 if name=[50,83,87,65,80]\/name=[50,79,86,69,82]then 4 else
 if name=[80,73,67,75]\/name=[82,79,76,76]then(if s.length=0\/s.getD (s.length-1) 0<0\/(s.length:Int)-1<=s.getD (s.length-1) 0 then(s.length:Int)+1 else s.getD (s.length-1) 0+2)else -1
def zA(name:Str)(x:List Int)(depth:Nat):List Int :=
 if name=[68,85,80]then [xat x 0,xat x 0]else
 if name=[83,87,65,80]then [xat x 1,xat x 0]else
 if name=[79,86,69,82]then [xat x 0,xat x 1,xat x 0]else
 if name=[78,73,80]then [xat x 1]else
 if name=[84,85,67,75]then [xat x 1,xat x 0,xat x 1]else
 if name=[82,79,84]then [xat x 1,xat x 2,xat x 0]else
 if name=[45,82,79,84]then [xat x 2,xat x 0,xat x 1]else
 if name=[50,68,85,80]then [xat x 0,xat x 1,xat x 0,xat x 1]else
 if name=[50,83,87,65,80]then [xat x 2,xat x 3,xat x 0,xat x 1]else
 if name=[50,79,86,69,82]then [xat x 0,xat x 1,xat x 2,xat x 3,xat x 0,xat x 1]else
 if name=[63,68,85,80]then(if xat x 0=0 then x else [xat x 0,xat x 0])else
 if name=[68,69,80,84,72]then [(depth:Int)]else
 if name=[80,73,67,75]then x.take (x.length-1)++[xat x 0]else
 if name=[82,79,76,76]then(x.take (x.length-1)).drop 1++[xat x 0]else []
def dQ(name:Str)(s:List Int)(limit:Int):List Int×Bool×Int :=
 if oK name s<0 then(s,false,0)else
 if (s.length:Int)<oK name s then(s,true,-4)else
 if limit<((s.length-(oK name s).toNat+(zA name (s.drop (s.length-(oK name s).toNat)) s.length).length:Nat):Int)then(s,true,-3)else
 (s.take (s.length-(oK name s).toNat)++zA name (s.drop (s.length-(oK name s).toNat)) s.length,true,0)
def doS(v:VVm)(n:Int):VVm×Int :=
 if n<23\/129<n then(v,-24)else
 let name:=ao.getD n.toNat []
 if n<=38 then({v with d:=(dQ name v.d v.conf.data).1},(dQ name v.d v.conf.data).2.2)else
 let k:=bm n name
 if v.d.length<k then(v,-4)else
 let r:=bP v n name (v.d.drop (v.d.length-k))
 if r.2.2≠0 then(v,r.2.2)else
 if v.conf.data<((v.d.length-k+r.2.1.length:Nat):Int)then(v,-3)else({r.1 with d:=v.d.take (v.d.length-k)++r.2.1},0)
def tLv(r:List Int×Int):PV:=iA (sq ap r.1) (i64 r.2)
@[simp] theorem aw1 (r : List Int × Int) : aU (tLv r) := by simp [tLv]
structure bJ where
 vm:VVm
 ip:Int
 w:Int
 dof:Bool
 fuel:Int
 deriving DecidableEq,Inhabited
def tu(x:bJ):List PV:=cVm x.vm++[i64 x.ip,i64 x.w,boo x.dof,i64 x.fuel]
@[simp] theorem Pi (x : bJ) : aw (tu x) := by simp [tu, cVm]
def xy(x:bJ):PV:=.agg (tu x)
@[simp] theorem an1 (x : bJ) : aU (xy x) := by unfold xy aU; exact Pi x
structure VWk where
 v:VVm
 ip:Int
 w:Int
 dof:Bool
 over:Bool
 bad:Int
 deriving DecidableEq,Inhabited
def gP(s:List Int)(n limit:Int):List Int×Int:=if limit<=(s.length:Int)then(s,-3)else(s++[n],0)
def fQ(v:VVm)(n:Int):VVm×Int:=({v with d:=(gP v.d n v.conf.data).1},(gP v.d n v.conf.data).2)
def eg(v:VVm):Int×VVm×Int:=((bo v.d).1,{v with d:=(bo v.d).2.1},(bo v.d).2.2)
def gK(v:VVm)(n:Int):VVm×Int:=if v.conf.ret<=(v.r.length:Int)then(v,-5)else({v with r:=v.r++[n]},0)
def fv(v:VVm):Int×VVm×Int:=if v.r.length=0 then(0,v,-6)else(v.r.getD (v.r.length-1) 0,{v with r:=v.r.take (v.r.length-1)},0)
def cG(k:VWk)(e:Int):VWk:=if k.bad=0 then {k with bad:=e} else k
def jp(k:VWk)(n:Int):VWk:={cG k (fQ k.v n).2 with v:=(fQ k.v n).1}
def gq(k:VWk):VWk×Int:=({cG k (eg k.v).2.2 with v:=(eg k.v).2.1},(eg k.v).1)
def ey(k:VWk)(n:Int):VWk:={cG k (gK k.v n).2 with v:=(gK k.v n).1}
def iu(k:VWk):VWk×Int:=({cG k (fv k.v).2.2 with v:=(fv k.v).2.1},(fv k.v).1)
def bu(k:VWk)(at_:Int):VWk×Int:=(cG k (am k.v.mem at_).2,(am k.v.mem at_).1)
def mY(k:VWk)(at_ n:Int):VWk:={cG k (ay k.v.mem at_ n).2 with v:=tb k.v (ay k.v.mem at_ n).1}
def lf(k:VWk)(n:Int):VWk×Int:=if (k.v.r.length:Int)<=n then(cG k (-6),0)else(k,k.v.r.getD (k.v.r.length-1-n.toNat) 0)
def dTo(k:VWk):VWk:={(bu k k.ip).1 with ip:=(bu k k.ip).2}
def jW(k:VWk):VWk:={k with ip:=W64 (k.ip+8)}
def MT(k:VWk)(xt:Int):VWk:={k with w:=xt,dof:=true}
def ox(i l n:Int):Int×Bool:=(W64 (i+n),if 0<=n then decide (W64 (i-l)<0)&&decide (0<=W64 (W64 (i-l)+n))else decide (0<=W64 (i-l))&&decide (W64 (W64 (i-l)+n)<0))
def Ad(k:VWk)(n:Int):VWk :=
 let a:=lf k 1
 let b:=lf a.1 0
 if b.1.bad≠0 then b.1 else
  let c:=(iu b.1).1
  if (ox b.2 a.2 n).2 then jW (iu c).1 else dTo (ey c (ox b.2 a.2 n).1)
def wU(k:VWk):VWk×Int×Int:=let a:=gq k;let b:=gq a.1;(b.1,a.2,b.2)
def vG(k:VWk):VWk:=if k.v.f.length=0 then cG k (-6)else
 jp {k with ip:=(k.v.f.getD (k.v.f.length-1) default).ip,v:={k.v with f:=k.v.f.take (k.v.f.length-1)}} 0
def Dp(k:VWk):VWk :=
 if k.v.last=0\/(av k.v k.v.last).2≠0\/((av k.v k.v.last).1≠257/\(av k.v k.v.last).1≠259)then cG k (-31)else
  let b:=mY (mY k k.v.last 259) (W64 ((mY k k.v.last 259).v.last+8)) (mY k k.v.last 259).ip
  {(iu b).1 with ip:=(iu b).2}
def Xg(k:VWk):VWk :=
 let a:=bu k k.ip
 let at_:=W64 (k.ip+8)
 let b:=if bt a.1.v.mem at_ a.2 then a.1 else cG a.1 (-9)
 {jp (jp b at_) a.2 with ip:=(wI [65,76,73,71,78,69,68] (W64 (at_+a.2))).1}
def tf(k:VWk)(name:Str):VWk×Bool :=
 if name=[40,101,120,105,116,41]then({(iu k).1 with ip:=(iu k).2},true)else
 if name=[40,108,105,116,41]then(jW (jp (bu k k.ip).1 (bu k k.ip).2),true)else
 if name=[40,98,114,97,110,99,104,41]then(dTo k,true)else
 if name=[40,48,98,114,97,110,99,104,41]then(if (gq k).2=0 then dTo (gq k).1 else jW (gq k).1,true)else
 if name=[40,100,111,41]then(let t:=wU k;ey (ey t.1 t.2.2) t.2.1,true)else
 if name=[40,63,100,111,41]then(let t:=wU k;if t.2.1=t.2.2 then dTo t.1 else jW (ey (ey t.1 t.2.2) t.2.1),true)else
 if name=[40,108,111,111,112,41]then(Ad k 1,true)else
 if name=[40,43,108,111,111,112,41]then(Ad (gq k).1 (gq k).2,true)else
 if name=[40,104,97,108,116,41]then({k with over:=true},true)else
 if name=[40,99,97,117,103,104,116,41]then(vG k,true)else
 if name=[40,100,111,101,115,41]then(Dp k,true)else
 if name=[40,115,116,114,41]then(Xg k,true)else(k,false)
def BC(k:VWk):VWk :=
 let a:=gq k
 let b:=if 64<=(a.1.v.f.length:Int)then cG a.1 (-5)else a.1
 MT {b with ip:=24,v:={b.v with f:=b.v.f++[⟨(b.v.d.length:Int),(b.v.r.length:Int),b.ip⟩]}} a.2
def GF(k:VWk)(name:Str):VWk :=
 if name=[69,88,69,67,85,84,69]then MT (gq k).1 (gq k).2 else
 if name=[67,65,84,67,72]then BC k else
 if name=[84,72,82,79,87]then cG (gq k).1 (gq k).2 else
 if name=[73]\/name=[82,64]then jp (lf k 0).1 (lf k 0).2 else
 if name=[74]then jp (lf k 2).1 (lf k 2).2 else
 if name=[85,78,76,79,79,80]then(iu (iu (lf k 1).1).1).1 else
 if name=[62,82]then ey (gq k).1 (gq k).2 else
 if name=[82,62]then jp (iu k).1 (iu k).2 else
 if name=[50,62,82]then(let t:=wU k;ey (ey t.1 t.2.2) t.2.1)else
 if name=[50,82,62]then(let a:=iu k;let b:=iu a.1;jp (jp b.1 b.2) a.2)else k
def pZ(k:VWk)(xt:Int):VWk :=
 let a:=bu k (W64 (xt+16))
 let b:=bu a.1 (W64 (xt+24))
 let c:=if a.2<0\/b.2<=a.2 then cG b.1 (-24)else b.1
 let d:=bu c (W64 (W64 (xt+32)+W64 (8*a.2)))
 if d.2=0 then d.1 else MT d.1 d.2
def rV(k:VWk)(xt:Int):VWk :=
 let q:=av k.v xt
 if q.2≠0 then cG k q.2 else
 if 300<=q.1 then cG k (-14)else
 if q.1=256 then {ey k k.ip with ip:=W64 (xt+8)} else
 if q.1=257 then jp k (W64 (xt+16))else
 if q.1=258 then jp (bu k (W64 (xt+16))).1 (bu k (W64 (xt+16))).2 else
 if q.1=259 then(let a:=bu k (W64 (xt+8));{ey (jp a.1 (W64 (xt+16))) (jp a.1 (W64 (xt+16))).ip with ip:=a.2})else
 if q.1=260 then pZ k xt else
 if 23<=q.1 then {cG k (doS k.v q.1).2 with v:=(doS k.v q.1).1} else
 if (tf k (ao.getD q.1.toNat [])).2 then(tf k (ao.getD q.1.toNat [])).1 else GF (tf k (ao.getD q.1.toNat [])).1 (ao.getD q.1.toNat [])
def lc(s:List Int)(n:Nat):List Int:=s.take n++List.replicate (n-s.length) 0
def ct(a:bJ)(bad:Int):bJ×Int :=
 if a.vm.f.length=0 then(a,bad)else
  let f:=a.vm.f.getD (a.vm.f.length-1) default
  ({a with vm:={a.vm with f:=a.vm.f.take (a.vm.f.length-1),d:=lc a.vm.d (min f.d (a.vm.conf.data-1)).toNat++[bad],r:=lc a.vm.r (min f.r a.vm.conf.ret).toNat},ip:=f.ip},0)
def bT(r:bJ):bJ×Bool×Int :=
 if r.fuel<1 then(r,false,-256)else
  let k0:VWk:=⟨r.vm,r.ip,0,false,false,0⟩
  let q:=if r.dof then(k0,r.w)else(let a:=bu k0 r.ip;(if a.1.bad=0 then jW a.1 else a.1,a.2))
  let ahead:bJ:=⟨r.vm,q.1.ip,0,false,W64 (r.fuel-1)⟩
  let k:=if q.1.bad=0 then rV q.1 q.2 else q.1
  if k.bad=0 then(⟨k.v,k.ip,k.w,k.dof,W64 (r.fuel-1)⟩,k.over,0)else((ct ahead k.bad).1,false,(ct ahead k.bad).2)
def AA(v:VVm)(xt fuel:Int):bJ:=⟨{v with r:=[],f:=[]},16,xt,true,fuel⟩
def zC(v:VVm):VVm:={v with r:=[],f:=[]}
def yu:Nat->bJ->VVm×Int×Int
 | 0,r=>(zC r.vm,r.fuel,-256)
 | n+1,r=>if (bT r).2.1=true\/(bT r).2.2≠0 then(zC (bT r).1.vm,(bT r).1.fuel,(bT r).2.2)else yu n (bT r).1
inductive yM where
 | ok
 | bad (e:Int)
 | halt
 deriving DecidableEq,Inhabited
structure PW where
 r:bJ
 err:yM
 deriving DecidableEq,Inhabited
def pOk(k:PW)(v:VVm)(e:Int):PW:=match k.err with
 | .ok=>if e=0 then {k with r:={k.r with vm:=v}} else {k with err:=.bad e}
 | _=>k
def iz:yM->Bool
 | .ok=>true
 | _=>false
def dr(k:PW)(n:Int):PW:=pOk k (fQ k.r.vm n).1 (fQ k.r.vm n).2
def bc(k:PW):PW×Int:=(pOk k (eg k.r.vm).2.1 (eg k.r.vm).2.2,if iz (pOk k (eg k.r.vm).2.1 (eg k.r.vm).2.2).err then(eg k.r.vm).1 else 0)
def jl(k:PW)(n:Int):PW:=pOk k (gK k.r.vm n).1 (gK k.r.vm n).2
def gD(k:PW):PW×Int:=(pOk k (fv k.r.vm).2.1 (fv k.r.vm).2.2,if iz (pOk k (fv k.r.vm).2.1 (fv k.r.vm).2.2).err then(fv k.r.vm).1 else 0)
def bx(k:PW)(a:Int):PW×Int:=(pOk k k.r.vm (am k.r.vm.mem a).2,(am k.r.vm.mem a).1)
def mW(k:PW)(a n:Int):PW:=pOk k (tb k.r.vm (ay k.r.vm.mem a n).1) (ay k.r.vm.mem a n).2
def vX(k:PW)(xt:Int):PW:={k with r:={k.r with w:=xt,dof:=true}}
def wIp(k:PW)(a:Int):PW:={k with r:={k.r with ip:=a}}
def XU(k:PW)(e:yM):PW:={k with err:=e}
def cq(k:PW)(n:Nat):PW×Int:=if k.r.vm.r.length<=n then(pOk k k.r.vm (-6),0)else(k,k.r.vm.r.getD (k.r.vm.r.length-1-n) 0)
def lq(k:PW)(b:Bool):PW:=if b then wIp (bx k k.r.ip).1 (bx k k.r.ip).2 else wIp k (W64 (k.r.ip+8))
def py(k:PW)(n:Int):PW :=
 if iz (cq (cq k 1).1 0).1.err then
  lq (if (ox (cq (cq k 1).1 0).2 (cq k 1).2 n).2 then(gD (gD (cq (cq k 1).1 0).1).1).1 else jl (gD (cq (cq k 1).1 0).1).1 (ox (cq (cq k 1).1 0).2 (cq k 1).2 n).1) (!(ox (cq (cq k 1).1 0).2 (cq k 1).2 n).2)
 else(cq (cq k 1).1 0).1
def mN(k:PW):PW :=
 if k.r.vm.last=0\/(av k.r.vm k.r.vm.last).2≠0\/((av k.r.vm k.r.vm.last).1≠257/\(av k.r.vm k.r.vm.last).1≠259)then pOk k k.r.vm (-31)else
  mW (mW k k.r.vm.last 259) (W64 (k.r.vm.last+8)) (mW k k.r.vm.last 259).r.ip
def ti(k:PW):PW:=wIp (gD k).1 (gD k).2
def wDo(k:PW):PW:=jl (jl (bc (bc k).1).1 (bc (bc k).1).2) (bc k).2
def As(k:PW):PW :=
 if (bc k).2=(bc (bc k).1).2 then lq (bc (bc k).1).1 true else
  wDo (wIp (dr (dr (bc (bc k).1).1 (bc (bc k).1).2) (bc k).2) (W64 ((dr (dr (bc (bc k).1).1 (bc (bc k).1).2) (bc k).2).r.ip+8)))
def OB(k:PW):PW:=wIp (dr (bx k k.r.ip).1 (bx k k.r.ip).2) (W64 ((dr (bx k k.r.ip).1 (bx k k.r.ip).2).r.ip+8))
def lm(k:PW):PW:=if k.r.vm.f.length=0 then pOk k k.r.vm (-6)else
 dr {k with r:={k.r with ip:=(k.r.vm.f.getD (k.r.vm.f.length-1) default).ip,vm:={k.r.vm with f:=k.r.vm.f.take (k.r.vm.f.length-1)}}} 0
def Jr(k:PW):PW :=
 wIp (dr (dr (pOk (bx k k.r.ip).1 (bx k k.r.ip).1.r.vm (dU (bx k k.r.ip).1.r.vm.mem (W64 (k.r.ip+8)) (bx k k.r.ip).2).2) (W64 (k.r.ip+8))) (bx k k.r.ip).2)
  (wI [65,76,73,71,78,69,68] (W64 (W64 (k.r.ip+8)+(bx k k.r.ip).2))).1
def wFr(b:PW):PW:={b with r:={b.r with ip:=24,vm:={b.r.vm with f:=b.r.vm.f++[⟨(b.r.vm.d.length:Int),(b.r.vm.r.length:Int),b.r.ip⟩]}}}
def oJ(k:PW):PW:=vX (wFr (if 64<=((bc k).1.r.vm.f.length:Int)then pOk (bc k).1 (bc k).1.r.vm (-5)else(bc k).1)) (bc k).2
def AZ(k:PW):PW:=jl (jl (bc (bc k).1).1 (bc (bc k).1).2) (bc k).2
def tc(k:PW):PW:=dr (dr (gD (gD k).1).1 (gD (gD k).1).2) (gD k).2
def G7(k:PW)(name:Str):PW :=
 if name=[40,99,97,117,103,104,116,41]then lm k else
 if name=[40,115,116,114,41]then Jr k else
 if name=[69,88,69,67,85,84,69]then vX (bc k).1 (bc k).2 else
 if name=[67,65,84,67,72]then oJ k else
 if name=[84,72,82,79,87]then pOk (bc k).1 (bc k).1.r.vm (bc k).2 else
 if name=[73]then dr (cq k 0).1 (cq k 0).2 else
 if name=[74]then dr (cq k 2).1 (cq k 2).2 else
 if name=[85,78,76,79,79,80]then(gD (gD (cq k 1).1).1).1 else
 if name=[62,82]then jl (bc k).1 (bc k).2 else
 if name=[82,62]then dr (gD k).1 (gD k).2 else
 if name=[82,64]then dr (cq k 0).1 (cq k 0).2 else
 if name=[50,62,82]then AZ k else
 if name=[50,82,62]then tc k else k
def mF(k:PW)(name:Str):PW :=
 if name=[40,100,111,101,115,41]then ti (mN k)else
 if name=[40,101,120,105,116,41]then ti k else
 if name=[40,108,105,116,41]then OB k else
 if name=[40,98,114,97,110,99,104,41]then lq k true else
 if name=[40,48,98,114,97,110,99,104,41]then lq (bc k).1 (decide ((bc k).2=0))else
 if name=[40,63,100,111,41]then As k else
 if name=[40,100,111,41]then wDo k else
 if name=[40,108,111,111,112,41]then py k 1 else
 if name=[40,43,108,111,111,112,41]then py (bc k).1 (bc k).2 else
 if name=[40,104,97,108,116,41]then XU k .halt else G7 k name
def fJ(k:PW)(b:Int):PW :=
 let p:=bx k b
 let q:=bx p.1 (W64 (b+8))
 let c:=if iz q.1.err&&(decide (p.2<0)||decide (q.2<=p.2))then pOk q.1 q.1.r.vm (-24)else q.1
 let x:=bx c (W64 (W64 (b+16)+W64 (8*p.2)))
 if x.2=0 then x.1 else vX x.1 x.2
def kr(k0:PW)(xt:Int):PW :=
 let n:=(av k0.r.vm xt).1
 let k:=pOk k0 k0.r.vm (av k0.r.vm xt).2
 if iz k.err then
  if 300<=n then pOk k k.r.vm (-14)else
  if n=256 then wIp (jl k k.r.ip) (W64 (xt+8))else
  if n=257 then dr k (W64 (xt+16))else
  if n=258 then dr (bx k (W64 (xt+16))).1 (bx k (W64 (xt+16))).2 else
  if n=259 then wIp (jl (dr (bx k (W64 (xt+8))).1 (W64 (xt+16))) (dr (bx k (W64 (xt+8))).1 (W64 (xt+16))).r.ip) (bx k (W64 (xt+8))).2 else
  if n=260 then fJ k (W64 (xt+16))else
  if 23<=n/\n<=129 then pOk k (doS k.r.vm n).1 (doS k.r.vm n).2 else mF k (ao.getD n.toNat [])
 else k
def gF(r:bJ):PW:=⟨{r with w:=0,dof:=false,fuel:=W64 (r.fuel-1)},.ok⟩
def cd(r:bJ):PW×Int :=
 if r.dof then(gF r,r.w)else
  (if iz (bx (gF r) r.ip).1.err then wIp (bx (gF r) r.ip).1 (W64 ((bx (gF r) r.ip).1.r.ip+8))else(bx (gF r) r.ip).1,(bx (gF r) r.ip).2)
def iG(r:bJ):PW:=if iz (cd r).1.err then kr (cd r).1 (cd r).2 else(cd r).1
def s7(r:bJ):bJ×Bool×Int :=
 if r.fuel<1 then(r,false,-256)else
  match (iG r).err with
  | .ok=>((iG r).r,false,0)
  | .halt=>((iG r).r,true,0)
  | .bad e=>((ct (cd r).1.r e).1,false,(ct (cd r).1.r e).2)
def Rel(p:PW)(d:VWk):Prop:=match p.err with
 | .ok=>d=⟨p.r.vm,p.r.ip,p.r.w,p.r.dof,false,0⟩
 | .bad e=>d.bad=e/\e≠0
 | .halt=>False
def K1(p:PW×Int)(d:VWk×Int):Prop:=Rel p.1 d.1/\(p.1.err=.ok->p.2=d.2)
def Rel.ok{p:PW}{d:VWk}(h:Rel p d)(k:p.err=.ok):d=⟨p.r.vm,p.r.ip,p.r.w,p.r.dof,false,0⟩:=by unfold Rel at h;rw[k]at h;exact h
def Rel.bad{p:PW}{d:VWk}{e:Int}(h:Rel p d)(k:p.err=.bad e):d.bad=e/\e≠0:=by unfold Rel at h;rw[k]at h;exact h
def Rel.cases{p:PW}{d:VWk}(h:Rel p d):(p.err=.ok)\/∃e,p.err=.bad e:=by
 unfold Rel at h
 cases k:p.err with
 | ok=>exact .inl rfl
 | bad e=>exact .inr ⟨e,rfl⟩
 | halt=>rw[k]at h;exact h.elim
def xC{p:PW}{d:VWk}(k:p.err=.ok)(h:d=⟨p.r.vm,p.r.ip,p.r.w,p.r.dof,false,0⟩):Rel p d:=by unfold Rel;rw[k];exact h
def jH{p:PW}{d:VWk}{e:Int}(k:p.err=.bad e)(h:d.bad=e)(h0:e≠0):Rel p d:=by unfold Rel;rw[k];exact⟨h,h0⟩
def jb{k:PW}{c e:Int}{v:VVm}(h:k.err=.bad c):pOk k v e=k:=by unfold pOk;rw[h]
def io{k:PW}{e:Int}{v:VVm}(h:(pOk k v e).err=.ok):k.err=.ok/\e=0:=by
 unfold pOk at h
 cases k1:k.err with
 | ok =>
  rw[k1]at h;simp only at h
  by_cases he:e=0
  ·exact⟨rfl,he⟩
  rw[if_neg he]at h;cases h
 | bad c=>rw[k1]at h;simp only at h;rw[k1]at h;cases h
 | halt=>rw[k1]at h;simp only at h;rw[k1]at h;cases h
def il{e:yM}:iz e=true↔e=.ok:=by cases e<;>simp[iz]
def In{d:VWk}{e:Int}(h:d.bad≠0):cG d e=d:=by unfold cG;rw[if_neg h]
def sy{p:PW}{d:VWk}{v v':VVm}{e e':Int}(h:Rel p d)(he:p.err=.ok->e=e'/\(e=0->v=v')):Rel (pOk p v e) {cG d e' with v:=v'}:=by
 rcases h.cases with k|⟨c,k⟩
 ·obtain⟨rfl,hv⟩:=he k
  have hd:=h.ok k
  subst hd
  unfold pOk cG;rw[k];simp only[if_true]
  by_cases he:e=0
  ·rw[if_pos he];exact xC rfl (by rw[hv he,he])
  rw[if_neg he];exact jH rfl rfl he
 have hb:=h.bad k
 rw[jb k]
 exact jH k (by rw[In (by rw[hb.1];exact hb.2)];exact hb.1) hb.2
def mm{p:PW}{d:VWk}{e:Int}(h:Rel p d):Rel (pOk p p.r.vm e) (cG d e):=by
 have k:=sy (v:=p.r.vm) (v':=d.v) (e:=e) (e':=e) h (fun k=>⟨rfl,fun _=>by rw[h.ok k]⟩)
 have e2:({cG d e with v:=d.v}:VWk)=cG d e:=by unfold cG;split<;>rfl
 rw[e2]at k;exact k
def ii{p:PW}{d:VWk}(h:Rel p d){n n':Int}(hn:p.err=.ok->n=n'):Rel (dr p n) (jp d n') :=
 sy h (fun k=>by rw[h.ok k,hn k];exact⟨rfl,fun _=>rfl⟩)
def kH{p:PW}{d:VWk}(h:Rel p d){n n':Int}(hn:p.err=.ok->n=n'):Rel (jl p n) (ey d n') :=
 sy h (fun k=>by rw[h.ok k,hn k];exact⟨rfl,fun _=>rfl⟩)
def Cq{p:PW}{d:VWk}(h:Rel p d){a a' n n':Int}(hn:p.err=.ok->a=a'/\n=n'):Rel (mW p a n) (mY d a' n') :=
 sy h (fun k=>by rw[h.ok k,(hn k).1,(hn k).2];exact⟨rfl,fun _=>rfl⟩)
def jy{p:PW}{d:VWk}(h:Rel p d):K1 (bc p) (gq d) :=
 ⟨sy h (fun k=>by rw[h.ok k];exact⟨rfl,fun _=>rfl⟩),fun k=>by
  have k':(pOk p (eg p.r.vm).2.1 (eg p.r.vm).2.2).err=.ok:=k
  show(if iz _ then _ else _)=_
  rw[if_pos (il.2 k'),h.ok (io k).1];rfl⟩
def j0{p:PW}{d:VWk}(h:Rel p d):K1 (gD p) (iu d) :=
 ⟨sy h (fun k=>by rw[h.ok k];exact⟨rfl,fun _=>rfl⟩),fun k=>by
  have k':(pOk p (fv p.r.vm).2.1 (fv p.r.vm).2.2).err=.ok:=k
  show(if iz _ then _ else _)=_
  rw[if_pos (il.2 k'),h.ok (io k).1];rfl⟩
def jA{p:PW}{d:VWk}(h:Rel p d){a a':Int}(ha:p.err=.ok->a=a'):K1 (bx p a) (bu d a'):=by
 refine⟨?_,fun k=>by
  show(am _ _).1=(am _ _).1
  rw[h.ok (io k).1,ha (io k).1]⟩
 have k:=sy (v:=p.r.vm) (v':=d.v) (e:=(am p.r.vm.mem a).2) (e':=(am d.v.mem a').2) h (fun k=>⟨by rw[h.ok k,ha k],fun _=>by rw[h.ok k]⟩)
 have e2:({cG d (am d.v.mem a').2 with v:=d.v}:VWk)=(bu d a').1:=by unfold bu cG;dsimp only;split<;>rfl
 rw[e2]at k;exact k
def xJ{p:PW}{d:VWk}(h:Rel p d){a a':Int}(ha:p.err=.ok->a=a'):Rel (wIp p a) {d with ip:=a'}:=by
 rcases h.cases with k|⟨c,k⟩
 ·exact xC k (by rw[h.ok k,ha k];rfl)
 exact jH k (h.bad k).1 (h.bad k).2
def Gi{p:PW}{d:VWk}(h:Rel p d){a a':Int}(ha:p.err=.ok->a=a'):Rel (vX p a) (MT d a'):=by
 rcases h.cases with k|⟨c,k⟩
 ·exact xC k (by rw[h.ok k,ha k];rfl)
 exact jH k (h.bad k).1 (h.bad k).2
def tX{p A B:PW}{d A' B':VWk}{c c':Prop}[Decidable c][Decidable c'](h:Rel p d)(hc:p.err=.ok->(c↔c'))(h1:Rel A A')(h2:Rel B B')
  (hp:∀e,p.err=.bad e->A.err=.bad e/\B.err=.bad e) (hd:d.bad≠0->A'.bad=d.bad/\B'.bad=d.bad):Rel (if c then A else B) (if c' then A' else B'):=by
 rcases h.cases with k|⟨e,k⟩
 ·by_cases q:c
  ·rw[if_pos q,if_pos ((hc k).1 q)];exact h1
  rw[if_neg q,if_neg (fun q'=>q ((hc k).2 q'))];exact h2
 have hb:=h.bad k
 have h3:=hp e k
 have h4:=hd (by rw[hb.1];exact hb.2)
 have a1:(if c then A else B).err=.bad e:=by split;exact h3.1;exact h3.2
 have a2:(if c' then A' else B').bad=e:=by split;rw[h4.1,hb.1];rw[h4.2,hb.1]
 exact jH a1 a2 hb.2
section
variable {p : PW} {e : Int} (h : p.err = .bad e)
include h
def Jv{n:Int}:dr p n=p:=jb h
def Mv{n:Int}:jl p n=p:=jb h
def Me{a n:Int}:mW p a n=p:=jb h
def Y2:(bc p).1=p:=jb h
def Kp:(gD p).1=p:=jb h
def UT{a:Int}:(bx p a).1=p:=jb h
def Ue{n:Nat}:(cq p n).1=p:=by unfold cq;split;exact jb h;rfl
end
section
variable {d : VWk} (h : d.bad ≠ 0)
include h
def m5{e:Int}:(cG d e).bad=d.bad:=by rw[In h]
def tM{n:Int}:(ey d n).bad=d.bad:=m5 h
def Fh{a n:Int}:(mY d a n).bad=d.bad:=m5 h
def ad9:(iu d).1.bad=d.bad:=m5 h
def UY{a:Int}:(bu d a).1.bad=d.bad:=m5 h
def aq4{n:Int}:(lf d n).1.bad=d.bad:=by unfold lf;split;exact m5 h;rfl
def au6:(dTo d).bad=d.bad:=UY h
end
def lr{p:PW}{d:VWk}(h:Rel p d)(n:Nat):K1 (cq p n) (lf d (n:Int)):=by
 rcases h.cases with k|⟨e,k⟩
 ·have hd:=h.ok k
  by_cases q:p.r.vm.r.length<=n
  ·have q':(d.v.r.length:Int)<=(n:Int):=by rw[hd];dsimp only;omega
   unfold cq lf;rw[if_pos q,if_pos q']
   exact⟨mm h,fun _=>rfl⟩
  have q':¬(d.v.r.length:Int)<=(n:Int):=by rw[hd];dsimp only;omega
  unfold cq lf;rw[if_neg q,if_neg q']
  exact⟨h,fun _=>by rw[hd];rfl⟩
 have hb:=h.bad k
 have hb0:d.bad≠0:=by rw[hb.1];exact hb.2
 exact⟨jH (by rw[Ue k];exact k) (by rw[aq4 hb0,hb.1]) hb.2,fun q=>by rw[Ue k,k]at q;cases q⟩
def AF{p:PW}{d:VWk}(h:Rel p d):Rel (lq p true) (dTo d):=by
 have f:=jA h (a:=p.r.ip) (a':=d.ip) (fun k=>by rw[h.ok k])
 exact xJ f.1 f.2
def tv{p:PW}{d:VWk}(h:Rel p d):Rel (lq p false) (jW d):=xJ h (fun k=>by rw[h.ok k])
def I6{p:PW}{e:Int}(h:p.err=.bad e)(b:Bool):(lq p b).err=.bad e:=by
 unfold lq;split
 ·show(bx p p.r.ip).1.err=_;rw[UT h];exact h
 exact h
def yY{p:PW}{n:Nat}(h:(cq p n).1.err=.ok):p.err=.ok:=by
 unfold cq at h;split at h
 ·exact(io h).1
 exact h
def JY{p:PW}(h:(bc p).1.err=.ok):p.err=.ok:=(io h).1
def XD{p:PW}(h:(gD p).1.err=.ok):p.err=.ok:=(io h).1
def wK{p:PW}{n:Int}(h:(dr p n).err=.ok):p.err=.ok:=(io h).1
def HG{p:PW}{n:Int}(h:(jl p n).err=.ok):p.err=.ok:=(io h).1
def GO{p:PW}{n:Int}(h:(bx p n).1.err=.ok):p.err=.ok:=(io h).1
def zb{p:PW}{n:Int}:(bx p n).1.r=p.r:=by
 unfold bx pOk;dsimp only;cases p.err<;>dsimp only;split<;>rfl
def QT{p:PW}{v:VVm}{e:Int}:(pOk p v e).r.ip=p.r.ip:=by
 unfold pOk;cases p.err<;>dsimp only;split<;>rfl
def Ge{p:PW}{d:VWk}(h:Rel p d):Rel (ti p) {(iu d).1 with ip:=(iu d).2}:=xJ (j0 h).1 (j0 h).2
def Yo{p:PW}{d:VWk}(h:Rel p d):Rel (OB p) (jW (jp (bu d d.ip).1 (bu d d.ip).2)):=by
 have f:=jA h (a:=p.r.ip) (a':=d.ip) (fun k=>by rw[h.ok k])
 exact tv (ii f.1 f.2)
def aj4{p:PW}{d:VWk}(h:Rel p d):Rel (lq (bc p).1 (decide ((bc p).2=0))) (if (gq d).2=0 then dTo (gq d).1 else jW (gq d).1):=by
 have f:=jy h
 have e:lq (bc p).1 (decide ((bc p).2=0))=if (bc p).2=0 then lq (bc p).1 true else lq (bc p).1 false:=by
  by_cases q:(bc p).2=0
  ·rw[if_pos q,decide_eq_true q]
  rw[if_neg q,decide_eq_false q]
 rw[e]
 exact tX f.1 (fun k=>by rw[f.2 k]) (AF f.1) (tv f.1) (fun e k=>⟨I6 k _,I6 k _⟩) (fun k=>⟨au6 k,rfl⟩)
def GE{p:PW}{d:VWk}(h:Rel p d){n n':Int}(hn:p.err=.ok->n=n'):Rel (py p n) (Ad d n'):=by
 have a:K1 (cq p 1) (lf d 1):=lr h 1
 have b:K1 (cq (cq p 1).1 0) (lf (lf d 1).1 0):=lr a.1 0
 rcases b.1.cases with k|⟨e,k⟩
 ·have hb:(lf (lf d 1).1 0).1.bad=0:=by rw[b.1.ok k]
  have a2:=a.2 (yY k)
  have b2:=b.2 k
  have n2:=hn (yY (yY k))
  have c:=(j0 b.1).1
  unfold py Ad
  dsimp only
  have hb':¬(lf (lf d 1).1 0).1.bad≠0:=fun q=>q hb
  rw[if_pos (il.2 k),if_neg hb',a2,b2,n2]
  by_cases q:(ox (lf (lf d 1).1 0).2 (lf d 1).2 n').2=true
  ·rw[if_pos q,if_pos q,q]
   exact tv (j0 c).1
  have q':(ox (lf (lf d 1).1 0).2 (lf d 1).2 n').2=false:=by simpa using q
  rw[if_neg q,if_neg q,q']
  exact AF (kH c (fun _=>rfl))
 have hb:=b.1.bad k
 unfold py Ad
 dsimp only
 rw[if_neg (by rw[k];simp[iz]),if_pos (fun q=>hb.2 (hb.1.symm.trans q))]
 exact b.1
def MJ{p:PW}{d:VWk}(h:Rel p d):Rel (AZ p) (ey (ey (wU d).1 (wU d).2.2) (wU d).2.1):=by
 have a:=jy h
 have b:=jy a.1
 exact kH (kH b.1 b.2) (fun k=>a.2 (JY (HG k)))
def Uw{p:PW}{d:VWk}(h:Rel p d):Rel (tc p) (jp (jp (iu (iu d).1).1 (iu (iu d).1).2) (iu d).2):=by
 have a:=j0 h
 have b:=j0 a.1
 exact ii (ii b.1 b.2) (fun k=>a.2 (XD (wK k)))
def IC{q:PW}{n:Int}(k:q.err=.ok)(h:(q.r.vm.d.length:Int)<q.r.vm.conf.data):bc (dr q n)=(q,n):=by
 obtain⟨⟨v,ip,w,df,fu⟩,err⟩:=q
 simp only at k;subst k
 have e:dr ⟨⟨v,ip,w,df,fu⟩,.ok⟩ n=⟨⟨{v with d:=v.d++[n]},ip,w,df,fu⟩,.ok⟩:=by
  unfold dr fQ gP pOk
  simp only at h
  simp only[if_neg (show ¬v.conf.data<=(v.d.length:Int) by omega),if_true]
 rw[e]
 have e2:bo (v.d++[n])=(n,v.d,0):=by
  unfold bo
  rw[if_neg (by simp)]
  simp
 unfold bc eg pOk
 simp only[e2,if_true,iz]
def ab2{q:PW}{a:Int}:bc (wIp q a)=(wIp (bc q).1 a,(bc q).2):=by
 obtain⟨r,err⟩:=q
 unfold bc wIp pOk
 cases err<;>dsimp only
 split<;>rfl
def zW{d:VWk}{n:Int}:jW (ey d n)=ey (jW d) n:=by
 unfold jW ey cG;dsimp only;split<;>rfl
def Ze{p:PW}(k:(bc p).1.err=.ok):(bc p).1.r.vm.d.length+1=p.r.vm.d.length/\(bc p).1.r.vm.conf=p.r.vm.conf:=by
 obtain⟨r,err⟩:=p
 have h1:=io k
 simp only at h1
 obtain⟨rfl,h2⟩:=h1
 have hl:r.vm.d.length≠0:=by
  intro q
  unfold eg bo at h2;rw[if_pos q]at h2;cases h2
 unfold bc pOk
 simp only[h2,if_true]
 unfold eg bo
 simp only[if_neg hl,List.length_take]
 exact⟨by omega,trivial⟩
def Vl{p:PW}{d:VWk}(h:Rel p d)(hd:(p.r.vm.d.length:Int)<=p.r.vm.conf.data):
  Rel (As p) (if (wU d).2.1=(wU d).2.2 then dTo (wU d).1 else jW (ey (ey (wU d).1 (wU d).2.2) (wU d).2.1)):=by
 have a:=jy h
 have b:=jy a.1
 rcases b.1.cases with k|⟨e,k⟩
 ·have a2:=a.2 (JY k)
  have b2:=b.2 k
  have l1:=Ze (JY k)
  have l2:=Ze k
  unfold As wU
  dsimp only
  by_cases q:(bc p).2=(bc (bc p).1).2
  ·rw[if_pos q,if_pos (show(gq d).2=(gq (gq d).1).2 by rw[<-a2,<-b2];exact q)]
   exact AF b.1
  rw[if_neg q,if_neg (show ¬(gq d).2=(gq (gq d).1).2 by rw[<-a2,<-b2];exact q)]
  have b1:Rel (bc (bc p).1).1 (gq (gq d).1).1:=b.1
  generalize hP:(bc (bc p).1).1=P at *
  have e1:=IC (n:=(bc (bc p).1).2) k (by rw[l2.2,l1.2];omega)
  have l3:(dr P (bc (bc p).1).2).err=.ok:=by
   have:(pOk P (fQ P.r.vm (bc (bc p).1).2).1 (fQ P.r.vm (bc (bc p).1).2).2).err=.ok:=by
    unfold pOk fQ gP
    simp only[k,if_neg (show ¬P.r.vm.conf.data<=(P.r.vm.d.length:Int) by rw[l2.2,l1.2];omega),if_true]
   exact this
  have l4:(dr P (bc (bc p).1).2).r.vm.d.length=P.r.vm.d.length+1/\(dr P (bc (bc p).1).2).r.vm.conf=P.r.vm.conf:=by
   unfold dr pOk fQ gP
   simp only[k,if_neg (show ¬P.r.vm.conf.data<=(P.r.vm.d.length:Int) by rw[l2.2,l1.2];omega),if_true]
   simp
  have e2:=IC (n:=(bc p).2) l3 (by rw[l4.2,l2.2,l1.2];omega)
  have ip1:(dr (dr P (bc (bc p).1).2) (bc p).2).r.ip=P.r.ip:=by
   show(pOk (pOk P _ _) _ _).r.ip=_
   rw[QT,QT]
  unfold wDo
  simp only[ab2,e2,e1,ip1]
  rw[zW,zW]
  exact kH (kH (tv b1) (fun k=>b2)) (fun k=>a2)
 have hb:=b.1.bad k
 have hb0:(gq (gq d).1).1.bad≠0:=by rw[hb.1];exact hb.2
 have w1:∀A:PW,A.err=.bad e->∀n m a,(wDo (wIp (dr (dr A n) m) a)).err=.bad e:=by
  intro A kA n m a
  rw[Jv kA,Jv kA]
  unfold wDo
  have k1:(wIp A a).err=.bad e:=kA
  rw[Y2 k1,Y2 k1,Mv k1,Mv k1];exact k1
 refine tX b.1 (fun q=>by rw[k]at q;cases q) (AF b.1) (jH (e:=e) (w1 _ k _ _ _) ?_ hb.2) (fun e' k'=>⟨I6 k' _,?_⟩) (fun _=>⟨au6 hb0,?_⟩)
 ·show(ey (ey (gq (gq d).1).1 _) _).bad=e
  rw[tM (by rw[tM hb0];exact hb0),tM hb0];exact hb.1
 ·rw[k]at k';cases k';exact w1 _ k _ _ _
 show(ey (ey (gq (gq d).1).1 _) _).bad=(gq (gq d).1).1.bad
 rw[tM (by rw[tM hb0];exact hb0),tM hb0]
def Uv{p:PW}{d:VWk}(h:Rel p d):Rel (ti (mN p)) (Dp d):=by
 rcases h.cases with k|⟨e,k⟩
 ·have hd:=h.ok k
  unfold mN Dp
  have hv:d.v=p.r.vm:=by rw[hd]
  rw[hv]
  split
  ·have k2:(pOk p p.r.vm (-31)).err=.bad (-31):=by unfold pOk;rw[k];rfl
   refine jH (e:=-31) ?_ ?_ (by decide)
   ·show(gD _).1.err=_;rw[Kp k2];exact k2
   unfold cG;rw[hd];rfl
  have s1:=Cq h (a:=p.r.vm.last) (a':=d.v.last) (n:=259) (n':=259) (fun _=>⟨by rw[hv],rfl⟩)
  rw[hv]at s1
  have e1:(mW p p.r.vm.last 259).err=.ok->(mY d p.r.vm.last 259).v.last=p.r.vm.last/\(mY d p.r.vm.last 259).ip=(mW p p.r.vm.last 259).r.ip:=fun k3=>by
   rw[s1.ok k3]
   refine⟨?_,rfl⟩
   unfold mW pOk;rw[k];dsimp only;split<;>rfl
  exact Ge (Cq s1 (fun k3=>⟨by rw[(e1 k3).1],by rw[(e1 k3).2]⟩))
 have hb:=h.bad k
 have hb0:d.bad≠0:=by rw[hb.1];exact hb.2
 refine jH (e:=e) ?_ ?_ hb.2
 ·unfold ti mN
  show(gD _).1.err=_
  split
  ·rw[jb k,Kp k];exact k
  rw[Me k,Me k,Kp k];exact k
 unfold Dp
 split
 ·rw[m5 hb0];exact hb.1
 show(iu _).1.bad=e
 have s1:(mY d d.v.last 259).bad≠0:=by rw[Fh hb0];exact hb0
 have s2:=Fh s1 (a:=W64 ((mY d d.v.last 259).v.last+8)) (n:=(mY d d.v.last 259).ip)
 rw[ad9 (by rw[s2];exact s1),s2,Fh hb0];exact hb.1
def JU{p:PW}{d:VWk}(h:Rel p d):Rel (lm p) (vG d):=by
 unfold lm vG
 refine tX h (fun k=>by rw[h.ok k]) (mm h) (ii ?_ (fun _=>rfl)) (fun e k=>⟨by rw[jb k];exact k,?_⟩) (fun k=>⟨m5 k,?_⟩)
 ·rcases h.cases with k|⟨e,k⟩
  ·exact xC k (by rw[h.ok k])
  exact jH k (h.bad k).1 (h.bad k).2
 ·have hX:∀X:PW,X.err=.bad e->(dr X 0).err=.bad e:=fun X hX=>by rw[Jv hX];exact hX
  exact hX _ k
 exact m5 (d:={d with ip:=_,v:=_}) (by exact k)
def Pe{d:VWk}:cG d 0=d:=by
 obtain⟨v,ip,w,df,ov,bad⟩:=d
 unfold cG;dsimp only;split
 ·rename_i q;rw[q]
 rfl
def XP{p:PW}{d:VWk}(h:Rel p d):Rel (Jr p) (Xg d):=by
 have f:=jA h (a:=p.r.ip) (a':=d.ip) (fun k=>by rw[h.ok k])
 have ip1:(bx p p.r.ip).1.err=.ok->p.r.ip=d.ip:=fun k=>by rw[h.ok (GO k)]
 have g:Rel (pOk (bx p p.r.ip).1 (bx p p.r.ip).1.r.vm (dU (bx p p.r.ip).1.r.vm.mem (W64 (p.r.ip+8)) (bx p p.r.ip).2).2) (if bt (bu d d.ip).1.v.mem (W64 (d.ip+8)) (bu d d.ip).2 then(bu d d.ip).1 else cG (bu d d.ip).1 (-9)):=by
  rcases f.1.cases with k|⟨e,k⟩
  ·have e1:(if bt (bu d d.ip).1.v.mem (W64 (d.ip+8)) (bu d d.ip).2 then(bu d d.ip).1 else cG (bu d d.ip).1 (-9))=cG (bu d d.ip).1 (dU (bx p p.r.ip).1.r.vm.mem (W64 (p.r.ip+8)) (bx p p.r.ip).2).2:=by
    rw[<-f.2 k,f.1.ok k,<-ip1 k]
    unfold dU
    split
    ·rw[Pe]
    rfl
   rw[e1];exact mm f.1
  have hb:=f.1.bad k
  have hb0:(bu d d.ip).1.bad≠0:=by rw[hb.1];exact hb.2
  exact jH (by rw[jb k];exact k) (by split;exact hb.1;rw[m5 hb0];exact hb.1) hb.2
 refine xJ (ii (ii g ?_) ?_) ?_
 ·intro k;rw[ip1 (io k).1]
 ·intro k;exact f.2 (io (wK k)).1
 intro k
 have k1:=(io (wK (wK k))).1
 rw[f.2 k1,ip1 k1]
def Nt{p:PW}{d:VWk}(h:Rel p d):Rel (oJ p) (BC d):=by
 have a:=jy h
 have b:Rel (if 64<=((bc p).1.r.vm.f.length:Int)then pOk (bc p).1 (bc p).1.r.vm (-5)else(bc p).1) (if 64<=((gq d).1.v.f.length:Int)then cG (gq d).1 (-5)else(gq d).1) :=
  tX a.1 (fun k=>by rw[a.1.ok k]) (mm a.1) a.1 (fun e k=>⟨by rw[jb k];exact k,k⟩) (fun k=>⟨m5 k,rfl⟩)
 have hk:(if 64<=((bc p).1.r.vm.f.length:Int)then pOk (bc p).1 (bc p).1.r.vm (-5)else(bc p).1).err=.ok->(bc p).2=(gq d).2:=fun k=>a.2 (by
  split at k
  ·exact(io k).1
  exact k)
 unfold oJ wFr BC
 dsimp only
 generalize (if 64<=((bc p).1.r.vm.f.length:Int)then pOk (bc p).1 (bc p).1.r.vm (-5)else(bc p).1)=P at *
 generalize (if 64<=((gq d).1.v.f.length:Int)then cG (gq d).1 (-5)else(gq d).1)=D at *
 rcases b.cases with k|⟨e,k⟩
 ·rw[b.ok k,hk k];exact xC k rfl
 exact jH (e:=e) k (b.bad k).1 (b.bad k).2
def Mq(a b:Int):W64 (W64 a+b)=W64 (a+b):=by show IntKind.i64.wrap (IntKind.i64.wrap a+b)=IntKind.i64.wrap (a+b);rw[bU,bU,bU];exact Ee a b
def NC{p:PW}{d:VWk}(h:Rel p d):Rel (pOk (bc p).1 (bc p).1.r.vm (bc p).2) (cG (gq d).1 (gq d).2):=by
 have a:=jy h
 rcases a.1.cases with k|⟨e,k⟩
 ·rw[a.2 k];exact mm a.1
 have hb:=a.1.bad k
 exact jH (by rw[jb k];exact k) (by rw[m5 (by rw[hb.1];exact hb.2)];exact hb.1) hb.2
def FS{p:PW}{d:VWk}(h:Rel p d)(xt:Int):Rel (fJ p (W64 (xt+16))) (pZ d xt):=by
 have a:=jA h (a:=W64 (xt+16)) (a':=W64 (xt+16)) (fun _=>rfl)
 have b:=jA a.1 (a:=W64 (W64 (xt+16)+8)) (a':=W64 (xt+24)) (fun _=>by rw[Mq];exact congrArg W64 (by omega))
 unfold fJ pZ
 dsimp only
 generalize hb:bu (bu d (W64 (xt+16))).1 (W64 (xt+24))=B at *
 generalize ha:bu d (W64 (xt+16))=A at *
 generalize hb':bx (bx p (W64 (xt+16))).1 (W64 (W64 (xt+16)+8))=B' at *
 have hba:B'.1.err=.ok->(bx p (W64 (xt+16))).2=A.2:=fun k=>a.2 (GO (by rw[hb'];exact k))
 generalize ha':bx p (W64 (xt+16))=A' at *
 have c:Rel (if iz B'.1.err&&(decide (A'.2<0)||decide (B'.2<=A'.2))then pOk B'.1 B'.1.r.vm (-24)else B'.1) (if A.2<0\/B.2<=A.2 then cG B.1 (-24)else B.1) :=
  tX b.1 (fun k=>by rw[hba k,b.2 k,il.2 k];simp) (mm b.1) b.1 (fun e k=>⟨by rw[jb k];exact k,k⟩) (fun k=>⟨m5 k,rfl⟩)
 have hc:(if iz B'.1.err&&(decide (A'.2<0)||decide (B'.2<=A'.2))then pOk B'.1 B'.1.r.vm (-24)else B'.1).err=.ok->B'.1.err=.ok:=fun k=>by
  split at k
  ·exact(io k).1
  exact k
 generalize (if iz B'.1.err&&(decide (A'.2<0)||decide (B'.2<=A'.2))then pOk B'.1 B'.1.r.vm (-24)else B'.1)=C' at *
 generalize (if A.2<0\/B.2<=A.2 then cG B.1 (-24)else B.1)=C at *
 have x:=jA c (a:=W64 (W64 (W64 (xt+16)+16)+W64 (8*A'.2))) (a':=W64 (W64 (xt+32)+W64 (8*A.2))) (fun k=>by rw[hba (hc k),Mq (xt+16)];exact congrArg W64 (congrArg (·+W64 (8*A.2)) (congrArg W64 (by omega))))
 exact tX x.1 (fun k=>by rw[x.2 k]) x.1 (Gi x.1 x.2) (fun e k=>⟨k,k⟩) (fun _=>⟨rfl,rfl⟩)
def JW(p:PW)(d:VWk):Prop:=match p.err with
 | .halt=>d=⟨p.r.vm,p.r.ip,p.r.w,p.r.dof,true,0⟩
 | _=>Rel p d
def cN{p:PW}{d:VWk}(h:Rel p d):JW p d:=by
 unfold JW
 rcases h.cases with k|⟨e,k⟩<;>rw[k]<;>exact h
def Ub{p:PW}{d:VWk}(h:Rel p d)(k:p.err=.ok):JW (XU p .halt) {d with over:=true}:=by
 unfold JW XU;dsimp only;rw[h.ok k]
def U8{p:PW}{d:VWk}(h:Rel p d)(k:p.err=.ok)(hd:(p.r.vm.d.length:Int)<=p.r.vm.conf.data)(m:Nat)(hm:m<23):
  JW (mF p (ao.getD m [])) (if (tf d (ao.getD m [])).2 then(tf d (ao.getD m [])).1 else GF (tf d (ao.getD m [])).1 (ao.getD m [])):=by
 match m,hm with
 | 0,_=>exact cN (Ge h)
 | 1,_=>exact cN (Yo h)
 | 2,_=>exact cN (AF h)
 | 3,_=>exact cN (aj4 h)
 | 4,_=>exact cN (MJ h)
 | 5,_=>exact cN (Vl h hd)
 | 6,_=>exact cN (GE h (fun _=>rfl))
 | 7,_=>exact cN (GE (jy h).1 (jy h).2)
 | 8,_=>exact Ub h k
 | 9,_=>exact cN (JU h)
 | 10,_=>exact cN (Uv h)
 | 11,_=>exact cN (XP h)
 | 12,_=>exact cN (Gi (jy h).1 (jy h).2)
 | 13,_=>exact cN (Nt h)
 | 14,_=>exact cN (NC h)
 | 15,_=>exact cN (ii (lr h 0).1 (lr h 0).2)
 | 16,_=>exact cN (ii (lr h 2).1 (lr h 2).2)
 | 17,_=>exact cN (j0 (j0 (lr h 1).1).1).1
 | 18,_=>exact cN (kH (jy h).1 (jy h).2)
 | 19,_=>exact cN (ii (j0 h).1 (j0 h).2)
 | 20,_=>exact cN (ii (lr h 0).1 (lr h 0).2)
 | 21,_=>exact cN (MJ h)
 | 22,_=>exact cN (Uw h)
 | m+23,hm=>exact absurd hm (by omega)
def FO{v:VVm}{xt:Int}(h:(av v xt).2=0):gi (av v xt).1:=by
 unfold av at h ⊢
 split
 ·rename_i h1
  rw[if_pos h1]at h
  split
  ·assumption
  rename_i h2
  rw[if_neg h2]at h;cases h
 rename_i h1;rw[if_neg h1]at h;exact absurd h h1
def cS{k:PW}{v:VVm}{e:Int}:(pOk k v e).r.fuel=k.r.fuel:=by
 unfold pOk;cases k.err<;>dsimp only;split<;>rfl
def eU{k:PW}{n:Int}:(dr k n).r.fuel=k.r.fuel:=cS
def lS{k:PW}{n:Int}:(jl k n).r.fuel=k.r.fuel:=cS
def g7{k:PW}:(bc k).1.r.fuel=k.r.fuel:=cS
def jK{k:PW}:(gD k).1.r.fuel=k.r.fuel:=cS
def gp{k:PW}{n:Int}:(bx k n).1.r.fuel=k.r.fuel:=cS
def Bq{k:PW}{a n:Int}:(mW k a n).r.fuel=k.r.fuel:=cS
def ry{k:PW}{n:Int}:(wIp k n).r.fuel=k.r.fuel:=rfl
def xK{k:PW}{n:Int}:(vX k n).r.fuel=k.r.fuel:=rfl
def bw{c:Prop}[Decidable c]{a b:PW}{f:Int}(ha:a.r.fuel=f)(hb:b.r.fuel=f):(if c then a else b).r.fuel=f:=by split<;>assumption
def iV{k:PW}{n:Nat}:(cq k n).1.r.fuel=k.r.fuel:=by unfold cq;split;exact cS;rfl
def tD{k:PW}{b:Bool}:(lq k b).r.fuel=k.r.fuel:=by unfold lq;exact bw (by rw[ry,gp]) rfl
def CS{k:PW}:(ti k).r.fuel=k.r.fuel:=by unfold ti;rw[ry,jK]
def NM{k:PW}:(mN k).r.fuel=k.r.fuel:=by unfold mN;exact bw cS (by rw[Bq,Bq])
def TS{k:PW}:(OB k).r.fuel=k.r.fuel:=by unfold OB;rw[ry,eU,gp]
def Gq{k:PW}:(AZ k).r.fuel=k.r.fuel:=by unfold AZ;rw[lS,lS,g7,g7]
def Mm{k:PW}:(wDo k).r.fuel=k.r.fuel:=Gq
def Oy{k:PW}:(tc k).r.fuel=k.r.fuel:=by unfold tc;rw[eU,eU,jK,jK]
def Rg{k:PW}:(As k).r.fuel=k.r.fuel:=by
 unfold As;exact bw (by rw[tD,g7,g7]) (by rw[Mm,ry,eU,eU,g7,g7])
def Ca{k:PW}{n:Int}:(py k n).r.fuel=k.r.fuel:=by
 unfold py;exact bw (by rw[tD];exact bw (by rw[jK,jK,iV,iV]) (by rw[lS,jK,iV,iV])) (by rw[iV,iV])
def Iw{k:PW}:(lm k).r.fuel=k.r.fuel:=by unfold lm;exact bw cS (by rw[eU])
def RZ{k:PW}:(Jr k).r.fuel=k.r.fuel:=by unfold Jr;rw[ry,eU,eU,cS,gp]
def Je{k:PW}:(oJ k).r.fuel=k.r.fuel:=by unfold oJ;rw[xK];show(ite _ _ _:PW).r.fuel=_;exact bw (by rw[cS,g7]) g7
def EZ{k:PW}{b:Int}:(fJ k b).r.fuel=k.r.fuel:=by
 have h:∀(c:Bool) (x:PW),(if c then pOk x x.r.vm (-24)else x).r.fuel=x.r.fuel:=fun c x=>bw cS rfl
 unfold fJ;dsimp only;exact bw (by rw[gp,h,gp,gp]) (by rw[xK,gp,h,gp,gp])
def EM{k:PW}{name:Str}:(mF k name).r.fuel=k.r.fuel:=by
 unfold mF G7
 refine bw (by rw[CS,NM]) (bw CS (bw TS (bw tD (bw (by rw[tD,g7]) (bw Rg (bw Mm (bw Ca (bw (by rw[Ca,g7]) (bw rfl ?_)))))))))
 refine bw Iw (bw RZ (bw (by rw[xK,g7]) (bw Je (bw (by rw[cS,g7]) ?_))))
 refine bw (by rw[eU,iV]) (bw (by rw[eU,iV]) (bw (by rw[jK,jK,iV]) (bw (by rw[lS,g7]) (bw (by rw[eU,jK]) (bw (by rw[eU,iV]) (bw Gq (bw Oy rfl)))))))
def Dt{p:PW}{xt:Int}:(kr p xt).r.fuel=p.r.fuel:=by
 unfold kr;dsimp only
 refine bw (bw (by rw[cS,cS]) (bw (by rw[ry,lS,cS]) (bw (by rw[eU,cS]) (bw (by rw[eU,gp,cS]) (bw (by rw[ry,lS,eU,gp,cS]) (bw (by rw[EZ,cS]) (bw (by rw[cS,cS]) (by rw[EM,cS])))))))) cS
def S2{p:PW}{d:VWk}(h:Rel p d)(k:p.err=.ok)(hd:(p.r.vm.d.length:Int)<=p.r.vm.conf.data)(xt:Int):JW (kr p xt) (rV d xt):=by
 have hv:d.v=p.r.vm:=by rw[h.ok k]
 have hip:d.ip=p.r.ip:=by rw[h.ok k]
 have hK:=FO (v:=p.r.vm) (xt:=xt)
 unfold kr rV
 dsimp only
 rw[hv]
 generalize av p.r.vm xt=q at *
 by_cases he:q.2=0
 ·have e1:pOk p p.r.vm q.2=p:=by unfold pOk;rw[k];dsimp only;rw[if_pos he,<-k]
  have hk:=hK he
  unfold gi at hk
  rw[e1,if_pos (il.2 k),if_neg (show ¬q.2≠0 from fun h=>h he)]
  by_cases c1:300<=q.1
  ·rw[if_pos c1,if_pos c1];exact cN (mm h)
  rw[if_neg c1,if_neg c1]
  by_cases c2:q.1=256
  ·rw[if_pos c2,if_pos c2];exact cN (xJ (kH h (fun _=>hip.symm)) (fun _=>rfl))
  rw[if_neg c2,if_neg c2]
  by_cases c3:q.1=257
  ·rw[if_pos c3,if_pos c3];exact cN (ii h (fun _=>rfl))
  rw[if_neg c3,if_neg c3]
  by_cases c4:q.1=258
  ·rw[if_pos c4,if_pos c4]
   have f:=jA h (a:=W64 (xt+16)) (a':=W64 (xt+16)) (fun _=>rfl)
   exact cN (ii f.1 f.2)
  rw[if_neg c4,if_neg c4]
  by_cases c5:q.1=259
  ·rw[if_pos c5,if_pos c5]
   have f:=jA h (a:=W64 (xt+8)) (a':=W64 (xt+8)) (fun _=>rfl)
   have g:=ii f.1 (n:=W64 (xt+16)) (n':=W64 (xt+16)) (fun _=>rfl)
   refine cN (xJ (kH g (fun k=>by rw[g.ok k])) (fun k=>f.2 (wK (HG k))))
  rw[if_neg c5,if_neg c5]
  by_cases c6:q.1=260
  ·rw[if_pos c6,if_pos c6];exact cN (FS h xt)
  rw[if_neg c6,if_neg c6]
  by_cases c7:23<=q.1
  ·rw[if_pos ⟨c7,by omega⟩,if_pos c7]
   exact cN (sy h (fun _=>⟨rfl,fun _=>rfl⟩))
  rw[if_neg (fun h=>c7 h.1),if_neg c7]
  exact U8 h k hd q.1.toNat (by omega)
 have e1:(pOk p p.r.vm q.2).err=.bad q.2:=by unfold pOk;rw[k];dsimp only;rw[if_neg he]
 rw[if_neg (by rw[e1];simp[iz]),if_pos (show q.2≠0 from he)]
 exact cN (mm h)
def yq(r:bJ):VWk×Int :=
 if r.dof then(⟨r.vm,r.ip,0,false,false,0⟩,r.w)else
  (if (bu ⟨r.vm,r.ip,0,false,false,0⟩ r.ip).1.bad=0 then jW (bu ⟨r.vm,r.ip,0,false,false,0⟩ r.ip).1 else(bu ⟨r.vm,r.ip,0,false,false,0⟩ r.ip).1,(bu ⟨r.vm,r.ip,0,false,false,0⟩ r.ip).2)
def we(r:bJ):K1 (cd r) (yq r)/\(cd r).1.r=⟨r.vm,(yq r).1.ip,0,false,W64 (r.fuel-1)⟩:=by
 have h0:Rel (gF r) ⟨r.vm,r.ip,0,false,false,0⟩:=xC rfl rfl
 have f:=jA h0 (a:=r.ip) (a':=r.ip) (fun _=>rfl)
 unfold cd yq
 by_cases q:r.dof=true
 ·rw[if_pos q,if_pos q];exact⟨⟨h0,fun _=>rfl⟩,rfl⟩
 rw[if_neg q,if_neg q]
 rcases f.1.cases with k|⟨e,k⟩
 ·have hb:(bu ⟨r.vm,r.ip,0,false,false,0⟩ r.ip).1.bad=0:=by rw[f.1.ok k]
  rw[if_pos (il.2 k),if_pos hb]
  refine⟨⟨tv f.1,fun _=>f.2 k⟩,?_⟩
  dsimp only
  unfold jW wIp
  dsimp only
  rw[f.1.ok k,zb];rfl
 have hb:=f.1.bad k
 rw[if_neg (by rw[k];simp[iz]),if_neg (by rw[hb.1];exact hb.2)]
 refine⟨⟨f.1,fun q=>by rw[k]at q;cases q⟩,?_⟩
 dsimp only
 rw[zb]
 unfold bu cG
 dsimp only
 split<;>rfl
def ES(r:bJ)(hd:(r.vm.d.length:Int)<=r.vm.conf.data):s7 r=bT r:=by
 unfold s7 bT
 by_cases hf:r.fuel<1
 ·rw[if_pos hf,if_pos hf]
 rw[if_neg hf,if_neg hf]
 obtain⟨⟨h1,h2⟩,h3⟩:=we r
 have e0:(if r.dof then((⟨r.vm,r.ip,0,false,false,0⟩:VWk),r.w)else(let a:=bu ⟨r.vm,r.ip,0,false,false,0⟩ r.ip;(if a.1.bad=0 then jW a.1 else a.1,a.2)))=yq r:=rfl
 dsimp only at e0 ⊢
 rw[e0]
 unfold iG
 rcases h1.cases with k|⟨e,k⟩
 ·have hb:(yq r).1.bad=0:=by rw[h1.ok k]
  rw[if_pos (il.2 k),if_pos hb,<-h2 k,<-h3]
  have hw:=S2 h1 k (by rw[h3];exact hd) (cd r).2
  have hfu:(kr (cd r).1 (cd r).2).r.fuel=W64 (r.fuel-1):=by rw[Dt,h3]
  generalize kr (cd r).1 (cd r).2=P at *
  generalize rV (yq r).1 (cd r).2=D at *
  unfold JW at hw
  cases kp:P.err with
  | ok =>
   rw[kp]at hw;simp only at hw
   rw[hw.ok kp]
   simp only[if_true]
   rw[<-hfu]
  | halt =>
   rw[kp]at hw;simp only at hw
   rw[hw]
   simp only[if_true]
   rw[<-hfu]
  | bad c =>
   rw[kp]at hw;simp only at hw
   have hb:=hw.bad kp
   simp only[hb.1,if_neg hb.2]
 have hb:=h1.bad k
 have hz:¬(yq r).1.bad=0:=by rw[hb.1];exact hb.2
 rw[if_neg (by rw[k];simp[iz]),if_neg hz,if_neg hz,k,hb.1,h3]
open Go.RowKit
section
variable {P : Program} {B : Nat -> Nat -> Prop} {n : Nat} {all : Array Oper} {T : Nat -> PV} {H : List Ob} {o : Oper}
def AE{t g j:Nat}{td:TD}{u:Value}(f:an P t td)(ha:td.agg=false)(ho:o.op=.load t (.global g))(hj:H[j]?=some (.glob g u)):bK P B o T H (.val u) H :=
 aM fun σ w a s h=>by
  obtain⟨q1,_⟩:=s.holds j _ hj
  obtain⟨v,h2,h3⟩:=j9 (P:=P) (w:=w) (b:=g) (off:=0) (k:=0) (x:=.val u) f (c:=cx B H σ w) (aj.2 ⟨aq _ u,az.2 rfl⟩) (fun i u' hi=>by
   match i,hi with
   | 0,hi=>cases hi;exact q1
   | i+1,hi=>simp at hi) (by unfold kU;rw[ha];rfl)
  have h1:a.eval (.global g)=.pointer (some ⟨g,0,none⟩):=rfl
  exact⟨v,by simp[execOp,ho,h1,Instr.loadAt,Instr.sureAddr,h2],h3⟩
def qk{t:TypeId}{x:Operand}{v:PV}(ho:o.op=.makeInterface t x)(hc:P.concrete t=true)(hx:opv T x=v):bK P B o T H (.ifc t v) H :=
 aM fun σ w a s h=>by
  have h1:=h x (by simp[ho,Op.operands])
  rw[hx]at h1
  exact⟨.iface t (a.eval x),by simp[execOp,ho,run_makeInterface w t (a.eval x) hc],by unfold Rep;exact⟨_,rfl,h1⟩⟩
def xh:PV->Option Bool
 | .val .nilIface=>some true
 | .val (.iface _ _)=>some false
 | .ifc _ _=>some false
 | _=>none
def GM{c:Cx}{x:PV}{v:Value}{b:Bool}(h:xh x=some b)(k:Rep c x v):(v=.nilIface/\b=true)\/∃t u,v=.iface t u/\b=false:=by
 unfold xh at h
 split at h
 ·unfold Rep at k;cases h;exact .inl ⟨k,rfl⟩
 ·unfold Rep at k;cases h;exact .inr ⟨_,_,k,rfl⟩
 ·unfold Rep at k;obtain⟨u,k1,_⟩:=k;cases h;exact .inr ⟨_,u,k1,rfl⟩
 cases h
def aW{t yt:TypeId}{x:Operand}{y:PV}{b:Bool}(ho:o.op=.binOp .eql t x (.const .nilIface) yt)(ht:P.isIface t=true)(hx:opv T x=y)(hy:xh y=some b):bK P B o T H (.val (.bool b)) H :=
 aM fun σ w a s h=>by
  have h1:=h x (by simp[ho,Op.operands])
  rw[hx]at h1
  have hc:a.eval (.const .nilIface)=.nilIface:=rfl
  rcases GM hy h1 with ⟨h2,rfl⟩|⟨u,z,h2,rfl⟩
  ·exact⟨_,by simp[execOp,ho,h2,hc,eqGuard,run_eql_nil_nil_at w t ht],aq _ _⟩
  exact⟨_,by simp[execOp,ho,h2,hc,eqGuard,run_eql_iface_nil w t ht],aq _ _⟩
def jn{t yt:TypeId}{x:Operand}{y:PV}{b:Bool}(ho:o.op=.binOp .neq t x (.const .nilIface) yt)(ht:P.isIface t=true)(hx:opv T x=y)(hy:xh y=some b):bK P B o T H (.val (.bool (!b))) H :=
 aM fun σ w a s h=>by
  have h1:=h x (by simp[ho,Op.operands])
  rw[hx]at h1
  have hc:a.eval (.const .nilIface)=.nilIface:=rfl
  rcases GM hy h1 with ⟨h2,rfl⟩|⟨u,z,h2,rfl⟩
  ·exact⟨_,by simp[execOp,ho,h2,hc,eqGuard,run_neq_nil_nil_at w t ht],aq _ _⟩
  exact⟨_,by simp[execOp,ho,h2,hc,eqGuard,run_neq_iface_nil w t ht],aq _ _⟩
def dw{n:Nat}{all:Array Oper}{K:(Nat->PV)->List Ob->Prop}{l:List Oper}{dd:Option Tmp}{H':List Ob}{t:TypeId}{d:TD}{x y:Operand}{i off:Nat}{xs ys zs:List PV}{e:TypeId}(f:an P t d)(ho:o.op=.store t x y)(hx:opv T x=.ptr i off)(hi:H[i]?=some (.cells xs e))(hy:rz (opv T y)=some ys)(hl:Nat.beq ys.length d.size=true)(hok:ys.all okC=true)
  (hle:Nat.ble (off+ys.length) xs.length=true) (hz:cD xs off ys=zs) (hH:nfH (H.set i (.cells zs e))=some H') (hd:nfD n o.dst=some dd) (hw:ar all T o=some true) (k:WO P B n all l (bM dd (.val undef) T) H' K):WO P B n all (o::l) T H K :=
 Wd hd hw (bO f ho hx hi hy hl hok hle) (by rw[hz,<-s9 hH];exact k)
def EJ{n:Nat}{σ:Nat->Option Nat}{w:World}{a:Act}(g:lY B n T H σ w a){d i m q:Nat}{xs:List PV}{e:TypeId}(hT:T d=.arr i 0 m m)(hi:H[i]?=some (.cells xs e))(hq:q<=xs.length):
  lY B n (upd d (.seq m (xs.take q) .clip) T) (H.set i .dead) σ w a/\dR B H σ w (H.set i .dead) σ w:=by
 obtain⟨s',st⟩:=lN g.sim hi
 refine⟨⟨s',fun j=>?_,g.size,g.defers⟩,st⟩
 by_cases hj:j=d
 ·subst hj
  rw[dT]
  have h1:=g.rep j
  rw[hT]at h1
  unfold Rep at h1
  obtain⟨_,b,hb,hv⟩:=h1
  obtain⟨b',vs,fr,hb',hg,_,hp⟩:=g.sim.holds i _ hi
  simp only[cx]at hb hb' hg
  rw[hb]at hb'
  cases hb'
  rw[hv]
  unfold Rep
  refine⟨_,m,vs.take q,rfl,Nat.le_refl _,(fun h=>by cases h),au.mono st.le (hp.take hq),fun b1 hb1=>.inl ?_,rfl⟩
  cases hb1
  refine⟨rfl,fun j' u hu=>⟨?_,?_⟩⟩
  ·rw[List.getElem?_take]at hu
   split at hu
   ·show w.cell? ⟨b,0+j',none⟩=some u
    rw[Nat.zero_add,fc hg];exact hu
   cases hu
  rintro(h2|⟨k,ok,h2,h3,h4⟩)
  ·exact g.sim.sep i b _ hi rfl hb _ h2
  have hlk:ok.live=true:=by cases ok<;>first|rfl|cases h4
  by_cases hki:k=i
  ·subst hki
   rw[List.getElem?_set_self (cX hi)]at h2;cases h2;cases h4
  rw[List.getElem?_set_ne (Ne.symm hki)]at h2
  exact hki (g.sim.inj k i b _ _ h2 hi hlk rfl h3 hb)
 rw[cJ _ _ _ _ hj];exact(g.rep j).mono st.le
def AS{n:Nat}{all:Array Oper}{K:(Nat->PV)->List Ob->Prop}{l:List Oper}(d i m q:Nat){xs:List PV}{e:TypeId}(hT:T d=.arr i 0 m m)(hi:H[i]?=some (.cells xs e))(hq:q<=xs.length)(h1:WO P B n all l (upd d (.seq m (xs.take q) .clip) T) (H.set i .dead) K):WO P B n all l T H K:=by
 intro hall σ w a g
 obtain⟨g',st⟩:=EJ g hT hi hq
 exact gx (fun _ _ _ h=>ic st (fun _ _ _ h=>h) h) _ _ _ (h1 hall σ w a g')
def CN{c:Cx}:∀l:List Value,au c (l.map .val) l
 | []=>az.2 rfl
 | x::l=>aj.2 ⟨aq _ _,CN l⟩
def sI{f:FuncId}{args:List PV}{l:List Value}{r:PV}{v:Value}(hl:∀(c:Cx) vs,au c args vs->vs=l)(hr:∀c,Rep c r v)(h:∀w,Calls P f l.toArray w fun e w'=>e=.returned v/\ba w w'):ab P f args r:=by
 intro H B σ w vs s hv
 have:=hl _ _ hv
 subst this
 exact d9 (args:=vs) hr h H B σ w vs s (CN vs)
end
open Go.RowKit
def xp(l:List Int)(hl:l.length<=1000000):ab prog 154 [sq ap l] (sqc ap l):=by
 refine zY func154 fun B=>?_
 refine zu1 ?_
 refine zp5 ?_
 refine z2 ?_ (q:=(by(simp_all;done)))
 refine Wa 8 rfl (cM ap 1 (fun _=>rfl) (by omega)) ?_
 refine zs1 ?_
 refine Wq ?_
 exact ow rfl (by simp[sqc];rfl)
@[simp] theorem YB (l : List jt) : aU (sqc jv l) := lA (fun x => by simp) l
def ya(l:List jt)(hl:l.length<=1000000):ab prog 258 [sq jv l] (sqc jv l):=by
 refine zY func258 fun B=>?_
 refine zu1 ?_
 refine zp5 ?_
 refine z2 ?_ (q:=(by(simp_all;done)))
 refine Wa 8 rfl (cM jv 3 (fun _=>rfl) (by omega)) ?_
 refine zs1 ?_
 refine Wq ?_
 exact ow rfl (by simp[sqc];rfl)
def Te(r:List Int×Int):PV:=iA (sq ap r.1) (i64 r.2)
@[simp] theorem ai2 (r : List Int × Int) : aU (Te r) := by simp [Te]
def HH(s:List Int)(n limit:Int)(hs:s.length<=100000)(hm:ae limit):ab prog 107 [sq ap s,i64 n,i64 limit] (Te (gP s n limit)):=by
 unfold ae at hm
 refine zY func107 fun B=>?_
 refine zu2 ?_
 refine Ws<|zu4 ?_
 refine Wi rfl (fun hi1=>?_) (fun hi1=>?_)
 ·have h0:limit<=(s.length:Int):=by(try simp only[dnL]at *);omega
  refine zu3 ?_
  refine zR ?_
  rw[gP,if_pos h0];rfl
 have h0:¬limit<=(s.length:Int):=by(try simp only[dnL]at *);omega
 refine Wj<|zp1 ?_
 refine zc rfl func154 ((xp s (by omega)) _) ?_
 refine zy2 ?_
 refine Wa 16 rfl (bsL ap [_] rfl rfl) ?_
 refine Wd rfl rfl (ce (lO tG rfl) rfl (lO tG rfl) (lO tG rfl) rfl rfl (by exact⟨_,rfl⟩) (by exact⟨rfl,rfl,al _ 1 (fun _=>rfl) _,bF _ (fun _=>rfl) _⟩) (by exact al _ 1 (fun _=>rfl) _) (by((simp_all;omega))) (by((simp_all;omega)))) ?_
 refine Wa 17 rfl (cz ap) ?_
 refine zs2 ?_
 refine zR ?_
 rw[gP,if_neg h0];rfl
def Lz(r:Int×VVm×Int):PV:=kg (i64 r.1) (eVm r.2.1) (i64 r.2.2)
@[simp] theorem ae0 (r : Int × VVm × Int) : aU (Lz r) := by simp [Lz]
def L3(v:VVm)(n:Int)(hs:v.d.length<=100000)(hm:ae v.conf.data):ab prog 82 [eVm v,i64 n] (tVm (fQ v n)):=by
 refine zY func82 fun B=>?_
 refine zu3 ?_
 refine zp5 ?_
 refine z1 ?_
 refine zc rfl func107 ((HH v.d n v.conf.data hs hm) _) ?_
 refine zs5 ?_
 refine zu3 ?_
 refine zu4 ?_
 refine zR ?_
 rfl
def RL(v:VVm)(hs:v.d.length<=100000):ab prog 211 [eVm v] (Lz (eg v)):=by
 refine zY func211 fun B=>?_
 refine zu4 ?_
 refine zp2 ?_
 refine zc rfl func259 ((DQ v.d hs) _) ?_
 refine zy5 ?_
 refine zs2 ?_
 refine zu3 ?_
 refine Ws<|ax [0,1,0,0,3,0] [0,1,2,3,4,5] mG rfl (by kernel_rfl) ?_
 refine z3 ?_
 refine z5 ?_
 iterate 2 refine z3 ?_
 refine dH tG rfl rfl rfl rfl rfl trivial ?_
 refine z3 ?_
 refine aQ ?_
 refine zR ?_
 rfl
def yD(e:Int):Int:=if e = -3 then -5 else if e = -4 then -6 else e
def LP(e:Int):ab prog 236 [i64 e] (i64 (yD e)):=by
 refine zY func236 fun B=>?_
 refine zu1 ?_
 refine Ws<|zu1 ?_
 refine Wl<|zu2 ?_
 refine Wi rfl (fun hi1=>?_) (fun hi1=>?_)
 ·refine zu1 ?_
  refine zR ?_
  exact congrArg i64 (by unfold yD;(try simp only[dnL]at *);split<;>(try split)<;>omega)
 refine zu2 ?_
 refine Wi rfl (fun hi2=>?_) (fun hi2=>?_)
 ·refine zu1 ?_
  refine zR ?_
  exact congrArg i64 (by unfold yD;(try simp only[dnL]at *);split<;>(try split)<;>omega)
 refine Wj<|zu2 ?_
 refine zR ?_
 exact congrArg i64 (by unfold yD;(try simp only[dnL]at *);split<;>(try split)<;>omega)
def Sa(v:VVm)(n:Int):gK v n=({v with r:=(gP v.r n v.conf.ret).1},yD (gP v.r n v.conf.ret).2):=by
 unfold gK gP yD;split<;>rfl
def Xk(v:VVm):fv v=((bo v.r).1,{v with r:=(bo v.r).2.1},yD (bo v.r).2.2):=by
 unfold fv bo yD;split<;>rfl
def Tv(v:VVm)(n:Int)(hs:v.r.length<=100000)(hm:ae v.conf.ret):ab prog 197 [eVm v,i64 n] (tVm (gK v n)):=by
 rw[Sa]
 refine zY func197 fun B=>?_
 refine zu3 ?_
 refine zp5 ?_
 refine z1 ?_
 refine zc rfl func107 ((HH v.r n v.conf.ret hs hm) _) ?_
 refine zs5 ?_
 refine zu3 ?_
 refine Ws<|ax [1,0,0,3,0] [0,1,2,3,4] mG rfl (by kernel_rfl) ?_
 refine z5 ?_
 refine z3 ?_
 refine Xc rfl rfl rfl rfl (fun _=>dC rfl func236 rfl rfl ((LP _) _)) ?_
 refine dH tG rfl rfl rfl rfl rfl trivial ?_
 refine z3 ?_
 refine aQ ?_
 refine zR ?_
 rfl
def VO(v:VVm)(hs:v.r.length<=100000):ab prog 254 [eVm v] (Lz (fv v)):=by
 rw[Xk]
 refine zY func254 fun B=>?_
 refine zu4 ?_
 refine zp2 ?_
 refine zc rfl func259 ((DQ v.r hs) _) ?_
 refine zy5 ?_
 refine zs2 ?_
 refine zu3 ?_
 refine Ws<|ax [0,1,0,0,0,3,0] [0,1,2,3,4,5,6] mG rfl (by kernel_rfl) ?_
 refine z3 ?_
 refine z5 ?_
 refine z3 ?_
 refine Xc rfl rfl rfl rfl (fun _=>dC rfl func236 rfl rfl ((LP _) _)) ?_
 refine z3 ?_
 refine dH tG rfl rfl rfl rfl rfl trivial ?_
 refine z3 ?_
 refine aQ ?_
 refine zR ?_
 rfl
def Tj(i l n:Int):ab prog 256 [i64 i,i64 l,i64 n] (kf (ox i l n)):=by
 refine zY func256 fun B=>?_
 refine zu2 ?_
 refine zu4 ?_
 refine Ws<|zu2 ?_
 refine Wi rfl (fun hi1=>?_) (fun hi1=>?_)
 ·have h0:0<=n:=by(try simp only[dnL]at *);omega
  refine zp5 ?_
  refine z1 ?_
  refine Wb 19 rfl (fun hg1=>?_) (fun hg1=>?_)
  ·have q1:decide (W64 (i-l)<0)=true:=hg1
   refine zy5 ?_
   refine zs2 ?_
   refine zR ?_
   (rw[ox,if_pos h0,q1];rfl)
  have q1:decide (W64 (i-l)<0)=false:=hg1
  iterate 4 refine z6 ?_
  refine zs3 ?_
  refine zR ?_
  (rw[ox,if_pos h0,q1];rfl)
 have h0:¬0<=n:=by(try simp only[dnL]at *);omega
 refine Wj<|zp5 ?_
 refine z1 ?_
 refine Wb 30 rfl (fun hg2=>?_) (fun hg2=>?_)
 ·have q1:decide (0<=W64 (i-l))=true:=hg2
  refine zy5 ?_
  refine zs2 ?_
  refine zR ?_
  (rw[ox,if_neg h0,q1];rfl)
 have q1:decide (0<=W64 (i-l))=false:=hg2
 iterate 4 refine z6 ?_
 refine zs3 ?_
 refine zR ?_
 (rw[ox,if_neg h0,q1];rfl)
def haltV(a:Addr):Value:=.iface 383 (.pointer (some a))
def B5(a:Addr):yM->PV
 | .ok=>.val .nilIface
 | .bad e=>.ifc 201 (.agg [i64 e])
 | .halt=>.val (haltV a)
@[simp] theorem ao0 (a : Addr) (e : yM) : aU (B5 a e) := by cases e <;> simp [B5, aU, aw]
def tN(a:Addr)(e:yM):xh (B5 a e)=some (iz e):=by cases e<;>rfl
def cPW(a:Addr)(k:PW):List PV:=tu k.r++[B5 a k.err]
@[simp] theorem at6 (a : Addr) (k : PW) : aw (cPW a k) := by simp [cPW, tu, cVm]
def GD(e:Int):yM:=if e=0 then .ok else .bad e
def An(a:Addr)(e:Int):ab prog 196 [i64 e] (B5 a (GD e)):=by
 refine zY func196 fun B=>?_
 refine zu1 ?_
 refine Ws<|zu2 ?_
 refine Wi rfl (fun hi1=>?_) (fun hi1=>?_)
 ·have h0:e=0:=by(try simp only[dnL]at *);omega
  refine zu1 ?_
  refine zR ?_
  rw[GD,if_pos h0];rfl
 have h0:¬e=0:=by(try simp only[dnL]at *);omega
 refine Wj<|zp2 ?_
 refine Wd rfl rfl (qk rfl (by kernel_rfl) rfl) ?_
 refine zs1 ?_
 refine zR ?_
 rw[GD,if_neg h0];rfl
section
variable (a : Addr)
def Xo(r:bJ)(v:VVm):∀(H:List Ob) (i:Nat),H[i]?=some (.cells (cPW a ⟨r,.ok⟩) 197)->HC prog 161 (.ptr i 0::[eVm v,i64 0]) H (boo true) (H.set i (.cells (cPW a ⟨{r with vm:=v},.ok⟩) 197)):=by
 refine zM func161 fun B=>?_
 refine zu2 ?_
 refine Ws<|zp4 ?_
 refine Wd rfl rfl (aW rfl (by kernel_rfl) rfl (by rfl)) ?_
 refine Wn<|Wt rfl (by rfl) ?_
 refine aa rfl ?_
 refine zy2 ?_
 refine zc rfl func196 ((An a 0) _) ?_
 refine Wa 14 rfl ((show _=PV.val .nilIface from rfl)) ?_
 refine zs3 ?_
 refine Ws<|zp4 ?_
 refine Wd rfl rfl (aW rfl (by kernel_rfl) rfl (by rfl)) ?_
 refine Wn<|Wt rfl (by rfl) ?_
 refine aa rfl ?_
 refine zy5 ?_
 refine zs1 ?_
 refine zp4 ?_
 refine Wd rfl rfl (aW rfl (by kernel_rfl) rfl (by rfl)) ?_
 refine zs1 ?_
 refine Wq<|aO rfl rfl ?_ ?_
 ·rfl
 rfl
def Tb(r:bJ)(v:VVm)(e:Int)(he:e≠0):∀(H:List Ob) (i:Nat),H[i]?=some (.cells (cPW a ⟨r,.ok⟩) 197)->HC prog 161 (.ptr i 0::[eVm v,i64 e]) H (boo false) (H.set i (.cells (cPW a ⟨r,.bad e⟩) 197)):=by
 have hm:B5 a (GD e)=.ifc 201 (.agg [i64 e]):=by rw[GD,if_neg he];rfl
 refine zM func161 fun B=>?_
 refine zu2 ?_
 refine Ws<|zp4 ?_
 refine Wd rfl rfl (aW rfl (by kernel_rfl) rfl (by rfl)) ?_
 refine Wn<|Wt rfl (by rfl) ?_
 refine aa rfl ?_
 refine zy2 ?_
 refine zc rfl func196 ((An a e) _) ?_
 refine Wa 14 rfl (hm) ?_
 refine zs3 ?_
 refine Ws<|zp4 ?_
 refine Wd rfl rfl (aW rfl (by kernel_rfl) rfl (by rfl)) ?_
 refine Wn<|Wf rfl (by rfl) ?_
 refine Wj<|zp4 ?_
 refine Wd rfl rfl (aW rfl (by kernel_rfl) rfl (by rfl)) ?_
 refine zs1 ?_
 refine Wq<|aO rfl rfl ?_ ?_
 ·rfl
 rfl
def Wy(r:bJ)(v:VVm)(e c:Int):∀(H:List Ob) (i:Nat),H[i]?=some (.cells (cPW a ⟨r,.bad c⟩) 197)->HC prog 161 (.ptr i 0::[eVm v,i64 e]) H (boo false) (H.set i (.cells (cPW a ⟨r,.bad c⟩) 197)):=by
 refine zM func161 fun B=>?_
 refine zu2 ?_
 refine Ws<|zp4 ?_
 refine Wd rfl rfl (aW rfl (by kernel_rfl) rfl (by rfl)) ?_
 refine Wn<|Wf rfl (by rfl) ?_
 refine Wj<|Ws<|zp4 ?_
 refine Wd rfl rfl (aW rfl (by kernel_rfl) rfl (by rfl)) ?_
 refine Wn<|Wf rfl (by rfl) ?_
 refine Wj<|zp4 ?_
 refine Wd rfl rfl (aW rfl (by kernel_rfl) rfl (by rfl)) ?_
 refine zs1 ?_
 refine Wq<|aO rfl rfl ?_ ?_
 ·rfl
 rfl
def Pu(r:bJ)(v:VVm)(e:Int):∀(H:List Ob) (i:Nat),H[i]?=some (.cells (cPW a ⟨r,.halt⟩) 197)->HC prog 161 (.ptr i 0::[eVm v,i64 e]) H (boo false) (H.set i (.cells (cPW a ⟨r,.halt⟩) 197)):=by
 refine zM func161 fun B=>?_
 refine zu2 ?_
 refine Ws<|zp4 ?_
 refine Wd rfl rfl (aW rfl (by kernel_rfl) rfl (by rfl)) ?_
 refine Wn<|Wf rfl (by rfl) ?_
 refine Wj<|Ws<|zp4 ?_
 refine Wd rfl rfl (aW rfl (by kernel_rfl) rfl (by rfl)) ?_
 refine Wn<|Wf rfl (by rfl) ?_
 refine Wj<|zp4 ?_
 refine Wd rfl rfl (aW rfl (by kernel_rfl) rfl (by rfl)) ?_
 refine zs1 ?_
 refine Wq<|aO rfl rfl ?_ ?_
 ·rfl
 rfl
def rM(k:PW)(v:VVm)(e:Int):∀(H:List Ob) (i:Nat),H[i]?=some (.cells (cPW a k) 197)->HC prog 161 (.ptr i 0::[eVm v,i64 e]) H (boo (iz (pOk k v e).err)) (H.set i (.cells (cPW a (pOk k v e)) 197)):=by
 intro H i hi
 obtain⟨r,err⟩:=k
 cases err with
 | ok =>
  by_cases he:e=0
  ·subst he;exact Xo a r v H i hi
  have e1:pOk ⟨r,.ok⟩ v e=⟨r,.bad e⟩:=by unfold pOk;dsimp only;rw[if_neg he]
  rw[e1];exact Tb a r v e he H i hi
 | bad c=>exact Wy a r v e c H i hi
 | halt=>exact Pu a r v e H i hi
end
end Go.Proofs.YtjcminooghmpeaaGreatDoor
