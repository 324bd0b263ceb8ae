import Derived.Stop.IfaceNil
import Derived.Test.YtjcminooghmpeaaGreatDoorPk4
set_option linter.all false
set_option maxRecDepth 100000
set_option maxHeartbeats 40000000
open Go.Proofs.Tryz
namespace Go.Proofs.YtjcminooghmpeaaGreatDoor
open Go.RowKit
inductive Op1 where
 | abs
 | neg
 | inv
 | inc
 | dec
 | dbl
 | half
 | cells
 | algn
 | cellp
 | eq0
 | lt0
 | ne0
 | gt0
deriving DecidableEq
def Q4:List (Str×Op1):=[([65,66,83],.abs),([78,69,71,65,84,69],.neg),([73,78,86,69,82,84],.inv),([49,43],.inc),([49,45],.dec),([50,42],.dbl),([50,47],.half),([67,69,76,76,83],.cells),([65,76,73,71,78,69,68],.algn),([67,69,76,76,43],.cellp),([48,61],.eq0),([48,60],.lt0),([48,60,62],.ne0),([48,62],.gt0)]
def op1(s:Str):Option Op1:=Q4.lookup s
def fG(b:Bool):Int:=if b then -1 else 0
def one(o:Op1)(a:Int):Int:=match o with
 | .abs=>if 0<=a then a else wrap64 (-a)
 | .neg=>wrap64 (-a)
 | .inv=>-1-a
 | .inc=>wrap64 (a+1)
 | .dec=>wrap64 (a-1)
 | .dbl=>wrap64 (a+a)
 | .half=>a/2
 | .cells=>wrap64 (a*8)
 | .algn=>if a%8=0 then a else wrap64 (a-a%8+8)
 | .cellp=>wrap64 (a+8)
 | .eq0=>fG (decide (a=0))
 | .lt0=>fG (decide (a<0))
 | .ne0=>fG (!decide (a=0))
 | .gt0=>fG (decide (0<a))
def uH(name:Str)(a:Int):Int×Bool:=match op1 name with
 | some o=>(one o a,true)
 | none=>(0,false)
def ko(r:Int×Bool):PV:=iy (i64 r.1) (boo r.2)
@[simp] theorem az8 (r : Int × Bool) : aR (ko r) := by simp [ko]
def lf{name:Str}{o:Op1}{a:Int}(h:op1 name=some o):uH name a=(one o a,true):=by unfold uH;rw[h]
def Y9{name:Str}{a:Int}(h:op1 name=none):uH name a=(0,false):=by unfold uH;rw[h]
def UG{s:Str}(h0:s≠[65,66,83])(h1:s≠[78,69,71,65,84,69])(h2:s≠[73,78,86,69,82,84])(h3:s≠[49,43])(h4:s≠[49,45])(h5:s≠[50,42])(h6:s≠[50,47])(h7:s≠[67,69,76,76,83])(h8:s≠[65,76,73,71,78,69,68])(h9:s≠[67,69,76,76,43])(h10:s≠[48,61])(h11:s≠[48,60])(h12:s≠[48,60,62])(h13:s≠[48,62]):op1 s=none:=by
 unfold op1 Q4
 simp only[List.lookup]
 simp[beq_eq_false_iff_ne.2 h0,beq_eq_false_iff_ne.2 h1,beq_eq_false_iff_ne.2 h2,beq_eq_false_iff_ne.2 h3,beq_eq_false_iff_ne.2 h4,beq_eq_false_iff_ne.2 h5,beq_eq_false_iff_ne.2 h6,beq_eq_false_iff_ne.2 h7,beq_eq_false_iff_ne.2 h8,beq_eq_false_iff_ne.2 h9,beq_eq_false_iff_ne.2 h10,beq_eq_false_iff_ne.2 h11,beq_eq_false_iff_ne.2 h12,beq_eq_false_iff_ne.2 h13]
def Vq(a:Int):wrap64 (0-a)=wrap64 (-a):=congrArg wrap64 (by omega)
def aq4{a:Int}(ha : -9223372036854775808<=a/\a<=9223372036854775807):wrap64 ((BitVec.ofInt 64 (-1) ^^^ BitVec.ofInt 64 a).toNat:Int) = -1-a:=by
 have h1:BitVec.ofInt 64 (-1)=BitVec.allOnes 64:=by decide
 rw[h1,BitVec.allOnes_xor,BitVec.toNat_not,BitVec.toNat_ofInt]
 have h2:((2 ^ 64:Nat):Int)=18446744073709551616:=by decide
 have h3:(2 ^ 64:Nat)=18446744073709551616:=by decide
 rw[h2,h3]
 unfold wrap64
 omega
def af4(a:Int):wrap64 (a*2 ^ min (Int.toNat 1) IntKind.i64.bits)=wrap64 (a+a):=by
 have:(2:Int) ^ min (Int.toNat 1) IntKind.i64.bits=2:=rfl
 rw[this];exact congrArg wrap64 (by omega)
def ZK(a:Int):a.fdiv (2 ^ min (Int.toNat 1) IntKind.i64.bits)=a/2:=by
 have:(2:Int) ^ min (Int.toNat 1) IntKind.i64.bits=2:=rfl
 rw[this,Int.fdiv_eq_ediv_of_nonneg _ (by omega)]
def To(x m:BitVec 64):(x &&& m)+(x &&& ~~~ m)=x:=by
 have h1:(x &&& m) &&& (x &&& ~~~ m)=0#64:=by
  ext i hi
  simp only[BitVec.getElem_and,BitVec.getElem_not,BitVec.getElem_zero]
  cases x[i]<;>cases m[i]<;>rfl
 rw[BitVec.add_eq_or_of_and_eq_zero _ _ h1]
 ext i hi
 simp only[BitVec.getElem_or,BitVec.getElem_and,BitVec.getElem_not]
 cases x[i]<;>cases m[i]<;>rfl
def aw1(x:BitVec 64):(x &&& ~~~ 7#64).toNat=x.toNat-x.toNat%8:=by
 have h2:=To x 7#64
 have h4:=congrArg BitVec.toNat h2
 rw[BitVec.toNat_add]at h4
 have h5:(x &&& 7#64).toNat=x.toNat%8:=by rw[BitVec.toNat_and];exact Nat.and_two_pow_sub_one_eq_mod x.toNat 3
 have h6:(x &&& ~~~ 7#64).toNat<=x.toNat:=by rw[BitVec.toNat_and];exact Nat.and_le_left
 have h7:(2 ^ 64:Nat)=18446744073709551616:=by decide
 have h8:=x.isLt
 rw[h5]at h4
 rw[h7]at h4 h8
 omega
def Zd{a:Int}(ha : -9223372036854775808<=a/\a<=9223372036854775807):wrap64 ((BitVec.ofInt 64 (IntKind.i64.wrap (IntKind.i64.wrap (a+8)-1)) &&& ~~~ BitVec.ofInt 64 7).toNat:Int)=if a%8=0 then a else wrap64 (a-a%8+8):=by
 have h1:BitVec.ofInt 64 7=7#64:=by decide
 rw[h1,aw1,BitVec.toNat_ofInt]
 have h2:((2 ^ 64:Nat):Int)=18446744073709551616:=by decide
 rw[h2,bU,bU]
 unfold wrap64
 split<;>omega
def oz{x y:Int}(h:x=y):iy (.val (.int .i64 x)) (.val (.bool true))=ko (y,true):=by rw[h];rfl
def lj(b:Bool):ab prog 358 [boo b] (i64 (fG b)):=by
 refine zH func358 fun B=>?_
 refine Wi rfl ?_ ?_<;>intro hi1
 ·refine zu1 ?_
  refine zR ?_
  simp_all[fG,i64]
 refine Wj<|zu1 ?_
 refine zR ?_
 simp_all[fG,i64]
def rk(b:Bool):ab prog 360 [boo b] (ko (fG b,true)):=by
 refine zH func360 fun B=>?_
 refine zC rfl func358 ((lj b) _) ?_
 rfl
def WD(name:Str)(a:Int):Int×Bool:=if name=[48,61]then(one .eq0 a,true)else if name=[48,60]then(one .lt0 a,true)else if name=[48,60,62]then(one .ne0 a,true)else if name=[48,62]then(one .gt0 a,true)else(0,false)
def Rs{s:Str}{a:Int}(h0:s≠[65,66,83])(h1:s≠[78,69,71,65,84,69])(h2:s≠[73,78,86,69,82,84])(h3:s≠[49,43])(h4:s≠[49,45])(h5:s≠[50,42])(h6:s≠[50,47])(h7:s≠[67,69,76,76,83])(h8:s≠[65,76,73,71,78,69,68])(h9:s≠[67,69,76,76,43]):WD s a=uH s a:=by
 unfold WD
 by_cases h10:s=[48,61]
 ·subst h10;rfl
 rw[if_neg h10]
 by_cases h11:s=[48,60]
 ·subst h11;rfl
 rw[if_neg h11]
 by_cases h12:s=[48,60,62]
 ·subst h12;rfl
 rw[if_neg h12]
 by_cases h13:s=[48,62]
 ·subst h13;rfl
 rw[if_neg h13]
 exact(Y9 (UG h0 h1 h2 h3 h4 h5 h6 h7 h8 h9 h10 h11 h12 h13)).symm
def PC(name:Str)(a:Int):ab prog 275 [str name,i64 a] (ko (WD name a)):=by
 refine zY func275 fun B=>?_
 refine zu2 ?_
 refine zu1 ?_
 refine Ws<|zu1 ?_
 refine Wl<|zp1 ?_
 refine zQ 9 ?_
 refine Wi rfl ?_ ?_<;>intro hi1
 ·obtain rfl:=oT hi1
  refine zd ?_
  refine zG rfl rfl (ey rfl rfl func360 rfl rfl (rk _ _)) ?_
  exact congrArg ko (Prod.ext (congrArg fG (by rfl)) rfl)
 refine zp1 ?_
 refine zQ 17 ?_
 refine Wi rfl ?_ ?_<;>intro hi2
 ·obtain rfl:=oT hi2
  refine zd ?_
  refine zG rfl rfl (ey rfl rfl func360 rfl rfl (rk _ _)) ?_
  exact congrArg ko (Prod.ext (congrArg fG (by rfl)) rfl)
 refine zp1 ?_
 refine zQ 25 ?_
 refine Wi rfl ?_ ?_<;>intro hi3
 ·obtain rfl:=oT hi3
  refine zd ?_
  refine zG rfl rfl (ey rfl rfl func360 rfl rfl (rk _ _)) ?_
  exact congrArg ko (Prod.ext (congrArg fG (by rfl)) rfl)
 refine zp1 ?_
 refine zQ 33 ?_
 refine Wi rfl ?_ ?_<;>intro hi4
 ·obtain rfl:=oT hi4
  refine zd ?_
  refine zG rfl rfl (ey rfl rfl func360 rfl rfl (rk _ _)) ?_
  exact congrArg ko (Prod.ext (congrArg fG (by rfl)) rfl)
 refine Wj<|zu2 ?_
 refine zR ?_
 have h1:=oF hi1
 have h2:=oF hi2
 have h3:=oF hi3
 have h4:=oF hi4
 rw[WD,if_neg h1,if_neg h2,if_neg h3,if_neg h4];rfl
def Md(name:Str)(a:Int)(ha : -9223372036854775808<=a/\a<=9223372036854775807):ab prog 244 [str name,i64 a] (ko (uH name a)):=by
 refine zY func244 fun B=>?_
 refine zu2 ?_
 refine Ws<|zu1 ?_
 refine Wl<|Ws<|Wl<|Ws<|Wl<|Ws<|Wl<|Ws<|Wl<|Ws<|Wl<|Ws<|Wl<|Ws<|Wl<|Ws<|Wl<|Ws<|Wl<|Ws<|Wl ?_
 iterate 2 refine Ws ?_
 refine zp1 ?_
 refine zQ 8 ?_
 refine Wi rfl ?_ ?_<;>intro hi1
 ·obtain rfl:=oT hi1
  refine aW ?_
  refine zd ?_
  refine Wi rfl ?_ ?_<;>intro hi2
  ·refine zu3 ?_
   refine zR ?_
   refine(oz (y:=one .abs a) ?_).trans (congrArg ko (lf (o:=.abs) rfl).symm)
   simp only[one];(((try simp only[dnL]at *);rw[if_pos (by omega)]))
  refine Wj<|Ws<|zu4 ?_
  refine zR ?_
  refine(oz (y:=one .abs a) ?_).trans (congrArg ko (lf (o:=.abs) rfl).symm)
  simp only[one];(((try simp only[dnL]at *);rw[if_neg (by omega),bU];exact Vq a))
 refine Wj<|Ws<|zp1 ?_
 refine zQ 10 ?_
 refine Wi rfl ?_ ?_<;>intro hi3
 ·obtain rfl:=oT hi3
  refine aW ?_
  refine Ws<|zu4 ?_
  refine zR ?_
  refine(oz (y:=one .neg a) ?_).trans (congrArg ko (lf (o:=.neg) rfl).symm)
  simp only[one];((rw[bU];exact Vq a))
 refine Wj<|Ws<|zp1 ?_
 refine zQ 12 ?_
 refine Wi rfl ?_ ?_<;>intro hi4
 ·obtain rfl:=oT hi4
  refine aW ?_
  refine Ws<|zu4 ?_
  refine zR ?_
  refine(oz (y:=one .inv a) ?_).trans (congrArg ko (lf (o:=.inv) rfl).symm)
  simp only[one];((rw[bU];exact aq4 ha))
 refine Wj<|Ws<|zp1 ?_
 refine zQ 14 ?_
 refine Wi rfl ?_ ?_<;>intro hi5
 ·obtain rfl:=oT hi5
  refine aW ?_
  refine Ws<|zu4 ?_
  refine zR ?_
  refine(oz (y:=one .inc a) ?_).trans (congrArg ko (lf (o:=.inc) rfl).symm)
  simp only[one];((rw[bU];done))
 refine Wj<|Ws<|zp1 ?_
 refine zQ 16 ?_
 refine Wi rfl ?_ ?_<;>intro hi6
 ·obtain rfl:=oT hi6
  refine aW ?_
  refine Ws<|zu4 ?_
  refine zR ?_
  refine(oz (y:=one .dec a) ?_).trans (congrArg ko (lf (o:=.dec) rfl).symm)
  simp only[one];((rw[bU];done))
 refine Wj<|Ws<|zp1 ?_
 refine zQ 18 ?_
 refine Wi rfl ?_ ?_<;>intro hi7
 ·obtain rfl:=oT hi7
  refine aW ?_
  refine Ws<|zu4 ?_
  refine zR ?_
  refine(oz (y:=one .dbl a) ?_).trans (congrArg ko (lf (o:=.dbl) rfl).symm)
  simp only[one];((rw[bU];exact af4 a))
 refine Wj<|Ws<|zp1 ?_
 refine zQ 20 ?_
 refine Wi rfl ?_ ?_<;>intro hi8
 ·obtain rfl:=oT hi8
  refine aW ?_
  refine Ws<|zu4 ?_
  refine zR ?_
  refine(oz (y:=one .half a) ?_).trans (congrArg ko (lf (o:=.half) rfl).symm)
  simp only[one];exact ZK a
 refine Wj<|Ws<|zp1 ?_
 refine zQ 22 ?_
 refine Wi rfl ?_ ?_<;>intro hi9
 ·obtain rfl:=oT hi9
  refine aW ?_
  refine Ws<|zu4 ?_
  refine zR ?_
  refine(oz (y:=one .cells a) ?_).trans (congrArg ko (lf (o:=.cells) rfl).symm)
  simp only[one];((rw[bU];done))
 refine Wj<|Ws<|zp1 ?_
 refine zQ 24 ?_
 refine Wi rfl ?_ ?_<;>intro hi10
 ·obtain rfl:=oT hi10
  refine aW ?_
  refine Ws<|zp5 ?_
  refine zs1 ?_
  refine zR ?_
  refine(oz (y:=one .algn a) ?_).trans (congrArg ko (lf (o:=.algn) rfl).symm)
  simp only[one];((rw[bU];exact Zd ha))
 refine Wj<|zp1 ?_
 refine zQ 26 ?_
 refine Wi rfl ?_ ?_<;>intro hi11
 ·obtain rfl:=oT hi11
  refine aW ?_
  refine Ws<|zu4 ?_
  refine zR ?_
  refine(oz (y:=one .cellp a) ?_).trans (congrArg ko (lf (o:=.cellp) rfl).symm)
  simp only[one];((rw[bU];done))
 refine zd ?_
 refine aW ?_
 refine zd ?_
 refine zC rfl func275 ((PC name a) _) ?_
 rw[Rs (oF hi1) (oF hi3) (oF hi4) (oF hi5) (oF hi6) (oF hi7) (oF hi8) (oF hi9) (oF hi10) (oF hi11)];rfl
inductive Op2 where
 | quo
 | rem
 | add
 | sub
 | mul
 | and
 | or
 | xor
 | shl
 | shr
 | min
 | max
 | eq
 | ne
 | lt
 | gt
 | le
 | ge
 | ult
 | ugt
deriving DecidableEq
def Vb:List (Str×Op2):=[([47],.quo),([77,79,68],.rem),([43],.add),([45],.sub),([42],.mul),([65,78,68],.and),([79,82],.or),([88,79,82],.xor),([76,83,72,73,70,84],.shl),([82,83,72,73,70,84],.shr),([77,73,78],.min),([77,65,88],.max),([61],.eq),([60,62],.ne),([60],.lt),([62],.gt),([60,61],.le),([62,61],.ge),([85,60],.ult),([85,62],.ugt)]
def op2(s:Str):Option Op2:=Vb.lookup s
def Cq(a b:Int):Int:=wrap64 ((BitVec.ofInt 64 a &&& BitVec.ofInt 64 b).toNat:Int)
def orS(a b:Int):Int:=wrap64 ((BitVec.ofInt 64 a ||| BitVec.ofInt 64 b).toNat:Int)
def Ck(a b:Int):Int:=wrap64 ((BitVec.ofInt 64 a ^^^ BitVec.ofInt 64 b).toNat:Int)
def qu(a by_:Int)(up:Bool):Int:=if 63<U by_ then 0 else if up then S (U a*2 ^ U by_%18446744073709551616)else S (U a/2 ^ U by_)
def two(o:Op2)(a b:Int):Int×Int:=match o with
 | .quo=>((nC a b).1,(nC a b).2.2)
 | .rem=>((nC a b).2.1,(nC a b).2.2)
 | .add=>(wrap64 (a+b),0)
 | .sub=>(wrap64 (a-b),0)
 | .mul=>(wrap64 (a*b),0)
 | .and=>(Cq a b,0)
 | .or=>(orS a b,0)
 | .xor=>(Ck a b,0)
 | .shl=>(qu a b true,0)
 | .shr=>(qu a b false,0)
 | .min=>(if b<a then b else a,0)
 | .max=>(if a<b then b else a,0)
 | .eq=>(fG (decide (a=b)),0)
 | .ne=>(fG (!decide (a=b)),0)
 | .lt=>(fG (decide (a<b)),0)
 | .gt=>(fG (decide (b<a)),0)
 | .le=>(fG (decide (a<=b)),0)
 | .ge=>(fG (decide (b<=a)),0)
 | .ult=>(fG (decide (U a<U b)),0)
 | .ugt=>(fG (decide (U b<U a)),0)
def lH(name:Str)(a b:Int):Int×Bool×Int:=match op2 name with
 | some o=>((two o a b).1,true,(two o a b).2)
 | none=>(0,false,0)
def xi(r:Int×Bool×Int):PV:=kr (i64 r.1) (boo r.2.1) (i64 r.2.2)
@[simp] theorem az1 (r : Int × Bool × Int) : aR (xi r) := by simp [xi]
def Z6{name:Str}{a b:Int}(h:op2 name=none):lH name a b=(0,false,0):=by unfold lH;rw[h]
def Sg{s:Str}(h0:s≠[47])(h1:s≠[77,79,68])(h2:s≠[43])(h3:s≠[45])(h4:s≠[42])(h5:s≠[65,78,68])(h6:s≠[79,82])(h7:s≠[88,79,82])(h8:s≠[76,83,72,73,70,84])(h9:s≠[82,83,72,73,70,84])(h10:s≠[77,73,78])(h11:s≠[77,65,88])(h12:s≠[61])(h13:s≠[60,62])(h14:s≠[60])(h15:s≠[62])(h16:s≠[60,61])(h17:s≠[62,61])(h18:s≠[85,60])(h19:s≠[85,62]):op2 s=none:=by
 unfold op2 Vb
 simp only[List.lookup]
 simp[beq_eq_false_iff_ne.2 h0,beq_eq_false_iff_ne.2 h1,beq_eq_false_iff_ne.2 h2,beq_eq_false_iff_ne.2 h3,beq_eq_false_iff_ne.2 h4,beq_eq_false_iff_ne.2 h5,beq_eq_false_iff_ne.2 h6,beq_eq_false_iff_ne.2 h7,beq_eq_false_iff_ne.2 h8,beq_eq_false_iff_ne.2 h9,beq_eq_false_iff_ne.2 h10,beq_eq_false_iff_ne.2 h11,beq_eq_false_iff_ne.2 h12,beq_eq_false_iff_ne.2 h13,beq_eq_false_iff_ne.2 h14,beq_eq_false_iff_ne.2 h15,beq_eq_false_iff_ne.2 h16,beq_eq_false_iff_ne.2 h17,beq_eq_false_iff_ne.2 h18,beq_eq_false_iff_ne.2 h19]
def Im(name:Str)(a b:Int):Int×Bool:=if name=[61]then((two .eq a b).1,true)else if name=[60,62]then((two .ne a b).1,true)else if name=[62]then((two .gt a b).1,true)else if name=[60]then((two .lt a b).1,true)else if name=[60,61]then((two .le a b).1,true)else if name=[62,61]then((two .ge a b).1,true)else if name=[85,62]then((two .ugt a b).1,true)else if name=[85,60]then((two .ult a b).1,true)else(0,false)
def Rr(name:Str)(a b:Int):ab prog 274 [str name,i64 a,i64 b] (ko (Im name a b)):=by
 refine zY func274 fun B=>?_
 refine zu2 ?_
 refine Ws<|zu1 ?_
 refine Wl<|Ws<|Wl<|Ws<|Wl<|Ws<|Wl<|Ws<|Wl<|Ws<|Wl<|Ws<|Wl<|Ws<|Wl<|Ws<|Wl ?_
 iterate 2 refine Ws ?_
 refine zp1 ?_
 refine zQ 10 ?_
 refine Wi rfl ?_ ?_<;>intro hi1
 ·obtain rfl:=oT hi1
  refine aW ?_
  refine zd ?_
  refine zc rfl func358 ((lj _) _) ?_
  refine zs2 ?_
  refine zR ?_
  refine congrArg ko (show(fG _,true)=((two .eq a b).1,true) from ?_)
  simp only[two]<;>rfl
 refine Wj<|Ws<|zp1 ?_
 refine zQ 12 ?_
 refine Wi rfl ?_ ?_<;>intro hi2
 ·obtain rfl:=oT hi2
  refine aW ?_
  refine zd ?_
  refine zc rfl func358 ((lj _) _) ?_
  refine zs2 ?_
  refine zR ?_
  refine congrArg ko (show(fG _,true)=((two .ne a b).1,true) from ?_)
  simp only[two]<;>rfl
 refine Wj<|Ws<|zp1 ?_
 refine zQ 14 ?_
 refine Wi rfl ?_ ?_<;>intro hi3
 ·obtain rfl:=oT hi3
  refine aW ?_
  refine zd ?_
  refine zc rfl func358 ((lj _) _) ?_
  refine zs2 ?_
  refine zR ?_
  refine congrArg ko (show(fG _,true)=((two .gt a b).1,true) from ?_)
  simp only[two]<;>first|rfl|(congr 2;done)|(congr 2;rw[Bool.eq_iff_iff]<;>simp)
 refine Wj<|Ws<|zp1 ?_
 refine zQ 16 ?_
 refine Wi rfl ?_ ?_<;>intro hi4
 ·obtain rfl:=oT hi4
  refine aW ?_
  refine zd ?_
  refine zc rfl func358 ((lj _) _) ?_
  refine zs2 ?_
  refine zR ?_
  refine congrArg ko (show(fG _,true)=((two .lt a b).1,true) from ?_)
  simp only[two]<;>first|rfl|(congr 2;done)|(congr 2;rw[Bool.eq_iff_iff]<;>simp)
 refine Wj<|Ws<|zp1 ?_
 refine zQ 18 ?_
 refine Wi rfl ?_ ?_<;>intro hi5
 ·obtain rfl:=oT hi5
  refine aW ?_
  refine zd ?_
  refine zc rfl func358 ((lj _) _) ?_
  refine zs2 ?_
  refine zR ?_
  refine congrArg ko (show(fG _,true)=((two .le a b).1,true) from ?_)
  simp only[two]<;>first|rfl|(congr 2;done)|(congr 2;rw[Bool.eq_iff_iff]<;>simp)
 refine Wj<|Ws<|zp1 ?_
 refine zQ 20 ?_
 refine Wi rfl ?_ ?_<;>intro hi6
 ·obtain rfl:=oT hi6
  refine aW ?_
  refine zd ?_
  refine zc rfl func358 ((lj _) _) ?_
  refine zs2 ?_
  refine zR ?_
  refine congrArg ko (show(fG _,true)=((two .ge a b).1,true) from ?_)
  simp only[two]<;>first|rfl|(congr 2;done)|(congr 2;rw[Bool.eq_iff_iff]<;>simp)
 refine Wj<|Ws<|zp1 ?_
 refine zQ 22 ?_
 refine Wi rfl ?_ ?_<;>intro hi7
 ·obtain rfl:=oT hi7
  refine aW ?_
  refine zd ?_
  refine zc rfl func359 ((FO _ _) _) ?_
  refine zc rfl func358 ((lj _) _) ?_
  refine zs2 ?_
  refine zR ?_
  refine congrArg ko (show(fG _,true)=((two .ugt a b).1,true) from ?_)
  simp only[two]<;>first|rfl|(congr 2;done)|(congr 2;rw[Bool.eq_iff_iff]<;>simp)
 refine Wj<|zp1 ?_
 refine zQ 24 ?_
 refine Wi rfl ?_ ?_<;>intro hi8
 ·obtain rfl:=oT hi8
  refine aW ?_
  refine zd ?_
  refine zc rfl func359 ((FO _ _) _) ?_
  refine zc rfl func358 ((lj _) _) ?_
  refine zs2 ?_
  refine zR ?_
  refine congrArg ko (show(fG _,true)=((two .ult a b).1,true) from ?_)
  simp only[two]<;>first|rfl|(congr 2;done)|(congr 2;rw[Bool.eq_iff_iff]<;>simp)
 refine zd ?_
 refine aW ?_
 refine zd ?_
 rw[Im,if_neg (oF hi1),if_neg (oF hi2),if_neg (oF hi3),if_neg (oF hi4),if_neg (oF hi5),if_neg (oF hi6),if_neg (oF hi7),if_neg (oF hi8)];rfl
def LL(x lo hi:Int):ab prog 294 [i64 x,i64 lo,i64 hi] (boo (decide (U (wrap64 (x-lo))<U (wrap64 (hi-lo))))):=by
 refine zH func294 fun B=>?_
 refine zc rfl func359 ((FO _ _) _) ?_
 refine zs1 ?_
 refine zR ?_
 simp only[bU];rfl
def Zf{t:TypeId}{x y:Operand}{a b:Int}(h:0<=b):Ky .shl t x y (.int .u64 a) (.int .u64 b)=some (.int .u64 (IntKind.u64.wrap (a*2 ^ min b.toNat 64))):=by
 have h1:¬b<0:=by omega
 simp only[Ky,eqGuard,binOp,Op.shift,if_neg h1];rfl
def YO{t:TypeId}{x y:Operand}{a b:Int}(h:0<=b):Ky .shr t x y (.int .u64 a) (.int .u64 b)=some (.int .u64 (a.fdiv (2 ^ min b.toNat 64))):=by
 have h1:¬b<0:=by omega
 simp only[Ky,eqGuard,binOp,Op.shift,if_neg h1];rfl
def pvU(x:Int):PV.val (.int .u64 (IntKind.u64.wrap x))=.val (.int .u64 (U x:Int)):=by rw[lZ]
def aH7(x:Int):U x<18446744073709551616:=by unfold U;omega
def Wz(a b:Int):IntKind.i64.wrap (IntKind.u64.wrap ((U a:Int)*2 ^ min ((U b:Int)).toNat 64))=qu a b true:=by
 unfold qu
 rw[Int.toNat_natCast,bU,IntKind.wrap_u64]
 by_cases h:63<U b
 ·rw[if_pos h,Nat.min_eq_right (by omega)]
  have e:(2:Int) ^ 64=18446744073709551616:=by decide
  rw[e,Int.mul_emod_left];unfold wrap64;omega
 rw[if_neg h,Nat.min_eq_left (by omega),if_pos rfl]
 unfold S
 congr 1
def W2(a b:Int):IntKind.i64.wrap ((U a:Int).fdiv (2 ^ min ((U b:Int)).toNat 64))=qu a b false:=by
 unfold qu
 have hp:∀n:Nat,(0:Int)<=2 ^ n:=fun n=>Int.pow_nonneg (by omega)
 rw[Int.toNat_natCast,bU,Int.fdiv_eq_ediv_of_nonneg _ (hp _)]
 by_cases h:63<U b
 ·rw[if_pos h,Nat.min_eq_right (by omega)]
  have e:(2:Int) ^ 64=18446744073709551616:=by decide
  have:=aH7 a
  rw[e,Int.ediv_eq_zero_of_lt (by omega) (by omega)];unfold wrap64;omega
 rw[if_neg h,Nat.min_eq_left (by omega),if_neg (by simp)]
 unfold S
 congr 1
def CT(a by_:Int)(up:Bool):ab prog 273 [i64 a,i64 by_,boo up] (i64 (qu a by_ up)):=by
 refine zY func273 fun B=>?_
 refine zu1 ?_
 refine zp2 ?_
 refine zA 9 rfl (pvU by_) ?_
 refine Wi rfl ?_ ?_<;>intro hi1
 ·obtain rfl:=hi1
  refine zp2 ?_
  refine Wa 12 rfl (pvU a) ?_
  refine z1 ?_
  refine Wd rfl rfl (Ah rfl rfl rfl (Zf (by omega))) ?_
  refine zd ?_
  exact congrArg i64 (Wz a by_)
 obtain rfl:=hi1
 refine Wj<|zp2 ?_
 refine Wa 17 rfl (pvU a) ?_
 refine z1 ?_
 refine Wd rfl rfl (Ah rfl rfl rfl (YO (by omega))) ?_
 refine zd ?_
 exact congrArg i64 (W2 a by_)
def qy(a b:Int):lH [47] a b=((two .quo a b).1,true,(two .quo a b).2):=rfl
def qF(a b:Int):lH [77,79,68] a b=((two .rem a b).1,true,(two .rem a b).2):=rfl
def qJ(a b:Int):lH [43] a b=((two .add a b).1,true,(two .add a b).2):=rfl
def qL(a b:Int):lH [45] a b=((two .sub a b).1,true,(two .sub a b).2):=rfl
def ry(a b:Int):lH [42] a b=((two .mul a b).1,true,(two .mul a b).2):=rfl
def rA(a b:Int):lH [65,78,68] a b=((two .and a b).1,true,(two .and a b).2):=rfl
def vr(a b:Int):lH [79,82] a b=((two .or a b).1,true,(two .or a b).2):=rfl
def qZ(a b:Int):lH [88,79,82] a b=((two .xor a b).1,true,(two .xor a b).2):=rfl
def qB(a b:Int):lH [76,83,72,73,70,84] a b=((two .shl a b).1,true,(two .shl a b).2):=rfl
def qX(a b:Int):lH [82,83,72,73,70,84] a b=((two .shr a b).1,true,(two .shr a b).2):=rfl
def rJ(a b:Int):lH [77,73,78] a b=((two .min a b).1,true,(two .min a b).2):=rfl
def qM(a b:Int):lH [77,65,88] a b=((two .max a b).1,true,(two .max a b).2):=rfl
def T9{s:Str}{a b:Int}(h0:s≠[47])(h1:s≠[77,79,68])(h2:s≠[43])(h3:s≠[45])(h4:s≠[42])(h5:s≠[65,78,68])(h6:s≠[79,82])(h7:s≠[88,79,82])(h8:s≠[76,83,72,73,70,84])(h9:s≠[82,83,72,73,70,84])(h10:s≠[77,73,78])(h11:s≠[77,65,88]):xi (lH s a b)=kr (i64 (Im s a b).1) (boo (Im s a b).2) (i64 0):=by
 unfold Im
 by_cases h12:s=[61]
 ·subst h12;rfl
 rw[if_neg h12]
 by_cases h13:s=[60,62]
 ·subst h13;rfl
 rw[if_neg h13]
 by_cases h15:s=[62]
 ·subst h15;rfl
 rw[if_neg h15]
 by_cases h14:s=[60]
 ·subst h14;rfl
 rw[if_neg h14]
 by_cases h16:s=[60,61]
 ·subst h16;rfl
 rw[if_neg h16]
 by_cases h17:s=[62,61]
 ·subst h17;rfl
 rw[if_neg h17]
 by_cases h19:s=[85,62]
 ·subst h19;rfl
 rw[if_neg h19]
 by_cases h18:s=[85,60]
 ·subst h18;rfl
 rw[if_neg h18]
 rw[Z6 (Sg h0 h1 h2 h3 h4 h5 h6 h7 h8 h9 h10 h11 h12 h13 h14 h15 h16 h17 h18 h19)];rfl
def Zm(name:Str)(a b:Int)(hb:Fit b):ab prog 242 [str name,i64 a,i64 b] (xi (lH name a b)):=by
 refine zY func242 fun B=>?_
 refine zu3 ?_
 refine Ws<|zu1 ?_
 refine Wl<|Ws<|zp1 ?_
 refine zQ 16 ?_
 refine Wi rfl ?_ ?_<;>intro hi1
 ·refine zd ?_
  refine Wt rfl hi1 ?_
  refine zd ?_
  refine zc rfl func272 ((S4 a b hb) _) ?_
  refine zy5 ?_
  refine zs2 ?_
  refine Ws<|zp2 ?_
  refine zQ 26 ?_
  refine zI ?_ ?_<;>intro hi2
  ·(exfalso;(try simp only[dnL]at *);simp_all;done)
  ((try simp only[dnL]at *);simp_all[xi,kr,i64,boo,bU,two,Cq,orS,Ck,IntKind.bits,qy,qF,qJ,qL,ry,rA,vr,qZ,qB,qX,rJ,qM];done)
 refine aI rfl ?_
 refine z1 ?_
 refine zQ 17 ?_
 refine Wi rfl ?_ ?_<;>intro hi3
 ·refine zd ?_
  refine zc rfl func272 ((S4 a b hb) _) ?_
  refine zy5 ?_
  refine zs2 ?_
  refine Ws<|zp2 ?_
  refine zQ 26 ?_
  refine zI ?_ ?_<;>intro hi2
  ·((try simp only[dnL]at *);simp_all[xi,kr,i64,boo,bU,two,Cq,orS,Ck,IntKind.bits,qy,qF,qJ,qL,ry,rA,vr,qZ,qB,qX,rJ,qM];done)
  (exfalso;(try simp only[dnL]at *);simp_all;done)
 refine zp1 ?_
 refine zQ 31 ?_
 refine Wi rfl ?_ ?_<;>intro hi4
 ·refine zd ?_
  ((try simp only[dnL]at *);simp_all[xi,kr,i64,boo,bU,two,Cq,orS,Ck,IntKind.bits,qy,qF,qJ,qL,ry,rA,vr,qZ,qB,qX,rJ,qM];done)
 refine zp1 ?_
 refine zQ 36 ?_
 refine Wi rfl ?_ ?_<;>intro hi5
 ·refine zd ?_
  ((try simp only[dnL]at *);simp_all[xi,kr,i64,boo,bU,two,Cq,orS,Ck,IntKind.bits,qy,qF,qJ,qL,ry,rA,vr,qZ,qB,qX,rJ,qM];done)
 refine zp1 ?_
 refine zQ 41 ?_
 refine Wi rfl ?_ ?_<;>intro hi6
 ·refine zd ?_
  ((try simp only[dnL]at *);simp_all[xi,kr,i64,boo,bU,two,Cq,orS,Ck,IntKind.bits,qy,qF,qJ,qL,ry,rA,vr,qZ,qB,qX,rJ,qM];done)
 refine zp1 ?_
 refine zQ 46 ?_
 refine Wi rfl ?_ ?_<;>intro hi7
 ·refine zd ?_
  ((try simp only[dnL]at *);subst_vars;exact congrArg (fun z=>kr (i64 z) (boo true) (i64 0)) (bU _))
 refine zp1 ?_
 refine zQ 51 ?_
 refine Wi rfl ?_ ?_<;>intro hi8
 ·refine zd ?_
  ((try simp only[dnL]at *);subst_vars;exact congrArg (fun z=>kr (i64 z) (boo true) (i64 0)) (bU _))
 refine zp1 ?_
 refine zQ 56 ?_
 refine Wi rfl ?_ ?_<;>intro hi9
 ·refine zd ?_
  ((try simp only[dnL]at *);subst_vars;exact congrArg (fun z=>kr (i64 z) (boo true) (i64 0)) (bU _))
 refine Ws<|zp1 ?_
 refine zQ 61 ?_
 refine Wi rfl ?_ ?_<;>intro hi10
 ·refine zd ?_
  refine Wt rfl hi10 ?_
  refine zp4 ?_
  refine zQ 66 ?_
  refine zC rfl func273 ((CT a b _) _) ?_
  ((try simp only[dnL]at *);simp_all[xi,kr,i64,boo,bU,two,Cq,orS,Ck,IntKind.bits,qy,qF,qJ,qL,ry,rA,vr,qZ,qB,qX,rJ,qM];done)
 refine aI rfl ?_
 refine z1 ?_
 refine zQ 62 ?_
 refine Wi rfl ?_ ?_<;>intro hi11
 ·refine zp4 ?_
  refine zQ 66 ?_
  refine zC rfl func273 ((CT a b _) _) ?_
  ((try simp only[dnL]at *);simp_all[xi,kr,i64,boo,bU,two,Cq,orS,Ck,IntKind.bits,qy,qF,qJ,qL,ry,rA,vr,qZ,qB,qX,rJ,qM];done)
 refine zp1 ?_
 refine zQ 69 ?_
 refine Wi rfl ?_ ?_<;>intro hi12
 ·refine zd ?_
  ((try simp only[dnL]at *);simp_all[xi,kr,i64,boo,bU,two,Cq,orS,Ck,IntKind.bits,qy,qF,qJ,qL,ry,rA,vr,qZ,qB,qX,rJ,qM];done)
 refine zp1 ?_
 refine zQ 74 ?_
 refine zI ?_ ?_<;>intro hi13
 ·((try simp only[dnL]at *);simp_all[xi,kr,i64,boo,bU,two,Cq,orS,Ck,IntKind.bits,qy,qF,qJ,qL,ry,rA,vr,qZ,qB,qX,rJ,qM];done)
 refine zC rfl func274 ((Rr name a b) _) ?_
 ((try simp only[dnL]at *);exact(T9 (by assumption) (by assumption) (by assumption) (by assumption) (by assumption) (by assumption) (by assumption) (by assumption) (by assumption) (by assumption) (by assumption) (by assumption)).symm)
def Uh(p:dV)(n:Int)(hp:p.b.length<=1000000):ab prog 343 [wt p,i64 n] (N6 (oZ p n)):=by
 refine zH func343 fun B=>?_
 refine Wi rfl ?_ ?_<;>intro hi1
 ·have h0:0<=n:=by(try simp only[dnL]at *);omega
  refine zd ?_
  rw[oZ,if_pos h0];rfl
 have h0:¬0<=n:=by(try simp only[dnL]at *);omega
 refine zd ?_
 refine zC rfl func342 ((BJ p 45 hp) _) ?_
 rw[oZ,if_neg h0];rfl
def HG(p:dV)(lo hi base:Int):dV×Int:=gR p (v8 (iH lo (iH hi 0 base).2.1 base).2.1)
def aL(p:dV)(lo hi base:Int):dV×Int×Int×Int :=
 if base<2\/36<base then(p,lo,hi,-24)else
  if (HG p lo hi base).2=0 then((HG p lo hi base).1,(iH lo (iH hi 0 base).2.1 base).1,(iH hi 0 base).1,0)else(p,lo,hi,(HG p lo hi base).2)
def af8(r:dV×Int×Int×Int):PV:=Qi (wt r.1) (i64 r.2.1) (i64 r.2.2.1) (i64 r.2.2.2)
@[simp] theorem ay1 (r : dV × Int × Int × Int) : aR (af8 r) := by simp [af8]
def Of(n:Int):IntKind.i64.wrap (v8 n)=v8 n:=by rw[bU];unfold v8 wrap64;split<;>(try split)<;>omega
def Dx(p:dV)(lo hi base:Int)(hp:p.b.length<=1000000):ab prog 339 [wt p,i64 lo,i64 hi,i64 base] (af8 (aL p lo hi base)):=by
 refine zY func339 fun B=>?_
 refine zu5 ?_
 refine Ws<|zp3 ?_
 refine zB 22 (fun hg1=>?_) (fun hg1=>?_)
 ·refine Wt rfl rfl ?_
  refine zd ?_
  rw[aL,if_pos (by(try simp only[dnL]at *);omega)];rfl
 refine Wi rfl ?_ ?_<;>intro hi1
 ·have hb:base<2\/36<base:=by(try simp only[dnL]at *);omega
  refine zd ?_
  rw[aL,if_pos hb];rfl
 have hb:¬(base<2\/36<base):=by(try simp only[dnL]at *);omega
 refine zd ?_
 refine zC rfl func287 ((Kl hi 0 base) _) ?_
 refine zC rfl func287 ((Kl lo _ base) _) ?_
 refine zW [1,0,0,0,0,0,0,0,2,3,0] [0,1,2,3,4,5,6,7,8,9,10] ?_
 refine Xc rfl rfl rfl rfl (fun _=>dC rfl func379 rfl rfl ((WZ _) _)) ?_
 refine z3 ?_
 refine Xa 48 rfl (j_ (Of _)) ?_
 refine Xc rfl rfl rfl rfl (fun _=>dC rfl func342 rfl rfl ((BJ p _ hp) _)) ?_
 refine zd ?_
 refine lE tG rfl rfl rfl rfl rfl trivial rfl ?_
 refine cr tG rfl rfl rfl rfl rfl trivial ?_
 refine zd ?_
 refine Wi rfl ?_ ?_<;>intro hi2
 ·have h0:¬(HG p lo hi base).2=0:=by(try simp only[dnL]at *);exact hi2
  refine zd ?_
  rw[aL,if_neg hb,if_neg h0];rfl
 have h0:(HG p lo hi base).2=0:=by(try simp only[dnL]at *);exact hi2
 refine zd ?_
 rw[aL,if_neg hb,if_pos h0];rfl
def lU(p:dV):List UInt8×Int:=if p.on then(p.b.reverse,0)else([],-17)
def P6(n:Nat)(h:n<=1000000):ab prog 373 [.val (.int .u64 1),.val (.int .u64 n)] (iy (.val (.int .u64 0)) (.val (.int .u64 n))):=by
 refine dY (P:=prog) (args:=[.int .u64 1,.int .u64 n]) (v:=.tuple #[.int .u64 0,.int .u64 n]) (fun c=>?_) (fun w=>?_)
 ·unfold iy Rep
  exact⟨[_,_],rfl,af.2 ⟨ar _ _,af.2 ⟨ar _ _,aG.2 rfl⟩⟩⟩
 refine Calls.mono (Tryz.bits_Mul 1 n (by omega) (by omega) w) ?_
 rintro e w' ⟨rfl,rfl⟩
 refine⟨?_,bj.refl _⟩
 rw[Nat.one_mul,Nat.div_eq_of_lt (by omega),Nat.mod_eq_of_lt (by omega)];rfl
def ZT{n:Nat}(h:n<=1000000):PV.val (.int .u64 (IntKind.u64.wrap (n:Int)))=.val (.int .u64 (n:Int)):=by
 exact congrArg (fun z=>PV.val (Value.int .u64 z)) (by rw[IntKind.wrap_u64];omega)
def Xk{n:Nat}(h:n<=1000000):PV.val (.int .i64 (IntKind.i64.wrap (n:Int)))=.val (.int .i64 (n:Int)):=by
 exact j_ (by rw[bU];unfold wrap64;omega)
def dB(c:UInt8)(n k:Nat):List PV:=(List.replicate k c).flatMap aH++List.replicate (n-k) .any
def iq{c:UInt8}{n k:Nat}(h:k<=n):(dB c n k).length=n:=by
 unfold dB
 rw[List.length_append,an aH 1 (fun _=>rfl)]
 simp;omega
def xI(c:UInt8)(k:Nat):(List.replicate k c).flatMap aH=List.replicate k (.val (.int .u8 (c.toNat:Int))):=by
 rw[List.flatMap_replicate]
 induction k with
 | zero=>rfl
 | succ k ih=>rw[List.replicate_succ,List.flatten_cons,ih];rfl
def vb{c:UInt8}{n k q:Nat}(h:k+q<=n):cy (dB c n k) k ((List.replicate q c).flatMap aH)=dB c n (k+q):=by
 unfold dB cy
 rw[xI,xI,xI,List.take_append_of_le_length (by simp),List.take_of_length_le (by simp),List.drop_append,List.length_replicate,List.length_replicate,List.drop_of_length_le (by simp),List.nil_append,List.drop_replicate,List.replicate_append_replicate]
 congr 2;omega
def rc{c:UInt8}{n k q:Nat}(h:q<=k):((dB c n k).drop 0).take q=(List.replicate q c).flatMap aH:=by
 unfold dB
 rw[xI,xI,List.drop_zero,List.take_append_of_le_length (by simpa using h),List.take_replicate,Nat.min_eq_left h]
def wF(c:UInt8)(n:Nat):List.replicate n .any=dB c n 0:=by simp[dB]
def YK:Tryz.f388.body.isNone=true:=by kernel_rfl
def Xh:Extern.findNext Tryz.f388=none:=by kernel_rfl
def Ym:Extern.find Tryz.f388=some (Extern.BytealgMakeNoZero.makeNoZero #[3] #[22]):=by kernel_rfl
def XV : (Tryz.f388.name == "runtime.NumGoroutine") = false := by kernel_rfl
def NT{B:Nat->Nat->Prop}{o:Oper}{T:Nat->PV}{H:List Ob}{x:Operand}{ats:Array TypeId}{m:Nat}(ho:o.op=.call {callee:=.value (.func 388),args:=#[x],argTypes:=ats})(hx:opv T x=.val (.int .i64 (m:Int)))(hm:m<=281474976710656):
  bM prog B o T H (.arw H.length 0 m) (H++[.cells (List.replicate m .any) 5]) :=
 yw ho func388 XV YK Xh Ym (lO (G:=tys) (t:=22) tG rfl) rfl hx hm
def it(n:Nat):Nat:=if 8192<n then 8192 else n
def Po{n:Nat}(h:n≠0):0<it n:=by unfold it;split<;>omega
def NJ{n:Nat}(h:n≠0):PV.val (.int .i64 ((min 1 n:Nat):Int))=.val (.int .i64 ((1:Nat):Int)):=by rw[Nat.min_eq_left (by omega)]
def D7{c:UInt8}{n:Nat}{e:TypeId}(h:n≠0):[Ob.cells (dB c n 1) e]=[Ob.cells (cy (dB c n 0) 0 ((List.flatMap aH [c]).take (min 1 n*1))) e]:=by
 rw[Nat.min_eq_left (by omega)]
 have:=vb (c:=c) (n:=n) (k:=0) (q:=1) (by omega)
 rw[Nat.zero_add]at this
 rw[<-this];rfl
def MY{k q:Nat}:PV.val (.int .i64 (if (q:Int)<(k:Int)then(q:Int)else(k:Int)))=.val (.int .i64 ((min k q:Nat):Int)) :=
 j_ (by split<;>omega)
@[simp] theorem Ys (c : UInt8) (n k : Nat) : aF (dB c n k) := by
 unfold dB
 refine fU (bs oN _) ?_
 induction (n-k)with
 | zero=>trivial
 | succ m ih=>rw[List.replicate_succ];exact⟨trivial,ih⟩
def JC{n k:Nat}(h:k<n):PV.arr 0 (if n=(k:Int).toNat then 0 else 0+(k:Int).toNat*1) (n-(k:Int).toNat) (n-(k:Int).toNat)=.arr 0 k (n-k) (n-k):=by
 rw[Int.toNat_natCast,if_neg (by omega)];congr 1;omega
def Iq{n q:Nat}:PV.arr 0 (if n=0 then 0 else 0+0*1) ((q:Int).toNat-0) (n-0)=.arr 0 0 q n:=by
 simp
def BE{c:UInt8}{n k q:Nat}(h:q<=k):∀z∈((dB c n k).drop 0).take q,okC z=true:=by
 rw[rc h,xI]
 intro z hz
 rw[List.eq_of_mem_replicate hz];rfl
def Gy{c:UInt8}{n k q:Nat}{e:TypeId}(h:q<=k)(h2:k+q<=n):[Ob.cells (dB c n (k+q)) e]=[Ob.cells (cy (dB c n k) k (((dB c n k).drop 0).take (q*1))) e]:=by
 rw[Nat.mul_one,rc h,vb h2]
def L7{a b:Nat}(h:a+b<=1000000):PV.val (.int .i64 (IntKind.i64.wrap ((a:Int)+(b:Int))))=.val (.int .i64 ((a+b:Nat):Int)) :=
 j_ (by rw[bU];unfold wrap64;omega)
def NK{c:UInt8}{n k:Nat}(h:n<=k)(h2:k<=n):PV.seq n ((dB c n k).take n) .any=sq aH (List.replicate n c):=by
 have:k=n:=by omega
 subst this
 have:=rc (c:=c) (n:=k) (k:=k) (q:=k) (Nat.le_refl _)
 rw[List.drop_zero]at this
 rw[this]
 unfold sq
 rw[List.length_replicate]
def B8(c:UInt8)(n:Nat)(h:n<=1000000):ab prog 369 [sq aH [c],i64 n] (sq aH (List.replicate n c)):=by
 refine zH func369 fun B=>?_
 refine Wi rfl ?_ ?_<;>intro hi1
 ·have hz:n=0:=by simpa using hi1
  subst hz
  refine zd ?_
  rfl
 have hn:n≠0:=by simpa using hi1
 have hcp:=Po hn
 refine zd ?_
 refine Wf rfl (by(simp only[dnL]at *;omega)) ?_
 refine Wj<|zp3 ?_
 refine Wa 21 rfl ((rfl:PV.val (.int .u64 (IntKind.u64.wrap ((1:Nat):Int)))=.val (.int .u64 1))) ?_
 refine zy2 ?_
 refine Wa 23 rfl (ZT h) ?_
 refine zc rfl func373 ((P6 n h) _) ?_
 refine zs5 ?_
 refine Ws<|zp3 ?_
 refine pJ 29 rfl (by rfl) ?_
 refine zd ?_
 refine Wf rfl (by(simp only[dnL]at *;omega)) ?_
 refine Wj<|zp2 ?_
 refine zA 35 rfl (Xk h) ?_
 refine Wf rfl (by rfl) ?_
 refine zd ?_
 refine Wi rfl ?_ ?_<;>intro hi5
 ·have hq:8192=it n:=by unfold it;rw[if_pos (by have:=oT hi5;omega)]
  refine zp3 ?_
  refine Wa 45 rfl (j_ (show IntKind.i64.wrap (Int.tdiv 8192 ((1:Nat):Int))=8192 by decide)) ?_
  refine zy3 ?_
  refine zA 48 rfl (j_ (show IntKind.i64.wrap (8192*((1:Nat):Int))=(it n:Int) by rw[<-hq];decide)) ?_
  refine Wf rfl (by(simp;omega)) ?_
  refine Wj<|zp1 ?_
  have hmk:n<=281474976710656:=by omega
  refine Wd (x:=.arw 0 0 n) (H':=[.cells (List.replicate n .any) 5]) rfl rfl (NT (H:=[]) (m:=n) rfl rfl hmk) ?_
  refine zd ?_
  refine Wd rfl rfl (ni (lO tG rfl) rfl (lO tG rfl) rfl rfl ⟨_,_,rfl,by omega,by simp⟩ ⟨_,_,rfl,by omega,by simp⟩) ?_
  refine jQ (H':=[.cells (dB c n 0) 5]) (by rw[<-wF]) ?_
  refine zd ?_
  refine Wd rfl rfl (nL (lO tG rfl) rfl (lO tG rfl) rfl rfl rfl rfl (an _ 1 (fun _=>rfl) _) (bD _ (fun _=>rfl) _) (by rw[iq (by omega)];(try dsimp only);(try omega))) ?_
  refine Wa 60 rfl (NJ hn) ?_
  refine jQ (H':=[.cells (dB c n 1) 5]) (D7 hn) ?_
  refine zs1 ?_
  refine Ws<|Wl ?_
  show W _ _ _ _ _ _ _
  refine dJ (fun(k:Nat)=>[(7,i64 n),(8,i64 (it n)),(9,.arr 0 0 n n),(10,i64 k)]) (fun(k:Nat)=>[.cells (dB c n k) 5]) (fun(k:Nat)=>[]) (fun(k:Nat)=>1<=k/\k<=n) (fun(k:Nat)=>n-k) (1) (by omega) [] ?_ ?_
  ·exact(dK (sub:=by repeat (first|exact gc|refine eU (by exact cP rfl) ?_)))
  intro k hk
  refine zd ?_
  refine Wi rfl ?_ ?_<;>intro hi7
  ·have hlt:k<n:=by have:=oT hi7;omega
   have hm1:min k (it n)<=n:=by omega
   refine Wj<|Wl<|zp3 ?_
   refine zA 66 rfl (MY) ?_
   refine zW [0,0,0,0,0,0,0,3,0,0] [0,1,2,3,4,5,6,7,8,9] ?_
   refine z4 ?_ (q:=(by(simp;omega)))
   refine zO 70 rfl (JC hlt) ?_
   refine z4 ?_ (q:=(by(simp;omega)))
   refine Xa 73 rfl (Iq) ?_
   refine lD rfl rfl rfl rfl (r9 (lO tG rfl) rfl (lO tG rfl) rfl rfl rfl rfl (BE (by dsimp only;omega)) (by rw[iq hk.2];dsimp only;omega) (by rw[iq hk.2];dsimp only;omega)) ?_
   refine NQ (H':=[.cells (dB c n (k+min (min k (it n)) (n-k))) 5]) (Gy (by omega) (by omega)) ?_
   refine z3 ?_
   refine zO 75 rfl (L7 (by omega)) ?_
   exact⟨k+min (min k (it n)) (n-k),[],(by omega),(by omega),dK⟩
  have hge:n<=k:=by have:=oF hi7;omega
  refine aW ?_
  refine zp1 ?_
  refine Wm 76 rfl (pc (Nat.le_refl _)) ?_
  refine p8 76 0 _ n rfl rfl (by rw[iq hk.2];exact Nat.le_refl _) ?_
  refine zA 76 rfl (NK hge hk.2) ?_
  rfl
 have hq:it n=n:=by unfold it;rw[if_neg (by have:=oF hi5;omega)]
 refine Wj<|zp1 ?_
 have hmk:n<=281474976710656:=by omega
 refine Wd (x:=.arw 0 0 n) (H':=[.cells (List.replicate n .any) 5]) rfl rfl (NT (H:=[]) (m:=n) rfl rfl hmk) ?_
 refine zd ?_
 refine Wd rfl rfl (ni (lO tG rfl) rfl (lO tG rfl) rfl rfl ⟨_,_,rfl,by omega,by simp⟩ ⟨_,_,rfl,by omega,by simp⟩) ?_
 refine jQ (H':=[.cells (dB c n 0) 5]) (by rw[<-wF]) ?_
 refine zd ?_
 refine Wd rfl rfl (nL (lO tG rfl) rfl (lO tG rfl) rfl rfl rfl rfl (an _ 1 (fun _=>rfl) _) (bD _ (fun _=>rfl) _) (by rw[iq (by omega)];(try dsimp only);(try omega))) ?_
 refine Wa 60 rfl (NJ hn) ?_
 refine jQ (H':=[.cells (dB c n 1) 5]) (D7 hn) ?_
 refine zs1 ?_
 refine Ws<|Wl ?_
 show W _ _ _ _ _ _ _
 refine dJ (fun(k:Nat)=>[(7,i64 n),(8,i64 (it n)),(9,.arr 0 0 n n),(10,i64 k)]) (fun(k:Nat)=>[.cells (dB c n k) 5]) (fun(k:Nat)=>[]) (fun(k:Nat)=>1<=k/\k<=n) (fun(k:Nat)=>n-k) (1) (by omega) [] ?_ ?_
 ·exact(dK (sub:=by repeat (first|exact gc|refine eU (by first|exact cP rfl|exact cP (congrArg i64 (by rw[hq]))) ?_)))
 intro k hk
 refine zd ?_
 refine Wi rfl ?_ ?_<;>intro hi7
 ·have hlt:k<n:=by have:=oT hi7;omega
  have hm1:min k (it n)<=n:=by omega
  refine Wj<|Wl<|zp3 ?_
  refine zA 66 rfl (MY) ?_
  refine zW [0,0,0,0,0,0,0,3,0,0] [0,1,2,3,4,5,6,7,8,9] ?_
  refine z4 ?_ (q:=(by(simp;omega)))
  refine zO 70 rfl (JC hlt) ?_
  refine z4 ?_ (q:=(by(simp;omega)))
  refine Xa 73 rfl (Iq) ?_
  refine lD rfl rfl rfl rfl (r9 (lO tG rfl) rfl (lO tG rfl) rfl rfl rfl rfl (BE (by dsimp only;omega)) (by rw[iq hk.2];dsimp only;omega) (by rw[iq hk.2];dsimp only;omega)) ?_
  refine NQ (H':=[.cells (dB c n (k+min (min k (it n)) (n-k))) 5]) (Gy (by omega) (by omega)) ?_
  refine z3 ?_
  refine zO 75 rfl (L7 (by omega)) ?_
  exact⟨k+min (min k (it n)) (n-k),[],(by omega),(by omega),dK⟩
 have hge:n<=k:=by have:=oF hi7;omega
 refine aW ?_
 refine zp1 ?_
 refine Wm 76 rfl (pc (Nat.le_refl _)) ?_
 refine p8 76 0 _ n rfl rfl (by rw[iq hk.2];exact Nat.le_refl _) ?_
 refine zA 76 rfl (NK hge hk.2) ?_
 rfl
def TL(m:bh)(at_ n c:Int)(hm:cX m)(ha:ae at_)(hn:ae n):ab prog 305 [jj m,i64 at_,i64 n,i64 c] (vl (nv m at_ n c)):=by
 have hm1:=hm.b
 have hm2:=hm.old
 refine zH func305 fun B=>?_
 refine zC rfl func102 ((pH m at_ n (by omega) ha hn) _) ?_
 refine Wi rfl ?_ ?_<;>intro hi1
 ·have ht:¬bq m at_ n=true:=by simpa using hi1
  refine zd ?_
  rw[nv,if_neg ht];rfl
 have ht:bq m at_ n=true:=by simpa using hi1
 have hN:0<=n/\n<=1000000:=by unfold bq at ht;simp only[decide_eq_true_eq]at ht;omega
 refine zd ?_
 refine lg [1,0,0,0,0,0,0,0,0,0,3,0] [0,1,2,3,4,5,6,7,8,9,10,11] mG rfl (by kernel_rfl) ?_
 refine z5 ?_
 iterate 3 refine z3 ?_
 refine Xa 19 rfl (AC c) ?_
 refine z3 ?_
 refine Xa 20 rfl (bsL aH [_] rfl rfl) ?_
 refine z3 ?_
 refine Xa 21 rfl ((show PV.val (.int .i64 n)=i64 ((n.toNat:Nat):Int) by rw[Int.toNat_of_nonneg hN.1];rfl)) ?_
 refine Xc rfl rfl rfl rfl (fun _=>dC rfl func369 rfl rfl ((B8 (loB c) n.toNat (by omega)) _)) ?_
 refine Xc rfl rfl rfl rfl (fun _=>dC rfl func123 rfl rfl ((nW m at_ _ hm ha (by simp;omega)) _)) ?_
 refine zd ?_
 refine cr tG rfl rfl rfl rfl rfl trivial ?_
 refine zd ?_
 rw[nv,if_pos ht];rfl
def mH(m:bh)(low here n:Int):Int×Int:=if n>m.b.length-here\/n<low-here then(here,-8)else(here+n,0)
def cZ(m:bh)(here:Int)(b:List UInt8):bh×Int×Int:=if (b.length:Int)>m.b.length-here then(m,here,-8)else((cg m here b).1,here+b.length,0)
def ct(m:bh)(here n:Int):bh×Int×Int:=if here.tmod 8=0 then cZ m here (qW n)else(m,here,-23)
def aO(m:bh)(here:Int):bh×Int×Int:=cZ m here (List.replicate ((8-here.tmod 8).tmod 8).toNat 0)
def Co(r:bh×Int×Int):PV:=kr (jj r.1) (i64 r.2.1) (i64 r.2.2)
@[simp] theorem ay0 (r : bh × Int × Int) : aR (Co r) := by simp [Co]
structure iu (m:bh) (here:Int):Prop where
 h0:0<=here
 h1:here<=m.b.length
def iu.fit{m:bh}{here:Int}(h:iu m here)(hm:cX m):ae here:=by have:=h.h0;have:=h.h1;have:=hm.b;unfold ae;omega
def CM(m:bh)(here:Int)(hm:cX m)(hh:iu m here):ab prog 209 [.agg [sq aH m.b,sq jX m.old,i64 here]] (i64 (m.b.length-here)):=by
 have h0:=hh.h0
 have h1:=hh.h1
 have h2:=hm.b
 refine zH func209 fun B=>?_
 exact congrArg i64 (by((rw[bU];unfold wrap64;(try simp only[dnL]at *);omega)))
def Pl(m:bh)(low here n:Int)(hm:cX m)(hh:iu m here)(hl:ae low/\0<=low)(hn:ae n):ab prog 318 [jj m,i64 low,i64 here,i64 n] (qR (mH m low here n)):=by
 have h0:=hh.h0
 have h1:=hh.h1
 have h2:=hm.b
 unfold ae at hl hn
 have w1:IntKind.i64.wrap (low-here)=low-here:=by((rw[bU];unfold wrap64;(try simp only[dnL]at *);omega))
 refine zH func318 fun B=>?_
 refine Wc rfl rfl (ey rfl rfl func209 rfl rfl (CM m here hm hh _)) ?_
 refine zy2 ?_
 refine zB 19 (fun hg1=>?_) (fun hg1=>?_)
 ·refine Wt rfl rfl ?_
  refine zd ?_
  (rw[mH,if_pos (by(try simp only[dnL]at *);omega)];rfl)
 refine zI ?_ ?_<;>intro hi1
 ·(rw[mH,if_pos (by(try simp only[dnL]at *);omega)];rfl)
 (rw[mH,if_neg (by(try simp only[dnL]at *);omega)];exact congrArg (fun z=>iy (i64 z) (i64 0)) (by((rw[bU];unfold wrap64;(try simp only[dnL]at *);omega))))
def yN(m:bh)(here:Int)(b:List UInt8)(hm:cX m)(hh:iu m here)(hb:b.length<=1000000):ab prog 174 [jj m,i64 here,sq aH b] (Co (cZ m here b)):=by
 have h0:=hh.h0
 have h1:=hh.h1
 have h2:=hm.b
 refine zH func174 fun B=>?_
 refine zG rfl rfl (ey rfl rfl func209 rfl rfl (CM m here hm hh _)) ?_
 refine zI ?_ ?_<;>intro hi1
 ·rw[cZ,if_pos (by(try simp only[dnL]at *);omega)];rfl
 refine zC rfl func123 ((nW m here b hm (hh.fit hm) hb) _) ?_
 rw[cZ,if_neg (by(try simp only[dnL]at *);omega)];exact congrArg (fun z=>kr (jj (cg m here b).1) (i64 z) (i64 0)) (by((rw[bU];unfold wrap64;(try simp only[dnL]at *);omega)))
def C6(m:bh)(here n:Int)(hm:cX m)(hh:iu m here):ab prog 127 [jj m,i64 here,i64 n] (Co (ct m here n)):=by
 have h0:=hh.h0
 have h1:=hh.h1
 have h2:=hm.b
 refine zH func127 fun B=>?_
 refine zI ?_ ?_<;>intro hi1
 ·rw[ct,if_neg (by(try simp only[dnL]at *);omega)];rfl
 refine zW [1,0,0,0,0,0,0,0,3,0,0] [0,1,2,3,4,5,6,7,8,9,10] ?_
 refine Xc rfl rfl rfl rfl (fun _=>dC rfl func124 rfl rfl ((DY n) _)) ?_
 refine Xc rfl rfl rfl rfl (fun _=>dC rfl func174 rfl rfl ((yN m here (qW n) hm hh (by rw[k9];omega)) _)) ?_
 refine zd ?_
 refine cr tG rfl rfl rfl rfl rfl trivial ?_
 refine zd ?_
 rw[ct,if_pos (by(try simp only[dnL]at *);omega)];rfl
def aJ2{x:Int}(h:0<=x):0<=(8-x.tmod 8).tmod 8/\(8-x.tmod 8).tmod 8<8:=by
 rw[Int.tmod_eq_emod_of_nonneg h,Int.tmod_eq_emod_of_nonneg (by omega)];omega
def QD{c:UInt8}{n:Nat}{d:TD}(hz:d.zero=aH 0):fP n d=(List.replicate n (0:UInt8)).flatMap aH:=by
 unfold fP;rw[hz,List.flatMap_replicate]
def Qy{n:Int}{d:TD}(hz:d.zero=aH 0):PV.seq n.toNat (fP n.toNat d) .clip=sqc aH (List.replicate n.toNat (0:UInt8)):=by
 rw[QD (c:=0) hz];unfold sqc;rw[List.length_replicate]
def si(m:bh)(here:Int)(hm:cX m)(hh:iu m here):ab prog 220 [jj m,i64 here] (Co (aO m here)):=by
 have h0:=hh.h0
 have h1:=hh.h1
 have h2:=hm.b
 obtain⟨u0,u1⟩:=aJ2 h0
 have w1:IntKind.i64.wrap (8-here.tmod 8)=8-here.tmod 8:=by
  rw[bU];unfold wrap64;rw[Int.tmod_eq_emod_of_nonneg h0];omega
 refine zH func220 fun B=>?_
 refine lg [1,0,0,0,0,0,0,0,0,0,0,3,0,0] [0,1,2,3,4,5,6,7,8,9,10,11,12,13] mG rfl (by kernel_rfl) ?_
 refine z5 ?_
 iterate 5 refine z3 ?_
 refine Xa 12 rfl ((show PV.val (.int .i64 _)=.val (.int .i64 ((8-here.tmod 8).tmod 8)) by rw[w1])) ?_
 refine ew rfl rfl rfl rfl (fun _=>E8 (lO tG rfl) rfl (lO tG rfl) rfl rfl rfl u0 (by dsimp only;omega) (by omega)) ?_
 refine Xa 13 rfl (Qy rfl) ?_
 refine Xc rfl rfl rfl rfl (fun _=>dC rfl func174 rfl rfl ((yN m here (List.replicate ((8-here.tmod 8).tmod 8).toNat 0) hm hh (by simp;omega)) _)) ?_
 refine zd ?_
 refine cr tG rfl rfl rfl rfl rfl trivial ?_
 refine zd ?_
 rfl
def mj(s:List Int)(takes:Nat)(leaves:List Int)(limit:Int):List Int×Bool×Int :=
 if ((s.length-takes+leaves.length:Nat):Int)>limit then(s,true,-3)else(s.take (s.length-takes)++leaves,true,0)
def B9(r:List Int×Bool×Int):PV:=kr (sq ao r.1) (boo r.2.1) (i64 r.2.2)
@[simp] theorem aA3 (r : List Int × Bool × Int) : aR (B9 r) := by simp [B9]
def qb(s:List Int)(takes:Nat)(leaves:List Int)(limit:Int)(hs:s.length<=100000)(ht:takes<=s.length)(hl:leaves.length<=100000)(hm : -9223372036854775808<=limit/\limit<=9223372036854775807):
  ab prog 237 [sq ao s,i64 takes,sq ao leaves,i64 limit] (B9 (mj s takes leaves limit)):=by
 have w1:IntKind.i64.wrap ((s.length:Int)-(takes:Int))=((s.length-takes:Nat):Int):=by((rw[bU];unfold wrap64;(try simp only[dnL]at *);omega))
 have w2:IntKind.i64.wrap (((s.take (s.length-takes)).length:Int)+(leaves.length:Int))=((s.length-takes+leaves.length:Nat):Int):=by
  rw[List.length_take,Nat.min_eq_left (by omega)];((rw[bU];unfold wrap64;(try simp only[dnL]at *);omega))
 refine zY func237 fun B=>?_
 refine zu3 ?_
 refine zp5 ?_
 refine Wa 16 rfl (j_ w1) ?_
 refine z2 ?_ (q:=(by(simp_all;done)))
 refine Wa 17 rfl (cK ao 1 (fun _=>rfl) (by omega)) ?_
 refine Wa 17 rfl ((show _=sq ao (s.take (s.length-takes)) by rw[Int.toNat_natCast,List.drop_zero];rfl)) ?_
 refine zs1 ?_
 refine Ws<|zp5 ?_
 refine zA 22 rfl (j_ w2) ?_
 refine Wi rfl ?_ ?_<;>intro hi1
 ·refine zd ?_
  rw[mj,if_pos (by(try simp only[dnL]at *);omega)];rfl
 refine Wj<|zp3 ?_
 refine Wa 28 rfl (bsL Cs [_,_] rfl rfl) ?_
 refine zC rfl func202 ((MW _ _ (by simp;omega) (by omega)) _) ?_
 rw[mj,if_neg (by(try simp only[dnL]at *);omega)];rfl
def bg(s:List Int):Int×List Int×Int:=if s.length=0 then(0,s,-4)else(s.getD (s.length-1) 0,s.take (s.length-1),0)
def ar3(r:Int×List Int×Int):PV:=kr (i64 r.1) (sq ao r.2.1) (i64 r.2.2)
@[simp] theorem az6 (r : Int × List Int × Int) : aR (ar3 r) := by simp [ar3]
def Ef(s:List Int)(hs:s.length<=100000):ab prog 259 [sq ao s] (ar3 (bg s)):=by
 refine zH func259 fun B=>?_
 refine Wi rfl ?_ ?_<;>intro hi1
 ·have h0:s.length=0:=by(try simp only[dnL]at *);omega
  refine zd ?_
  rw[bg,if_pos h0];rfl
 have h0:s.length≠0:=by(try simp only[dnL]at *);omega
 have w1:IntKind.i64.wrap ((s.length:Int)-1)=((s.length-1:Nat):Int):=by((rw[bU];unfold wrap64;(try simp only[dnL]at *);omega))
 refine zd ?_
 refine lg [0,0,0,0,0,1,0,0,0,0,0,0,0,0] [0,1,2,3,4,5,6,7,8,9,10,11,12,13] mG rfl (by kernel_rfl) ?_
 iterate 4 refine z3 ?_
 refine Xa 12 rfl (j_ w1) ?_
 refine Xi tG rfl rfl rfl rfl (fun _=>rfl) (by omega) (iN ao 1 (fun _=>rfl) 0 (by omega)) ?_
 refine z5 ?_
 iterate 4 refine z3 ?_
 refine Xa 18 rfl (j_ w1) ?_
 refine z4 ?_ (q:=(by(simp_all;done)))
 refine Xa 19 rfl (cK ao 1 (fun _=>rfl) (by omega)) ?_
 refine zO 19 rfl ((show _=sq ao (s.take (s.length-1)) by rw[Int.toNat_natCast,List.drop_zero];rfl)) ?_
 rw[bg,if_neg h0];rfl
abbrev W64(n:Int):Int:=IntKind.i64.wrap n
def xat(x:List Int)(i:Nat):Int:=x.getD i 0
def bB(x:List Int):List Int×Int:=([(nC (xat x 0) (xat x 1)).2.1,(nC (xat x 0) (xat x 1)).1],(nC (xat x 0) (xat x 1)).2.2)
def zm(x:List Int):Int×Int×Int:=jL (xq (xat x 0) (xat x 1)).1 (xq (xat x 0) (xat x 1)).2 (xat x 2)
def bi(x:List Int):List Int×Int:=([(zm x).2.1,(zm x).1],(zm x).2.2)
def dj(x:List Int):List Int×Int:=([(zm x).1],(zm x).2.2)
def pUM(x:List Int):List Int×Int:=([(sH (xat x 0) (xat x 1)).1,(sH (xat x 0) (xat x 1)).2],0)
def pM(x:List Int):List Int×Int:=([(xq (xat x 0) (xat x 1)).1,(xq (xat x 0) (xat x 1)).2],0)
def dh(x:List Int):List Int×Int:=([(iH (xat x 0) (xat x 1) (xat x 2)).2.1,(iH (xat x 0) (xat x 1) (xat x 2)).1],(iH (xat x 0) (xat x 1) (xat x 2)).2.2)
def dk(x:List Int):List Int×Int:=([(lL (xat x 0) (xat x 1) (xat x 2)).2.1,(lL (xat x 0) (xat x 1) (xat x 2)).1],(lL (xat x 0) (xat x 1) (xat x 2)).2.2)
def di(x:List Int):List Int×Int:=([(jL (xat x 0) (xat x 1) (xat x 2)).2.1,(jL (xat x 0) (xat x 1) (xat x 2)).1],(jL (xat x 0) (xat x 1) (xat x 2)).2.2)
def pSD(x:List Int):List Int×Int:=([xat x 0,fG (decide (xat x 0<0))],0)
def bA(x:List Int):List Int×Int:=([fG (decide (U (wrap64 (xat x 0-xat x 1))<U (wrap64 (xat x 2-xat x 1))))],0)
def qT(name:Str)(x:List Int):Option (List Int×Int) :=
 if name=[47,77,79,68]then some (bB x)else
 if name=[42,47]then some (dj x)else
 if name=[42,47,77,79,68]then some (bi x)else
 if name=[85,77,42]then some (pUM x)else
 if name=[77,42]then some (pM x)else
 if name=[85,77,47,77,79,68]then some (dh x)else
 if name=[83,77,47,82,69,77]then some (dk x)else
 if name=[70,77,47,77,79,68]then some (di x)else
 if name=[83,62,68]then some (pSD x)else
 if name=[87,73,84,72,73,78]then some (bA x)else
 if name=[84,82,85,69]then some ([-1],0)else
 if name=[66,65,83,69]then some ([0],0)else
 if name=[70,65,76,83,69]then some ([0],0)else
 if name=[83,84,65,84,69]then some ([8],0)else
 if name=[66,76]then some ([32],0)else none
def aU(v:VVm)(m:bh):VVm:={v with mem:=m}
def b9(v:VVm)(x:List Int):VVm×List Int×Int:=(v,[(am v.mem (xat x 0)).1],(am v.mem (xat x 0)).2)
def bI(v:VVm)(x:List Int):VVm×List Int×Int:=(v,[(d9 v.mem (xat x 0)).1],(d9 v.mem (xat x 0)).2)
def du(v:VVm)(r:bh×Int):VVm×List Int×Int:=(aU v r.1,[],r.2)
def rZ(v:VVm)(x:List Int):bh×Int:=if (am v.mem (xat x 1)).2=0 then aJ v.mem (xat x 1) (W64 ((am v.mem (xat x 1)).1+xat x 0))else(v.mem,(am v.mem (xat x 1)).2)
def lx(v:VVm)(x:List Int):VVm×List Int×Int :=
 if (am v.mem (xat x 0)).2=0 then(v,[(am v.mem (W64 (xat x 0+8))).1,(am v.mem (xat x 0)).1],(am v.mem (W64 (xat x 0+8))).2)else(v,[],(am v.mem (xat x 0)).2)
def oS(v:VVm)(x:List Int):bh×Int:=if (aJ v.mem (xat x 2) (xat x 1)).2=0 then aJ (aJ v.mem (xat x 2) (xat x 1)).1 (W64 (xat x 2+8)) (xat x 0)else aJ v.mem (xat x 2) (xat x 1)
def b7(v:VVm)(x:List Int):VVm×List Int×Int:=(v,[W64 (xat x 0+1),(d9 v.mem (xat x 0)).1],(d9 v.mem (xat x 0)).2)
def kz(v:VVm)(s b:Int):Int:=if (am v.mem (W64 (b+8))).2=0 then(if s<0\/(am v.mem (W64 (b+8))).1<=s then -24 else 0)else(am v.mem (W64 (b+8))).2
def gX(v:VVm)(x:List Int):VVm×List Int×Int:=if kz v (xat x 0) (xat x 1)=0 then du v (aJ v.mem (xat x 1) (xat x 0))else(v,[],kz v (xat x 0) (xat x 1))
def jm(v:VVm)(x:List Int):VVm×List Int×Int:=if kz v (xat x 1) (xat x 2)=0 then du v (aJ v.mem (W64 (W64 (xat x 2+16)+W64 (8*xat x 1))) (xat x 0))else(v,[],kz v (xat x 1) (xat x 2))
def qw(v:VVm)(name:Str)(x:List Int):Option (VVm×List Int×Int) :=
 if name=[64]\/name=[71,69,84,45,83,84,65,84,69]then some (b9 v x)else
 if name=[67,64]then some (bI v x)else
 if name=[33]then some (du v (aJ v.mem (xat x 1) (xat x 0)))else
 if name=[67,33]then some (du v (ny v.mem (xat x 1) (xat x 0)))else
 if name=[43,33]then some (du v (rZ v x))else
 if name=[50,64]then some (lx v x)else
 if name=[50,33]then some (du v (oS v x))else
 if name=[70,73,76,76]then some (du v (nv v.mem (xat x 0) (xat x 1) (xat x 2)))else
 if name=[77,79,86,69]then some (du v (nu v.mem (xat x 0) (xat x 1) (xat x 2)))else
 if name=[67,79,85,78,84]then some (b7 v x)else
 if name=[68,69,67,73,77,65,76]then some (du v (aJ v.mem 0 10))else
 if name=[72,69,88]then some (du v (aJ v.mem 0 16))else
 if name=[83,69,84,45,83,84,65,84,69]then some (gX v x)else
 if name=[65,84,45,83,84,65,84,69]then some (jm v x)else none
def fc(v:VVm)(r:bh×Int×Int):VVm×List Int×Int:=({v with mem:=r.1,here:=r.2.1},[],r.2.2)
def uf(v:VVm)(x:List Int):bh×Int×Int:=(v.mem,(mH v.mem 1368 v.here (xat x 0)).1,(mH v.mem 1368 v.here (xat x 0)).2)
def uz(v:VVm)(name:Str)(x:List Int):Option (VVm×List Int×Int) :=
 if name=[65,76,76,79,84]then some (fc v (uf v x))else
 if name=[44]then some (fc v (ct v.mem v.here (xat x 0)))else
 if name=[67,44]then some (fc v (cZ v.mem v.here [loB (xat x 0)]))else
 if name=[65,76,73,71,78]then some (fc v (aO v.mem v.here))else none
def jO(v:VVm):Int:=(am v.mem 0).1
def vK(v:VVm)(x:List Int):Str:=List.replicate (min (max (xat x 0) 0) (v.conf.out+1)).toNat 32
def pu(r:Str×Int):Str×Int:=(r.1++[32],r.2)
def GR(v:VVm)(name:Str)(x:List Int):Option (Str×Int) :=
 if name=[69,77,73,84]then some ([loB (xat x 0)],0)else
 if name=[67,82]then some ([10],0)else
 if name=[83,80,65,67,69]then some ([32],0)else
 if name=[83,80,65,67,69,83]then some (vK v x,0)else
 if name=[84,89,80,69]then some (dP v.mem (xat x 0) (xat x 1))else
 if name=[46]then some (pu (ir (xat x 0) (jO v)))else
 if name=[85,46]then some (pu (gV (xat x 0) (jO v)))else none
def cG(v:VVm)(r:Str×Int):VVm×List Int×Int:=if r.2=0 then((gF v r.1).1,[],(gF v r.1).2)else(v,[],r.2)
def tY(v:VVm)(p:dV):VVm:={v with pic:=p}
def rr:Nat->dV->Int->Int->Int->dV×Int
 | 0,q,lo,hi,base=>(q,(aL q lo hi base).2.2.2)
 | n+1,q,lo,hi,base=>if (aL q lo hi base).2.2.2≠0 then(q,(aL q lo hi base).2.2.2)else if (aL q lo hi base).2.1=0/\(aL q lo hi base).2.2.1=0 then((aL q lo hi base).1,0)else rr n (aL q lo hi base).1 (aL q lo hi base).2.1 (aL q lo hi base).2.2.1 base
def rI(q:dV)(lo hi base:Int):dV×Int:=rr (131-q.b.length) q lo hi base
def Qo(p:dV)(r:dV×Int):dV×Int:=if r.2=0 then(r.1,0)else(p,r.2)
def um(p:dV)(lo hi base:Int):dV×Int:=Qo p (rI p lo hi base)
def gn(v:VVm)(x:List Int):VVm×List Int×Int:=(tY v (aL v.pic (xat x 0) (xat x 1) (jO v)).1,[(aL v.pic (xat x 0) (xat x 1) (jO v)).2.1,(aL v.pic (xat x 0) (xat x 1) (jO v)).2.2.1],(aL v.pic (xat x 0) (xat x 1) (jO v)).2.2.2)
def ga(v:VVm)(x:List Int):VVm×List Int×Int:=(tY v (um v.pic (xat x 0) (xat x 1) (jO v)).1,[0,0],(um v.pic (xat x 0) (xat x 1) (jO v)).2)
def fZ(v:VVm)(r:dV×Int):VVm×List Int×Int:=(tY v r.1,[],r.2)
def xL(v:VVm):VVm×List Int×Int :=
 if (lU v.pic).2=0 then(tY (aU v (cg v.mem (W64 (v.conf.mem-136)) (lU v.pic).1).1) ⟨[],false⟩,[W64 (v.conf.mem-136),((lU v.pic).1.length:Int)],(cg v.mem (W64 (v.conf.mem-136)) (lU v.pic).1).2)else(v,[],(lU v.pic).2)
def Bf(v:VVm)(name:Str)(x:List Int):Option (VVm×List Int×Int) :=
 if name=[60,35]then some (tY v ⟨[],true⟩,[],0)else
 if name=[35]then some (gn v x)else
 if name=[35,83]then some (ga v x)else
 if name=[72,79,76,68]then some (fZ v (gR v.pic (xat x 0)))else
 if name=[83,73,71,78]then some (fZ v (oZ v.pic (xat x 0)))else
 if name=[35,62]then some (xL v)else none
def CD(v:VVm)(q:rQ):VVm:={v with req:=v.req++[q]}
def ji(v:VVm)(x:List Int):Prop:=xat x 1<0\/(v.hand.length:Int)<=xat x 1\/xat x 2<0\/3<xat x 2
instance (v:VVm) (x:List Int):Decidable (ji v x):=by unfold ji;infer_instance
def jG(v:VVm)(x:List Int):VVm×List Int×Int:=if 16<=(v.req.length:Int)then(v,[],-257)else(CD v ⟨4,0,0,0,0,xat x 0⟩,[],0)
def ka(v:VVm)(x:List Int):VVm×List Int×Int:=if ji v x then(v,[],-259)else if 16<=(v.req.length:Int)then(v,[],-257)else(CD v ⟨1,xat x 0,xat x 1,xat x 2,0,0⟩,[],0)
def dy(kind:Int)(v:VVm)(x:List Int):VVm×List Int×Int :=
 if ji v x then(v,[],-259)else if xat x 3<1\/4294967295<xat x 3 then(v,[],-24)else if 16<=(v.req.length:Int)then(v,[],-257)else if v.free=0\/v.next=4611686018427387904 then(v,[],-258)else
  ({CD v ⟨kind,xat x 0,xat x 1,xat x 2,xat x 3,v.next⟩with free:=W64 (v.free-1),next:=W64 (v.next+1)},[v.next],0)
def A8(v:VVm)(name:Str)(x:List Int):Option (VVm×List Int×Int) :=
 if name=[80,79,83,84]then some (ka v x)else
 if name=[67,65,78,67,69,76]then some (jG v x)else
 if name=[65,70,84,69,82]then some (dy 2 v x)else
 if name=[69,86,69,82,89]then some (dy 3 v x)else none
def vI(v:VVm)(x:List Int):VVm×List Int×Int:=if (az v (xat x 0)).2=0/\((az v (xat x 0)).1<257\/260<(az v (xat x 0)).1)then(v,[],-31)else(v,[W64 (xat x 0+16)],(az v (xat x 0)).2)
def Iv(v:VVm)(name:Str)(x:List Int):VVm×List Int×Int :=
 if name=[72,69,82,69]then(v,[v.here],0)else
 if name=[65,82,71]then(v,[v.arg],0)else
 if name=[83,69,76,70]then(v,[v.self],0)else
 if name=[78,79,87]then(v,[v.now],0)else
 if name=[62,66,79,68,89]then vI v x else(v,[],-1)
def bF(v:VVm)(n:Int)(name:Str)(x:List Int):VVm×List Int×Int :=
 if n<=58 then(v,[(lH name (xat x 0) (xat x 1)).1],(lH name (xat x 0) (xat x 1)).2.2)else
 if n<=72 then(v,[(uH name (xat x 0)).1],0)else
 match qT name x with
 | some r=>(v,r.1,r.2)
 | none=>match qw v name x with
  | some r=>r
  | none=>match uz v name x with
   | some r=>r
   | none=>match GR v name x with
    | some r=>cG v r
    | none=>match Bf v name x with
     | some r=>r
     | none=>match A8 v name x with
      | some r=>r
      | none=>Iv v name x
def aX(n:Int)(name:Str):Nat :=
 if n<=58 then 2 else if n<=72 then 1 else
 if name=[65,70,84,69,82]\/name=[69,86,69,82,89]then 4 else
 if name=[42,47]\/name=[42,47,77,79,68]\/name=[85,77,47,77,79,68]\/name=[83,77,47,82,69,77]\/name=[70,77,47,77,79,68]\/name=[87,73,84,72,73,78]\/name=[50,33]\/name=[70,73,76,76]\/name=[77,79,86,69]\/name=[80,79,83,84]\/name=[65,84,45,83,84,65,84,69]then 3 else
 if name=[47,77,79,68]\/name=[85,77,42]\/name=[77,42]\/name=[33]\/name=[67,33]\/name=[43,33]\/name=[84,89,80,69]\/name=[35]\/name=[35,83]\/name=[35,62]\/name=[83,69,84,45,83,84,65,84,69]then 2 else
 if name=[83,62,68]\/name=[64]\/name=[67,64]\/name=[50,64]\/name=[67,79,85,78,84]\/name=[65,76,76,79,84]\/name=[44]\/name=[67,44]\/name=[69,77,73,84]\/name=[83,80,65,67,69,83]\/name=[46]\/name=[85,46]\/name=[72,79,76,68]\/name=[83,73,71,78]\/name=[62,66,79,68,89]\/name=[67,65,78,67,69,76]\/name=[71,69,84,45,83,84,65,84,69]then 1 else 0
def oM(name:Str)(s:List Int):Int :=
 if name=[68,69,80,84,72]then 0 else
 if name=[68,85,80]\/name=[68,82,79,80]\/name=[63,68,85,80]then 1 else
 if name=[83,87,65,80]\/name=[79,86,69,82]\/name=[78,73,80]\/name=[84,85,67,75]\/name=[50,68,85,80]\/name=[50,68,82,79,80]then 2 else
 if name=[82,79,84]\/name=[45,82,79,84]then 3 else
 if name=[50,83,87,65,80]\/name=[50,79,86,69,82]then 4 else
 if name=[80,73,67,75]\/name=[82,79,76,76]then(if s.length=0\/s.getD (s.length-1) 0<0\/(s.length:Int)-1<=s.getD (s.length-1) 0 then(s.length:Int)+1 else s.getD (s.length-1) 0+2)else -1
def zS(name:Str)(x:List Int)(depth:Nat):List Int :=
 if name=[68,85,80]then [xat x 0,xat x 0]else
 if name=[83,87,65,80]then [xat x 1,xat x 0]else
 if name=[79,86,69,82]then [xat x 0,xat x 1,xat x 0]else
 if name=[78,73,80]then [xat x 1]else
 if name=[84,85,67,75]then [xat x 1,xat x 0,xat x 1]else
 if name=[82,79,84]then [xat x 1,xat x 2,xat x 0]else
 if name=[45,82,79,84]then [xat x 2,xat x 0,xat x 1]else
 if name=[50,68,85,80]then [xat x 0,xat x 1,xat x 0,xat x 1]else
 if name=[50,83,87,65,80]then [xat x 2,xat x 3,xat x 0,xat x 1]else
 if name=[50,79,86,69,82]then [xat x 0,xat x 1,xat x 2,xat x 3,xat x 0,xat x 1]else
 if name=[63,68,85,80]then(if xat x 0=0 then x else [xat x 0,xat x 0])else
 if name=[68,69,80,84,72]then [(depth:Int)]else
 if name=[80,73,67,75]then x.take (x.length-1)++[xat x 0]else
 if name=[82,79,76,76]then(x.take (x.length-1)).drop 1++[xat x 0]else []
def dz(name:Str)(s:List Int)(limit:Int):List Int×Bool×Int :=
 if oM name s<0 then(s,false,0)else
 if (s.length:Int)<oM name s then(s,true,-4)else
 if limit<((s.length-(oM name s).toNat+(zS name (s.drop (s.length-(oM name s).toNat)) s.length).length:Nat):Int)then(s,true,-3)else
 (s.take (s.length-(oM name s).toNat)++zS name (s.drop (s.length-(oM name s).toNat)) s.length,true,0)
def doS(v:VVm)(n:Int):VVm×Int :=
 if n<23\/129<n then(v,-24)else
 let name:=aq.getD n.toNat []
 if n<=38 then({v with d:=(dz name v.d v.conf.data).1},(dz name v.d v.conf.data).2.2)else
 let k:=aX n name
 if v.d.length<k then(v,-4)else
 let r:=bF v n name (v.d.drop (v.d.length-k))
 if r.2.2≠0 then(v,r.2.2)else
 if v.conf.data<((v.d.length-k+r.2.1.length:Nat):Int)then(v,-3)else({r.1 with d:=v.d.take (v.d.length-k)++r.2.1},0)
def tLv(r:List Int×Int):PV:=iy (sq ao r.1) (i64 r.2)
@[simp] theorem aH8 (r : List Int × Int) : aR (tLv r) := by simp [tLv]
structure bH where
 vm:VVm
 ip:Int
 w:Int
 dof:Bool
 fuel:Int
 deriving DecidableEq,Inhabited
def sW(x:bH):List PV:=cVm x.vm++[i64 x.ip,i64 x.w,boo x.dof,i64 x.fuel]
@[simp] theorem Qk (x : bH) : aF (sW x) := by simp [sW, cVm]
def xh(x:bH):PV:=.agg (sW x)
@[simp] theorem ay4 (x : bH) : aR (xh x) := by unfold xh aR; exact Qk x
structure VWk where
 v:VVm
 ip:Int
 w:Int
 dof:Bool
 over:Bool
 bad:Int
 deriving DecidableEq,Inhabited
def fR(s:List Int)(n limit:Int):List Int×Int:=if limit<=(s.length:Int)then(s,-3)else(s++[n],0)
def dZ(v:VVm)(n:Int):VVm×Int:=({v with d:=(fR v.d n v.conf.data).1},(fR v.d n v.conf.data).2)
def dH(v:VVm):Int×VVm×Int:=((bg v.d).1,{v with d:=(bg v.d).2.1},(bg v.d).2.2)
def fp(v:VVm)(n:Int):VVm×Int:=if v.conf.ret<=(v.r.length:Int)then(v,-5)else({v with r:=v.r++[n]},0)
def fw(v:VVm):Int×VVm×Int:=if v.r.length=0 then(0,v,-6)else(v.r.getD (v.r.length-1) 0,{v with r:=v.r.take (v.r.length-1)},0)
def bV(k:VWk)(e:Int):VWk:=if k.bad=0 then {k with bad:=e} else k
def gP(k:VWk)(n:Int):VWk:={bV k (dZ k.v n).2 with v:=(dZ k.v n).1}
def dU(k:VWk):VWk×Int:=({bV k (dH k.v).2.2 with v:=(dH k.v).2.1},(dH k.v).1)
def cI(k:VWk)(n:Int):VWk:={bV k (fp k.v n).2 with v:=(fp k.v n).1}
def gG(k:VWk):VWk×Int:=({bV k (fw k.v).2.2 with v:=(fw k.v).2.1},(fw k.v).1)
def bm(k:VWk)(at_:Int):VWk×Int:=(bV k (am k.v.mem at_).2,(am k.v.mem at_).1)
def m5(k:VWk)(at_ n:Int):VWk:={bV k (aJ k.v.mem at_ n).2 with v:=aU k.v (aJ k.v.mem at_ n).1}
def i6(k:VWk)(n:Int):VWk×Int:=if (k.v.r.length:Int)<=n then(bV k (-6),0)else(k,k.v.r.getD (k.v.r.length-1-n.toNat) 0)
def dTo(k:VWk):VWk:={(bm k k.ip).1 with ip:=(bm k k.ip).2}
def gE(k:VWk):VWk:={k with ip:=W64 (k.ip+8)}
def NO(k:VWk)(xt:Int):VWk:={k with w:=xt,dof:=true}
def ld(i l n:Int):Int×Bool:=(W64 (i+n),if 0<=n then decide (W64 (i-l)<0)&&decide (0<=W64 (W64 (i-l)+n))else decide (0<=W64 (i-l))&&decide (W64 (W64 (i-l)+n)<0))
def vn(k:VWk)(n:Int):VWk :=
 let a:=i6 k 1
 let b:=i6 a.1 0
 if b.1.bad≠0 then b.1 else
  let c:=(gG b.1).1
  if (ld b.2 a.2 n).2 then gE (gG c).1 else dTo (cI c (ld b.2 a.2 n).1)
def nE(k:VWk):VWk×Int×Int:=let a:=dU k;let b:=dU a.1;(b.1,a.2,b.2)
def vd(k:VWk):VWk:=if k.v.f.length=0 then bV k (-6)else
 gP {k with ip:=(k.v.f.getD (k.v.f.length-1) default).ip,v:={k.v with f:=k.v.f.take (k.v.f.length-1)}} 0
def DI(k:VWk):VWk :=
 if k.v.last=0\/(az k.v k.v.last).2≠0\/((az k.v k.v.last).1≠257/\(az k.v k.v.last).1≠259)then bV k (-31)else
  let b:=m5 (m5 k k.v.last 259) (W64 ((m5 k k.v.last 259).v.last+8)) (m5 k k.v.last 259).ip
  {(gG b).1 with ip:=(gG b).2}
def YR(k:VWk):VWk :=
 let a:=bm k k.ip
 let at_:=W64 (k.ip+8)
 let b:=if bq a.1.v.mem at_ a.2 then a.1 else bV a.1 (-9)
 {gP (gP b at_) a.2 with ip:=(uH [65,76,73,71,78,69,68] (W64 (at_+a.2))).1}
def sM(k:VWk)(name:Str):VWk×Bool :=
 if name=[40,101,120,105,116,41]then({(gG k).1 with ip:=(gG k).2},true)else
 if name=[40,108,105,116,41]then(gE (gP (bm k k.ip).1 (bm k k.ip).2),true)else
 if name=[40,98,114,97,110,99,104,41]then(dTo k,true)else
 if name=[40,48,98,114,97,110,99,104,41]then(if (dU k).2=0 then dTo (dU k).1 else gE (dU k).1,true)else
 if name=[40,100,111,41]then(let t:=nE k;cI (cI t.1 t.2.2) t.2.1,true)else
 if name=[40,63,100,111,41]then(let t:=nE k;if t.2.1=t.2.2 then dTo t.1 else gE (cI (cI t.1 t.2.2) t.2.1),true)else
 if name=[40,108,111,111,112,41]then(vn k 1,true)else
 if name=[40,43,108,111,111,112,41]then(vn (dU k).1 (dU k).2,true)else
 if name=[40,104,97,108,116,41]then({k with over:=true},true)else
 if name=[40,99,97,117,103,104,116,41]then(vd k,true)else
 if name=[40,100,111,101,115,41]then(DI k,true)else
 if name=[40,115,116,114,41]then(YR k,true)else(k,false)
def BW(k:VWk):VWk :=
 let a:=dU k
 let b:=if 64<=(a.1.v.f.length:Int)then bV a.1 (-5)else a.1
 NO {b with ip:=24,v:={b.v with f:=b.v.f++[⟨(b.v.d.length:Int),(b.v.r.length:Int),b.ip⟩]}} a.2
def Ho(k:VWk)(name:Str):VWk :=
 if name=[69,88,69,67,85,84,69]then NO (dU k).1 (dU k).2 else
 if name=[67,65,84,67,72]then BW k else
 if name=[84,72,82,79,87]then bV (dU k).1 (dU k).2 else
 if name=[73]\/name=[82,64]then gP (i6 k 0).1 (i6 k 0).2 else
 if name=[74]then gP (i6 k 2).1 (i6 k 2).2 else
 if name=[85,78,76,79,79,80]then(gG (gG (i6 k 1).1).1).1 else
 if name=[62,82]then cI (dU k).1 (dU k).2 else
 if name=[82,62]then gP (gG k).1 (gG k).2 else
 if name=[50,62,82]then(let t:=nE k;cI (cI t.1 t.2.2) t.2.1)else
 if name=[50,82,62]then(let a:=gG k;let b:=gG a.1;gP (gP b.1 b.2) a.2)else k
def pI(k:VWk)(xt:Int):VWk :=
 let a:=bm k (W64 (xt+16))
 let b:=bm a.1 (W64 (xt+24))
 let c:=if a.2<0\/b.2<=a.2 then bV b.1 (-24)else b.1
 let d:=bm c (W64 (W64 (xt+32)+W64 (8*a.2)))
 if d.2=0 then d.1 else NO d.1 d.2
def rL(k:VWk)(xt:Int):VWk :=
 let q:=az k.v xt
 if q.2≠0 then bV k q.2 else
 if 300<=q.1 then bV k (-14)else
 if q.1=256 then {cI k k.ip with ip:=W64 (xt+8)} else
 if q.1=257 then gP k (W64 (xt+16))else
 if q.1=258 then gP (bm k (W64 (xt+16))).1 (bm k (W64 (xt+16))).2 else
 if q.1=259 then(let a:=bm k (W64 (xt+8));{cI (gP a.1 (W64 (xt+16))) (gP a.1 (W64 (xt+16))).ip with ip:=a.2})else
 if q.1=260 then pI k xt else
 if 23<=q.1 then {bV k (doS k.v q.1).2 with v:=(doS k.v q.1).1} else
 if (sM k (aq.getD q.1.toNat [])).2 then(sM k (aq.getD q.1.toNat [])).1 else Ho (sM k (aq.getD q.1.toNat [])).1 (aq.getD q.1.toNat [])
def lc(s:List Int)(n:Nat):List Int:=s.take n++List.replicate (n-s.length) 0
def bZ(a:bH)(bad:Int):bH×Int :=
 if a.vm.f.length=0 then(a,bad)else
  let f:=a.vm.f.getD (a.vm.f.length-1) default
  ({a with vm:={a.vm with f:=a.vm.f.take (a.vm.f.length-1),d:=lc a.vm.d (min f.d (a.vm.conf.data-1)).toNat++[bad],r:=lc a.vm.r (min f.r a.vm.conf.ret).toNat},ip:=f.ip},0)
def bz(r:bH):bH×Bool×Int :=
 if r.fuel<1 then(r,false,-256)else
  let k0:VWk:=⟨r.vm,r.ip,0,false,false,0⟩
  let q:=if r.dof then(k0,r.w)else(let a:=bm k0 r.ip;(if a.1.bad=0 then gE a.1 else a.1,a.2))
  let ahead:bH:=⟨r.vm,q.1.ip,0,false,W64 (r.fuel-1)⟩
  let k:=if q.1.bad=0 then rL q.1 q.2 else q.1
  if k.bad=0 then(⟨k.v,k.ip,k.w,k.dof,W64 (r.fuel-1)⟩,k.over,0)else((bZ ahead k.bad).1,false,(bZ ahead k.bad).2)
def g7(v:VVm)(xt fuel:Int):bH:=⟨{v with r:=[],f:=[]},16,xt,true,fuel⟩
def zV(v:VVm):VVm:={v with r:=[],f:=[]}
def yh:Nat->bH->VVm×Int×Int
 | 0,r=>(zV r.vm,r.fuel,-256)
 | n+1,r=>if (bz r).2.1=true\/(bz r).2.2≠0 then(zV (bz r).1.vm,(bz r).1.fuel,(bz r).2.2)else yh n (bz r).1
inductive yF where
 | ok
 | bad (e:Int)
 | halt
 deriving DecidableEq,Inhabited
structure PW where
 r:bH
 err:yF
 deriving DecidableEq,Inhabited
def pOk(k:PW)(v:VVm)(e:Int):PW:=match k.err with
 | .ok=>if e=0 then {k with r:={k.r with vm:=v}} else {k with err:=.bad e}
 | _=>k
def iw:yF->Bool
 | .ok=>true
 | _=>false
def dm(k:PW)(n:Int):PW:=pOk k (dZ k.r.vm n).1 (dZ k.r.vm n).2
def ba(k:PW):PW×Int:=(pOk k (dH k.r.vm).2.1 (dH k.r.vm).2.2,if iw (pOk k (dH k.r.vm).2.1 (dH k.r.vm).2.2).err then(dH k.r.vm).1 else 0)
def jn(k:PW)(n:Int):PW:=pOk k (fp k.r.vm n).1 (fp k.r.vm n).2
def gp(k:PW):PW×Int:=(pOk k (fw k.r.vm).2.1 (fw k.r.vm).2.2,if iw (pOk k (fw k.r.vm).2.1 (fw k.r.vm).2.2).err then(fw k.r.vm).1 else 0)
def bv(k:PW)(a:Int):PW×Int:=(pOk k k.r.vm (am k.r.vm.mem a).2,(am k.r.vm.mem a).1)
def m4(k:PW)(a n:Int):PW:=pOk k (aU k.r.vm (aJ k.r.vm.mem a n).1) (aJ k.r.vm.mem a n).2
def vv(k:PW)(xt:Int):PW:={k with r:={k.r with w:=xt,dof:=true}}
def wIp(k:PW)(a:Int):PW:={k with r:={k.r with ip:=a}}
def Zv(k:PW)(e:yF):PW:={k with err:=e}
def cp(k:PW)(n:Nat):PW×Int:=if k.r.vm.r.length<=n then(pOk k k.r.vm (-6),0)else(k,k.r.vm.r.getD (k.r.vm.r.length-1-n) 0)
def lu(k:PW)(b:Bool):PW:=if b then wIp (bv k k.r.ip).1 (bv k k.r.ip).2 else wIp k (W64 (k.r.ip+8))
def pv(k:PW)(n:Int):PW :=
 if iw (cp (cp k 1).1 0).1.err then
  lu (if (ld (cp (cp k 1).1 0).2 (cp k 1).2 n).2 then(gp (gp (cp (cp k 1).1 0).1).1).1 else jn (gp (cp (cp k 1).1 0).1).1 (ld (cp (cp k 1).1 0).2 (cp k 1).2 n).1) (!(ld (cp (cp k 1).1 0).2 (cp k 1).2 n).2)
 else(cp (cp k 1).1 0).1
def mT(k:PW):PW :=
 if k.r.vm.last=0\/(az k.r.vm k.r.vm.last).2≠0\/((az k.r.vm k.r.vm.last).1≠257/\(az k.r.vm k.r.vm.last).1≠259)then pOk k k.r.vm (-31)else
  m4 (m4 k k.r.vm.last 259) (W64 (k.r.vm.last+8)) (m4 k k.r.vm.last 259).r.ip
def sS(k:PW):PW:=wIp (gp k).1 (gp k).2
def wDo(k:PW):PW:=jn (jn (ba (ba k).1).1 (ba (ba k).1).2) (ba k).2
def AI(k:PW):PW :=
 if (ba k).2=(ba (ba k).1).2 then lu (ba (ba k).1).1 true else
  wDo (wIp (dm (dm (ba (ba k).1).1 (ba (ba k).1).2) (ba k).2) (W64 ((dm (dm (ba (ba k).1).1 (ba (ba k).1).2) (ba k).2).r.ip+8)))
def PB(k:PW):PW:=wIp (dm (bv k k.r.ip).1 (bv k k.r.ip).2) (W64 ((dm (bv k k.r.ip).1 (bv k k.r.ip).2).r.ip+8))
def lr(k:PW):PW:=if k.r.vm.f.length=0 then pOk k k.r.vm (-6)else
 dm {k with r:={k.r with ip:=(k.r.vm.f.getD (k.r.vm.f.length-1) default).ip,vm:={k.r.vm with f:=k.r.vm.f.take (k.r.vm.f.length-1)}}} 0
def J4(k:PW):PW :=
 wIp (dm (dm (pOk (bv k k.r.ip).1 (bv k k.r.ip).1.r.vm (dP (bv k k.r.ip).1.r.vm.mem (W64 (k.r.ip+8)) (bv k k.r.ip).2).2) (W64 (k.r.ip+8))) (bv k k.r.ip).2)
  (uH [65,76,73,71,78,69,68] (W64 (W64 (k.r.ip+8)+(bv k k.r.ip).2))).1
def wFr(b:PW):PW:={b with r:={b.r with ip:=24,vm:={b.r.vm with f:=b.r.vm.f++[⟨(b.r.vm.d.length:Int),(b.r.vm.r.length:Int),b.r.ip⟩]}}}
def oL(k:PW):PW:=vv (wFr (if 64<=((ba k).1.r.vm.f.length:Int)then pOk (ba k).1 (ba k).1.r.vm (-5)else(ba k).1)) (ba k).2
def Bk(k:PW):PW:=jn (jn (ba (ba k).1).1 (ba (ba k).1).2) (ba k).2
def sL(k:PW):PW:=dm (dm (gp (gp k).1).1 (gp (gp k).1).2) (gp k).2
def Ib(k:PW)(name:Str):PW :=
 if name=[40,99,97,117,103,104,116,41]then lr k else
 if name=[40,115,116,114,41]then J4 k else
 if name=[69,88,69,67,85,84,69]then vv (ba k).1 (ba k).2 else
 if name=[67,65,84,67,72]then oL k else
 if name=[84,72,82,79,87]then pOk (ba k).1 (ba k).1.r.vm (ba k).2 else
 if name=[73]then dm (cp k 0).1 (cp k 0).2 else
 if name=[74]then dm (cp k 2).1 (cp k 2).2 else
 if name=[85,78,76,79,79,80]then(gp (gp (cp k 1).1).1).1 else
 if name=[62,82]then jn (ba k).1 (ba k).2 else
 if name=[82,62]then dm (gp k).1 (gp k).2 else
 if name=[82,64]then dm (cp k 0).1 (cp k 0).2 else
 if name=[50,62,82]then Bk k else
 if name=[50,82,62]then sL k else k
def mM(k:PW)(name:Str):PW :=
 if name=[40,100,111,101,115,41]then sS (mT k)else
 if name=[40,101,120,105,116,41]then sS k else
 if name=[40,108,105,116,41]then PB k else
 if name=[40,98,114,97,110,99,104,41]then lu k true else
 if name=[40,48,98,114,97,110,99,104,41]then lu (ba k).1 (decide ((ba k).2=0))else
 if name=[40,63,100,111,41]then AI k else
 if name=[40,100,111,41]then wDo k else
 if name=[40,108,111,111,112,41]then pv k 1 else
 if name=[40,43,108,111,111,112,41]then pv (ba k).1 (ba k).2 else
 if name=[40,104,97,108,116,41]then Zv k .halt else Ib k name
def fH(k:PW)(b:Int):PW :=
 let p:=bv k b
 let q:=bv p.1 (W64 (b+8))
 let c:=if iw q.1.err&&(decide (p.2<0)||decide (q.2<=p.2))then pOk q.1 q.1.r.vm (-24)else q.1
 let x:=bv c (W64 (W64 (b+16)+W64 (8*p.2)))
 if x.2=0 then x.1 else vv x.1 x.2
def kD(k0:PW)(xt:Int):PW :=
 let n:=(az k0.r.vm xt).1
 let k:=pOk k0 k0.r.vm (az k0.r.vm xt).2
 if iw k.err then
  if 300<=n then pOk k k.r.vm (-14)else
  if n=256 then wIp (jn k k.r.ip) (W64 (xt+8))else
  if n=257 then dm k (W64 (xt+16))else
  if n=258 then dm (bv k (W64 (xt+16))).1 (bv k (W64 (xt+16))).2 else
  if n=259 then wIp (jn (dm (bv k (W64 (xt+8))).1 (W64 (xt+16))) (dm (bv k (W64 (xt+8))).1 (W64 (xt+16))).r.ip) (bv k (W64 (xt+8))).2 else
  if n=260 then fH k (W64 (xt+16))else
  if 23<=n/\n<=129 then pOk k (doS k.r.vm n).1 (doS k.r.vm n).2 else mM k (aq.getD n.toNat [])
 else k
def gu(r:bH):PW:=⟨{r with w:=0,dof:=false,fuel:=W64 (r.fuel-1)},.ok⟩
def cb(r:bH):PW×Int :=
 if r.dof then(gu r,r.w)else
  (if iw (bv (gu r) r.ip).1.err then wIp (bv (gu r) r.ip).1 (W64 ((bv (gu r) r.ip).1.r.ip+8))else(bv (gu r) r.ip).1,(bv (gu r) r.ip).2)
def iG(r:bH):PW:=if iw (cb r).1.err then kD (cb r).1 (cb r).2 else(cb r).1
def sI(r:bH):bH×Bool×Int :=
 if r.fuel<1 then(r,false,-256)else
  match (iG r).err with
  | .ok=>((iG r).r,false,0)
  | .halt=>((iG r).r,true,0)
  | .bad e=>((bZ (cb r).1.r e).1,false,(bZ (cb r).1.r e).2)
def Rel(p:PW)(d:VWk):Prop:=match p.err with
 | .ok=>d=⟨p.r.vm,p.r.ip,p.r.w,p.r.dof,false,0⟩
 | .bad e=>d.bad=e/\e≠0
 | .halt=>False
def LN(p:PW×Int)(d:VWk×Int):Prop:=Rel p.1 d.1/\(p.1.err=.ok->p.2=d.2)
def Rel.ok{p:PW}{d:VWk}(h:Rel p d)(k:p.err=.ok):d=⟨p.r.vm,p.r.ip,p.r.w,p.r.dof,false,0⟩:=by unfold Rel at h;rw[k]at h;exact h
def Rel.bad{p:PW}{d:VWk}{e:Int}(h:Rel p d)(k:p.err=.bad e):d.bad=e/\e≠0:=by unfold Rel at h;rw[k]at h;exact h
def Rel.cases{p:PW}{d:VWk}(h:Rel p d):(p.err=.ok)\/∃e,p.err=.bad e:=by
 unfold Rel at h
 cases k:p.err with
 | ok=>exact .inl rfl
 | bad e=>exact .inr ⟨e,rfl⟩
 | halt=>rw[k]at h;exact h.elim
def xo{p:PW}{d:VWk}(k:p.err=.ok)(h:d=⟨p.r.vm,p.r.ip,p.r.w,p.r.dof,false,0⟩):Rel p d:=by unfold Rel;rw[k];exact h
def jF{p:PW}{d:VWk}{e:Int}(k:p.err=.bad e)(h:d.bad=e)(h0:e≠0):Rel p d:=by unfold Rel;rw[k];exact⟨h,h0⟩
def jd{k:PW}{c e:Int}{v:VVm}(h:k.err=.bad c):pOk k v e=k:=by unfold pOk;rw[h]
def ij{k:PW}{e:Int}{v:VVm}(h:(pOk k v e).err=.ok):k.err=.ok/\e=0:=by
 unfold pOk at h
 cases k1:k.err with
 | ok =>
  rw[k1]at h;simp only at h
  by_cases he:e=0
  ·exact⟨rfl,he⟩
  rw[if_neg he]at h;cases h
 | bad c=>rw[k1]at h;simp only at h;rw[k1]at h;cases h
 | halt=>rw[k1]at h;simp only at h;rw[k1]at h;cases h
def ii{e:yF}:iw e=true↔e=.ok:=by cases e<;>simp[iw]
def IW{d:VWk}{e:Int}(h:d.bad≠0):bV d e=d:=by unfold bV;rw[if_neg h]
def se{p:PW}{d:VWk}{v v':VVm}{e e':Int}(h:Rel p d)(he:p.err=.ok->e=e'/\(e=0->v=v')):Rel (pOk p v e) {bV d e' with v:=v'}:=by
 rcases h.cases with k|⟨c,k⟩
 ·obtain⟨rfl,hv⟩:=he k
  have hd:=h.ok k
  subst hd
  unfold pOk bV;rw[k];simp only[if_true]
  by_cases he:e=0
  ·rw[if_pos he];exact xo rfl (by rw[hv he,he])
  rw[if_neg he];exact jF rfl rfl he
 have hb:=h.bad k
 rw[jd k]
 exact jF k (by rw[IW (by rw[hb.1];exact hb.2)];exact hb.1) hb.2
def mD{p:PW}{d:VWk}{e:Int}(h:Rel p d):Rel (pOk p p.r.vm e) (bV d e):=by
 have k:=se (v:=p.r.vm) (v':=d.v) (e:=e) (e':=e) h (fun k=>⟨rfl,fun _=>by rw[h.ok k]⟩)
 have e2:({bV d e with v:=d.v}:VWk)=bV d e:=by unfold bV;split<;>rfl
 rw[e2]at k;exact k
def ib{p:PW}{d:VWk}(h:Rel p d){n n':Int}(hn:p.err=.ok->n=n'):Rel (dm p n) (gP d n') :=
 se h (fun k=>by rw[h.ok k,hn k];exact⟨rfl,fun _=>rfl⟩)
def kQ{p:PW}{d:VWk}(h:Rel p d){n n':Int}(hn:p.err=.ok->n=n'):Rel (jn p n) (cI d n') :=
 se h (fun k=>by rw[h.ok k,hn k];exact⟨rfl,fun _=>rfl⟩)
def CL{p:PW}{d:VWk}(h:Rel p d){a a' n n':Int}(hn:p.err=.ok->a=a'/\n=n'):Rel (m4 p a n) (m5 d a' n') :=
 se h (fun k=>by rw[h.ok k,(hn k).1,(hn k).2];exact⟨rfl,fun _=>rfl⟩)
def jx{p:PW}{d:VWk}(h:Rel p d):LN (ba p) (dU d) :=
 ⟨se h (fun k=>by rw[h.ok k];exact⟨rfl,fun _=>rfl⟩),fun k=>by
  have k':(pOk p (dH p.r.vm).2.1 (dH p.r.vm).2.2).err=.ok:=k
  show(if iw _ then _ else _)=_
  rw[if_pos (ii.2 k'),h.ok (ij k).1];rfl⟩
def j4{p:PW}{d:VWk}(h:Rel p d):LN (gp p) (gG d) :=
 ⟨se h (fun k=>by rw[h.ok k];exact⟨rfl,fun _=>rfl⟩),fun k=>by
  have k':(pOk p (fw p.r.vm).2.1 (fw p.r.vm).2.2).err=.ok:=k
  show(if iw _ then _ else _)=_
  rw[if_pos (ii.2 k'),h.ok (ij k).1];rfl⟩
def jz{p:PW}{d:VWk}(h:Rel p d){a a':Int}(ha:p.err=.ok->a=a'):LN (bv p a) (bm d a'):=by
 refine⟨?_,fun k=>by
  show(am _ _).1=(am _ _).1
  rw[h.ok (ij k).1,ha (ij k).1]⟩
 have k:=se (v:=p.r.vm) (v':=d.v) (e:=(am p.r.vm.mem a).2) (e':=(am d.v.mem a').2) h (fun k=>⟨by rw[h.ok k,ha k],fun _=>by rw[h.ok k]⟩)
 have e2:({bV d (am d.v.mem a').2 with v:=d.v}:VWk)=(bm d a').1:=by unfold bm bV;dsimp only;split<;>rfl
 rw[e2]at k;exact k
def xA{p:PW}{d:VWk}(h:Rel p d){a a':Int}(ha:p.err=.ok->a=a'):Rel (wIp p a) {d with ip:=a'}:=by
 rcases h.cases with k|⟨c,k⟩
 ·exact xo k (by rw[h.ok k,ha k];rfl)
 exact jF k (h.bad k).1 (h.bad k).2
def GQ{p:PW}{d:VWk}(h:Rel p d){a a':Int}(ha:p.err=.ok->a=a'):Rel (vv p a) (NO d a'):=by
 rcases h.cases with k|⟨c,k⟩
 ·exact xo k (by rw[h.ok k,ha k];rfl)
 exact jF k (h.bad k).1 (h.bad k).2
def tD{p A B:PW}{d A' B':VWk}{c c':Prop}[Decidable c][Decidable c'](h:Rel p d)(hc:p.err=.ok->(c↔c'))(h1:Rel A A')(h2:Rel B B')
  (hp:∀e,p.err=.bad e->A.err=.bad e/\B.err=.bad e) (hd:d.bad≠0->A'.bad=d.bad/\B'.bad=d.bad):Rel (if c then A else B) (if c' then A' else B'):=by
 rcases h.cases with k|⟨e,k⟩
 ·by_cases q:c
  ·rw[if_pos q,if_pos ((hc k).1 q)];exact h1
  rw[if_neg q,if_neg (fun q'=>q ((hc k).2 q'))];exact h2
 have hb:=h.bad k
 have h3:=hp e k
 have h4:=hd (by rw[hb.1];exact hb.2)
 have a1:(if c then A else B).err=.bad e:=by split;exact h3.1;exact h3.2
 have a2:(if c' then A' else B').bad=e:=by split;rw[h4.1,hb.1];rw[h4.2,hb.1]
 exact jF a1 a2 hb.2
section
variable {p : PW} {e : Int} (h : p.err = .bad e)
include h
def J7{n:Int}:dm p n=p:=jd h
def Nn{n:Int}:jn p n=p:=jd h
def M7{a n:Int}:m4 p a n=p:=jd h
def ac8:(ba p).1=p:=jd h
def Lb:(gp p).1=p:=jd h
def WF{a:Int}:(bv p a).1=p:=jd h
def VE{n:Nat}:(cp p n).1=p:=by unfold cp;split;exact jd h;rfl
end
section
variable {d : VWk} (h : d.bad ≠ 0)
include h
def m7{e:Int}:(bV d e).bad=d.bad:=by rw[IW h]
def ti{n:Int}:(cI d n).bad=d.bad:=m7 h
def FJ{a n:Int}:(m5 d a n).bad=d.bad:=m7 h
def ao9:(gG d).1.bad=d.bad:=m7 h
def WI{a:Int}:(bm d a).1.bad=d.bad:=m7 h
def aB7{n:Int}:(i6 d n).1.bad=d.bad:=by unfold i6;split;exact m7 h;rfl
def aG2:(dTo d).bad=d.bad:=WI h
end
def lw{p:PW}{d:VWk}(h:Rel p d)(n:Nat):LN (cp p n) (i6 d (n:Int)):=by
 rcases h.cases with k|⟨e,k⟩
 ·have hd:=h.ok k
  by_cases q:p.r.vm.r.length<=n
  ·have q':(d.v.r.length:Int)<=(n:Int):=by rw[hd];dsimp only;omega
   unfold cp i6;rw[if_pos q,if_pos q']
   exact⟨mD h,fun _=>rfl⟩
  have q':¬(d.v.r.length:Int)<=(n:Int):=by rw[hd];dsimp only;omega
  unfold cp i6;rw[if_neg q,if_neg q']
  exact⟨h,fun _=>by rw[hd];rfl⟩
 have hb:=h.bad k
 have hb0:d.bad≠0:=by rw[hb.1];exact hb.2
 exact⟨jF (by rw[VE k];exact k) (by rw[aB7 hb0,hb.1]) hb.2,fun q=>by rw[VE k,k]at q;cases q⟩
def AT{p:PW}{d:VWk}(h:Rel p d):Rel (lu p true) (dTo d):=by
 have f:=jz h (a:=p.r.ip) (a':=d.ip) (fun k=>by rw[h.ok k])
 exact xA f.1 f.2
def sX{p:PW}{d:VWk}(h:Rel p d):Rel (lu p false) (gE d):=xA h (fun k=>by rw[h.ok k])
def JH{p:PW}{e:Int}(h:p.err=.bad e)(b:Bool):(lu p b).err=.bad e:=by
 unfold lu;split
 ·show(bv p p.r.ip).1.err=_;rw[WF h];exact h
 exact h
def yR{p:PW}{n:Nat}(h:(cp p n).1.err=.ok):p.err=.ok:=by
 unfold cp at h;split at h
 ·exact(ij h).1
 exact h
def KE{p:PW}(h:(ba p).1.err=.ok):p.err=.ok:=(ij h).1
def Zh{p:PW}(h:(gp p).1.err=.ok):p.err=.ok:=(ij h).1
def v7{p:PW}{n:Int}(h:(dm p n).err=.ok):p.err=.ok:=(ij h).1
def Ix{p:PW}{n:Int}(h:(jn p n).err=.ok):p.err=.ok:=(ij h).1
def HF{p:PW}{n:Int}(h:(bv p n).1.err=.ok):p.err=.ok:=(ij h).1
def y7{p:PW}{n:Int}:(bv p n).1.r=p.r:=by
 unfold bv pOk;dsimp only;cases p.err<;>dsimp only;split<;>rfl
def Se{p:PW}{v:VVm}{e:Int}:(pOk p v e).r.ip=p.r.ip:=by
 unfold pOk;cases p.err<;>dsimp only;split<;>rfl
def GN{p:PW}{d:VWk}(h:Rel p d):Rel (sS p) {(gG d).1 with ip:=(gG d).2}:=xA (j4 h).1 (j4 h).2
def Z0{p:PW}{d:VWk}(h:Rel p d):Rel (PB p) (gE (gP (bm d d.ip).1 (bm d d.ip).2)):=by
 have f:=jz h (a:=p.r.ip) (a':=d.ip) (fun k=>by rw[h.ok k])
 exact sX (ib f.1 f.2)
def au7{p:PW}{d:VWk}(h:Rel p d):Rel (lu (ba p).1 (decide ((ba p).2=0))) (if (dU d).2=0 then dTo (dU d).1 else gE (dU d).1):=by
 have f:=jx h
 have e:lu (ba p).1 (decide ((ba p).2=0))=if (ba p).2=0 then lu (ba p).1 true else lu (ba p).1 false:=by
  by_cases q:(ba p).2=0
  ·rw[if_pos q,decide_eq_true q]
  rw[if_neg q,decide_eq_false q]
 rw[e]
 exact tD f.1 (fun k=>by rw[f.2 k]) (AT f.1) (sX f.1) (fun e k=>⟨JH k _,JH k _⟩) (fun k=>⟨aG2 k,rfl⟩)
def Hn{p:PW}{d:VWk}(h:Rel p d){n n':Int}(hn:p.err=.ok->n=n'):Rel (pv p n) (vn d n'):=by
 have a:LN (cp p 1) (i6 d 1):=lw h 1
 have b:LN (cp (cp p 1).1 0) (i6 (i6 d 1).1 0):=lw a.1 0
 rcases b.1.cases with k|⟨e,k⟩
 ·have hb:(i6 (i6 d 1).1 0).1.bad=0:=by rw[b.1.ok k]
  have a2:=a.2 (yR k)
  have b2:=b.2 k
  have n2:=hn (yR (yR k))
  have c:=(j4 b.1).1
  unfold pv vn
  dsimp only
  have hb':¬(i6 (i6 d 1).1 0).1.bad≠0:=fun q=>q hb
  rw[if_pos (ii.2 k),if_neg hb',a2,b2,n2]
  by_cases q:(ld (i6 (i6 d 1).1 0).2 (i6 d 1).2 n').2=true
  ·rw[if_pos q,if_pos q,q]
   exact sX (j4 c).1
  have q':(ld (i6 (i6 d 1).1 0).2 (i6 d 1).2 n').2=false:=by simpa using q
  rw[if_neg q,if_neg q,q']
  exact AT (kQ c (fun _=>rfl))
 have hb:=b.1.bad k
 unfold pv vn
 dsimp only
 rw[if_neg (by rw[k];simp[iw]),if_pos (fun q=>hb.2 (hb.1.symm.trans q))]
 exact b.1
def NG{p:PW}{d:VWk}(h:Rel p d):Rel (Bk p) (cI (cI (nE d).1 (nE d).2.2) (nE d).2.1):=by
 have a:=jx h
 have b:=jx a.1
 exact kQ (kQ b.1 b.2) (fun k=>a.2 (KE (Ix k)))
def VV{p:PW}{d:VWk}(h:Rel p d):Rel (sL p) (gP (gP (gG (gG d).1).1 (gG (gG d).1).2) (gG d).2):=by
 have a:=j4 h
 have b:=j4 a.1
 exact ib (ib b.1 b.2) (fun k=>a.2 (Zh (v7 k)))
def Ja{q:PW}{n:Int}(k:q.err=.ok)(h:(q.r.vm.d.length:Int)<q.r.vm.conf.data):ba (dm q n)=(q,n):=by
 obtain⟨⟨v,ip,w,df,fu⟩,err⟩:=q
 simp only at k;subst k
 have e:dm ⟨⟨v,ip,w,df,fu⟩,.ok⟩ n=⟨⟨{v with d:=v.d++[n]},ip,w,df,fu⟩,.ok⟩:=by
  unfold dm dZ fR pOk
  simp only at h
  simp only[if_neg (show ¬v.conf.data<=(v.d.length:Int) by omega),if_true]
 rw[e]
 have e2:bg (v.d++[n])=(n,v.d,0):=by
  unfold bg
  rw[if_neg (by simp)]
  simp
 unfold ba dH pOk
 simp only[e2,if_true,iw]
def al6{q:PW}{a:Int}:ba (wIp q a)=(wIp (ba q).1 a,(ba q).2):=by
 obtain⟨r,err⟩:=q
 unfold ba wIp pOk
 cases err<;>dsimp only
 split<;>rfl
def An{d:VWk}{n:Int}:gE (cI d n)=cI (gE d) n:=by
 unfold gE cI bV;dsimp only;split<;>rfl
def ae2{p:PW}(k:(ba p).1.err=.ok):(ba p).1.r.vm.d.length+1=p.r.vm.d.length/\(ba p).1.r.vm.conf=p.r.vm.conf:=by
 obtain⟨r,err⟩:=p
 have h1:=ij k
 simp only at h1
 obtain⟨rfl,h2⟩:=h1
 have hl:r.vm.d.length≠0:=by
  intro q
  unfold dH bg at h2;rw[if_pos q]at h2;cases h2
 unfold ba pOk
 simp only[h2,if_true]
 unfold dH bg
 simp only[if_neg hl,List.length_take]
 exact⟨by omega,trivial⟩
def W9{p:PW}{d:VWk}(h:Rel p d)(hd:(p.r.vm.d.length:Int)<=p.r.vm.conf.data):
  Rel (AI p) (if (nE d).2.1=(nE d).2.2 then dTo (nE d).1 else gE (cI (cI (nE d).1 (nE d).2.2) (nE d).2.1)):=by
 have a:=jx h
 have b:=jx a.1
 rcases b.1.cases with k|⟨e,k⟩
 ·have a2:=a.2 (KE k)
  have b2:=b.2 k
  have l1:=ae2 (KE k)
  have l2:=ae2 k
  unfold AI nE
  dsimp only
  by_cases q:(ba p).2=(ba (ba p).1).2
  ·rw[if_pos q,if_pos (show(dU d).2=(dU (dU d).1).2 by rw[<-a2,<-b2];exact q)]
   exact AT b.1
  rw[if_neg q,if_neg (show ¬(dU d).2=(dU (dU d).1).2 by rw[<-a2,<-b2];exact q)]
  have b1:Rel (ba (ba p).1).1 (dU (dU d).1).1:=b.1
  generalize hP:(ba (ba p).1).1=P at *
  have e1:=Ja (n:=(ba (ba p).1).2) k (by rw[l2.2,l1.2];omega)
  have l3:(dm P (ba (ba p).1).2).err=.ok:=by
   have:(pOk P (dZ P.r.vm (ba (ba p).1).2).1 (dZ P.r.vm (ba (ba p).1).2).2).err=.ok:=by
    unfold pOk dZ fR
    simp only[k,if_neg (show ¬P.r.vm.conf.data<=(P.r.vm.d.length:Int) by rw[l2.2,l1.2];omega),if_true]
   exact this
  have l4:(dm P (ba (ba p).1).2).r.vm.d.length=P.r.vm.d.length+1/\(dm P (ba (ba p).1).2).r.vm.conf=P.r.vm.conf:=by
   unfold dm pOk dZ fR
   simp only[k,if_neg (show ¬P.r.vm.conf.data<=(P.r.vm.d.length:Int) by rw[l2.2,l1.2];omega),if_true]
   simp
  have e2:=Ja (n:=(ba p).2) l3 (by rw[l4.2,l2.2,l1.2];omega)
  have ip1:(dm (dm P (ba (ba p).1).2) (ba p).2).r.ip=P.r.ip:=by
   show(pOk (pOk P _ _) _ _).r.ip=_
   rw[Se,Se]
  unfold wDo
  simp only[al6,e2,e1,ip1]
  rw[An,An]
  exact kQ (kQ (sX b1) (fun k=>b2)) (fun k=>a2)
 have hb:=b.1.bad k
 have hb0:(dU (dU d).1).1.bad≠0:=by rw[hb.1];exact hb.2
 have w1:∀A:PW,A.err=.bad e->∀n m a,(wDo (wIp (dm (dm A n) m) a)).err=.bad e:=by
  intro A kA n m a
  rw[J7 kA,J7 kA]
  unfold wDo
  have k1:(wIp A a).err=.bad e:=kA
  rw[ac8 k1,ac8 k1,Nn k1,Nn k1];exact k1
 refine tD b.1 (fun q=>by rw[k]at q;cases q) (AT b.1) (jF (e:=e) (w1 _ k _ _ _) ?_ hb.2) (fun e' k'=>⟨JH k' _,?_⟩) (fun _=>⟨aG2 hb0,?_⟩)
 ·show(cI (cI (dU (dU d).1).1 _) _).bad=e
  rw[ti (by rw[ti hb0];exact hb0),ti hb0];exact hb.1
 ·rw[k]at k';cases k';exact w1 _ k _ _ _
 show(cI (cI (dU (dU d).1).1 _) _).bad=(dU (dU d).1).1.bad
 rw[ti (by rw[ti hb0];exact hb0),ti hb0]
def VU{p:PW}{d:VWk}(h:Rel p d):Rel (sS (mT p)) (DI d):=by
 rcases h.cases with k|⟨e,k⟩
 ·have hd:=h.ok k
  unfold mT DI
  have hv:d.v=p.r.vm:=by rw[hd]
  rw[hv]
  split
  ·have k2:(pOk p p.r.vm (-31)).err=.bad (-31):=by unfold pOk;rw[k];rfl
   refine jF (e:=-31) ?_ ?_ (by decide)
   ·show(gp _).1.err=_;rw[Lb k2];exact k2
   unfold bV;rw[hd];rfl
  have s1:=CL h (a:=p.r.vm.last) (a':=d.v.last) (n:=259) (n':=259) (fun _=>⟨by rw[hv],rfl⟩)
  rw[hv]at s1
  have e1:(m4 p p.r.vm.last 259).err=.ok->(m5 d p.r.vm.last 259).v.last=p.r.vm.last/\(m5 d p.r.vm.last 259).ip=(m4 p p.r.vm.last 259).r.ip:=fun k3=>by
   rw[s1.ok k3]
   refine⟨?_,rfl⟩
   unfold m4 pOk;rw[k];dsimp only;split<;>rfl
  exact GN (CL s1 (fun k3=>⟨by rw[(e1 k3).1],by rw[(e1 k3).2]⟩))
 have hb:=h.bad k
 have hb0:d.bad≠0:=by rw[hb.1];exact hb.2
 refine jF (e:=e) ?_ ?_ hb.2
 ·unfold sS mT
  show(gp _).1.err=_
  split
  ·rw[jd k,Lb k];exact k
  rw[M7 k,M7 k,Lb k];exact k
 unfold DI
 split
 ·rw[m7 hb0];exact hb.1
 show(gG _).1.bad=e
 have s1:(m5 d d.v.last 259).bad≠0:=by rw[FJ hb0];exact hb0
 have s2:=FJ s1 (a:=W64 ((m5 d d.v.last 259).v.last+8)) (n:=(m5 d d.v.last 259).ip)
 rw[ao9 (by rw[s2];exact s1),s2,FJ hb0];exact hb.1
def Kz{p:PW}{d:VWk}(h:Rel p d):Rel (lr p) (vd d):=by
 unfold lr vd
 refine tD h (fun k=>by rw[h.ok k]) (mD h) (ib ?_ (fun _=>rfl)) (fun e k=>⟨by rw[jd k];exact k,?_⟩) (fun k=>⟨m7 k,?_⟩)
 ·rcases h.cases with k|⟨e,k⟩
  ·exact xo k (by rw[h.ok k])
  exact jF k (h.bad k).1 (h.bad k).2
 ·have hX:∀X:PW,X.err=.bad e->(dm X 0).err=.bad e:=fun X hX=>by rw[J7 hX];exact hX
  exact hX _ k
 exact m7 (d:={d with ip:=_,v:=_}) (by exact k)
def Qg{d:VWk}:bV d 0=d:=by
 obtain⟨v,ip,w,df,ov,bad⟩:=d
 unfold bV;dsimp only;split
 ·rename_i q;rw[q]
 rfl
def Zr{p:PW}{d:VWk}(h:Rel p d):Rel (J4 p) (YR d):=by
 have f:=jz h (a:=p.r.ip) (a':=d.ip) (fun k=>by rw[h.ok k])
 have ip1:(bv p p.r.ip).1.err=.ok->p.r.ip=d.ip:=fun k=>by rw[h.ok (HF k)]
 have g:Rel (pOk (bv p p.r.ip).1 (bv p p.r.ip).1.r.vm (dP (bv p p.r.ip).1.r.vm.mem (W64 (p.r.ip+8)) (bv p p.r.ip).2).2) (if bq (bm d d.ip).1.v.mem (W64 (d.ip+8)) (bm d d.ip).2 then(bm d d.ip).1 else bV (bm d d.ip).1 (-9)):=by
  rcases f.1.cases with k|⟨e,k⟩
  ·have e1:(if bq (bm d d.ip).1.v.mem (W64 (d.ip+8)) (bm d d.ip).2 then(bm d d.ip).1 else bV (bm d d.ip).1 (-9))=bV (bm d d.ip).1 (dP (bv p p.r.ip).1.r.vm.mem (W64 (p.r.ip+8)) (bv p p.r.ip).2).2:=by
    rw[<-f.2 k,f.1.ok k,<-ip1 k]
    unfold dP
    split
    ·rw[Qg]
    rfl
   rw[e1];exact mD f.1
  have hb:=f.1.bad k
  have hb0:(bm d d.ip).1.bad≠0:=by rw[hb.1];exact hb.2
  exact jF (by rw[jd k];exact k) (by split;exact hb.1;rw[m7 hb0];exact hb.1) hb.2
 refine xA (ib (ib g ?_) ?_) ?_
 ·intro k;rw[ip1 (ij k).1]
 ·intro k;exact f.2 (ij (v7 k)).1
 intro k
 have k1:=(ij (v7 (v7 k))).1
 rw[f.2 k1,ip1 k1]
def Ov{p:PW}{d:VWk}(h:Rel p d):Rel (oL p) (BW d):=by
 have a:=jx h
 have b:Rel (if 64<=((ba p).1.r.vm.f.length:Int)then pOk (ba p).1 (ba p).1.r.vm (-5)else(ba p).1) (if 64<=((dU d).1.v.f.length:Int)then bV (dU d).1 (-5)else(dU d).1) :=
  tD a.1 (fun k=>by rw[a.1.ok k]) (mD a.1) a.1 (fun e k=>⟨by rw[jd k];exact k,k⟩) (fun k=>⟨m7 k,rfl⟩)
 have hk:(if 64<=((ba p).1.r.vm.f.length:Int)then pOk (ba p).1 (ba p).1.r.vm (-5)else(ba p).1).err=.ok->(ba p).2=(dU d).2:=fun k=>a.2 (by
  split at k
  ·exact(ij k).1
  exact k)
 unfold oL wFr BW
 dsimp only
 generalize (if 64<=((ba p).1.r.vm.f.length:Int)then pOk (ba p).1 (ba p).1.r.vm (-5)else(ba p).1)=P at *
 generalize (if 64<=((dU d).1.v.f.length:Int)then bV (dU d).1 (-5)else(dU d).1)=D at *
 rcases b.cases with k|⟨e,k⟩
 ·rw[b.ok k,hk k];exact xo k rfl
 exact jF (e:=e) k (b.bad k).1 (b.bad k).2
def Nj(a b:Int):W64 (W64 a+b)=W64 (a+b):=by show IntKind.i64.wrap (IntKind.i64.wrap a+b)=IntKind.i64.wrap (a+b);rw[bU,bU,bU];exact EH a b
def OC{p:PW}{d:VWk}(h:Rel p d):Rel (pOk (ba p).1 (ba p).1.r.vm (ba p).2) (bV (dU d).1 (dU d).2):=by
 have a:=jx h
 rcases a.1.cases with k|⟨e,k⟩
 ·rw[a.2 k];exact mD a.1
 have hb:=a.1.bad k
 exact jF (by rw[jd k];exact k) (by rw[m7 (by rw[hb.1];exact hb.2)];exact hb.1) hb.2
def Gw{p:PW}{d:VWk}(h:Rel p d)(xt:Int):Rel (fH p (W64 (xt+16))) (pI d xt):=by
 have a:=jz h (a:=W64 (xt+16)) (a':=W64 (xt+16)) (fun _=>rfl)
 have b:=jz a.1 (a:=W64 (W64 (xt+16)+8)) (a':=W64 (xt+24)) (fun _=>by rw[Nj];exact congrArg W64 (by omega))
 unfold fH pI
 dsimp only
 generalize hb:bm (bm d (W64 (xt+16))).1 (W64 (xt+24))=B at *
 generalize ha:bm d (W64 (xt+16))=A at *
 generalize hb':bv (bv p (W64 (xt+16))).1 (W64 (W64 (xt+16)+8))=B' at *
 have hba:B'.1.err=.ok->(bv p (W64 (xt+16))).2=A.2:=fun k=>a.2 (HF (by rw[hb'];exact k))
 generalize ha':bv p (W64 (xt+16))=A' at *
 have c:Rel (if iw B'.1.err&&(decide (A'.2<0)||decide (B'.2<=A'.2))then pOk B'.1 B'.1.r.vm (-24)else B'.1) (if A.2<0\/B.2<=A.2 then bV B.1 (-24)else B.1) :=
  tD b.1 (fun k=>by rw[hba k,b.2 k,ii.2 k];simp) (mD b.1) b.1 (fun e k=>⟨by rw[jd k];exact k,k⟩) (fun k=>⟨m7 k,rfl⟩)
 have hc:(if iw B'.1.err&&(decide (A'.2<0)||decide (B'.2<=A'.2))then pOk B'.1 B'.1.r.vm (-24)else B'.1).err=.ok->B'.1.err=.ok:=fun k=>by
  split at k
  ·exact(ij k).1
  exact k
 generalize (if iw B'.1.err&&(decide (A'.2<0)||decide (B'.2<=A'.2))then pOk B'.1 B'.1.r.vm (-24)else B'.1)=C' at *
 generalize (if A.2<0\/B.2<=A.2 then bV B.1 (-24)else B.1)=C at *
 have x:=jz c (a:=W64 (W64 (W64 (xt+16)+16)+W64 (8*A'.2))) (a':=W64 (W64 (xt+32)+W64 (8*A.2))) (fun k=>by rw[hba (hc k),Nj (xt+16)];exact congrArg W64 (congrArg (·+W64 (8*A.2)) (congrArg W64 (by omega))))
 exact tD x.1 (fun k=>by rw[x.2 k]) x.1 (GQ x.1 x.2) (fun e k=>⟨k,k⟩) (fun _=>⟨rfl,rfl⟩)
def KB(p:PW)(d:VWk):Prop:=match p.err with
 | .halt=>d=⟨p.r.vm,p.r.ip,p.r.w,p.r.dof,true,0⟩
 | _=>Rel p d
def cL{p:PW}{d:VWk}(h:Rel p d):KB p d:=by
 unfold KB
 rcases h.cases with k|⟨e,k⟩<;>rw[k]<;>exact h
def VB{p:PW}{d:VWk}(h:Rel p d)(k:p.err=.ok):KB (Zv p .halt) {d with over:=true}:=by
 unfold KB Zv;dsimp only;rw[h.ok k]
def WT{p:PW}{d:VWk}(h:Rel p d)(k:p.err=.ok)(hd:(p.r.vm.d.length:Int)<=p.r.vm.conf.data)(m:Nat)(hm:m<23):
  KB (mM p (aq.getD m [])) (if (sM d (aq.getD m [])).2 then(sM d (aq.getD m [])).1 else Ho (sM d (aq.getD m [])).1 (aq.getD m [])):=by
 match m,hm with
 | 0,_=>exact cL (GN h)
 | 1,_=>exact cL (Z0 h)
 | 2,_=>exact cL (AT h)
 | 3,_=>exact cL (au7 h)
 | 4,_=>exact cL (NG h)
 | 5,_=>exact cL (W9 h hd)
 | 6,_=>exact cL (Hn h (fun _=>rfl))
 | 7,_=>exact cL (Hn (jx h).1 (jx h).2)
 | 8,_=>exact VB h k
 | 9,_=>exact cL (Kz h)
 | 10,_=>exact cL (VU h)
 | 11,_=>exact cL (Zr h)
 | 12,_=>exact cL (GQ (jx h).1 (jx h).2)
 | 13,_=>exact cL (Ov h)
 | 14,_=>exact cL (OC h)
 | 15,_=>exact cL (ib (lw h 0).1 (lw h 0).2)
 | 16,_=>exact cL (ib (lw h 2).1 (lw h 2).2)
 | 17,_=>exact cL (j4 (j4 (lw h 1).1).1).1
 | 18,_=>exact cL (kQ (jx h).1 (jx h).2)
 | 19,_=>exact cL (ib (j4 h).1 (j4 h).2)
 | 20,_=>exact cL (ib (lw h 0).1 (lw h 0).2)
 | 21,_=>exact cL (NG h)
 | 22,_=>exact cL (VV h)
 | m+23,hm=>exact absurd hm (by omega)
def Gn{v:VVm}{xt:Int}(h:(az v xt).2=0):d7 (az v xt).1:=by
 unfold az at h ⊢
 split
 ·rename_i h1
  rw[if_pos h1]at h
  split
  ·assumption
  rename_i h2
  rw[if_neg h2]at h;cases h
 rename_i h1;rw[if_neg h1]at h;exact absurd h h1
def cQ{k:PW}{v:VVm}{e:Int}:(pOk k v e).r.fuel=k.r.fuel:=by
 unfold pOk;cases k.err<;>dsimp only;split<;>rfl
def eO{k:PW}{n:Int}:(dm k n).r.fuel=k.r.fuel:=cQ
def l8{k:PW}{n:Int}:(jn k n).r.fuel=k.r.fuel:=cQ
def gW{k:PW}:(ba k).1.r.fuel=k.r.fuel:=cQ
def jJ{k:PW}:(gp k).1.r.fuel=k.r.fuel:=cQ
def gg{k:PW}{n:Int}:(bv k n).1.r.fuel=k.r.fuel:=cQ
def BL{k:PW}{a n:Int}:(m4 k a n).r.fuel=k.r.fuel:=cQ
def rl{k:PW}{n:Int}:(wIp k n).r.fuel=k.r.fuel:=rfl
def xC{k:PW}{n:Int}:(vv k n).r.fuel=k.r.fuel:=rfl
def bu{c:Prop}[Decidable c]{a b:PW}{f:Int}(ha:a.r.fuel=f)(hb:b.r.fuel=f):(if c then a else b).r.fuel=f:=by split<;>assumption
def iY{k:PW}{n:Nat}:(cp k n).1.r.fuel=k.r.fuel:=by unfold cp;split;exact cQ;rfl
def s5{k:PW}{b:Bool}:(lu k b).r.fuel=k.r.fuel:=by unfold lu;exact bu (by rw[rl,gg]) rfl
def Dd{k:PW}:(sS k).r.fuel=k.r.fuel:=by unfold sS;rw[rl,jJ]
def ON{k:PW}:(mT k).r.fuel=k.r.fuel:=by unfold mT;exact bu cQ (by rw[BL,BL])
def Vj{k:PW}:(PB k).r.fuel=k.r.fuel:=by unfold PB;rw[rl,eO,gg]
def G3{k:PW}:(Bk k).r.fuel=k.r.fuel:=by unfold Bk;rw[l8,l8,gW,gW]
def Nf{k:PW}:(wDo k).r.fuel=k.r.fuel:=G3
def Py{k:PW}:(sL k).r.fuel=k.r.fuel:=by unfold sL;rw[eO,eO,jJ,jJ]
def SA{k:PW}:(AI k).r.fuel=k.r.fuel:=by
 unfold AI;exact bu (by rw[s5,gW,gW]) (by rw[Nf,rl,eO,eO,gW,gW])
def Cv{k:PW}{n:Int}:(pv k n).r.fuel=k.r.fuel:=by
 unfold pv;exact bu (by rw[s5];exact bu (by rw[jJ,jJ,iY,iY]) (by rw[l8,jJ,iY,iY])) (by rw[iY,iY])
def I5{k:PW}:(lr k).r.fuel=k.r.fuel:=by unfold lr;exact bu cQ (by rw[eO])
def Tp{k:PW}:(J4 k).r.fuel=k.r.fuel:=by unfold J4;rw[rl,eO,eO,cQ,gg]
def JQ{k:PW}:(oL k).r.fuel=k.r.fuel:=by unfold oL;rw[xC];show(ite _ _ _:PW).r.fuel=_;exact bu (by rw[cQ,gW]) gW
def Fw{k:PW}{b:Int}:(fH k b).r.fuel=k.r.fuel:=by
 have h:∀(c:Bool) (x:PW),(if c then pOk x x.r.vm (-24)else x).r.fuel=x.r.fuel:=fun c x=>bu cQ rfl
 unfold fH;dsimp only;exact bu (by rw[gg,h,gg,gg]) (by rw[xC,gg,h,gg,gg])
def Fj{k:PW}{name:Str}:(mM k name).r.fuel=k.r.fuel:=by
 unfold mM Ib
 refine bu (by rw[Dd,ON]) (bu Dd (bu Vj (bu s5 (bu (by rw[s5,gW]) (bu SA (bu Nf (bu Cv (bu (by rw[Cv,gW]) (bu rfl ?_)))))))))
 refine bu I5 (bu Tp (bu (by rw[xC,gW]) (bu JQ (bu (by rw[cQ,gW]) ?_))))
 refine bu (by rw[eO,iY]) (bu (by rw[eO,iY]) (bu (by rw[jJ,jJ,iY]) (bu (by rw[l8,gW]) (bu (by rw[eO,jJ]) (bu (by rw[eO,iY]) (bu G3 (bu Py rfl)))))))
def DO{p:PW}{xt:Int}:(kD p xt).r.fuel=p.r.fuel:=by
 unfold kD;dsimp only
 refine bu (bu (by rw[cQ,cQ]) (bu (by rw[rl,l8,cQ]) (bu (by rw[eO,cQ]) (bu (by rw[eO,gg,cQ]) (bu (by rw[rl,l8,eO,gg,cQ]) (bu (by rw[Fw,cQ]) (bu (by rw[cQ,cQ]) (by rw[Fj,cQ])))))))) cQ
def Us{p:PW}{d:VWk}(h:Rel p d)(k:p.err=.ok)(hd:(p.r.vm.d.length:Int)<=p.r.vm.conf.data)(xt:Int):KB (kD p xt) (rL d xt):=by
 have hv:d.v=p.r.vm:=by rw[h.ok k]
 have hip:d.ip=p.r.ip:=by rw[h.ok k]
 have hK:=Gn (v:=p.r.vm) (xt:=xt)
 unfold kD rL
 dsimp only
 rw[hv]
 generalize az p.r.vm xt=q at *
 by_cases he:q.2=0
 ·have e1:pOk p p.r.vm q.2=p:=by unfold pOk;rw[k];dsimp only;rw[if_pos he,<-k]
  have hk:=hK he
  unfold d7 at hk
  rw[e1,if_pos (ii.2 k),if_neg (show ¬q.2≠0 from fun h=>h he)]
  by_cases c1:300<=q.1
  ·rw[if_pos c1,if_pos c1];exact cL (mD h)
  rw[if_neg c1,if_neg c1]
  by_cases c2:q.1=256
  ·rw[if_pos c2,if_pos c2];exact cL (xA (kQ h (fun _=>hip.symm)) (fun _=>rfl))
  rw[if_neg c2,if_neg c2]
  by_cases c3:q.1=257
  ·rw[if_pos c3,if_pos c3];exact cL (ib h (fun _=>rfl))
  rw[if_neg c3,if_neg c3]
  by_cases c4:q.1=258
  ·rw[if_pos c4,if_pos c4]
   have f:=jz h (a:=W64 (xt+16)) (a':=W64 (xt+16)) (fun _=>rfl)
   exact cL (ib f.1 f.2)
  rw[if_neg c4,if_neg c4]
  by_cases c5:q.1=259
  ·rw[if_pos c5,if_pos c5]
   have f:=jz h (a:=W64 (xt+8)) (a':=W64 (xt+8)) (fun _=>rfl)
   have g:=ib f.1 (n:=W64 (xt+16)) (n':=W64 (xt+16)) (fun _=>rfl)
   refine cL (xA (kQ g (fun k=>by rw[g.ok k])) (fun k=>f.2 (v7 (Ix k))))
  rw[if_neg c5,if_neg c5]
  by_cases c6:q.1=260
  ·rw[if_pos c6,if_pos c6];exact cL (Gw h xt)
  rw[if_neg c6,if_neg c6]
  by_cases c7:23<=q.1
  ·rw[if_pos ⟨c7,by omega⟩,if_pos c7]
   exact cL (se h (fun _=>⟨rfl,fun _=>rfl⟩))
  rw[if_neg (fun h=>c7 h.1),if_neg c7]
  exact WT h k hd q.1.toNat (by omega)
 have e1:(pOk p p.r.vm q.2).err=.bad q.2:=by unfold pOk;rw[k];dsimp only;rw[if_neg he]
 rw[if_neg (by rw[e1];simp[iw]),if_pos (show q.2≠0 from he)]
 exact cL (mD h)
def yf(r:bH):VWk×Int :=
 if r.dof then(⟨r.vm,r.ip,0,false,false,0⟩,r.w)else
  (if (bm ⟨r.vm,r.ip,0,false,false,0⟩ r.ip).1.bad=0 then gE (bm ⟨r.vm,r.ip,0,false,false,0⟩ r.ip).1 else(bm ⟨r.vm,r.ip,0,false,false,0⟩ r.ip).1,(bm ⟨r.vm,r.ip,0,false,false,0⟩ r.ip).2)
def vE(r:bH):LN (cb r) (yf r)/\(cb r).1.r=⟨r.vm,(yf r).1.ip,0,false,W64 (r.fuel-1)⟩:=by
 have h0:Rel (gu r) ⟨r.vm,r.ip,0,false,false,0⟩:=xo rfl rfl
 have f:=jz h0 (a:=r.ip) (a':=r.ip) (fun _=>rfl)
 unfold cb yf
 by_cases q:r.dof=true
 ·rw[if_pos q,if_pos q];exact⟨⟨h0,fun _=>rfl⟩,rfl⟩
 rw[if_neg q,if_neg q]
 rcases f.1.cases with k|⟨e,k⟩
 ·have hb:(bm ⟨r.vm,r.ip,0,false,false,0⟩ r.ip).1.bad=0:=by rw[f.1.ok k]
  rw[if_pos (ii.2 k),if_pos hb]
  refine⟨⟨sX f.1,fun _=>f.2 k⟩,?_⟩
  dsimp only
  unfold gE wIp
  dsimp only
  rw[f.1.ok k,y7];rfl
 have hb:=f.1.bad k
 rw[if_neg (by rw[k];simp[iw]),if_neg (by rw[hb.1];exact hb.2)]
 refine⟨⟨f.1,fun q=>by rw[k]at q;cases q⟩,?_⟩
 dsimp only
 rw[y7]
 unfold bm bV
 dsimp only
 split<;>rfl
def Fp(r:bH)(hd:(r.vm.d.length:Int)<=r.vm.conf.data):sI r=bz r:=by
 unfold sI bz
 by_cases hf:r.fuel<1
 ·rw[if_pos hf,if_pos hf]
 rw[if_neg hf,if_neg hf]
 obtain⟨⟨h1,h2⟩,h3⟩:=vE r
 have e0:(if r.dof then((⟨r.vm,r.ip,0,false,false,0⟩:VWk),r.w)else(let a:=bm ⟨r.vm,r.ip,0,false,false,0⟩ r.ip;(if a.1.bad=0 then gE a.1 else a.1,a.2)))=yf r:=rfl
 dsimp only at e0 ⊢
 rw[e0]
 unfold iG
 rcases h1.cases with k|⟨e,k⟩
 ·have hb:(yf r).1.bad=0:=by rw[h1.ok k]
  rw[if_pos (ii.2 k),if_pos hb,<-h2 k,<-h3]
  have hw:=Us h1 k (by rw[h3];exact hd) (cb r).2
  have hfu:(kD (cb r).1 (cb r).2).r.fuel=W64 (r.fuel-1):=by rw[DO,h3]
  generalize kD (cb r).1 (cb r).2=P at *
  generalize rL (yf r).1 (cb r).2=D at *
  unfold KB at hw
  cases kp:P.err with
  | ok =>
   rw[kp]at hw;simp only at hw
   rw[hw.ok kp]
   simp only[if_true]
   rw[<-hfu]
  | halt =>
   rw[kp]at hw;simp only at hw
   rw[hw]
   simp only[if_true]
   rw[<-hfu]
  | bad c =>
   rw[kp]at hw;simp only at hw
   have hb:=hw.bad kp
   simp only[hb.1,if_neg hb.2]
 have hb:=h1.bad k
 have hz:¬(yf r).1.bad=0:=by rw[hb.1];exact hb.2
 rw[if_neg (by rw[k];simp[iw]),if_neg hz,if_neg hz,k,hb.1,h3]
open Go.RowKit
section
variable {P : Program} {B : Nat -> Nat -> Prop} {n : Nat} {all : Array Oper} {T : Nat -> PV} {H : List Ob} {o : Oper}
def AS{t g j:Nat}{td:TD}{u:Value}(f:ap P t td)(ha:td.agg=false)(ho:o.op=.load t (.global g))(hj:H[j]?=some (.glob g u)):bM P B o T H (.val u) H :=
 aM fun σ w a s h=>by
  obtain⟨q1,_⟩:=s.holds j _ hj
  obtain⟨v,h2,h3⟩:=ki (P:=P) (w:=w) (b:=g) (off:=0) (k:=0) (x:=.val u) f (c:=cx B H σ w) (af.2 ⟨ar _ u,aG.2 rfl⟩) (fun i u' hi=>by
   match i,hi with
   | 0,hi=>cases hi;exact q1
   | i+1,hi=>simp at hi) (by unfold kY;rw[ha];rfl)
  have h1:a.eval (.global g)=.pointer (some ⟨g,0,none⟩):=rfl
  exact⟨v,by simp[execOp,ho,h1,Instr.loadAt,Instr.sureAddr,h2],h3⟩
def p5{t:TypeId}{x:Operand}{v:PV}(ho:o.op=.makeInterface t x)(hc:P.concrete t=true)(hx:opv T x=v):bM P B o T H (.ifc t v) H :=
 aM fun σ w a s h=>by
  have h1:=h x (by simp[ho,Op.operands])
  rw[hx]at h1
  exact⟨.iface t (a.eval x),by simp[execOp,ho,run_makeInterface w t (a.eval x) hc],by unfold Rep;exact⟨_,rfl,h1⟩⟩
def wU:PV->Option Bool
 | .val .nilIface=>some true
 | .val (.iface _ _)=>some false
 | .ifc _ _=>some false
 | _=>none
def Hz{c:Cx}{x:PV}{v:Value}{b:Bool}(h:wU x=some b)(k:Rep c x v):(v=.nilIface/\b=true)\/∃t u,v=.iface t u/\b=false:=by
 unfold wU at h
 split at h
 ·unfold Rep at k;cases h;exact .inl ⟨k,rfl⟩
 ·unfold Rep at k;cases h;exact .inr ⟨_,_,k,rfl⟩
 ·unfold Rep at k;obtain⟨u,k1,_⟩:=k;cases h;exact .inr ⟨_,u,k1,rfl⟩
 cases h
def aY{t yt:TypeId}{x:Operand}{y:PV}{b:Bool}(ho:o.op=.binOp .eql t x (.const .nilIface) yt)(ht:P.isIface t=true)(hx:opv T x=y)(hy:wU y=some b):bM P B o T H (.val (.bool b)) H :=
 aM fun σ w a s h=>by
  have h1:=h x (by simp[ho,Op.operands])
  rw[hx]at h1
  have hc:a.eval (.const .nilIface)=.nilIface:=rfl
  rcases Hz hy h1 with ⟨h2,rfl⟩|⟨u,z,h2,rfl⟩
  ·exact⟨_,by simp[execOp,ho,h2,hc,eqGuard,run_eql_nil_nil_at w t ht],ar _ _⟩
  exact⟨_,by simp[execOp,ho,h2,hc,eqGuard,run_eql_iface_nil w t ht],ar _ _⟩
def jp{t yt:TypeId}{x:Operand}{y:PV}{b:Bool}(ho:o.op=.binOp .neq t x (.const .nilIface) yt)(ht:P.isIface t=true)(hx:opv T x=y)(hy:wU y=some b):bM P B o T H (.val (.bool (!b))) H :=
 aM fun σ w a s h=>by
  have h1:=h x (by simp[ho,Op.operands])
  rw[hx]at h1
  have hc:a.eval (.const .nilIface)=.nilIface:=rfl
  rcases Hz hy h1 with ⟨h2,rfl⟩|⟨u,z,h2,rfl⟩
  ·exact⟨_,by simp[execOp,ho,h2,hc,eqGuard,run_neq_nil_nil_at w t ht],ar _ _⟩
  exact⟨_,by simp[execOp,ho,h2,hc,eqGuard,run_neq_iface_nil w t ht],ar _ _⟩
def dt[DL]{n:Nat}{all:Array Oper}{K:(Nat->PV)->List Ob->Prop}{l:List Oper}{dd:Option Tmp}{H':List Ob}{t:TypeId}{d:TD}{x y:Operand}{i off:Nat}{xs ys zs:List PV}{e:TypeId}(f:ap P t d)(ho:o.op=.store t x y)(hx:opv T x=.ptr i off)(hi:H[i]?=some (.cells xs e))(hy:rm (opv T y)=some ys)(hl:Nat.beq ys.length d.size=true)(hok:ys.all okC=true)
  (hle:Nat.ble (off+ys.length) xs.length=true) (hz:cy xs off ys=zs) (hH:nfH (H.set i (.cells zs e))=some H') (hd:nfD n o.dst=some dd) (hw:bf all T o=some true) (k:WO P B n all l (d8 dd (.val undef) T) H' K):WO P B n all (o::l) T H K :=
 Wd hd hw (bP f ho hx hi hy hl hok hle) (by rw[hz,<-sK hH];exact k)
def Fg[DL]{n:Nat}{σ:Nat->Option Nat}{w:World}{a:Act}(g:mO B n T H σ w a){d i m q:Nat}{xs:List PV}{e:TypeId}(hT:T d=.arr i 0 m m)(hi:H[i]?=some (.cells xs e))(hq:q<=xs.length):
  mO B n (upd d (.seq m (xs.take q) .clip) T) (H.set i .dead) σ w a/\eH B H σ w (H.set i .dead) σ w:=by
 obtain⟨s',st⟩:=lY g.sim hi
 refine⟨⟨s',fun j=>?_,g.size,mn st g.defers⟩,st⟩
 by_cases hj:j=d
 ·subst hj
  rw[fJ]
  have h1:=g.rep j
  rw[hT]at h1
  unfold Rep at h1
  obtain⟨_,b,hb,hv⟩:=h1
  obtain⟨b',vs,fr,hb',hg,_,hp⟩:=g.sim.holds i _ hi
  simp only[cx]at hb hb' hg
  rw[hb]at hb'
  cases hb'
  rw[hv]
  unfold Rep
  refine⟨_,m,vs.take q,rfl,Nat.le_refl _,(fun h=>by cases h),au.mono st.le (hp.take hq),fun b1 hb1=>.inl ?_,rfl⟩
  cases hb1
  refine⟨rfl,fun j' u hu=>⟨?_,?_⟩⟩
  ·rw[List.getElem?_take]at hu
   split at hu
   ·show w.cell? ⟨b,0+j',none⟩=some u
    rw[Nat.zero_add,fa hg];exact hu
   cases hu
  rintro(h2|⟨k,ok,h2,h3,h4⟩)
  ·exact g.sim.sep i b _ hi rfl hb _ h2
  have hlk:ok.live=true:=by cases ok<;>first|rfl|cases h4
  by_cases hki:k=i
  ·subst hki
   rw[List.getElem?_set_self (cM hi)]at h2;cases h2;cases h4
  rw[List.getElem?_set_ne (Ne.symm hki)]at h2
  exact hki (g.sim.inj k i b _ _ h2 hi hlk rfl h3 hb)
 rw[dG _ _ _ _ hj];exact(g.rep j).mono st.le
def Bd[DL]{n:Nat}{all:Array Oper}{K:(Nat->PV)->List Ob->Prop}{l:List Oper}(d i m q:Nat){xs:List PV}{e:TypeId}(hT:T d=.arr i 0 m m)(hi:H[i]?=some (.cells xs e))(hq:q<=xs.length)(h1:WO P B n all l (upd d (.seq m (xs.take q) .clip) T) (H.set i .dead) K):WO P B n all l T H K:=by
 intro hall σ w a g
 obtain⟨g',st⟩:=Fg g hT hi hq
 exact gi (fun _ _ _ h=>ia st (fun _ _ _ h=>h) h) _ _ _ (h1 hall σ w a g')
def C9{c:Cx}:∀l:List Value,au c (l.map .val) l
 | []=>aG.2 rfl
 | x::l=>af.2 ⟨ar _ _,C9 l⟩
def sk{f:FuncId}{args:List PV}{l:List Value}{r:PV}{v:Value}(hl:∀(c:Cx) vs,au c args vs->vs=l)(hr:∀c,Rep c r v)(h:∀w,Calls P f l.toArray w fun e w'=>e=.returned v/\bj w w'):ab P f args r:=by
 intro H B σ w vs s hv
 have:=hl _ _ hv
 subst this
 exact dY (args:=vs) hr h H B σ w vs s (C9 vs)
end
open Go.RowKit
def w8(l:List Int)(hl:l.length<=1000000):ab prog 154 [sq ao l] (sqc ao l):=by
 refine zH func154 fun B=>?_
 refine z2 ?_ (q:=(by(simp_all;done)))
 refine Wa 8 rfl (cK ao 1 (fun _=>rfl) (by omega)) ?_
 refine zs1 ?_
 refine Wq ?_
 exact oq rfl (by simp[sqc];rfl)
@[simp] theorem aa2 (l : List ig) : aR (sqc eW l) := lG (fun x => by simp) l
def xW(l:List ig)(hl:l.length<=1000000):ab prog 258 [sq eW l] (sqc eW l):=by
 refine zH func258 fun B=>?_
 refine z2 ?_ (q:=(by(simp_all;done)))
 refine Wa 8 rfl (cK eW 3 (fun _=>rfl) (by omega)) ?_
 refine zs1 ?_
 refine Wq ?_
 exact oq rfl (by simp[sqc];rfl)
def UE(r:List Int×Int):PV:=iy (sq ao r.1) (i64 r.2)
@[simp] theorem at3 (r : List Int × Int) : aR (UE r) := by simp [UE]
def Iy(s:List Int)(n limit:Int)(hs:s.length<=100000)(hm:ae limit):ab prog 107 [sq ao s,i64 n,i64 limit] (UE (fR s n limit)):=by
 unfold ae at hm
 refine zH func107 fun B=>?_
 refine Wi rfl ?_ ?_<;>intro hi1
 ·have h0:limit<=(s.length:Int):=by(try simp only[dnL]at *);omega
  refine zd ?_
  rw[fR,if_pos h0];rfl
 have h0:¬limit<=(s.length:Int):=by(try simp only[dnL]at *);omega
 refine zd ?_
 refine zc rfl func154 ((w8 s (by omega)) _) ?_
 refine zy2 ?_
 refine Wa 16 rfl (bsL ao [_] rfl rfl) ?_
 refine Wd rfl rfl (cd (lO tG rfl) rfl (lO tG rfl) (lO tG rfl) rfl rfl (by exact⟨_,rfl⟩) (by exact⟨rfl,rfl,an _ 1 (fun _=>rfl) _,bD _ (fun _=>rfl) _⟩) (by exact an _ 1 (fun _=>rfl) _) (by((simp_all;omega))) (by((simp_all;omega)))) ?_
 refine zA 17 rfl (cw ao) ?_
 rw[fR,if_neg h0];rfl
def Mo(r:Int×VVm×Int):PV:=kr (i64 r.1) (eVm r.2.1) (i64 r.2.2)
@[simp] theorem ap0 (r : Int × VVm × Int) : aR (Mo r) := by simp [Mo]
def MU(v:VVm)(n:Int)(hs:v.d.length<=100000)(hm:ae v.conf.data):ab prog 82 [eVm v,i64 n] (tVm (dZ v n)):=by
 refine zH func82 fun B=>?_
 refine zC rfl func107 ((Iy v.d n v.conf.data hs hm) _) ?_
 rfl
def Ta(v:VVm)(hs:v.d.length<=100000):ab prog 211 [eVm v] (Mo (dH v)):=by
 refine zH func211 fun B=>?_
 refine zC rfl func259 ((Ef v.d hs) _) ?_
 refine zW [0,1,0,0,3,0] [0,1,2,3,4,5] ?_
 refine cr tG rfl rfl rfl rfl rfl trivial ?_
 refine zd ?_
 rfl
def yu(e:Int):Int:=if e = -3 then -5 else if e = -4 then -6 else e
def MH(e:Int):ab prog 236 [i64 e] (i64 (yu e)):=by
 refine zH func236 fun B=>?_
 refine zI ?_ ?_<;>intro hi1
 ·exact congrArg i64 (by unfold yu;(try simp only[dnL]at *);split<;>(try split)<;>omega)
 refine zI ?_ ?_<;>intro hi2
 ·exact congrArg i64 (by unfold yu;(try simp only[dnL]at *);split<;>(try split)<;>omega)
 exact congrArg i64 (by unfold yu;(try simp only[dnL]at *);split<;>(try split)<;>omega)
def Ty(v:VVm)(n:Int):fp v n=({v with r:=(fR v.r n v.conf.ret).1},yu (fR v.r n v.conf.ret).2):=by
 unfold fp fR yu;split<;>rfl
def YW(v:VVm):fw v=((bg v.r).1,{v with r:=(bg v.r).2.1},yu (bg v.r).2.2):=by
 unfold fw bg yu;split<;>rfl
def UT(v:VVm)(n:Int)(hs:v.r.length<=100000)(hm:ae v.conf.ret):ab prog 197 [eVm v,i64 n] (tVm (fp v n)):=by
 rw[Ty]
 refine zH func197 fun B=>?_
 refine zC rfl func107 ((Iy v.r n v.conf.ret hs hm) _) ?_
 refine zW [1,0,0,3,0] [0,1,2,3,4] ?_
 refine Xc rfl rfl rfl rfl (fun _=>dC rfl func236 rfl rfl ((MH _) _)) ?_
 refine cr tG rfl rfl rfl rfl rfl trivial ?_
 refine zd ?_
 rfl
def XJ(v:VVm)(hs:v.r.length<=100000):ab prog 254 [eVm v] (Mo (fw v)):=by
 rw[YW]
 refine zH func254 fun B=>?_
 refine zC rfl func259 ((Ef v.r hs) _) ?_
 refine zW [0,1,0,0,0,3,0] [0,1,2,3,4,5,6] ?_
 refine Xc rfl rfl rfl rfl (fun _=>dC rfl func236 rfl rfl ((MH _) _)) ?_
 refine z3 ?_
 refine cr tG rfl rfl rfl rfl rfl trivial ?_
 refine zd ?_
 rfl
def UJ(i l n:Int):ab prog 256 [i64 i,i64 l,i64 n] (ko (ld i l n)):=by
 refine zH func256 fun B=>?_
 refine Wi rfl ?_ ?_<;>intro hi1
 ·have h0:0<=n:=by(try simp only[dnL]at *);omega
  refine zp5 ?_
  refine z1 ?_
  refine Wb 19 rfl ?_ ?_<;>intro hg1
  ·have q1:decide (W64 (i-l)<0)=true:=hg1
   refine zd ?_
   (rw[ld,if_pos h0,q1];rfl)
  have q1:decide (W64 (i-l)<0)=false:=hg1
  refine zd ?_
  (rw[ld,if_pos h0,q1];rfl)
 have h0:¬0<=n:=by(try simp only[dnL]at *);omega
 refine Wj<|zp5 ?_
 refine z1 ?_
 refine Wb 30 rfl ?_ ?_<;>intro hg2
 ·have q1:decide (0<=W64 (i-l))=true:=hg2
  refine zd ?_
  (rw[ld,if_neg h0,q1];rfl)
 have q1:decide (0<=W64 (i-l))=false:=hg2
 refine zd ?_
 (rw[ld,if_neg h0,q1];rfl)
def haltV(a:Addr):Value:=.iface 383 (.pointer (some a))
def Cp(a:Addr):yF->PV
 | .ok=>.val .nilIface
 | .bad e=>.ifc 201 (.agg [i64 e])
 | .halt=>.val (haltV a)
@[simp] theorem az2 (a : Addr) (e : yF) : aR (Cp a e) := by cases e <;> simp [Cp, aR, aF]
def tl(a:Addr)(e:yF):wU (Cp a e)=some (iw e):=by cases e<;>rfl
def cPW(a:Addr)(k:PW):List PV:=sW k.r++[Cp a k.err]
@[simp] theorem aF1 (a : Addr) (k : PW) : aF (cPW a k) := by simp [cPW, sW, cVm]
def Hm(e:Int):yF:=if e=0 then .ok else .bad e
def AE(a:Addr)(e:Int):ab prog 196 [i64 e] (Cp a (Hm e)):=by
 refine zH func196 fun B=>?_
 refine Wi rfl ?_ ?_<;>intro hi1
 ·have h0:e=0:=by(try simp only[dnL]at *);omega
  refine zd ?_
  rw[Hm,if_pos h0];rfl
 have h0:¬e=0:=by(try simp only[dnL]at *);omega
 refine zd ?_
 refine Wd rfl rfl (p5 rfl (by kernel_rfl) rfl) ?_
 refine zd ?_
 rw[Hm,if_neg h0];rfl
section
variable (a : Addr)
def Y0(r:bH)(v:VVm):k_ 161 [eVm v,i64 0] (cPW a ⟨r,.ok⟩) 197 (boo true) (cPW a ⟨{r with vm:=v},.ok⟩):=by
 refine zL func161 fun B=>?_
 refine Wd rfl rfl (aY rfl (by kernel_rfl) rfl (by rfl)) ?_
 refine zd ?_
 refine Wt rfl (by rfl) ?_
 refine zd ?_
 refine zc rfl func196 ((AE a 0) _) ?_
 refine zA 14 rfl ((show _=PV.val .nilIface from rfl)) ?_
 refine Wd rfl rfl (aY rfl (by kernel_rfl) rfl (by rfl)) ?_
 refine zd ?_
 refine Wt rfl (by rfl) ?_
 refine zd ?_
 refine Wd rfl rfl (aY rfl (by kernel_rfl) rfl (by rfl)) ?_
 refine zd ?_
 refine Wq<|aQ rfl rfl ?_ ?_
 ·rfl
 rfl
def UB(r:bH)(v:VVm)(e:Int)(he:e≠0):k_ 161 [eVm v,i64 e] (cPW a ⟨r,.ok⟩) 197 (boo false) (cPW a ⟨r,.bad e⟩):=by
 have hm:Cp a (Hm e)=.ifc 201 (.agg [i64 e]):=by rw[Hm,if_neg he];rfl
 refine zL func161 fun B=>?_
 refine Wd rfl rfl (aY rfl (by kernel_rfl) rfl (by rfl)) ?_
 refine zd ?_
 refine Wt rfl (by rfl) ?_
 refine zd ?_
 refine zc rfl func196 ((AE a e) _) ?_
 refine zA 14 rfl (hm) ?_
 refine Wd rfl rfl (aY rfl (by kernel_rfl) rfl (by rfl)) ?_
 refine zd ?_
 refine Wf rfl (by rfl) ?_
 refine zd ?_
 refine Wd rfl rfl (aY rfl (by kernel_rfl) rfl (by rfl)) ?_
 refine zd ?_
 refine Wq<|aQ rfl rfl ?_ ?_
 ·rfl
 rfl
def Ye(r:bH)(v:VVm)(e c:Int):k_ 161 [eVm v,i64 e] (cPW a ⟨r,.bad c⟩) 197 (boo false) (cPW a ⟨r,.bad c⟩):=by
 refine zL func161 fun B=>?_
 refine Wd rfl rfl (aY rfl (by kernel_rfl) rfl (by rfl)) ?_
 refine zd ?_
 refine Wf rfl (by rfl) ?_
 refine zd ?_
 refine Wd rfl rfl (aY rfl (by kernel_rfl) rfl (by rfl)) ?_
 refine zd ?_
 refine Wf rfl (by rfl) ?_
 refine zd ?_
 refine Wd rfl rfl (aY rfl (by kernel_rfl) rfl (by rfl)) ?_
 refine zd ?_
 refine Wq<|aQ rfl rfl ?_ ?_
 ·rfl
 rfl
def Qv(r:bH)(v:VVm)(e:Int):k_ 161 [eVm v,i64 e] (cPW a ⟨r,.halt⟩) 197 (boo false) (cPW a ⟨r,.halt⟩):=by
 refine zL func161 fun B=>?_
 refine Wd rfl rfl (aY rfl (by kernel_rfl) rfl (by rfl)) ?_
 refine zd ?_
 refine Wf rfl (by rfl) ?_
 refine zd ?_
 refine Wd rfl rfl (aY rfl (by kernel_rfl) rfl (by rfl)) ?_
 refine zd ?_
 refine Wf rfl (by rfl) ?_
 refine zd ?_
 refine Wd rfl rfl (aY rfl (by kernel_rfl) rfl (by rfl)) ?_
 refine zd ?_
 refine Wq<|aQ rfl rfl ?_ ?_
 ·rfl
 rfl
def rD(k:PW)(v:VVm)(e:Int):k_ 161 [eVm v,i64 e] (cPW a k) 197 (boo (iw (pOk k v e).err)) (cPW a (pOk k v e)):=by
 intro H i hi
 obtain⟨r,err⟩:=k
 cases err with
 | ok =>
  by_cases he:e=0
  ·subst he;exact Y0 a r v H i hi
  have e1:pOk ⟨r,.ok⟩ v e=⟨r,.bad e⟩:=by unfold pOk;dsimp only;rw[if_neg he]
  rw[e1];exact UB a r v e he H i hi
 | bad c=>exact Ye a r v e c H i hi
 | halt=>exact Qv a r v e H i hi
end
open Go.RowKit
section
variable {B : Nat -> Nat -> Prop} {n : Nat} {ops : Array Oper} {cl : Nat -> Nat} {i : Nat} {li : List Nat} {T : Nat -> PV} {H : List Ob} {K : (Nat -> PV) -> List Ob -> Prop} {o : Oper} {x : PV} {d : Option Tmp}
def zU[DL]{t:TypeId}{td:TD}{y:Operand}{off:Nat}{xs:List PV}{e:TypeId}(b:Nat)(k:WU prog B n ops cl li (d8 d x T) H K)(h0:ops[i]?=some o:=by exact rfl)(hc:cl i=4+2*b:=by exact rfl)(hd:nfD n o.dst=some d:=by exact rfl)(hw:bf ops T o=some true:=by exact rfl)(ho:o.op=.load t y:=by exact rfl)(hx:opv T y=.ptr b off:=by exact rfl)(hb:H[b]?=some (.cells xs e):=by exact rfl)(hf:lm tys t=some td:=by exact rfl)(hr:kY td xs off=some x:=by exact rfl)(h9:Nat.blt b 900=true:=by exact rfl):WU prog B n ops cl (i::li) T H K :=
 RK b h0 hc hd hw hb (fun _ h2=>cq (lO tG hf) ho hx h2 hr) k h9
end
open Go.RowKit
def tP(l:List Str)(s:Str):Nat->Nat->Int
 | 0,_=>-1
 | m+1,k=>if s=l.getD k []then(k:Int)else tP l s m (k+1)
def zu(l:List Str)(s:Str):∀m k,k+m<=1000000->-1<=tP l s m k/\tP l s m k<=1000000
 | 0,k,_=>by unfold tP;omega
 | m+1,k,h=>by
  unfold tP
  split
  ·omega
  exact zu l s m (k+1) (by omega)
def OS{l:List Str}{s:Str}{k:Nat}(hk:k<l.length)(h:¬s=l.getD k []):tP l s (l.length-k) k=tP l s (l.length-(k+1)) (k+1):=by
 rw[show l.length-k=(l.length-(k+1))+1 by omega]
 show(if s=l.getD k []then _ else _)=_
 rw[if_neg h]
def S3{l:List Str}{s:Str}{k:Nat}(hk:k<l.length)(h:s=l.getD k []):tP l s (l.length-k) k=(k:Int):=by
 rw[show l.length-k=(l.length-(k+1))+1 by omega]
 show(if s=l.getD k []then _ else _)=_
 rw[if_pos h]
def tF(l:List Str)(s:Str)(hl:l.length<=1000000):ab prog 113 [sq gj l,str s] (i64 (tP l s l.length 0)):=by
 refine zY func113 fun B=>?_
 refine zu1 ?_
 refine Ws<|zu3 ?_
 refine Wl ?_
 show W _ _ _ _ _ _ _
 refine dJ (fun(k:Nat)=>[(0,sq gj l),(1,str s),(4,i64 0),(7,i64 (l.length:Int)),(8,i64 (k:Int))]) (fun(k:Nat)=>[]) (fun(k:Nat)=>[]) (fun(k:Nat)=>k<=l.length/\tP l s l.length 0=tP l s (l.length-k) k) (fun(k:Nat)=>l.length-k) (0) (by exact⟨Nat.zero_le _,rfl⟩) [] ?_ ?_
 ·exact dK
 intro k hk
 refine zd ?_
 refine Wi rfl ?_ ?_<;>intro hi1
 ·have hlt:k<l.length:=by have:=oT hi1;omega
  refine zd ?_
  refine Wv tG rfl rfl rfl (by omega) (iN gj 1 (fun _=>rfl) [] (by omega)) ?_
  refine zy2 ?_
  refine zQ 16 ?_
  refine Wi rfl ?_ ?_<;>intro hi2
  ·have q:s=l.getD k []:=oT hi2
   refine zd ?_
   rw[hk.2,S3 hlt q];rfl
  have q:¬s=l.getD k []:=oF hi2
  refine zd ?_
  exact⟨k+1,[],(by exact⟨by omega,hk.2.trans (OS hlt q)⟩),(by omega),dK⟩
 have hge:l.length-k=0:=by have:=oF hi1;omega
 refine aW ?_
 refine zd ?_
 rw[hk.2,hge];rfl
def i5{a k:Str}{ks:List fX}{x:PV}{xs:List PV}{z:PV}:g9 (.s a::ks) (x::xs) (.s k) z=if k=a then(x,true)else g9 ks xs (.s k) z:=by
 rw[g9]
 by_cases h:k=a
 ·subst h;rw[if_pos rfl,if_pos rfl]
 rw[if_neg (fun e=>h (fX.s.inj e).symm),if_neg h]
def UR{k:fX}{z:PV}:g9 [] [] k z=(z,false):=by unfold g9;rfl
end Go.Proofs.YtjcminooghmpeaaGreatDoor
