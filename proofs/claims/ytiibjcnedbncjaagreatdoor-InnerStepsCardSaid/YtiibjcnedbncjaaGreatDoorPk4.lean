import Derived.Lib.AppendZerosOnto
import Derived.Lib.SliceRun
import Derived.Lib.Walk
import Derived.Test.YtiibjcnedbncjaaGreatDoorPk3
set_option linter.unusedVariables false
set_option linter.unusedSimpArgs false
set_option maxRecDepth 100000
set_option maxHeartbeats 40000000
namespace Go.Proofs.YtiibjcnedbncjaaGreatDoor
open Go.RowKit
inductive Op1 where
 | abs
 | neg
 | inv
 | inc
 | dec
 | dbl
 | half
 | cells
 | algn
 | cellp
 | eq0
 | lt0
 | ne0
 | gt0
deriving DecidableEq
def K0:List (Str×Op1):=[([65,66,83],.abs),([78,69,71,65,84,69],.neg),([73,78,86,69,82,84],.inv),([49,43],.inc),([49,45],.dec),([50,42],.dbl),([50,47],.half),([67,69,76,76,83],.cells),([65,76,73,71,78,69,68],.algn),([67,69,76,76,43],.cellp),([48,61],.eq0),([48,60],.lt0),([48,60,62],.ne0),([48,62],.gt0)]
def op1(s:Str):Option Op1:=K0.lookup s
def dc(b:Bool):Int:=if b then -1 else 0
def one(o:Op1)(a:Int):Int:=match o with
 | .abs=>if 0≤a then a else wrap64 (-a)
 | .neg=>wrap64 (-a)
 | .inv=>-1-a
 | .inc=>wrap64 (a+1)
 | .dec=>wrap64 (a-1)
 | .dbl=>wrap64 (a+a)
 | .half=>a/2
 | .cells=>wrap64 (a*8)
 | .algn=>if a%8=0 then a else wrap64 (a-a%8+8)
 | .cellp=>wrap64 (a+8)
 | .eq0=>dc (decide (a=0))
 | .lt0=>dc (decide (a<0))
 | .ne0=>dc (!decide (a=0))
 | .gt0=>dc (decide (0<a))
def nD(name:Str)(a:Int):Int×Bool:=match op1 name with
 | some o=>(one o a,true)
 | none=>(0,false)
def dH(r:Int×Bool):PV:=dm (i64 r.1) (boo r.2)
@[simp] theorem Q7 (r : Int × Bool) : aQ (dH r) := by simp [dH]
theorem cD{name:Str}{o:Op1}{a:Int}(h:op1 name=some o):nD name a=(one o a,true):=by unfold nD;rw[h]
theorem D8{name:Str}{a:Int}(h:op1 name=none):nD name a=(0,false):=by unfold nD;rw[h]
theorem zr{s:Str}(h0:s≠[65,66,83])(h1:s≠[78,69,71,65,84,69])(h2:s≠[73,78,86,69,82,84])(h3:s≠[49,43])(h4:s≠[49,45])(h5:s≠[50,42])(h6:s≠[50,47])(h7:s≠[67,69,76,76,83])(h8:s≠[65,76,73,71,78,69,68])(h9:s≠[67,69,76,76,43])(h10:s≠[48,61])(h11:s≠[48,60])(h12:s≠[48,60,62])(h13:s≠[48,62]):op1 s=none:=by
 unfold op1 K0
 simp only[List.lookup]
 simp[beq_eq_false_iff_ne.2 h0,beq_eq_false_iff_ne.2 h1,beq_eq_false_iff_ne.2 h2,beq_eq_false_iff_ne.2 h3,beq_eq_false_iff_ne.2 h4,beq_eq_false_iff_ne.2 h5,beq_eq_false_iff_ne.2 h6,beq_eq_false_iff_ne.2 h7,beq_eq_false_iff_ne.2 h8,beq_eq_false_iff_ne.2 h9,beq_eq_false_iff_ne.2 h10,beq_eq_false_iff_ne.2 h11,beq_eq_false_iff_ne.2 h12,beq_eq_false_iff_ne.2 h13]
theorem IJ(a:Int):wrap64 (0-a)=wrap64 (-a):=congrArg wrap64 (by omega)
theorem OZ{a:Int}(ha : -9223372036854775808≤a∧a≤9223372036854775807):wrap64 ((BitVec.ofInt 64 (-1) ^^^ BitVec.ofInt 64 a).toNat:Int) = -1-a:=by
 have h1:BitVec.ofInt 64 (-1)=BitVec.allOnes 64:=by decide
 rw[h1,BitVec.allOnes_xor,BitVec.toNat_not,BitVec.toNat_ofInt]
 have h2:((2 ^ 64:Nat):Int)=18446744073709551616:=by decide
 have h3:(2 ^ 64:Nat)=18446744073709551616:=by decide
 rw[h2,h3]
 unfold wrap64
 omega
theorem O4(a:Int):wrap64 (a*2 ^ min (Int.toNat 1) IntKind.i64.bits)=wrap64 (a+a):=by
 have:(2:Int) ^ min (Int.toNat 1) IntKind.i64.bits=2:=rfl
 rw[this];exact congrArg wrap64 (by omega)
theorem L4(a:Int):a.fdiv (2 ^ min (Int.toNat 1) IntKind.i64.bits)=a/2:=by
 have:(2:Int) ^ min (Int.toNat 1) IntKind.i64.bits=2:=rfl
 rw[this,Int.fdiv_eq_ediv_of_nonneg _ (by omega)]
theorem JC(x m:BitVec 64):(x &&& m)+(x &&& ~~~ m)=x:=by
 have h1:(x &&& m) &&& (x &&& ~~~ m)=0#64:=by
  ext i hi
  simp only[BitVec.getElem_and,BitVec.getElem_not,BitVec.getElem_zero]
  cases x[i]<;>cases m[i]<;>rfl
 rw[BitVec.add_eq_or_of_and_eq_zero _ _ h1]
 ext i hi
 simp only[BitVec.getElem_or,BitVec.getElem_and,BitVec.getElem_not]
 cases x[i]<;>cases m[i]<;>rfl
theorem P9(x:BitVec 64):(x &&& ~~~ 7#64).toNat=x.toNat-x.toNat%8:=by
 have h2:=JC x 7#64
 have h4:=congrArg BitVec.toNat h2
 rw[BitVec.toNat_add]at h4
 have h5:(x &&& 7#64).toNat=x.toNat%8:=by rw[BitVec.toNat_and];exact Nat.and_two_pow_sub_one_eq_mod x.toNat 3
 have h6:(x &&& ~~~ 7#64).toNat≤x.toNat:=by rw[BitVec.toNat_and];exact Nat.and_le_left
 have h7:(2 ^ 64:Nat)=18446744073709551616:=by decide
 have h8:=x.isLt
 rw[h5]at h4
 rw[h7]at h4 h8
 omega
theorem LX{a:Int}(ha : -9223372036854775808≤a∧a≤9223372036854775807):wrap64 ((BitVec.ofInt 64 (IntKind.i64.wrap (IntKind.i64.wrap (a+8)-1)) &&& ~~~ BitVec.ofInt 64 7).toNat:Int)=if a%8=0 then a else wrap64 (a-a%8+8):=by
 have h1:BitVec.ofInt 64 7=7#64:=by decide
 rw[h1,P9,BitVec.toNat_ofInt]
 have h2:((2 ^ 64:Nat):Int)=18446744073709551616:=by decide
 rw[h2,aK,aK]
 unfold wrap64
 split<;>omega
theorem kI{x y:Int}(h:x=y):dm (.val (.int .i64 x)) (.val (.bool true))=dH (y,true):=by rw[h];rfl
theorem iS(b:Bool):ab Tryz.prog 296 [boo b] (i64 (dc b)):=by
 refine pW tG (rs:=[.tmp 2]) Tryz.func296 rfl rfl rfl (by simp) (by simp) (fun B=>?_)
 refine zu1 ?_
 refine Ws ?_
 refine zu1 ?_
 refine Wi rfl (fun hi1=>?_) (fun hi1=>?_)
 ·refine zu1 ?_
  refine zR ?_
  simp_all[dc,i64]
 refine Wj ?_
 refine zu1 ?_
 refine zR ?_
 simp_all[dc,i64]
theorem mF(b:Bool):ab Tryz.prog 298 [boo b] (dH (dc b,true)):=by
 refine pW tG (rs:=[.tmp 2,.tmp 3]) Tryz.func298 rfl rfl rfl (by simp) (by simp) (fun B=>?_)
 refine zu2 ?_
 refine zp1 ?_
 refine zc rfl Tryz.func296 ((iS b) _) ?_
 refine zs2 ?_
 refine zR ?_
 rfl
def LC(name:Str)(a:Int):Int×Bool:=if name=[48,61]then(one .eq0 a,true)else if name=[48,60]then(one .lt0 a,true)else if name=[48,60,62]then(one .ne0 a,true)else if name=[48,62]then(one .gt0 a,true)else(0,false)
theorem Io{s:Str}{a:Int}(h0:s≠[65,66,83])(h1:s≠[78,69,71,65,84,69])(h2:s≠[73,78,86,69,82,84])(h3:s≠[49,43])(h4:s≠[49,45])(h5:s≠[50,42])(h6:s≠[50,47])(h7:s≠[67,69,76,76,83])(h8:s≠[65,76,73,71,78,69,68])(h9:s≠[67,69,76,76,43]):LC s a=nD s a:=by
 unfold LC
 by_cases h10:s=[48,61]
 ·subst h10;rfl
 rw[if_neg h10]
 by_cases h11:s=[48,60]
 ·subst h11;rfl
 rw[if_neg h11]
 by_cases h12:s=[48,60,62]
 ·subst h12;rfl
 rw[if_neg h12]
 by_cases h13:s=[48,62]
 ·subst h13;rfl
 rw[if_neg h13]
 exact(D8 (zr h0 h1 h2 h3 h4 h5 h6 h7 h8 h9 h10 h11 h12 h13)).symm
theorem GC(name:Str)(a:Int):ab Tryz.prog 182 [str name,i64 a] (dH (LC name a)):=by
 refine pW tG (rs:=[.tmp 4,.tmp 5]) Tryz.func182 rfl rfl rfl (by simp) (by simp) (fun B=>?_)
 refine zu2 ?_
 refine zu1 ?_
 refine Ws ?_
 refine zu1 ?_
 refine Wl ?_
 refine zp1 ?_
 refine zq 9 ?_
 refine zs1 ?_
 refine Wi rfl (fun hi1=>?_) (fun hi1=>?_)
 ·obtain rfl:=oT hi1
  refine zp3 ?_
  refine Wc rfl rfl (dq rfl rfl Tryz.func298 rfl rfl (mF _ _)) ?_
  refine zs4 ?_
  refine zR ?_
  exact congrArg dH (Prod.ext (congrArg dc (by rfl)) rfl)
 refine zp1 ?_
 refine zq 17 ?_
 refine zs1 ?_
 refine Wi rfl (fun hi2=>?_) (fun hi2=>?_)
 ·obtain rfl:=oT hi2
  refine zp3 ?_
  refine Wc rfl rfl (dq rfl rfl Tryz.func298 rfl rfl (mF _ _)) ?_
  refine zs4 ?_
  refine zR ?_
  exact congrArg dH (Prod.ext (congrArg dc (by rfl)) rfl)
 refine zp1 ?_
 refine zq 25 ?_
 refine zs1 ?_
 refine Wi rfl (fun hi3=>?_) (fun hi3=>?_)
 ·obtain rfl:=oT hi3
  refine zp3 ?_
  refine Wc rfl rfl (dq rfl rfl Tryz.func298 rfl rfl (mF _ _)) ?_
  refine zs4 ?_
  refine zR ?_
  exact congrArg dH (Prod.ext (congrArg dc (by rfl)) rfl)
 refine zp1 ?_
 refine zq 33 ?_
 refine zs1 ?_
 refine Wi rfl (fun hi4=>?_) (fun hi4=>?_)
 ·obtain rfl:=oT hi4
  refine zp3 ?_
  refine Wc rfl rfl (dq rfl rfl Tryz.func298 rfl rfl (mF _ _)) ?_
  refine zs4 ?_
  refine zR ?_
  exact congrArg dH (Prod.ext (congrArg dc (by rfl)) rfl)
 refine Wj ?_
 refine zu2 ?_
 refine zR ?_
 have h1:=oF hi1
 have h2:=oF hi2
 have h3:=oF hi3
 have h4:=oF hi4
 rw[LC,if_neg h1,if_neg h2,if_neg h3,if_neg h4];rfl
theorem Ej(name:Str)(a:Int)(ha : -9223372036854775808≤a∧a≤9223372036854775807):ab Tryz.prog 143 [str name,i64 a] (dH (nD name a)):=by
 refine pW tG (rs:=[.tmp 4,.tmp 5]) Tryz.func143 rfl rfl rfl (by simp) (by simp) (fun B=>?_)
 refine zu2 ?_
 refine Ws ?_
 refine zu1 ?_
 refine Wl ?_
 refine Ws ?_
 refine Wl ?_
 refine Ws ?_
 refine Wl ?_
 refine Ws ?_
 refine Wl ?_
 refine Ws ?_
 refine Wl ?_
 refine Ws ?_
 refine Wl ?_
 refine Ws ?_
 refine Wl ?_
 refine Ws ?_
 refine Wl ?_
 refine Ws ?_
 refine Wl ?_
 refine Ws ?_
 refine Wl ?_
 refine Ws ?_
 refine Wl ?_
 iterate 2 refine Ws ?_
 refine zp1 ?_
 refine zq 8 ?_
 refine zs1 ?_
 refine Wi rfl (fun hi1=>?_) (fun hi1=>?_)
 ·obtain rfl:=oT hi1
  refine aN ?_
  refine zu2 ?_
  refine Wi rfl (fun hi2=>?_) (fun hi2=>?_)
  ·refine zu3 ?_
   refine zR ?_
   refine(kI (y:=one .abs a) ?_).trans (congrArg dH (cD (o:=.abs) rfl).symm)
   simp only[one];(((try simp only[dnL]at *);rw[if_pos (by omega)]))
  refine Wj ?_
  refine Ws ?_
  refine zu4 ?_
  refine zR ?_
  refine(kI (y:=one .abs a) ?_).trans (congrArg dH (cD (o:=.abs) rfl).symm)
  simp only[one];(((try simp only[dnL]at *);rw[if_neg (by omega),aK];exact IJ a))
 refine Wj ?_
 refine Ws ?_
 refine zp1 ?_
 refine zq 10 ?_
 refine zs1 ?_
 refine Wi rfl (fun hi3=>?_) (fun hi3=>?_)
 ·obtain rfl:=oT hi3
  refine aN ?_
  refine Ws ?_
  refine zu4 ?_
  refine zR ?_
  refine(kI (y:=one .neg a) ?_).trans (congrArg dH (cD (o:=.neg) rfl).symm)
  simp only[one];((rw[aK];exact IJ a))
 refine Wj ?_
 refine Ws ?_
 refine zp1 ?_
 refine zq 12 ?_
 refine zs1 ?_
 refine Wi rfl (fun hi4=>?_) (fun hi4=>?_)
 ·obtain rfl:=oT hi4
  refine aN ?_
  refine Ws ?_
  refine zu4 ?_
  refine zR ?_
  refine(kI (y:=one .inv a) ?_).trans (congrArg dH (cD (o:=.inv) rfl).symm)
  simp only[one];((rw[aK];exact OZ ha))
 refine Wj ?_
 refine Ws ?_
 refine zp1 ?_
 refine zq 14 ?_
 refine zs1 ?_
 refine Wi rfl (fun hi5=>?_) (fun hi5=>?_)
 ·obtain rfl:=oT hi5
  refine aN ?_
  refine Ws ?_
  refine zu4 ?_
  refine zR ?_
  refine(kI (y:=one .inc a) ?_).trans (congrArg dH (cD (o:=.inc) rfl).symm)
  simp only[one];((rw[aK];done))
 refine Wj ?_
 refine Ws ?_
 refine zp1 ?_
 refine zq 16 ?_
 refine zs1 ?_
 refine Wi rfl (fun hi6=>?_) (fun hi6=>?_)
 ·obtain rfl:=oT hi6
  refine aN ?_
  refine Ws ?_
  refine zu4 ?_
  refine zR ?_
  refine(kI (y:=one .dec a) ?_).trans (congrArg dH (cD (o:=.dec) rfl).symm)
  simp only[one];((rw[aK];done))
 refine Wj ?_
 refine Ws ?_
 refine zp1 ?_
 refine zq 18 ?_
 refine zs1 ?_
 refine Wi rfl (fun hi7=>?_) (fun hi7=>?_)
 ·obtain rfl:=oT hi7
  refine aN ?_
  refine Ws ?_
  refine zu4 ?_
  refine zR ?_
  refine(kI (y:=one .dbl a) ?_).trans (congrArg dH (cD (o:=.dbl) rfl).symm)
  simp only[one];((rw[aK];exact O4 a))
 refine Wj ?_
 refine Ws ?_
 refine zp1 ?_
 refine zq 20 ?_
 refine zs1 ?_
 refine Wi rfl (fun hi8=>?_) (fun hi8=>?_)
 ·obtain rfl:=oT hi8
  refine aN ?_
  refine Ws ?_
  refine zu4 ?_
  refine zR ?_
  refine(kI (y:=one .half a) ?_).trans (congrArg dH (cD (o:=.half) rfl).symm)
  simp only[one];exact L4 a
 refine Wj ?_
 refine Ws ?_
 refine zp1 ?_
 refine zq 22 ?_
 refine zs1 ?_
 refine Wi rfl (fun hi9=>?_) (fun hi9=>?_)
 ·obtain rfl:=oT hi9
  refine aN ?_
  refine Ws ?_
  refine zu4 ?_
  refine zR ?_
  refine(kI (y:=one .cells a) ?_).trans (congrArg dH (cD (o:=.cells) rfl).symm)
  simp only[one];((rw[aK];done))
 refine Wj ?_
 refine Ws ?_
 refine zp1 ?_
 refine zq 24 ?_
 refine zs1 ?_
 refine Wi rfl (fun hi10=>?_) (fun hi10=>?_)
 ·obtain rfl:=oT hi10
  refine aN ?_
  refine Ws ?_
  refine zp5 ?_
  refine zs1 ?_
  refine zR ?_
  refine(kI (y:=one .algn a) ?_).trans (congrArg dH (cD (o:=.algn) rfl).symm)
  simp only[one];((rw[aK];exact LX ha))
 refine Wj ?_
 refine zp1 ?_
 refine zq 26 ?_
 refine zs1 ?_
 refine Wi rfl (fun hi11=>?_) (fun hi11=>?_)
 ·obtain rfl:=oT hi11
  refine aN ?_
  refine Ws ?_
  refine zu4 ?_
  refine zR ?_
  refine(kI (y:=one .cellp a) ?_).trans (congrArg dH (cD (o:=.cellp) rfl).symm)
  simp only[one];((rw[aK];done))
 refine Wj ?_
 refine aN ?_
 refine zp2 ?_
 refine zc rfl Tryz.func182 ((GC name a) _) ?_
 refine zs4 ?_
 refine zR ?_
 rw[Io (oF hi1) (oF hi3) (oF hi4) (oF hi5) (oF hi6) (oF hi7) (oF hi8) (oF hi9) (oF hi10) (oF hi11)];rfl
theorem fR(b:Bool):ab Tryz.prog 175 [boo b] (dH (dc b,true)):=by
 refine pW tG (rs:=[.tmp 2,.tmp 3]) Tryz.func175 rfl rfl rfl (by simp) (by simp) (fun B=>?_)
 refine zu2 ?_
 refine Ws ?_
 refine zu1 ?_
 refine Wi rfl (fun hi1=>?_) (fun hi1=>?_)
 ·refine zu2 ?_
  refine zR ?_
  simp_all[dc,dH,dm,i64,boo]
 refine Wj ?_
 refine zu2 ?_
 refine zR ?_
 simp_all[dc,dH,dm,i64,boo]
theorem io{x y:Int}(h:x=y):dm (i64 x) (.val (.bool true))=dH (y,true):=by rw[h];rfl
theorem TI:Fit 2:=by unfold Fit;omega
theorem Sn:Fit 8:=by unfold Fit;omega
theorem RQ(a:Int)(ha:Fit a):wrap64 (a.fdiv 2)=a/2:=by
 rw[Int.fdiv_eq_ediv_of_nonneg _ (by omega)];unfold Fit at ha;unfold wrap64;omega
theorem nj(a:Int):a.fmod 8=a%8:=Int.fmod_eq_emod_of_nonneg _ (by omega)
theorem sU(a:Int):gL a 2=(wrap64 (a.fdiv 2),a.fmod 2,0):=by unfold gL;rw[if_neg (by omega)]
theorem sV(a:Int):gL a 8=(wrap64 (a.fdiv 8),a.fmod 8,0):=by unfold gL;rw[if_neg (by omega)]
theorem xB(name:Str)(a:Int)(ha:Fit a):ab Tryz.prog 125 [str name,i64 a] (dH (nD name a)):=by
 have hf:=ha
 unfold Fit at hf
 refine pW tG (rs:=[.tmp 4,.tmp 5]) Tryz.func125 rfl rfl rfl (by simp) (by simp) (fun B=>?_)
 refine zu2 ?_
 refine Ws ?_
 refine zu1 ?_
 refine Wl ?_
 refine zp1 ?_
 refine zq 14 ?_
 refine zs1 ?_
 refine Wi rfl (fun hi1=>?_) (fun hi1=>?_)
 ·obtain rfl:=oT hi1
  refine zu4 ?_
  refine zR ?_
  refine(io (y:=one .neg a) ?_).trans (congrArg dH (cD (o:=.neg) rfl).symm)
  simp only[one,sU,sV,nj]at *;((rw[aK];exact congrArg wrap64 (by omega)))
 refine zp1 ?_
 refine zq 18 ?_
 refine zs1 ?_
 refine Wi rfl (fun hi2=>?_) (fun hi2=>?_)
 ·obtain rfl:=oT hi2
  refine Ws ?_
  refine zu2 ?_
  refine Wi rfl (fun hi3=>?_) (fun hi3=>?_)
  ·refine zu4 ?_
   refine zR ?_
   refine(io (y:=one .abs a) ?_).trans (congrArg dH (cD (o:=.abs) rfl).symm)
   simp only[one,sU,sV,nj]at *;(((try simp only[dnL]at *);rw[if_neg (by omega),aK];exact congrArg wrap64 (by omega)))
  refine Wj ?_
  refine zu3 ?_
  refine zR ?_
  refine(io (y:=one .abs a) ?_).trans (congrArg dH (cD (o:=.abs) rfl).symm)
  simp only[one,sU,sV,nj]at *;(((try simp only[dnL]at *);rw[if_pos (by omega)];done))
 refine zp1 ?_
 refine zq 25 ?_
 refine zs1 ?_
 refine Wi rfl (fun hi4=>?_) (fun hi4=>?_)
 ·obtain rfl:=oT hi4
  refine zu4 ?_
  refine zR ?_
  refine(io (y:=one .inv a) ?_).trans (congrArg dH (cD (o:=.inv) rfl).symm)
  simp only[one,sU,sV,nj]at *;((rw[aK];unfold wrap64;omega))
 refine zp1 ?_
 refine zq 29 ?_
 refine zs1 ?_
 refine Wi rfl (fun hi5=>?_) (fun hi5=>?_)
 ·obtain rfl:=oT hi5
  refine zu4 ?_
  refine zR ?_
  refine(io (y:=one .inc a) ?_).trans (congrArg dH (cD (o:=.inc) rfl).symm)
  simp only[one,sU,sV,nj]at *;((rw[aK];done))
 refine zp1 ?_
 refine zq 33 ?_
 refine zs1 ?_
 refine Wi rfl (fun hi6=>?_) (fun hi6=>?_)
 ·obtain rfl:=oT hi6
  refine zu4 ?_
  refine zR ?_
  refine(io (y:=one .dec a) ?_).trans (congrArg dH (cD (o:=.dec) rfl).symm)
  simp only[one,sU,sV,nj]at *;((rw[aK];done))
 refine zp1 ?_
 refine zq 37 ?_
 refine zs1 ?_
 refine Wi rfl (fun hi7=>?_) (fun hi7=>?_)
 ·obtain rfl:=oT hi7
  refine zu5 ?_
  refine zR ?_
  refine(io (y:=one .dbl a) ?_).trans (congrArg dH (cD (o:=.dbl) rfl).symm)
  simp only[one,sU,sV,nj]at *;((rw[aK];done))
 refine zp1 ?_
 refine zq 42 ?_
 refine zs1 ?_
 refine Wi rfl (fun hi8=>?_) (fun hi8=>?_)
 ·obtain rfl:=oT hi8
  refine zp1 ?_
  refine zc rfl Tryz.func174 ((Ee a 2 ha TI) _) ?_
  refine zy5 ?_
  refine zs2 ?_
  refine zu3 ?_
  refine zR ?_
  refine(io (y:=one .half a) ?_).trans (congrArg dH (cD (o:=.half) rfl).symm)
  simp only[one,sU,sV,nj]at *;exact RQ a ha
 refine zp1 ?_
 refine zq 51 ?_
 refine zs1 ?_
 refine Wi rfl (fun hi9=>?_) (fun hi9=>?_)
 ·obtain rfl:=oT hi9
  refine zp2 ?_
  refine zc rfl Tryz.func175 ((fR _) _) ?_
  refine zs4 ?_
  refine zR ?_
  refine congrArg dH (Eq.trans ?_ (cD (o:=.eq0) rfl).symm)
  simp only[one]<;>rfl
 refine zp1 ?_
 refine zq 58 ?_
 refine zs1 ?_
 refine Wi rfl (fun hi10=>?_) (fun hi10=>?_)
 ·obtain rfl:=oT hi10
  refine zp2 ?_
  refine zc rfl Tryz.func175 ((fR _) _) ?_
  refine zs4 ?_
  refine zR ?_
  refine congrArg dH (Eq.trans ?_ (cD (o:=.lt0) rfl).symm)
  simp only[one]<;>first|rfl|(congr 2;done)|(congr 2;rw[Bool.eq_iff_iff]<;>simp)
 refine zp1 ?_
 refine zq 65 ?_
 refine zs1 ?_
 refine Wi rfl (fun hi11=>?_) (fun hi11=>?_)
 ·obtain rfl:=oT hi11
  refine zp2 ?_
  refine zc rfl Tryz.func175 ((fR _) _) ?_
  refine zs4 ?_
  refine zR ?_
  refine congrArg dH (Eq.trans ?_ (cD (o:=.ne0) rfl).symm)
  simp only[one]<;>rfl
 refine zp1 ?_
 refine zq 72 ?_
 refine zs1 ?_
 refine Wi rfl (fun hi12=>?_) (fun hi12=>?_)
 ·obtain rfl:=oT hi12
  refine zp2 ?_
  refine zc rfl Tryz.func175 ((fR _) _) ?_
  refine zs4 ?_
  refine zR ?_
  refine congrArg dH (Eq.trans ?_ (cD (o:=.gt0) rfl).symm)
  simp only[one]<;>first|rfl|(congr 2;done)|(congr 2;rw[Bool.eq_iff_iff]<;>simp)
 refine zp1 ?_
 refine zq 79 ?_
 refine zs1 ?_
 refine Wi rfl (fun hi13=>?_) (fun hi13=>?_)
 ·obtain rfl:=oT hi13
  refine zu4 ?_
  refine zR ?_
  refine(io (y:=one .cells a) ?_).trans (congrArg dH (cD (o:=.cells) rfl).symm)
  simp only[one,sU,sV,nj]at *;((rw[aK];exact congrArg wrap64 (by omega)))
 refine zp1 ?_
 refine zq 83 ?_
 refine zs1 ?_
 refine Wi rfl (fun hi14=>?_) (fun hi14=>?_)
 ·obtain rfl:=oT hi14
  refine zu4 ?_
  refine zR ?_
  refine(io (y:=one .cellp a) ?_).trans (congrArg dH (cD (o:=.cellp) rfl).symm)
  simp only[one,sU,sV,nj]at *;((rw[aK];done))
 refine zp1 ?_
 refine zq 87 ?_
 refine zs1 ?_
 refine Wi rfl (fun hi15=>?_) (fun hi15=>?_)
 ·obtain rfl:=oT hi15
  refine zp1 ?_
  refine zc rfl Tryz.func174 ((Ee a 8 ha Sn) _) ?_
  refine zy5 ?_
  refine zs2 ?_
  refine Ws ?_
  refine zu2 ?_
  refine Wi rfl (fun hi16=>?_) (fun hi16=>?_)
  ·refine zu3 ?_
   refine zR ?_
   refine(io (y:=one .algn a) ?_).trans (congrArg dH (cD (o:=.algn) rfl).symm)
   simp only[one,sU,sV,nj]at *;(((try simp only[dnL]at *);rw[if_pos (by omega)];done))
  refine Wj ?_
  refine zp5 ?_
  refine zs1 ?_
  refine zR ?_
  refine(io (y:=one .algn a) ?_).trans (congrArg dH (cD (o:=.algn) rfl).symm)
  simp only[one,sU,sV,nj]at *;(((try simp only[dnL]at *);rw[if_neg (by omega),aK,aK];unfold wrap64;omega))
 refine Wj ?_
 refine zu2 ?_
 refine zR ?_
 rw[D8 (zr (oF hi2) (oF hi1) (oF hi4) (oF hi5) (oF hi6) (oF hi7) (oF hi8) (oF hi13) (oF hi15) (oF hi14) (oF hi9) (oF hi10) (oF hi11) (oF hi12))];rfl
inductive Op2 where
 | quo
 | rem
 | add
 | sub
 | mul
 | and
 | or
 | xor
 | shl
 | shr
 | min
 | max
 | eq
 | ne
 | lt
 | gt
 | le
 | ge
 | ult
 | ugt
deriving DecidableEq
def IG:List (Str×Op2):=[([47],.quo),([77,79,68],.rem),([43],.add),([45],.sub),([42],.mul),([65,78,68],.and),([79,82],.or),([88,79,82],.xor),([76,83,72,73,70,84],.shl),([82,83,72,73,70,84],.shr),([77,73,78],.min),([77,65,88],.max),([61],.eq),([60,62],.ne),([60],.lt),([62],.gt),([60,61],.le),([62,61],.ge),([85,60],.ult),([85,62],.ugt)]
def op2(s:Str):Option Op2:=IG.lookup s
def vw(a b:Int):Int:=wrap64 ((BitVec.ofInt 64 a &&& BitVec.ofInt 64 b).toNat:Int)
def orS(a b:Int):Int:=wrap64 ((BitVec.ofInt 64 a ||| BitVec.ofInt 64 b).toNat:Int)
def vA(a b:Int):Int:=wrap64 ((BitVec.ofInt 64 a ^^^ BitVec.ofInt 64 b).toNat:Int)
def jg(a by_:Int)(up:Bool):Int:=if 63<U by_ then 0 else if up then S (U a*2 ^ U by_%18446744073709551616)else S (U a/2 ^ U by_)
def two(o:Op2)(a b:Int):Int×Int:=match o with
 | .quo=>((gL a b).1,(gL a b).2.2)
 | .rem=>((gL a b).2.1,(gL a b).2.2)
 | .add=>(wrap64 (a+b),0)
 | .sub=>(wrap64 (a-b),0)
 | .mul=>(wrap64 (a*b),0)
 | .and=>(vw a b,0)
 | .or=>(orS a b,0)
 | .xor=>(vA a b,0)
 | .shl=>(jg a b true,0)
 | .shr=>(jg a b false,0)
 | .min=>(if b<a then b else a,0)
 | .max=>(if a<b then b else a,0)
 | .eq=>(dc (decide (a=b)),0)
 | .ne=>(dc (!decide (a=b)),0)
 | .lt=>(dc (decide (a<b)),0)
 | .gt=>(dc (decide (b<a)),0)
 | .le=>(dc (decide (a≤b)),0)
 | .ge=>(dc (decide (b≤a)),0)
 | .ult=>(dc (decide (U a<U b)),0)
 | .ugt=>(dc (decide (U b<U a)),0)
def gn(name:Str)(a b:Int):Int×Bool×Int:=match op2 name with
 | some o=>((two o a b).1,true,(two o a b).2)
 | none=>(0,false,0)
def ir(r:Int×Bool×Int):PV:=da (i64 r.1) (boo r.2.1) (i64 r.2.2)
@[simp] theorem Rf (r : Int × Bool × Int) : aQ (ir r) := by simp [ir]
theorem Ek{name:Str}{a b:Int}(h:op2 name=none):gn name a b=(0,false,0):=by unfold gn;rw[h]
theorem Ao{s:Str}(h0:s≠[47])(h1:s≠[77,79,68])(h2:s≠[43])(h3:s≠[45])(h4:s≠[42])(h5:s≠[65,78,68])(h6:s≠[79,82])(h7:s≠[88,79,82])(h8:s≠[76,83,72,73,70,84])(h9:s≠[82,83,72,73,70,84])(h10:s≠[77,73,78])(h11:s≠[77,65,88])(h12:s≠[61])(h13:s≠[60,62])(h14:s≠[60])(h15:s≠[62])(h16:s≠[60,61])(h17:s≠[62,61])(h18:s≠[85,60])(h19:s≠[85,62]):op2 s=none:=by
 unfold op2 IG
 simp only[List.lookup]
 simp[beq_eq_false_iff_ne.2 h0,beq_eq_false_iff_ne.2 h1,beq_eq_false_iff_ne.2 h2,beq_eq_false_iff_ne.2 h3,beq_eq_false_iff_ne.2 h4,beq_eq_false_iff_ne.2 h5,beq_eq_false_iff_ne.2 h6,beq_eq_false_iff_ne.2 h7,beq_eq_false_iff_ne.2 h8,beq_eq_false_iff_ne.2 h9,beq_eq_false_iff_ne.2 h10,beq_eq_false_iff_ne.2 h11,beq_eq_false_iff_ne.2 h12,beq_eq_false_iff_ne.2 h13,beq_eq_false_iff_ne.2 h14,beq_eq_false_iff_ne.2 h15,beq_eq_false_iff_ne.2 h16,beq_eq_false_iff_ne.2 h17,beq_eq_false_iff_ne.2 h18,beq_eq_false_iff_ne.2 h19]
def zp(name:Str)(a b:Int):Int×Bool:=if name=[61]then((two .eq a b).1,true)else if name=[60,62]then((two .ne a b).1,true)else if name=[62]then((two .gt a b).1,true)else if name=[60]then((two .lt a b).1,true)else if name=[60,61]then((two .le a b).1,true)else if name=[62,61]then((two .ge a b).1,true)else if name=[85,62]then((two .ugt a b).1,true)else if name=[85,60]then((two .ult a b).1,true)else(0,false)
theorem Jy(name:Str)(a b:Int):ab Tryz.prog 181 [str name,i64 a,i64 b] (dH (zp name a b)):=by
 refine pW tG (rs:=[.tmp 6,.tmp 7]) Tryz.func181 rfl rfl rfl (by simp) (by simp) (fun B=>?_)
 refine zu2 ?_
 refine Ws ?_
 refine zu1 ?_
 refine Wl ?_
 refine Ws ?_
 refine Wl ?_
 refine Ws ?_
 refine Wl ?_
 refine Ws ?_
 refine Wl ?_
 refine Ws ?_
 refine Wl ?_
 refine Ws ?_
 refine Wl ?_
 refine Ws ?_
 refine Wl ?_
 refine Ws ?_
 refine Wl ?_
 refine Ws ?_
 refine Wl ?_
 iterate 2 refine Ws ?_
 refine zp1 ?_
 refine zq 10 ?_
 refine zs1 ?_
 refine Wi rfl (fun hi1=>?_) (fun hi1=>?_)
 ·obtain rfl:=oT hi1
  refine aN ?_
  refine Ws ?_
  refine zp3 ?_
  refine zc rfl Tryz.func296 ((iS _) _) ?_
  refine zs2 ?_
  refine zR ?_
  refine congrArg dH (show(dc _,true)=((two .eq a b).1,true) from ?_)
  simp only[two]<;>rfl
 refine Wj ?_
 refine Ws ?_
 refine zp1 ?_
 refine zq 12 ?_
 refine zs1 ?_
 refine Wi rfl (fun hi2=>?_) (fun hi2=>?_)
 ·obtain rfl:=oT hi2
  refine aN ?_
  refine Ws ?_
  refine zp3 ?_
  refine zc rfl Tryz.func296 ((iS _) _) ?_
  refine zs2 ?_
  refine zR ?_
  refine congrArg dH (show(dc _,true)=((two .ne a b).1,true) from ?_)
  simp only[two]<;>rfl
 refine Wj ?_
 refine Ws ?_
 refine zp1 ?_
 refine zq 14 ?_
 refine zs1 ?_
 refine Wi rfl (fun hi3=>?_) (fun hi3=>?_)
 ·obtain rfl:=oT hi3
  refine aN ?_
  refine aa rfl ?_
  refine zs4 ?_
  refine Ws ?_
  refine zp3 ?_
  refine zc rfl Tryz.func296 ((iS _) _) ?_
  refine zs2 ?_
  refine zR ?_
  refine congrArg dH (show(dc _,true)=((two .gt a b).1,true) from ?_)
  simp only[two]<;>first|rfl|(congr 2;done)|(congr 2;rw[Bool.eq_iff_iff]<;>simp)
 refine Wj ?_
 refine Ws ?_
 refine zp1 ?_
 refine zq 16 ?_
 refine zs1 ?_
 refine Wi rfl (fun hi4=>?_) (fun hi4=>?_)
 ·obtain rfl:=oT hi4
  refine aN ?_
  refine Ws ?_
  refine zp3 ?_
  refine zc rfl Tryz.func296 ((iS _) _) ?_
  refine zs2 ?_
  refine zR ?_
  refine congrArg dH (show(dc _,true)=((two .lt a b).1,true) from ?_)
  simp only[two]<;>first|rfl|(congr 2;done)|(congr 2;rw[Bool.eq_iff_iff]<;>simp)
 refine Wj ?_
 refine Ws ?_
 refine zp1 ?_
 refine zq 18 ?_
 refine zs1 ?_
 refine Wi rfl (fun hi5=>?_) (fun hi5=>?_)
 ·obtain rfl:=oT hi5
  refine aN ?_
  refine aa rfl ?_
  refine zs4 ?_
  refine Ws ?_
  refine zp3 ?_
  refine zc rfl Tryz.func296 ((iS _) _) ?_
  refine zs2 ?_
  refine zR ?_
  refine congrArg dH (show(dc _,true)=((two .le a b).1,true) from ?_)
  simp only[two]<;>first|rfl|(congr 2;done)|(congr 2;rw[Bool.eq_iff_iff]<;>simp)
 refine Wj ?_
 refine Ws ?_
 refine zp1 ?_
 refine zq 20 ?_
 refine zs1 ?_
 refine Wi rfl (fun hi6=>?_) (fun hi6=>?_)
 ·obtain rfl:=oT hi6
  refine aN ?_
  refine Ws ?_
  refine zp3 ?_
  refine zc rfl Tryz.func296 ((iS _) _) ?_
  refine zs2 ?_
  refine zR ?_
  refine congrArg dH (show(dc _,true)=((two .ge a b).1,true) from ?_)
  simp only[two]<;>first|rfl|(congr 2;done)|(congr 2;rw[Bool.eq_iff_iff]<;>simp)
 refine Wj ?_
 refine Ws ?_
 refine zp1 ?_
 refine zq 22 ?_
 refine zs1 ?_
 refine Wi rfl (fun hi7=>?_) (fun hi7=>?_)
 ·obtain rfl:=oT hi7
  refine aN ?_
  refine aa rfl ?_
  refine zs4 ?_
  refine Ws ?_
  refine zp2 ?_
  refine zc rfl Tryz.func297 ((xP _ _) _) ?_
  refine zc rfl Tryz.func296 ((iS _) _) ?_
  refine zs2 ?_
  refine zR ?_
  refine congrArg dH (show(dc _,true)=((two .ugt a b).1,true) from ?_)
  simp only[two]<;>first|rfl|(congr 2;done)|(congr 2;rw[Bool.eq_iff_iff]<;>simp)
 refine Wj ?_
 refine zp1 ?_
 refine zq 24 ?_
 refine zs1 ?_
 refine Wi rfl (fun hi8=>?_) (fun hi8=>?_)
 ·obtain rfl:=oT hi8
  refine aN ?_
  refine Ws ?_
  refine zp2 ?_
  refine zc rfl Tryz.func297 ((xP _ _) _) ?_
  refine zc rfl Tryz.func296 ((iS _) _) ?_
  refine zs2 ?_
  refine zR ?_
  refine congrArg dH (show(dc _,true)=((two .ult a b).1,true) from ?_)
  simp only[two]<;>first|rfl|(congr 2;done)|(congr 2;rw[Bool.eq_iff_iff]<;>simp)
 refine Wj ?_
 refine aN ?_
 refine zu2 ?_
 refine zR ?_
 rw[zp,if_neg (oF hi1),if_neg (oF hi2),if_neg (oF hi3),if_neg (oF hi4),if_neg (oF hi5),if_neg (oF hi6),if_neg (oF hi7),if_neg (oF hi8)];rfl
theorem Bp(x lo hi:Int):ab Tryz.prog 201 [i64 x,i64 lo,i64 hi] (boo (decide (U (wrap64 (x-lo))<U (wrap64 (hi-lo))))):=by
 refine pW tG (rs:=[.tmp 6]) Tryz.func201 rfl rfl rfl (by simp) (by simp) (fun B=>?_)
 refine zu1 ?_
 refine zp5 ?_
 refine z1 ?_
 refine zc rfl Tryz.func297 ((xP _ _) _) ?_
 refine zs1 ?_
 refine zR ?_
 simp only[aK];rfl
theorem Mi{t:TypeId}{x y:Operand}{a b:Int}(h:0≤b):uw .shl t x y (.int .u64 a) (.int .u64 b)=some (.int .u64 (IntKind.u64.wrap (a*2 ^ min b.toNat 64))):=by
 have h1:¬b<0:=by omega
 simp only[uw,eqGuard,binOp,Op.shift,if_neg h1];rfl
theorem Nm{t:TypeId}{x y:Operand}{a b:Int}(h:0≤b):uw .shr t x y (.int .u64 a) (.int .u64 b)=some (.int .u64 (a.fdiv (2 ^ min b.toNat 64))):=by
 have h1:¬b<0:=by omega
 simp only[uw,eqGuard,binOp,Op.shift,if_neg h1];rfl
theorem pvU(x:Int):PV.val (.int .u64 (IntKind.u64.wrap x))=.val (.int .u64 (U x:Int)):=by rw[dK]
theorem DU(x:Int):U x<18446744073709551616:=by unfold U;omega
theorem LN(a b:Int):IntKind.i64.wrap (IntKind.u64.wrap ((U a:Int)*2 ^ min ((U b:Int)).toNat 64))=jg a b true:=by
 unfold jg
 rw[Int.toNat_natCast,aK,IntKind.wrap_u64]
 by_cases h:63<U b
 ·rw[if_pos h,Nat.min_eq_right (by omega)]
  have e:(2:Int) ^ 64=18446744073709551616:=by decide
  rw[e,Int.mul_emod_left];unfold wrap64;omega
 rw[if_neg h,Nat.min_eq_left (by omega),if_pos rfl]
 unfold S
 congr 1
theorem L1(a b:Int):IntKind.i64.wrap ((U a:Int).fdiv (2 ^ min ((U b:Int)).toNat 64))=jg a b false:=by
 unfold jg
 have hp:∀n:Nat,(0:Int)≤2 ^ n:=fun n=>Int.pow_nonneg (by omega)
 rw[Int.toNat_natCast,aK,Int.fdiv_eq_ediv_of_nonneg _ (hp _)]
 by_cases h:63<U b
 ·rw[if_pos h,Nat.min_eq_right (by omega)]
  have e:(2:Int) ^ 64=18446744073709551616:=by decide
  have:=DU a
  rw[e,Int.ediv_eq_zero_of_lt (by omega) (by omega)];unfold wrap64;omega
 rw[if_neg h,Nat.min_eq_left (by omega),if_neg (by simp)]
 unfold S
 congr 1
theorem wd(a by_:Int)(up:Bool):ab Tryz.prog 180 [i64 a,i64 by_,boo up] (i64 (jg a by_ up)):=by
 refine pW tG (rs:=[.tmp 6]) Tryz.func180 rfl rfl rfl (by simp) (by simp) (fun B=>?_)
 refine zu1 ?_
 refine zp2 ?_
 refine Wa 9 rfl (pvU by_) ?_
 refine zs1 ?_
 refine Ws ?_
 refine zu1 ?_
 refine Wi rfl (fun hi1=>?_) (fun hi1=>?_)
 ·obtain rfl:=hi1
  refine zp2 ?_
  refine Wa 12 rfl (pvU a) ?_
  refine z1 ?_
  refine Wd rfl rfl (oo rfl rfl rfl (Mi (by omega))) ?_
  refine zs2 ?_
  refine zR ?_
  exact congrArg i64 (LN a by_)
 obtain rfl:=hi1
 refine Wj ?_
 refine zp2 ?_
 refine Wa 17 rfl (pvU a) ?_
 refine z1 ?_
 refine Wd rfl rfl (oo rfl rfl rfl (Nm (by omega))) ?_
 refine zs2 ?_
 refine zR ?_
 exact congrArg i64 (L1 a by_)
theorem eG(a b:Int):gn [47] a b=((two .quo a b).1,true,(two .quo a b).2):=rfl
theorem eB(a b:Int):gn [77,79,68] a b=((two .rem a b).1,true,(two .rem a b).2):=rfl
theorem eJ(a b:Int):gn [43] a b=((two .add a b).1,true,(two .add a b).2):=rfl
theorem eH(a b:Int):gn [45] a b=((two .sub a b).1,true,(two .sub a b).2):=rfl
theorem ey(a b:Int):gn [42] a b=((two .mul a b).1,true,(two .mul a b).2):=rfl
theorem eF(a b:Int):gn [65,78,68] a b=((two .and a b).1,true,(two .and a b).2):=rfl
theorem gW(a b:Int):gn [79,82] a b=((two .or a b).1,true,(two .or a b).2):=rfl
theorem eE(a b:Int):gn [88,79,82] a b=((two .xor a b).1,true,(two .xor a b).2):=rfl
theorem eC(a b:Int):gn [76,83,72,73,70,84] a b=((two .shl a b).1,true,(two .shl a b).2):=rfl
theorem eI(a b:Int):gn [82,83,72,73,70,84] a b=((two .shr a b).1,true,(two .shr a b).2):=rfl
theorem d9(a b:Int):gn [77,73,78] a b=((two .min a b).1,true,(two .min a b).2):=rfl
theorem d8(a b:Int):gn [77,65,88] a b=((two .max a b).1,true,(two .max a b).2):=rfl
theorem KB{s:Str}{a b:Int}(h0:s≠[47])(h1:s≠[77,79,68])(h2:s≠[43])(h3:s≠[45])(h4:s≠[42])(h5:s≠[65,78,68])(h6:s≠[79,82])(h7:s≠[88,79,82])(h8:s≠[76,83,72,73,70,84])(h9:s≠[82,83,72,73,70,84])(h10:s≠[77,73,78])(h11:s≠[77,65,88]):ir (gn s a b)=da (i64 (zp s a b).1) (boo (zp s a b).2) (i64 0):=by
 unfold zp
 by_cases h12:s=[61]
 ·subst h12;rfl
 rw[if_neg h12]
 by_cases h13:s=[60,62]
 ·subst h13;rfl
 rw[if_neg h13]
 by_cases h15:s=[62]
 ·subst h15;rfl
 rw[if_neg h15]
 by_cases h14:s=[60]
 ·subst h14;rfl
 rw[if_neg h14]
 by_cases h16:s=[60,61]
 ·subst h16;rfl
 rw[if_neg h16]
 by_cases h17:s=[62,61]
 ·subst h17;rfl
 rw[if_neg h17]
 by_cases h19:s=[85,62]
 ·subst h19;rfl
 rw[if_neg h19]
 by_cases h18:s=[85,60]
 ·subst h18;rfl
 rw[if_neg h18]
 rw[Ek (Ao h0 h1 h2 h3 h4 h5 h6 h7 h8 h9 h10 h11 h12 h13 h14 h15 h16 h17 h18 h19)];rfl
theorem M5(name:Str)(a b:Int)(hb:Fit b):ab Tryz.prog 141 [str name,i64 a,i64 b] (ir (gn name a b)):=by
 refine pW tG (rs:=[.tmp 6,.tmp 7,.tmp 8]) Tryz.func141 rfl rfl rfl (by simp) (by simp) (fun B=>?_)
 refine zu3 ?_
 refine Ws ?_
 refine zu1 ?_
 refine Wl ?_
 refine Ws ?_
 refine zp1 ?_
 refine zq 16 ?_
 refine zs1 ?_
 refine Wi rfl (fun hi1=>?_) (fun hi1=>?_)
 ·refine Wj ?_
  refine Wt rfl hi1 ?_
  refine zp2 ?_
  refine zc rfl Tryz.func179 ((IV a b hb) _) ?_
  refine zy5 ?_
  refine zs2 ?_
  refine Ws ?_
  refine zp2 ?_
  refine zq 26 ?_
  refine Wn ?_
  refine Wi rfl (fun hi2=>?_) (fun hi2=>?_)
  ·refine aa rfl ?_
   refine zs2 ?_
   refine zu5 ?_
   refine zR ?_
   (exfalso;(try simp only[dnL]at *);simp_all;done)
  refine Wj ?_
  refine zu5 ?_
  refine zR ?_
  ((try simp only[dnL]at *);simp_all[ir,da,i64,boo,aK,two,vw,orS,vA,IntKind.bits,eG,eB,eJ,eH,ey,eF,gW,eE,eC,eI,d9,d8];done)
 refine aa rfl ?_
 refine z1 ?_
 refine zq 17 ?_
 refine zs1 ?_
 refine Wi rfl (fun hi3=>?_) (fun hi3=>?_)
 ·refine zp2 ?_
  refine zc rfl Tryz.func179 ((IV a b hb) _) ?_
  refine zy5 ?_
  refine zs2 ?_
  refine Ws ?_
  refine zp2 ?_
  refine zq 26 ?_
  refine Wn ?_
  refine Wi rfl (fun hi2=>?_) (fun hi2=>?_)
  ·refine aa rfl ?_
   refine zs2 ?_
   refine zu5 ?_
   refine zR ?_
   ((try simp only[dnL]at *);simp_all[ir,da,i64,boo,aK,two,vw,orS,vA,IntKind.bits,eG,eB,eJ,eH,ey,eF,gW,eE,eC,eI,d9,d8];done)
  refine Wj ?_
  refine zu5 ?_
  refine zR ?_
  (exfalso;(try simp only[dnL]at *);simp_all;done)
 refine zp1 ?_
 refine zq 31 ?_
 refine zs1 ?_
 refine Wi rfl (fun hi4=>?_) (fun hi4=>?_)
 ·refine zp5 ?_
  refine zs1 ?_
  refine zR ?_
  ((try simp only[dnL]at *);simp_all[ir,da,i64,boo,aK,two,vw,orS,vA,IntKind.bits,eG,eB,eJ,eH,ey,eF,gW,eE,eC,eI,d9,d8];done)
 refine zp1 ?_
 refine zq 36 ?_
 refine zs1 ?_
 refine Wi rfl (fun hi5=>?_) (fun hi5=>?_)
 ·refine zp5 ?_
  refine zs1 ?_
  refine zR ?_
  ((try simp only[dnL]at *);simp_all[ir,da,i64,boo,aK,two,vw,orS,vA,IntKind.bits,eG,eB,eJ,eH,ey,eF,gW,eE,eC,eI,d9,d8];done)
 refine zp1 ?_
 refine zq 41 ?_
 refine zs1 ?_
 refine Wi rfl (fun hi6=>?_) (fun hi6=>?_)
 ·refine zp5 ?_
  refine zs1 ?_
  refine zR ?_
  ((try simp only[dnL]at *);simp_all[ir,da,i64,boo,aK,two,vw,orS,vA,IntKind.bits,eG,eB,eJ,eH,ey,eF,gW,eE,eC,eI,d9,d8];done)
 refine zp1 ?_
 refine zq 46 ?_
 refine zs1 ?_
 refine Wi rfl (fun hi7=>?_) (fun hi7=>?_)
 ·refine zp5 ?_
  refine zs1 ?_
  refine zR ?_
  ((try simp only[dnL]at *);subst_vars;exact congrArg (fun z=>da (i64 z) (boo true) (i64 0)) (aK _))
 refine zp1 ?_
 refine zq 51 ?_
 refine zs1 ?_
 refine Wi rfl (fun hi8=>?_) (fun hi8=>?_)
 ·refine zp5 ?_
  refine zs1 ?_
  refine zR ?_
  ((try simp only[dnL]at *);subst_vars;exact congrArg (fun z=>da (i64 z) (boo true) (i64 0)) (aK _))
 refine zp1 ?_
 refine zq 56 ?_
 refine zs1 ?_
 refine Wi rfl (fun hi9=>?_) (fun hi9=>?_)
 ·refine zp5 ?_
  refine zs1 ?_
  refine zR ?_
  ((try simp only[dnL]at *);subst_vars;exact congrArg (fun z=>da (i64 z) (boo true) (i64 0)) (aK _))
 refine Ws ?_
 refine zp1 ?_
 refine zq 61 ?_
 refine zs1 ?_
 refine Wi rfl (fun hi10=>?_) (fun hi10=>?_)
 ·refine Wj ?_
  refine Wt rfl hi10 ?_
  refine zp4 ?_
  refine zq 66 ?_
  refine zc rfl Tryz.func180 ((wd a b _) _) ?_
  refine zs3 ?_
  refine zR ?_
  ((try simp only[dnL]at *);simp_all[ir,da,i64,boo,aK,two,vw,orS,vA,IntKind.bits,eG,eB,eJ,eH,ey,eF,gW,eE,eC,eI,d9,d8];done)
 refine aa rfl ?_
 refine z1 ?_
 refine zq 62 ?_
 refine zs1 ?_
 refine Wi rfl (fun hi11=>?_) (fun hi11=>?_)
 ·refine zp4 ?_
  refine zq 66 ?_
  refine zc rfl Tryz.func180 ((wd a b _) _) ?_
  refine zs3 ?_
  refine zR ?_
  ((try simp only[dnL]at *);simp_all[ir,da,i64,boo,aK,two,vw,orS,vA,IntKind.bits,eG,eB,eJ,eH,ey,eF,gW,eE,eC,eI,d9,d8];done)
 refine zp1 ?_
 refine zq 69 ?_
 refine zs1 ?_
 refine Wi rfl (fun hi12=>?_) (fun hi12=>?_)
 ·refine zp5 ?_
  refine zs1 ?_
  refine zR ?_
  ((try simp only[dnL]at *);simp_all[ir,da,i64,boo,aK,two,vw,orS,vA,IntKind.bits,eG,eB,eJ,eH,ey,eF,gW,eE,eC,eI,d9,d8];done)
 refine zp1 ?_
 refine zq 74 ?_
 refine zs1 ?_
 refine Wi rfl (fun hi13=>?_) (fun hi13=>?_)
 ·refine zp5 ?_
  refine zs1 ?_
  refine zR ?_
  ((try simp only[dnL]at *);simp_all[ir,da,i64,boo,aK,two,vw,orS,vA,IntKind.bits,eG,eB,eJ,eH,ey,eF,gW,eE,eC,eI,d9,d8];done)
 refine Wj ?_
 refine zp3 ?_
 refine zc rfl Tryz.func181 ((Jy name a b) _) ?_
 refine zs5 ?_
 refine zu5 ?_
 refine zR ?_
 ((try simp only[dnL]at *);exact(KB (by assumption) (by assumption) (by assumption) (by assumption) (by assumption) (by assumption) (by assumption) (by assumption) (by assumption) (by assumption) (by assumption) (by assumption)).symm)
def shU(a:Int)(k:Nat)(up:Bool):Nat:=if up then U a*2 ^ k%18446744073709551616 else U a/2 ^ k
theorem Ia(a:Int)(up:Bool):PV.val (.int .u64 (U a:Int))=.val (.int .u64 (shU a 0 up:Int)):=by
 have:=DU a
 unfold shU
 rw[Nat.pow_zero,Nat.mul_one,Nat.div_one,Nat.mod_eq_of_lt this]
 split<;>rfl
theorem Np(a:Int)(k:Nat):PV.val (.int .u64 (IntKind.u64.wrap (2*(shU a k true:Int))))=.val (.int .u64 (shU a (k+1) true:Int)):=by
 refine congrArg (fun z=>PV.val (Value.int .u64 z)) ?_
 have h:shU a (k+1) true=2*shU a k true%18446744073709551616:=by
  unfold shU
  rw[if_pos rfl,if_pos rfl,Nat.mul_mod_mod,Nat.pow_succ]
  congr 1
  rw[Nat.mul_comm 2,Nat.mul_assoc]
 rw[IntKind.wrap_u64,h]
 omega
theorem LK(a:Int)(k:Nat):(shU a k false:Int).tdiv 2=(shU a (k+1) false:Int):=by
 have h:shU a (k+1) false=shU a k false/2:=by
  unfold shU
  rw[if_neg (by simp),if_neg (by simp),Nat.pow_succ,Nat.div_div_eq_div_mul]
 rw[h,Int.tdiv_eq_ediv_of_nonneg (by omega)]
 omega
theorem JL(a:Int)(k:Nat):IntKind.u64.wrap ((shU a k false:Int).tdiv 2)=(shU a (k+1) false:Int):=by
 have h1:shU a (k+1) false≤U a:=by unfold shU;rw[if_neg (by simp)];exact Nat.div_le_self _ _
 have h2:=DU a
 rw[LK,IntKind.wrap_u64]
 omega
theorem MU{a b:Int}{up:Bool}{k:Nat}(h0:0≤b)(h1:b≤63)(hk:(k:Int)=b):wrap64 (shU a k up:Int)=jg a b up:=by
 have hu:U b=k:=by unfold U;omega
 have h63:¬63<k:=by omega
 unfold jg shU
 rw[hu]
 cases up<;>simp[h63,S]
theorem tK{a b:Int}{up:Bool}(hb:Fit b)(h:b<0∨b>63):jg a b up=0:=by
 have hu:63<U b:=by unfold Fit at hb;unfold U;omega
 unfold jg
 rw[if_pos hu]
theorem se(a by_:Int)(up:Bool)(hb:Fit by_):ab Tryz.prog 269 [i64 a,i64 by_,boo up] (i64 (jg a by_ up)):=by
 refine pW tG (rs:=[.tmp 6]) Tryz.func269 rfl rfl rfl (by simp) (by simp) (fun B=>?_)
 refine zu1 ?_
 refine Ws ?_
 refine zp3 ?_
 refine Wb 11 rfl (fun hg1=>?_) (fun hg1=>?_)
 ·refine z6 ?_
  refine z6 ?_
  refine zs1 ?_
  refine Wt rfl rfl ?_
  refine zu1 ?_
  refine zR ?_
  exact congrArg i64 (tK hb (by(try simp only[dnL]at *);omega)).symm
 refine zs3 ?_
 refine Wi rfl (fun hi1=>?_) (fun hi1=>?_)
 ·refine zu1 ?_
  refine zR ?_
  exact congrArg i64 (tK hb (by(try simp only[dnL]at *);omega)).symm
 refine Wj ?_
 refine zp2 ?_
 refine Wa 16 rfl ((pvU a).trans (Ia a up)) ?_
 refine zs1 ?_
 refine Ws ?_
 refine zu1 ?_
 refine Wl ?_
 show W _ _ _ _ _ _ _
 refine bG (fun(k:Nat)=>[(1,i64 by_),(2,boo up),(7,.val (.int .u64 (shU a k up:Int))),(8,i64 k)]) (fun(k:Nat)=>[]) (fun(k:Nat)=>[]) (fun(k:Nat)=>(k:Int)≤by_∧by_≤63) (fun(k:Nat)=>by_.toNat-k) (0) (by(try simp only[dnL]at *);omega) [] ?_ ?_
 ·exact bu
 intro k hk
 refine Ws ?_
 refine zu3 ?_
 refine Wi rfl (fun hi2=>?_) (fun hi2=>?_)
 ·refine Wj ?_
  refine Ws ?_
  refine Wl ?_
  refine zu1 ?_
  refine Wi rfl (fun hi3=>?_) (fun hi3=>?_)
  ·obtain rfl:=hi3
   refine aa rfl ?_
   refine zy2 ?_
   refine Wa 24 rfl (Np a k) ?_
   refine zs1 ?_
   refine aa rfl ?_
   refine zs3 ?_
   exact⟨k+1,[],(by(try simp only[dnL]at *);omega),(by(try simp only[dnL]at *);omega),bu⟩
  obtain rfl:=hi3
  refine aa rfl ?_
  refine zy2 ?_
  refine Wa 26 rfl (congrArg (fun z=>PV.val (Value.int .u64 z)) (JL a k)) ?_
  refine zs1 ?_
  refine aa rfl ?_
  refine zs3 ?_
  exact⟨k+1,[],(by(try simp only[dnL]at *);omega),(by(try simp only[dnL]at *);omega),bu⟩
 refine aN ?_
 refine zu3 ?_
 refine zR ?_
 exact congrArg i64 ((aK _).trans (MU (by(try simp only[dnL]at *);omega) (by(try simp only[dnL]at *);omega) (by(try simp only[dnL]at *);omega)))
theorem Ce(x lo hi:Int):ab Tryz.prog 276 [i64 x,i64 lo,i64 hi] (boo (decide (U (wrap64 (x-lo))<U (wrap64 (hi-lo))))):=by
 refine pW tG (rs:=[.tmp 6]) Tryz.func276 rfl rfl rfl (by simp) (by simp) (fun B=>?_)
 refine zu1 ?_
 refine zp5 ?_
 refine zy5 ?_
 refine zs2 ?_
 refine zR ?_
 exact congrArg boo (by rw[Bool.eq_iff_iff];simp only[decide_eq_true_eq,IntKind.wrap_u64];unfold U wrap64;omega)
theorem I2(p:ca)(n:Int)(hp:p.b.length≤1000000):ab Tryz.prog 255 [jY p,i64 n] (xz (iZ p n)):=by
 refine pW tG (rs:=[.cell 4 32,.tmp 5]) Tryz.func255 rfl rfl rfl (by simp) (by simp) (fun B=>?_)
 refine zu3 ?_
 refine Ws ?_
 refine zu2 ?_
 refine Wi rfl (fun hi1=>?_) (fun hi1=>?_)
 ·have h0:0≤n:=by(try simp only[dnL]at *);omega
  refine zu3 ?_
  refine zR ?_
  rw[iZ,if_pos h0];rfl
 have h0:¬0≤n:=by(try simp only[dnL]at *);omega
 refine Wj ?_
 refine zp1 ?_
 refine zc rfl Tryz.func254 ((vn p 45 hp) _) ?_
 refine zs4 ?_
 refine zR ?_
 rw[iZ,if_neg h0];rfl
theorem Ju(p:ca)(n:Int)(hp:p.b.length≤1000000):ab Tryz.prog 293 [jY p,i64 n] (xz (iZ p n)):=by
 refine pW tG (rs:=[.cell 4 32,.tmp 5]) Tryz.func293 rfl rfl rfl (by simp) (by simp) (fun B=>?_)
 refine zu3 ?_
 refine Ws ?_
 refine zu2 ?_
 refine Wi rfl (fun hi1=>?_) (fun hi1=>?_)
 ·have h0:0≤n:=by(try simp only[dnL]at *);omega
  refine zu3 ?_
  refine zR ?_
  rw[iZ,if_pos h0];rfl
 have h0:¬0≤n:=by(try simp only[dnL]at *);omega
 refine Wj ?_
 refine zp1 ?_
 refine zc rfl Tryz.func292 ((uj p 45 hp) _) ?_
 refine zs4 ?_
 refine zR ?_
 rw[iZ,if_neg h0];rfl
def uY(p:ca)(lo hi base:Int):ca×Int:=eT p (kS (dh lo (dh hi 0 base).2.1 base).2.1)
def aw(p:ca)(lo hi base:Int):ca×Int×Int×Int :=
 if base<2∨36<base then(p,lo,hi,-24)else
  if (uY p lo hi base).2=0 then((uY p lo hi base).1,(dh lo (dh hi 0 base).2.1 base).1,(dh hi 0 base).1,0)else(p,lo,hi,(uY p lo hi base).2)
def Fm(r:ca×Int×Int×Int):PV:=uZ (jY r.1) (i64 r.2.1) (i64 r.2.2.1) (i64 r.2.2.2)
@[simp] theorem Q6 (r : ca × Int × Int × Int) : aQ (Fm r) := by simp [Fm]
theorem wQ(n:Int):IntKind.i64.wrap (kS n)=kS n:=by rw[aK];unfold kS wrap64;split<;>(try split)<;>omega
theorem vW(p:ca)(lo hi base:Int)(hp:p.b.length≤1000000):ab Tryz.prog 251 [jY p,i64 lo,i64 hi,i64 base] (Fm (aw p lo hi base)):=by
 refine pW tG (rs:=[.cell 8 32,.tmp 9,.tmp 10,.tmp 11]) Tryz.func251 rfl rfl rfl (by simp) (by simp) (fun B=>?_)
 refine zu5 ?_
 refine Ws ?_
 refine zp3 ?_
 refine Wb 22 rfl (fun hg1=>?_) (fun hg1=>?_)
 ·refine z6 ?_
  refine z6 ?_
  refine zs1 ?_
  refine Wt rfl rfl ?_
  refine zp5 ?_
  refine zs2 ?_
  refine zR ?_
  rw[aw,if_pos (by(try simp only[dnL]at *);omega)];rfl
 refine zs3 ?_
 refine Wi rfl (fun hi1=>?_) (fun hi1=>?_)
 ·have hb:base<2∨36<base:=by(try simp only[dnL]at *);omega
  refine zp5 ?_
  refine zs2 ?_
  refine zR ?_
  rw[aw,if_pos hb];rfl
 have hb:¬(base<2∨36<base):=by(try simp only[dnL]at *);omega
 refine Wj ?_
 refine zp2 ?_
 refine zc rfl Tryz.func194 ((BP hi 0 base) _) ?_
 refine zy5 ?_
 refine zs2 ?_
 refine zp3 ?_
 refine zc rfl Tryz.func194 ((BP lo _ base) _) ?_
 refine zy5 ?_
 refine zs2 ?_
 refine Ws ?_
 refine ai [1,0,0,0,0,0,0,0,2,3,0] [0,1,2,3,4,5,6,7,8,9,10] mG rfl (by kernel_rfl) ?_
 refine z5 ?_
 refine z3 ?_
 refine Xc rfl rfl rfl rfl (fun _=>dC rfl Tryz.func321 rfl rfl ((LB _) _)) ?_
 refine z3 ?_
 refine Xa 48 rfl (congrArg (fun z=>PV.val (Value.int .i64 z)) (wQ _)) ?_
 refine Xc rfl rfl rfl rfl (fun _=>dC rfl Tryz.func254 rfl rfl ((vn p _ hp) _)) ?_
 iterate 3 refine z3 ?_
 refine kw tG rfl rfl rfl rfl rfl trivial rfl ?_
 refine aZ tG rfl rfl rfl rfl rfl trivial ?_
 refine z3 ?_
 refine ah ?_
 refine Ws ?_
 refine zu2 ?_
 refine Wi rfl (fun hi2=>?_) (fun hi2=>?_)
 ·have h0:¬(uY p lo hi base).2=0:=by(try simp only[dnL]at *);exact hi2
  refine zp5 ?_
  refine zs3 ?_
  refine zR ?_
  rw[aw,if_neg hb,if_neg h0];rfl
 have h0:(uY p lo hi base).2=0:=by(try simp only[dnL]at *);exact hi2
 refine Wj ?_
 refine zp5 ?_
 refine zs2 ?_
 refine zR ?_
 rw[aw,if_neg hb,if_pos h0];rfl
theorem Fp{t:TypeId}{x y:Operand}{a b:Int}(h:b≠0):uw .quo t x y (.int .u64 a) (.int .u64 b)=some (.int .u64 (IntKind.u64.wrap (a.tdiv b))):=by
 simp only[uw,eqGuard,binOp,Op.intDiv]
 rw[if_neg h];rfl
theorem EC{t:TypeId}{x y:Operand}{a b:Int}(h:b≠0):uw .rem t x y (.int .u64 a) (.int .u64 b)=some (.int .u64 (a.tmod b)):=by
 simp only[uw,eqGuard,binOp,Op.intDiv]
 rw[if_neg h];rfl
theorem NI{hi base:Int}(h:2≤base∧base≤36):dh hi 0 base=(S (U hi/U base),S (U hi%U base),0):=by
 have h0:U 0=0:=rfl
 have h1:U base≠0:=by unfold U;omega
 unfold dh PU
 rw[h0,if_neg (by omega),if_neg (by omega),Nat.zero_mul,Nat.zero_add]
theorem pC(p:ca)(lo hi base:Int)(hp:p.b.length≤1000000):ab Tryz.prog 290 [jY p,i64 lo,i64 hi,i64 base] (Fm (aw p lo hi base)):=by
 refine pW tG (rs:=[.cell 8 32,.tmp 9,.tmp 10,.tmp 11]) Tryz.func290 rfl rfl rfl (by simp) (by simp) (fun B=>?_)
 refine zu5 ?_
 refine Ws ?_
 refine zp3 ?_
 refine Wb 21 rfl (fun hg1=>?_) (fun hg1=>?_)
 ·refine z6 ?_
  refine z6 ?_
  refine zs1 ?_
  refine Wt rfl rfl ?_
  refine zp5 ?_
  refine zs2 ?_
  refine zR ?_
  rw[aw,if_pos (by(try simp only[dnL]at *);omega)];rfl
 refine zs3 ?_
 refine Wi rfl (fun hi1=>?_) (fun hi1=>?_)
 ·have hb:base<2∨36<base:=by(try simp only[dnL]at *);omega
  refine zp5 ?_
  refine zs2 ?_
  refine zR ?_
  rw[aw,if_pos hb];rfl
 have hb:¬(base<2∨36<base):=by(try simp only[dnL]at *);omega
 have hB:2≤base∧base≤36:=by omega
 have hu:((U base:Nat):Int)≠0:=by unfold U;omega
 have e1:IntKind.i64.wrap (((U hi%U base:Nat):Nat):Int)=(dh hi 0 base).2.1:=by rw[NI hB,aK];rfl
 have e2:IntKind.i64.wrap (((U hi/U base:Nat):Nat):Int)=(dh hi 0 base).1:=by rw[NI hB,aK];rfl
 have e3:IntKind.u64.wrap ((U hi:Int).tdiv (U base:Int))=((U hi/U base:Nat):Int):=by rw[Int.tdiv_eq_ediv_of_nonneg (by omega),←Int.natCast_ediv,dK];have h5:=Nat.lt_of_le_of_lt (Nat.div_le_self (U hi) (U base)) (DU hi);generalize U hi/U base=q at h5 ⊢;unfold U;omega
 have e4:(U hi:Int).tmod (U base:Int)=((U hi%U base:Nat):Int):=by rw[Int.tmod_eq_emod_of_nonneg (by omega),←Int.natCast_emod]
 refine Wj ?_
 refine zp2 ?_
 refine Wa 29 rfl (pvU base) ?_
 refine zs1 ?_
 refine zp2 ?_
 refine Wa 31 rfl (pvU hi) ?_
 refine z1 ?_
 refine Wd rfl rfl (oo rfl rfl rfl (Fp hu)) ?_
 refine Wa 33 rfl (congrArg (fun z=>PV.val (Value.int .u64 z)) e3) ?_
 refine zs1 ?_
 refine zp3 ?_
 refine Wa 37 rfl (pvU hi) ?_
 refine z1 ?_
 refine Wd rfl rfl (oo rfl rfl rfl (EC hu)) ?_
 refine Wa 39 rfl (congrArg (fun z=>PV.val (Value.int .u64 z)) e4) ?_
 refine z1 ?_
 refine Wa 40 rfl (congrArg (fun z=>PV.val (Value.int .i64 z)) e1) ?_
 refine z1 ?_
 refine zc rfl Tryz.func273 ((Ie lo _ base) _) ?_
 refine zy5 ?_
 refine zs2 ?_
 refine Ws ?_
 refine ai [1,0,0,0,0,0,0,0,2,3,0] [0,1,2,3,4,5,6,7,8,9,10] mG rfl (by kernel_rfl) ?_
 refine z5 ?_
 refine z3 ?_
 refine Xc rfl rfl rfl rfl (fun _=>dC rfl Tryz.func334 rfl rfl ((Me _) _)) ?_
 refine z3 ?_
 refine Xa 50 rfl (congrArg (fun z=>PV.val (Value.int .i64 z)) (wQ _)) ?_
 refine Xc rfl rfl rfl rfl (fun _=>dC rfl Tryz.func292 rfl rfl ((uj p _ hp) _)) ?_
 iterate 3 refine z3 ?_
 refine kw tG rfl rfl rfl rfl rfl trivial rfl ?_
 refine aZ tG rfl rfl rfl rfl rfl trivial ?_
 refine z3 ?_
 refine ah ?_
 refine Ws ?_
 refine zu2 ?_
 refine Wi rfl (fun hi2=>?_) (fun hi2=>?_)
 ·have h0:¬(uY p lo hi base).2=0:=by(try simp only[dnL]at *);exact hi2
  refine zp5 ?_
  refine zs3 ?_
  refine zR ?_
  rw[aw,if_neg hb,if_neg h0];rfl
 have h0:(uY p lo hi base).2=0:=by(try simp only[dnL]at *);exact hi2
 refine Wj ?_
 refine zp4 ?_
 refine Wa 63 rfl (congrArg (fun z=>PV.val (Value.int .i64 z)) e2) ?_
 refine zs4 ?_
 refine zR ?_
 rw[aw,if_neg hb,if_pos h0];rfl
def fK(p:ca):List UInt8×Int:=if p.on then(p.b.reverse,0)else([],-17)
theorem KZ{l:List UInt8}{k:Nat}{s:SK}(hk:k<l.length):PV.seq (l.reverse.take k++[l.getD ((l.length:Int)-1-(k:Int)).toNat 0]).length ((l.reverse.take k++[l.getD ((l.length:Int)-1-(k:Int)).toNat 0]).flatMap av) s=.seq (l.reverse.take (k+1)).length ((l.reverse.take (k+1)).flatMap av) s:=by
 have h:l.getD ((l.length:Int)-1-(k:Int)).toNat 0=l.reverse.getD k 0:=by
  unfold List.getD
  rw[List.getElem?_reverse hk]
  congr 2;omega
 rw[h,←gE l.reverse k 0 (by simpa using hk)]
theorem LJ(p:ca)(hp:p.b.length≤1000000):ab Tryz.prog 294 [jY p] (jl (fK p)):=by
 refine pW tG (rs:=[.tmp 2,.tmp 3]) Tryz.func294 rfl rfl rfl (by simp) (by simp) (fun B=>?_)
 refine zu3 ?_
 refine Ws ?_
 refine zu3 ?_
 refine Wi rfl (fun hi1=>?_) (fun hi1=>?_)
 ·have h0:¬p.on=true:=by simpa using hi1
  refine zu2 ?_
  refine zR ?_
  rw[fK,if_neg h0];rfl
 have h0:p.on=true:=by simpa using hi1
 refine Wj ?_
 refine zp1 ?_
 refine ns 4 0 1 rfl rfl ?_
 refine Wn ?_
 refine Ws ?_
 refine zu5 ?_
 refine Wl ?_
 show W _ _ _ _ _ _ _
 refine bG (fun(k:Nat)=>[(1,.ptr 0 0),(4,.seq (p.b.reverse.take k).length ((p.b.reverse.take k).flatMap av) (.own 2 1)),(5,i64 ((p.b.length:Int)-1-(k:Int)))]) (fun(k:Nat)=>[.cells (m0 p) 32,.dead]) (fun(k:Nat)=>[.free ((p.b.reverse.take k).length*1)]) (fun(k:Nat)=>k≤p.b.length) (fun(k:Nat)=>p.b.length-k) (0) (by omega) [1] ?_ ?_
 ·exact bu
 intro k hk
 refine Ws ?_
 refine zu2 ?_
 refine Wi rfl (fun hi2=>?_) (fun hi2=>?_)
 ·have hlt:k<p.b.length:=by have:=oT hi2;omega
  refine Wj ?_
  refine Ws ?_
  refine Wl ?_
  refine aa rfl ?_
  refine zy4 ?_
  refine Wv tG rfl rfl rfl (by omega) (iR av 1 (fun _=>rfl) 0 (by omega)) ?_
  refine zy2 ?_
  refine Wa 23 rfl (bsL av [_] rfl rfl) ?_
  refine Wd rfl rfl (aF (lO tG rfl) rfl (lO tG rfl) (lO tG rfl) rfl rfl rfl rfl (by simp) (by exact⟨_,rfl⟩) (by exact⟨rfl,rfl,ag _ 1 (fun _=>rfl) _,aB _ (fun _=>rfl) _⟩) (by((simp_all;omega))) (by((simp_all;omega)))) ?_
  refine Wa 24 rfl (aM av) ?_
  refine z1 ?_
  skip
  refine Wn ?_
  refine aa rfl ?_
  refine zs3 ?_
  exact⟨k+1,[3],(by omega),(by omega),(bu (sub:=by repeat (first|exact bo|refine aX (by first|exact aH rfl|exact aH (KZ hlt)|exact aH (congrArg i64 (by(rw[aK];unfold wrap64;omega)))) ?_)))⟩
 have hge:p.b.length≤k:=by have:=oF hi2;omega
 refine aN ?_
 refine zp1 ?_
 refine Wd rfl rfl (bI (lO tG rfl) rfl (lO tG rfl) rfl (lO tG rfl) rfl rfl rfl) ?_
 refine zs2 ?_
 refine zR ?_
 rw[fK,if_pos h0,bk _ k (by simp;omega)];rfl
end Go.Proofs.YtiibjcnedbncjaaGreatDoor
namespace Go.Proofs.YtiibjcnedbncjaaGreatDoor
def ao:List Str:=[[40,101,120,105,116,41],[40,108,105,116,41],[40,98,114,97,110,99,104,41],[40,48,98,114,97,110,99,104,41],[40,100,111,41],[40,63,100,111,41],[40,108,111,111,112,41],[40,43,108,111,111,112,41],[40,104,97,108,116,41],[40,99,97,117,103,104,116,41],[40,100,111,101,115,41],[40,115,116,114,41],[69,88,69,67,85,84,69],[67,65,84,67,72],[84,72,82,79,87],[73],[74],[85,78,76,79,79,80],[62,82],[82,62],[82,64],[50,62,82],[50,82,62],[68,85,80],[68,82,79,80],[83,87,65,80],[79,86,69,82],[82,79,84],[45,82,79,84],[78,73,80],[84,85,67,75],[63,68,85,80],[50,68,85,80],[50,68,82,79,80],[50,83,87,65,80],[50,79,86,69,82],[80,73,67,75],[82,79,76,76],[68,69,80,84,72],[43],[45],[42],[47],[77,79,68],[65,78,68],[79,82],[88,79,82],[76,83,72,73,70,84],[82,83,72,73,70,84],[77,73,78],[77,65,88],[61],[60,62],[60],[62],[60,61],[62,61],[85,60],[85,62],[78,69,71,65,84,69],[65,66,83],[73,78,86,69,82,84],[49,43],[49,45],[50,42],[50,47],[48,61],[48,60],[48,60,62],[48,62],[67,69,76,76,83],[67,69,76,76,43],[65,76,73,71,78,69,68],[47,77,79,68],[42,47],[42,47,77,79,68],[85,77,42],[85,77,47,77,79,68],[77,42],[83,77,47,82,69,77],[70,77,47,77,79,68],[83,62,68],[87,73,84,72,73,78],[64],[33],[43,33],[67,64],[67,33],[50,64],[50,33],[70,73,76,76],[77,79,86,69],[67,79,85,78,84],[72,69,82,69],[65,76,76,79,84],[44],[67,44],[65,76,73,71,78],[66,65,83,69],[83,84,65,84,69],[84,82,85,69],[70,65,76,83,69],[66,76],[68,69,67,73,77,65,76],[72,69,88],[69,77,73,84],[67,82],[83,80,65,67,69],[83,80,65,67,69,83],[84,89,80,69],[46],[85,46],[60,35],[35],[35,83],[72,79,76,68],[83,73,71,78],[35,62],[62,66,79,68,89],[65,66,79,82,84],[80,79,83,84],[65,70,84,69,82],[69,86,69,82,89],[67,65,78,67,69,76],[65,82,71],[83,69,76,70],[78,79,87],[83,69,84,45,83,84,65,84,69],[65,84,45,83,84,65,84,69],[71,69,84,45,83,84,65,84,69]]
def lH:List Str:=[[58],[59],[67,82,69,65,84,69],[68,79,69,83,62],[86,65,82,73,65,66,76,69],[67,79,78,83,84,65,78,84],[73,77,77,69,68,73,65,84,69],[39],[91,39,93],[67,72,65,82],[91,67,72,65,82,93],[76,73,84,69,82,65,76],[80,79,83,84,80,79,78,69],[82,69,67,85,82,83,69],[73,70],[69,76,83,69],[84,72,69,78],[66,69,71,73,78],[87,72,73,76,69],[82,69,80,69,65,84],[85,78,84,73,76],[65,71,65,73,78],[68,79],[63,68,79],[76,79,79,80],[43,76,79,79,80],[76,69,65,86,69],[83,34],[46,34],[40],[92],[91],[93],[70,79,82,71,69,84],[77,65,67,72,73,78,69],[79,78,58],[69,88,73,84]]
theorem jq:ao.length=130:=by decide +kernel
theorem i5:lH.length=37:=by decide +kernel
open Go.RowKit
theorem nL:ab Tryz.prog 54 [] (sq fP ao):=by
 refine pW tG (rs:=[.tmp 0]) Tryz.func54 rfl rfl rfl (by simp) (by simp) (fun B=>?_)
 refine zu1 ?_
 refine zp1 ?_
 refine Wa 1 rfl (bsL fP [_,_,_,_,_,_,_,_,_,_,_,_,_,_,_,_,_,_,_,_,_,_,_,_,_,_,_,_,_,_,_,_,_,_,_,_,_,_,_,_,_,_,_,_,_,_,_,_,_,_,_,_,_,_,_,_,_,_,_,_,_,_,_,_,_,_,_,_,_,_,_,_,_,_,_,_,_,_,_,_,_,_,_,_,_,_,_,_,_,_,_,_,_,_,_,_,_,_,_,_,_,_,_,_,_,_,_,_,_,_,_,_,_,_,_,_,_,_,_,_,_,_,_,_,_,_,_,_,_,_] rfl rfl) ?_
 refine zs1 ?_
 refine zR ?_
 exact rfl
def c0(w:World):Cx:=cx (fun _ _=>False) [] (fun _=>none) w
theorem wr0(w:World)(b off:Nat):¬(c0 w).Wr b off:=by
 rintro(h|⟨i,oi,h1,_⟩)
 ·exact h
 simp at h1
def kV(w:World):List (TypeId×Nat)→List Value→Prop
 | [],cs=>cs=[]
 | (t,n)::l,cs=>∃a b,cs=a++b∧a.length=n∧Rd w t a∧kV w l b
def tD(fs:List Field)(k:Nat):List (TypeId×Nat)→Bool
 | []=>fs.isEmpty
 | (t,n)::l=>match fs with
  | []=>false
  | f::fs=>f.type==t&&f.offset==k&&tD fs (k+n) l
def s9(P:Program):List (TypeId×Nat)→Bool
 | []=>true
 | (t,n)::l=>P.cellsOf t==n&&s9 P l
def AR:List (TypeId×Nat)→Nat
 | []=>0
 | (_,n)::l=>n+AR l
theorem kM{w:World}{t:TypeId}{cs:List Value}{fs:Array Field}(ht:Tryz.prog.underlying t=some (.struct fs))(l:List (TypeId×Nat))(h1:tD fs.toList 0 l=true)(h2:s9 Tryz.prog l=true)(h3:Tryz.prog.cellsOf t=AR l)(h:Rd w t cs):kV w l cs:=by
 have hl:=PY ht h
 rw[h3]at hl
 have hf:=JF ht h
 have key:∀(l:List (TypeId×Nat)) (fs':List Field) (j k:Nat),(∀i,fs'[i]?=fs.toList[j+i]?)→tD fs' k l=true→s9 Tryz.prog l=true→cs.length=k+AR l→kV w l (cs.drop k):=by
  intro l
  induction l with
  | nil =>
   intro fs' j k _ _ _ h4
   show cs.drop k=[]
   rw[List.drop_eq_nil_iff];simp[AR]at h4;omega
  | cons q l ih =>
   obtain⟨t',n⟩:=q
   intro fs' j k hg h4 h5 h6
   cases fs' with
   | nil=>simp[tD]at h4
   | cons f fs' =>
    simp only[tD,Bool.and_eq_true,beq_iff_eq]at h4
    simp only[s9,Bool.and_eq_true,beq_iff_eq]at h5
    simp only[AR]at h6
    obtain⟨⟨rfl,rfl⟩,h4⟩:=h4
    have hfj:=hg 0
    simp only[List.getElem?_cons_zero,Nat.add_zero]at hfj
    have r:=hf j f (by simpa using hfj.symm)
    rw[h5.1]at r
    refine⟨_,_,(List.take_append_drop n (cs.drop f.offset)).symm,by simp;omega,r,?_⟩
    rw[List.drop_drop]
    exact ih fs' (j+1) (f.offset+n) (fun i=>by have:=hg (i+1);simpa[Nat.add_assoc,Nat.add_comm 1 i]using this) h4 h5.2 (by omega)
 have:=key l fs.toList 0 0 (fun i=>by simp) h1 h2 (by omega)
 simpa using this
theorem ue{w:World}{t:TypeId}{cs:List Value}{k:IntKind}(ht:Tryz.prog.underlying t=some (.int k))(h:Rd w t cs):∃n,(Lit.int k n).wf=true∧an (c0 w) [.val (.int k n)] cs:=by
 obtain⟨n,rfl,hw⟩:=OX ht h
 exact⟨n,hw,am.2 ⟨aD _ _,ax.2 rfl⟩⟩
theorem Aw{w:World}{t:TypeId}{cs:List Value}(ht:Tryz.prog.underlying t=some .bool)(h:Rd w t cs):∃b,an (c0 w) [.val (.bool b)] cs:=by
 obtain⟨n,rfl⟩:=MG ht h
 exact⟨n,am.2 ⟨aD _ _,ax.2 rfl⟩⟩
theorem vJ{w:World}{t:TypeId}{cs:List Value}(ht:Tryz.prog.underlying t=some .string)(h:Rd w t cs):∃s:ByteArray,s.size≤maxLen∧an (c0 w) [.val (.string s)] cs:=by
 obtain⟨n,rfl,hw⟩:=EL ht h
 exact⟨n,hw,am.2 ⟨aD _ _,ax.2 rfl⟩⟩
theorem fJ{α:Type}(enc:α→List PV)(Ok:α→Prop){w:World}{t e:TypeId}{cs:List Value}(k:Nat)(ht:Tryz.prog.underlying t=some (.slice e))(hk:Tryz.prog.cellsOf e=k)(hk0:0<k)(hel:∀es,Rd w e es→∃x,Ok x∧an (c0 w) (enc x) es)(h:Rd w t cs):
  ∃l:List α,(∀x∈l,Ok x)∧l.length≤maxLen∧an (c0 w) [.seq l.length (l.flatMap enc) .any] cs:=by
 rcases Kg ht h with rfl|⟨a,len,cap,rfl,hlc,hcap,hc⟩
 ·refine⟨[],by simp,by simp,am.2 ⟨?_,ax.2 rfl⟩⟩
  have:=tj (c0 w)
  exact jB _ _ _ _ _ this
 rw[hk]at hc
 have build:∀n,n≤len→a.spot=none→∃(l:List α) (vs:List Value),l.length=n∧(∀x∈l,Ok x)∧an (c0 w) (l.flatMap enc) vs∧vs.length=n*k∧∀j,j<n*k→w.cell? ⟨a.block,a.off+j,none⟩=vs[j]?:=by
  intro n hn hs
  induction n with
  | zero=>exact⟨[],[],rfl,by simp,ax.2 rfl,by simp,fun j hj=>by simp at hj⟩
  | succ n ih =>
   obtain⟨l,vs,h1,h2,h3,h4,h5⟩:=ih (by omega)
   obtain⟨es,h6,h7⟩:=hc n (by omega)
   obtain⟨_,h8,h9⟩:=World.cells?_some h6
   obtain⟨x,hx,hr⟩:=hel es h7
   refine⟨l++[x],vs++es,by simp[h1],?_,?_,by rw[List.length_append,h4,h8,Nat.succ_mul],fun j hj=>?_⟩
   ·intro y hy;rcases List.mem_append.1 hy with hy|hy
    ·exact h2 y hy
    simp at hy;subst hy;exact hx
   ·rw[List.flatMap_append];refine an.append h3 ?_;simpa using hr
   by_cases hj':j<n*k
   ·rw[List.getElem?_append_left (by omega)];exact h5 j hj'
   rw[List.getElem?_append_right (by omega),h4]
   rw[Nat.succ_mul]at hj
   rw[←h9 (j-n*k) (by omega)]
   have e:(a.add (n*k)).add (j-n*k)=⟨a.block,a.off+j,none⟩:=by
    obtain⟨b,o,sp⟩:=a
    simp only at hs
    subst hs
    rw[Addr.add_lit,Addr.add_lit]
    have:o+n*k+(j-n*k)=o+j:=by omega
    rw[this]
   rw[e]
 by_cases h0:cap=0
 ·have hl0:len=0:=by omega
  subst hl0
  refine⟨[],by simp,by simp,am.2 ⟨?_,ax.2 rfl⟩⟩
  unfold Rep
  exact⟨some a,cap,[],rfl,by simp,(fun h=>by cases h),ax.2 rfl,(fun b hb=>.inr ⟨h0,rfl⟩),trivial⟩
 have hs:a.spot=none:=by
  obtain⟨es,h6,_⟩:=hc 0 (by omega)
  obtain⟨_,h8,h9⟩:=World.cells?_some h6
  have h10:=h9 0 hk0
  simp only[Nat.zero_mul]at h10
  have e:(a.add 0).add 0=a:=by simp[Addr.add]
  rw[e,List.getElem?_eq_getElem (by omega)]at h10
  unfold World.cell? at h10
  cases hsp:a.spot with
  | none=>rfl
  | some q=>rw[hsp]at h10;split at h10<;>simp at h10
 obtain⟨l,vs,h1,h2,h3,h4,h5⟩:=build len (Nat.le_refl _) hs
 refine⟨l,h2,by omega,am.2 ⟨?_,ax.2 rfl⟩⟩
 unfold Rep
 refine⟨some a,cap,vs,by rw[h1],by omega,(fun h=>by cases h),h3,fun b hb=>.inl ?_,trivial⟩
 cases hb
 refine⟨hs,fun j u hj=>⟨?_,wr0 w _ _⟩⟩
 have hjl:=cn hj
 have:=h5 j (by omega)
 rw[hj]at this
 exact this
theorem xi{w:World}{t:TypeId}{v:Value}{xs:List PV}(h:∃cs:Array Value,v=.agg cs∧an (c0 w) xs cs.toList):Rep (c0 w) (.agg xs) v:=by
 obtain⟨cs,rfl,h⟩:=h
 unfold Rep
 exact⟨cs.toList,by simp,h⟩
theorem Fc(n:Nat)(h0:0<n)(hn:n≤1000000)(w:World):Calls Tryz.prog 151 #[.slice none 0 0,.int .i64 n] w fun e w' =>
  ∃cs:Array Value,e=.returned (.slice (some ⟨w.heap.size,0,none⟩) 0 (grownCap w n 0 3))∧w'=w.drew.alloc (.cells cs 3)∧grownCap w n 0 3≤cs.size:=by
 have h1:¬((n:Int)<0):=by omega
 have h3:wrap64 ((n:Int)-0)=(n:Int):=by unfold wrap64;omega
 have h4:(n:Int)>0:=by omega
 have fe:ap Tryz.prog 3 ⟨1,8,[.val (.int .i64 0)],.int .i64⟩:=lO (G:=tys) tG rfl
 have fs:ap Tryz.prog 28 ⟨1,24,[.seq 0 [] .clip],.slice 3⟩:=lO (G:=tys) tG rfl
 obtain⟨i,z,hi,hsz,hby,hz,hzr⟩:=fe.info
 have hr:=fun ty=>Lib.run_append_nil_zeros (P:=Tryz.prog) w 28 3 ty 3 i z .i64 .i64 (fs.slice rfl) (by kernel_rfl) hi hz n h0 (by rw[hsz];exact Nat.one_pos) (by omega) (by rw[hby];show n*8≤_;omega)
 have hGn:n≤grownCap w n 0 3:=grownCap_ge w _ _ _
 have hzl:z.cells.size=1:=by have:=an.length (hzr (c0 w));rw[Array.length_toList]at this;rw[this];rfl
 have hG63:grownCap w n 0 3≤9223372036854775807:=by
  have:=grownCap_le_maxLen w n 0 3 (by unfold maxLen;omega)
  unfold maxLen at this
  omega
 obtain⟨G,hG⟩:∃G,G=grownCap w n 0 3:=⟨_,rfl⟩
 rw[←hG]at hr hGn hG63 ⊢
 have hcs:∀q:Array Value,q.size=1→G≤(Builtin.zeroCells q n++Builtin.zeroCells q (G-n)).size:=by
  intro q hq
  rw[Array.size_append,size_zeroCells,size_zeroCells,hq];omega
 clear hG
 go_enter Tryz.func151,Tryz.ntmps151
 go_wp2_with (at_builtin;refine Lib.wpList_append_run _ rfl _ _ _ _ rfl _ _ rfl rfl _ _ (hr _) ?_)
 all_goals (go_ret;exact⟨rfl,_,rfl,hcs _ (by first|exact hzl|rfl)⟩)
theorem EM(w:World):Calls Tryz.prog 151 #[.slice none 0 0,.int .i64 0] w fun e w'=>e=.returned (.slice none 0 0)∧w'=w:=by
 go_enter Tryz.func151,Tryz.ntmps151
 go_wp2
 go_ret
 exact⟨rfl,rfl⟩
theorem G0{B:Nat→Nat→Prop}{o:Oper}{T:Nat→PV}{H:List Ob}{x:Operand}{ats:Array TypeId}{n:Nat}(ho:o.op=.call {callee:=.value (.func 151),args:=#[.const (.slice none 0 0),x],argTypes:=ats})(hx:opv T x=.val (.int .i64 (n:Int)))(hn:n≤1000000):
  gA Tryz.prog B o T H (.seq 0 [] (.own H.length 1)) (H++[.free 0]):=by
 intro σ w a s ha
 have k1:=ha x (by rw[ho];simp[Op.operands,Call.operands])
 rw[hx]at k1
 unfold Rep at k1
 refine⟨151,#[.slice none 0 0,.int .i64 n],?_,?_⟩
 ·unfold execOp
  simp only[ho,resolve,Act.eval,Deferred.ofValue,invoke,Sem.run_bind,Sem.run_pure,Result.andThen_ok]
  rw[jW Tryz.func151 rfl rfl]
  have hev:a.eval x=.int .i64 n:=k1
  simp[Act.eval]at hev ⊢
  exact hev
 by_cases h0:n=0
 ·subst h0
  refine Calls.mono (EM w) ?_
  rintro e w' ⟨rfl,rfl⟩
  obtain⟨s',st⟩:=fp s (bg.refl w') (.free 0) none (fun b hb=>by cases hb) (fun b hb=>by simp only[cx]at hb;rw[bF]at hb;cases hb)
  refine⟨_,_,rfl,?_,s',st⟩
  unfold Rep
  exact⟨none,0,[],rfl,Nat.le_refl _,fun _=>⟨rfl,rfl,rfl⟩,ax.2 rfl,(fun b h=>by cases h),by simp[cx],rfl,.inl rfl⟩
 refine Calls.mono (Fc n (by omega) hn w) ?_
 rintro e w' ⟨cs,rfl,rfl,hcs⟩
 have gr:bg w (w.drew.alloc (.cells cs 3)):=(bg.drew w).trans (bg.alloc _ _)
 have hheap:(w.drew.alloc (.cells cs 3)).heap[w.heap.size]?=some (Obj.cells cs 3 (0,0)):=by
  show(w.heap.push _)[w.heap.size]?=_;simp
 obtain⟨s',st⟩:=fp s gr (.free 0) (some w.heap.size) (fun b hb=>by cases hb;exact Nat.le_refl _) (fun b hb=>by
  simp only[cx]at hb;rw[bF]at hb;cases hb
  exact⟨_,3,hheap,Nat.zero_le _⟩)
 refine⟨_,_,rfl,sk (vs:=[]) (ax.2 rfl) (by simp) (bF _ _ _) hheap rfl (Nat.zero_le _) (by rw[Nat.mul_one];exact hcs) (fun j hj=>by simp at hj) (fun off hoff=>by simp at hoff),s',st⟩
def vB(l:List Int):List PV:=[sq af l]
@[simp] theorem Fi (x : List Int) : aL (vB x) := by simp [vB, aL]
@[simp] theorem Rh (l : List (List Int)) : aQ (sq vB l) := fO Fi l
theorem Tx{a b:Nat}(ha:a≤500000)(hb:b≤500000):PV.val (.int .i64 (IntKind.i64.wrap (IntKind.i64.wrap (0+(a:Int))+(b:Int))))=.val (.int .i64 ((a+b:Nat):Int)) :=
 congrArg (fun z=>PV.val (Value.int .i64 z)) (by simp only[aK];unfold wrap64;omega)
theorem DA(a b:List Int)(ha:a.length≤500000)(hb:b.length≤500000):ab Tryz.prog 102 [sq vB [a,b]] (sq af (a++b)):=by
 refine pW tG (rs:=[.tmp 2]) Tryz.func102 rfl rfl rfl (by simp) (by simp) (fun B=>?_)
 refine zu1 ?_
 refine zu1 ?_
 refine Ws ?_
 refine zu3 ?_
 refine Wl ?_
 refine ia 3 ?_
 show W _ _ _ _ _ _ _
 refine zu1 ?_
 refine Ws ?_
 refine Wt rfl (by rfl) ?_
 refine Wj ?_
 refine Ws ?_
 refine Wl ?_
 refine z8 ?_
 refine Wv tG rfl rfl rfl (by(simp_all;done)) (iN vB 1 (fun _=>rfl) [] (by(simp_all;done))) ?_
 refine z1 ?_
 refine Wa 14 rfl (show _=sq af a from rfl) ?_
 refine zs1 ?_
 refine zu5 ?_
 refine zu2 ?_
 refine Wf rfl (by(simp only[aK,decide_eq_false_iff_not];unfold wrap64;omega)) ?_
 refine Wj ?_
 refine aa rfl ?_
 refine z1 ?_
 refine Wa 22 rfl (show _=PV.val (.int .i64 1) from rfl) ?_
 refine zs1 ?_
 show W _ _ _ _ _ _ _
 refine zu1 ?_
 refine Ws ?_
 refine Wt rfl (by rfl) ?_
 refine Wj ?_
 refine Ws ?_
 refine Wl ?_
 refine z8 ?_
 refine Wv tG rfl rfl rfl (by(simp_all;done)) (iN vB 1 (fun _=>rfl) [] (by(simp_all;done))) ?_
 refine z1 ?_
 refine Wa 14 rfl (show _=sq af b from rfl) ?_
 refine zs1 ?_
 refine zu5 ?_
 refine zu2 ?_
 refine Wf rfl (by(simp only[aK,decide_eq_false_iff_not];unfold wrap64;omega)) ?_
 refine Wj ?_
 refine aa rfl ?_
 refine z1 ?_
 refine Wa 22 rfl (show _=PV.val (.int .i64 2) from rfl) ?_
 refine zs1 ?_
 show W _ _ _ _ _ _ _
 refine zu1 ?_
 refine Ws ?_
 refine Wf rfl (by rfl) ?_
 refine aN ?_
 refine zp1 ?_
 refine Wa 23 rfl (Tx ha hb) ?_
 refine Wc rfl rfl (G0 rfl rfl (by omega)) ?_
 refine zs1 ?_
 refine Ws ?_
 refine zu3 ?_
 refine Wl ?_
 refine ia 3 ?_
 show W _ _ _ _ _ _ _
 refine zu1 ?_
 refine Ws ?_
 refine Wt rfl (by rfl) ?_
 refine Wj ?_
 refine Ws ?_
 refine Wl ?_
 refine z8 ?_
 refine Wv tG rfl rfl rfl (by(simp_all;done)) (iN vB 1 (fun _=>rfl) [] (by(simp_all;done))) ?_
 refine z1 ?_
 refine Wa 30 rfl (show _=sq af a from rfl) ?_
 refine zs1 ?_
 refine aa rfl ?_
 refine zy2 ?_
 refine Wd rfl rfl (aF (lO tG rfl) rfl (lO tG rfl) (lO tG rfl) rfl rfl rfl rfl (by simp) (by exact⟨_,rfl⟩) (by exact⟨rfl,rfl,ag _ 1 (fun _=>rfl) _,aB _ (fun _=>rfl) _⟩) (by(dsimp only;omega)) (by(omega))) ?_
 refine Wa 33 rfl (i4 af) ?_
 refine zs1 ?_
 refine aa rfl ?_
 refine z1 ?_
 refine Wa 34 rfl (show _=PV.val (.int .i64 1) from rfl) ?_
 refine zs1 ?_
 show W _ _ _ _ _ _ _
 refine zu1 ?_
 refine Ws ?_
 refine Wt rfl (by rfl) ?_
 refine Wj ?_
 refine Ws ?_
 refine Wl ?_
 refine z8 ?_
 refine Wv tG rfl rfl rfl (by(simp_all;done)) (iN vB 1 (fun _=>rfl) [] (by(simp_all;done))) ?_
 refine z1 ?_
 refine Wa 30 rfl (show _=sq af b from rfl) ?_
 refine zs1 ?_
 refine aa rfl ?_
 refine zy2 ?_
 refine Wd rfl rfl (aF (lO tG rfl) rfl (lO tG rfl) (lO tG rfl) rfl rfl rfl rfl (by simp) (by exact⟨_,rfl⟩) (by exact⟨rfl,rfl,ag _ 1 (fun _=>rfl) _,aB _ (fun _=>rfl) _⟩) (by(dsimp only;omega)) (by(omega))) ?_
 refine Wa 33 rfl (aM af) ?_
 refine zs1 ?_
 refine aa rfl ?_
 refine z1 ?_
 refine Wa 34 rfl (show _=PV.val (.int .i64 2) from rfl) ?_
 refine zs1 ?_
 show W _ _ _ _ _ _ _
 refine zu1 ?_
 refine Ws ?_
 refine Wf rfl (by rfl) ?_
 refine aN ?_
 refine zu2 ?_
 refine zR ?_
 rfl
theorem eL{α:Type}{a b:List α}{k:Nat}(d:α)(hl:a.length=b.length)(hk:k<a.length)(h:a.take k=b.take k)(he:a.getD k d=b.getD k d):a.take (k+1)=b.take (k+1):=by
 rw[gE a k d hk,gE b k d (by omega),h,he]
theorem uD{α:Type}{a b:List α}{k:Nat}(d:α)(he:a.getD k d≠b.getD k d):a≠b:=fun h=>he (by rw[h])
theorem oD(a b:List Int)(ha:a.length≤1000000)(hb:b.length≤1000000):ab Tryz.prog 21 [sq af a,sq af b] (boo (decide (a=b))):=by
 refine pW tG (rs:=[.tmp 4]) Tryz.func21 rfl rfl rfl (by simp) (by simp) (fun B=>?_)
 refine zu1 ?_
 refine Ws ?_
 refine zu5 ?_
 refine Wi rfl (fun hi1=>?_) (fun hi1=>?_)
 ·have hne:a≠b:=fun h=>by subst h;simp at hi1
  refine zu1 ?_
  refine zR ?_
  exact congrArg boo (decide_eq_false hne).symm
 have hl:a.length=b.length:=by(try simp only[dnL]at *);omega
 refine Wj ?_
 refine Ws ?_
 refine zu1 ?_
 refine Wl ?_
 show W _ _ _ _ _ _ _
 refine bG (fun(k:Nat)=>[(0,sq af a),(1,sq af b),(5,i64 k)]) (fun(k:Nat)=>[]) (fun(k:Nat)=>[]) (fun(k:Nat)=>k≤a.length∧a.take k=b.take k) (fun(k:Nat)=>a.length-k) (0) (by simp) [] ?_ ?_
 ·exact bu
 intro k hk
 refine Ws ?_
 refine zu4 ?_
 refine Wi rfl (fun hi2=>?_) (fun hi2=>?_)
 ·have hlt:k<a.length:=by have:=oT hi2;omega
  refine Wj ?_
  refine Ws ?_
  refine Wl ?_
  refine Ws ?_
  refine ai [0,0,0,1,0,0,0,1,0] [0,1,2,3,4,5,6,7,8] mG rfl (by kernel_rfl) ?_
  iterate 2 refine z3 ?_
  refine Xi tG rfl rfl rfl rfl (fun _=>rfl) (by omega) (iN af 1 (fun _=>rfl) 0 (by omega)) ?_
  refine z5 ?_
  iterate 2 refine z3 ?_
  refine Xi tG rfl rfl rfl rfl (fun _=>rfl) (by omega) (iN af 1 (fun _=>rfl) 0 (by omega)) ?_
  refine z5 ?_
  refine z3 ?_
  refine ah ?_
  refine Wi rfl (fun hi3=>?_) (fun hi3=>?_)
  ·have hne:a≠b:=uD 0 (k:=k) (by simpa using hi3)
   refine zu1 ?_
   refine zR ?_
   exact congrArg boo (decide_eq_false hne).symm
  have he:a.getD k 0=b.getD k 0:=by simpa using hi3
  refine Wj ?_
  refine aa rfl ?_
  refine zs3 ?_
  exact⟨k+1,[],(by exact⟨by omega,eL 0 hl hlt hk.2 he⟩),(by omega),bu⟩
 have hge:a.length≤k:=by have:=oF hi2;omega
 refine aN ?_
 refine zu1 ?_
 refine zR ?_
 exact congrArg boo (decide_eq_true (by have h1:=hk.2;rw[bk a k hge,bk b k (by omega)]at h1;exact h1)).symm
theorem GM(a b:ca):ab Tryz.prog 38 [jY a,jY b] (boo (decide (a=b))):=by
 refine pW tG (rs:=[.tmp 4]) Tryz.func38 rfl rfl rfl (by simp) (by simp) (fun B=>?_)
 refine zu3 ?_
 refine zp5 ?_
 refine z1 ?_
 refine Wb 10 rfl (fun hg1=>?_) (fun hg1=>?_)
 ·refine zy2 ?_
  refine Wd rfl rfl (bI (lO tG rfl) rfl (lO tG rfl) rfl (lO tG rfl) rfl rfl rfl) ?_
  refine zy2 ?_
  refine Wd rfl rfl (bI (lO tG rfl) rfl (lO tG rfl) rfl (lO tG rfl) rfl rfl rfl) ?_
  refine z1 ?_
  refine zq 17 ?_
  refine zs2 ?_
  refine zR ?_
  (refine congrArg boo ?_;cases a;cases b;simp_all;done)
 refine z6 ?_
 iterate 6 refine z6 ?_
 refine zs2 ?_
 refine zR ?_
 (refine congrArg boo ?_;cases a;cases b;simp_all;done)
theorem FQ{x y:dE}(h1:x.d=y.d)(h2:x.r=y.r)(h3:x.ip=y.ip):x=y:=by cases x;cases y;simp_all
theorem Ch(a b:List dE)(ha:a.length≤1000000)(hb:b.length≤1000000):ab Tryz.prog 36 [sq bA a,sq bA b] (boo (decide (a=b))):=by
 refine pW tG (rs:=[.tmp 4]) Tryz.func36 rfl rfl rfl (by simp) (by simp) (fun B=>?_)
 refine zu1 ?_
 refine Ws ?_
 refine zu5 ?_
 refine Wi rfl (fun hi1=>?_) (fun hi1=>?_)
 ·have hne:a≠b:=fun h=>by subst h;simp at hi1
  refine zu1 ?_
  refine zR ?_
  exact congrArg boo (decide_eq_false hne).symm
 have hl:a.length=b.length:=by(try simp only[dnL]at *);omega
 refine Wj ?_
 refine Ws ?_
 refine zu1 ?_
 refine Wl ?_
 show W _ _ _ _ _ _ _
 refine bG (fun(k:Nat)=>[(0,sq bA a),(1,sq bA b),(5,i64 k)]) (fun(k:Nat)=>[]) (fun(k:Nat)=>[]) (fun(k:Nat)=>k≤a.length∧a.take k=b.take k) (fun(k:Nat)=>a.length-k) (0) (by simp) [] ?_ ?_
 ·exact bu
 intro k hk
 refine Ws ?_
 refine zu4 ?_
 refine Wi rfl (fun hi2=>?_) (fun hi2=>?_)
 ·have hlt:k<a.length:=by have:=oT hi2;omega
  refine Wj ?_
  refine Ws ?_
  refine Wl ?_
  refine Ws ?_
  refine ai [0,0,0,0,1,0,0,0,0,1,0,0,0,0,0,0,1,0,0,0,0,1,0,0,0,0,0,0,0,1,0,0,0,0,1,0,0] [0,1,2,3,4,5,6,7,8,9,10,11,12,13,14,15,16,17,18,19,20,21,22,23,24,25,26,27,28,29,30,31,32,33,34,35,36] mG rfl (by kernel_rfl) ?_
  iterate 2 refine z3 ?_
  refine Xi tG rfl rfl rfl rfl (fun _=>rfl) (by omega) (iN bA 3 (fun _=>rfl) default (by omega)) ?_
  refine z3 ?_
  refine z5 ?_
  iterate 2 refine z3 ?_
  refine Xi tG rfl rfl rfl rfl (fun _=>rfl) (by omega) (iN bA 3 (fun _=>rfl) default (by omega)) ?_
  refine z3 ?_
  refine z5 ?_
  iterate 2 refine z3 ?_
  refine bZ 28 rfl (fun hg1=>?_) (fun hg1=>?_)
  ·refine z7 ?_
   iterate 10 refine z7 ?_
   iterate 2 refine z3 ?_
   iterate 11 refine z7 ?_
   refine z3 ?_
   refine ah ?_
   refine Wt rfl rfl ?_
   refine zu1 ?_
   refine zR ?_
   refine congrArg boo (decide_eq_false fun h=>?_).symm;subst h;simp_all
  refine z3 ?_
  refine z3 ?_
  refine Xi tG rfl rfl rfl rfl (fun _=>rfl) (by omega) (iN bA 3 (fun _=>rfl) default (by omega)) ?_
  refine z3 ?_
  refine z5 ?_
  iterate 2 refine z3 ?_
  refine Xi tG rfl rfl rfl rfl (fun _=>rfl) (by omega) (iN bA 3 (fun _=>rfl) default (by omega)) ?_
  refine z3 ?_
  refine z5 ?_
  iterate 3 refine z3 ?_
  refine bZ 41 rfl (fun hg2=>?_) (fun hg2=>?_)
  ·refine z7 ?_
   iterate 10 refine z7 ?_
   refine z3 ?_
   refine ah ?_
   refine Wt rfl rfl ?_
   refine zu1 ?_
   refine zR ?_
   refine congrArg boo (decide_eq_false fun h=>?_).symm;subst h;simp_all
  refine z3 ?_
  refine z3 ?_
  refine Xi tG rfl rfl rfl rfl (fun _=>rfl) (by omega) (iN bA 3 (fun _=>rfl) default (by omega)) ?_
  refine z3 ?_
  refine z5 ?_
  iterate 2 refine z3 ?_
  refine Xi tG rfl rfl rfl rfl (fun _=>rfl) (by omega) (iN bA 3 (fun _=>rfl) default (by omega)) ?_
  refine z3 ?_
  refine z5 ?_
  iterate 2 refine z3 ?_
  refine ah ?_
  refine Wi rfl (fun hi3=>?_) (fun hi3=>?_)
  ·refine zu1 ?_
   refine zR ?_
   refine congrArg boo (decide_eq_false fun h=>?_).symm;subst h;simp_all
  refine Wj ?_
  refine aa rfl ?_
  refine zs3 ?_
  have he:a.getD k default=b.getD k default:=(by(try simp only[dnL]at *);exact FQ (by omega) (by omega) (by omega))
  exact⟨k+1,[],(by exact⟨by omega,eL default hl hlt hk.2 he⟩),(by omega),bu⟩
 have hge:a.length≤k:=by have:=oF hi2;omega
 refine aN ?_
 refine zu1 ?_
 refine zR ?_
 exact congrArg boo (decide_eq_true (by have h1:=hk.2;rw[bk a k hge,bk b k (by omega)]at h1;exact h1)).symm
theorem Fz{x y:gY}(h1:x.place=y.place)(h2:x.old=y.old):x=y:=by cases x;cases y;simp_all
theorem EI(a b:aV)(ha:a.old.length≤1000000)(hb:b.old.length≤1000000):ab Tryz.prog 35 [dr a,dr b] (boo (decide (a=b))):=by
 refine pW tG (rs:=[.tmp 4]) Tryz.func35 rfl rfl rfl (by simp) (by simp) (fun B=>?_)
 refine zu3 ?_
 refine Ws ?_
 refine zp2 ?_
 refine Wd rfl rfl (bI (lO tG rfl) rfl (lO tG rfl) rfl (lO tG rfl) rfl rfl rfl) ?_
 refine zy2 ?_
 refine Wd rfl rfl (bI (lO tG rfl) rfl (lO tG rfl) rfl (lO tG rfl) rfl rfl rfl) ?_
 refine z1 ?_
 refine Wa 12 rfl (eU _ _) ?_
 refine z1 ?_
 refine Wb 13 rfl (fun hg1=>?_) (fun hg1=>?_)
 ·refine z6 ?_
  iterate 6 refine z6 ?_
  refine zs1 ?_
  refine Wt rfl rfl ?_
  refine zu1 ?_
  refine zR ?_
  refine congrArg boo (decide_eq_false fun h=>?_).symm;subst h;simp_all
 refine zy5 ?_
 refine zs3 ?_
 refine Wi rfl (fun hi1=>?_) (fun hi1=>?_)
 ·have hne:a≠b:=fun h=>by subst h;simp at hi1
  refine zu1 ?_
  refine zR ?_
  refine congrArg boo (decide_eq_false fun h=>?_).symm;subst h;simp_all
 have hl:a.old.length=b.old.length:=by(try simp only[dnL]at *);omega
 have hb0:a.b=b.b:=by(try simp only[dnL]at *);simp_all
 refine Wj ?_
 refine Ws ?_
 refine zu1 ?_
 refine Wl ?_
 show W _ _ _ _ _ _ _
 refine bG (fun(k:Nat)=>[(2,.ptr 0 0),(3,.ptr 1 0),(5,i64 k)]) (fun(k:Nat)=>[.cells (np a) 27,.cells (np b) 27]) (fun(k:Nat)=>[]) (fun(k:Nat)=>k≤a.old.length∧a.old.take k=b.old.take k) (fun(k:Nat)=>a.old.length-k) (0) (by simp) [] ?_ ?_
 ·exact bu
 intro k hk
 refine Ws ?_
 refine zu5 ?_
 refine Wi rfl (fun hi2=>?_) (fun hi2=>?_)
 ·have hlt:k<a.old.length:=by have:=oT hi2;omega
  refine Wj ?_
  refine Ws ?_
  refine Wl ?_
  refine Ws ?_
  refine ai [0,1,0,0,0,1,0,1,0,0,0,1,0,0,0,1,0,0,0,1,0,0,1,0,0,0,1,0,0,0] [0,1,2,3,4,5,6,7,8,9,10,11,12,13,14,15,16,17,18,19,20,21,22,23,24,25,26,27,28,29] mG rfl (by kernel_rfl) ?_
  refine z3 ?_
  refine z5 ?_
  refine z3 ?_
  refine Xi tG rfl rfl rfl rfl (fun _=>rfl) (by omega) (iN cL 2 (fun _=>rfl) default (by omega)) ?_
  refine z3 ?_
  refine z5 ?_
  refine z3 ?_
  refine z5 ?_
  refine z3 ?_
  refine Xi tG rfl rfl rfl rfl (fun _=>rfl) (by omega) (iN cL 2 (fun _=>rfl) default (by omega)) ?_
  refine z3 ?_
  refine z5 ?_
  iterate 2 refine z3 ?_
  refine bZ 42 rfl (fun hg2=>?_) (fun hg2=>?_)
  ·refine z7 ?_
   iterate 14 refine z7 ?_
   refine z3 ?_
   refine ah ?_
   refine Wt rfl rfl ?_
   refine zu1 ?_
   refine zR ?_
   refine congrArg boo (decide_eq_false fun h=>?_).symm;subst h;simp_all
  refine z3 ?_
  refine z5 ?_
  refine z3 ?_
  refine Xi tG rfl rfl rfl rfl (fun _=>rfl) (by omega) (iN cL 2 (fun _=>rfl) default (by omega)) ?_
  refine z3 ?_
  refine z5 ?_
  refine cI rfl rfl rfl rfl (fun _=>bI (lO tG rfl) rfl (lO tG rfl) rfl (lO tG rfl) rfl rfl rfl) ?_
  refine z3 ?_
  refine z5 ?_
  refine z3 ?_
  refine Xi tG rfl rfl rfl rfl (fun _=>rfl) (by omega) (iN cL 2 (fun _=>rfl) default (by omega)) ?_
  refine z3 ?_
  refine z5 ?_
  refine cI rfl rfl rfl rfl (fun _=>bI (lO tG rfl) rfl (lO tG rfl) rfl (lO tG rfl) rfl rfl rfl) ?_
  refine z3 ?_
  refine Xa 57 rfl (eU _ _) ?_
  refine z3 ?_
  refine ah ?_
  refine Wi rfl (fun hi3=>?_) (fun hi3=>?_)
  ·refine zu1 ?_
   refine zR ?_
   refine congrArg boo (decide_eq_false fun h=>?_).symm;subst h;simp_all
  refine Wj ?_
  refine aa rfl ?_
  refine zs3 ?_
  have he:a.old.getD k default=b.old.getD k default:=(by(try simp only[dnL]at *);exact Fz (by omega) (by assumption))
  exact⟨k+1,[],(by exact⟨by omega,eL default hl hlt hk.2 he⟩),(by omega),bu⟩
 have hge:a.old.length≤k:=by have:=oF hi2;omega
 refine aN ?_
 refine zu1 ?_
 refine zR ?_
 exact congrArg boo (decide_eq_true (by have h1:=hk.2;rw[bk _ k hge,bk _ k (by omega)]at h1;cases a;cases b;simp_all)).symm
def dV(c:jh):Prop:=2048≤c.mem∧c.mem≤65536∧c.mem.tmod 8=0∧1≤c.data∧c.data≤256∧1≤c.ret∧c.ret≤256∧200≤c.words∧c.words≤1024∧0≤c.out∧c.out≤65536
instance (c:jh):Decidable (dV c):=by unfold dV;infer_instance
theorem zZ(c:jh):ab Tryz.prog 82 [Da c] (boo (decide (dV c))):=by
 refine pW tG (rs:=[.tmp 2]) Tryz.func82 rfl rfl rfl (by simp) (by simp) (fun B=>?_)
 refine zu2 ?_
 refine zp4 ?_
 refine Wb 6 rfl (fun hg1=>?_) (fun hg1=>?_)
 ·refine zy5 ?_
  refine Wb 11 rfl (fun hg2=>?_) (fun hg2=>?_)
  ·refine zy5 ?_
   refine z1 ?_
   refine Wb 17 rfl (fun hg3=>?_) (fun hg3=>?_)
   ·refine zy5 ?_
    refine Wb 22 rfl (fun hg4=>?_) (fun hg4=>?_)
    ·refine zy5 ?_
     refine Wb 27 rfl (fun hg5=>?_) (fun hg5=>?_)
     ·refine zy5 ?_
      refine Wb 32 rfl (fun hg6=>?_) (fun hg6=>?_)
      ·refine zy5 ?_
       refine Wb 37 rfl (fun hg7=>?_) (fun hg7=>?_)
       ·refine zy5 ?_
        refine Wb 42 rfl (fun hg8=>?_) (fun hg8=>?_)
        ·refine zy5 ?_
         refine Wb 47 rfl (fun hg9=>?_) (fun hg9=>?_)
         ·refine zy5 ?_
          refine Wb 52 rfl (fun hg10=>?_) (fun hg10=>?_)
          ·refine zs5 ?_
           refine zR ?_
           (refine congrArg boo (decide_eq_decide.2 ?_);unfold dV;(try simp only[dnL]at *);omega)
          refine z6 ?_
          iterate 2 refine z6 ?_
          refine zs2 ?_
          refine zR ?_
          (refine congrArg boo (decide_eq_false ?_).symm;unfold dV;(try simp only[dnL]at *);omega)
         refine z6 ?_
         iterate 2 refine z6 ?_
         refine zy2 ?_
         iterate 3 refine z6 ?_
         refine zs2 ?_
         refine zR ?_
         (refine congrArg boo (decide_eq_false ?_).symm;unfold dV;(try simp only[dnL]at *);omega)
        refine z6 ?_
        iterate 2 refine z6 ?_
        refine zy2 ?_
        iterate 3 refine z6 ?_
        refine zy2 ?_
        iterate 3 refine z6 ?_
        refine zs2 ?_
        refine zR ?_
        (refine congrArg boo (decide_eq_false ?_).symm;unfold dV;(try simp only[dnL]at *);omega)
       refine z6 ?_
       iterate 2 refine z6 ?_
       refine zy2 ?_
       iterate 3 refine z6 ?_
       refine zy2 ?_
       iterate 3 refine z6 ?_
       refine zy2 ?_
       iterate 3 refine z6 ?_
       refine zs2 ?_
       refine zR ?_
       (refine congrArg boo (decide_eq_false ?_).symm;unfold dV;(try simp only[dnL]at *);omega)
      refine z6 ?_
      iterate 2 refine z6 ?_
      refine zy2 ?_
      iterate 3 refine z6 ?_
      refine zy2 ?_
      iterate 3 refine z6 ?_
      refine zy2 ?_
      iterate 3 refine z6 ?_
      refine zy2 ?_
      iterate 3 refine z6 ?_
      refine zs2 ?_
      refine zR ?_
      (refine congrArg boo (decide_eq_false ?_).symm;unfold dV;(try simp only[dnL]at *);omega)
     refine z6 ?_
     iterate 2 refine z6 ?_
     refine zy2 ?_
     iterate 3 refine z6 ?_
     refine zy2 ?_
     iterate 3 refine z6 ?_
     refine zy2 ?_
     iterate 3 refine z6 ?_
     refine zy2 ?_
     iterate 3 refine z6 ?_
     refine zy2 ?_
     iterate 3 refine z6 ?_
     refine zs2 ?_
     refine zR ?_
     (refine congrArg boo (decide_eq_false ?_).symm;unfold dV;(try simp only[dnL]at *);omega)
    refine z6 ?_
    iterate 2 refine z6 ?_
    refine zy2 ?_
    iterate 3 refine z6 ?_
    refine zy2 ?_
    iterate 3 refine z6 ?_
    refine zy2 ?_
    iterate 3 refine z6 ?_
    refine zy2 ?_
    iterate 3 refine z6 ?_
    refine zy2 ?_
    iterate 3 refine z6 ?_
    refine zy2 ?_
    iterate 3 refine z6 ?_
    refine zs2 ?_
    refine zR ?_
    (refine congrArg boo (decide_eq_false ?_).symm;unfold dV;(try simp only[dnL]at *);omega)
   refine z6 ?_
   iterate 2 refine z6 ?_
   refine zy2 ?_
   iterate 3 refine z6 ?_
   refine zy2 ?_
   iterate 3 refine z6 ?_
   refine zy2 ?_
   iterate 3 refine z6 ?_
   refine zy2 ?_
   iterate 3 refine z6 ?_
   refine zy2 ?_
   iterate 3 refine z6 ?_
   refine zy2 ?_
   iterate 3 refine z6 ?_
   refine zy2 ?_
   iterate 3 refine z6 ?_
   refine zs2 ?_
   refine zR ?_
   (refine congrArg boo (decide_eq_false ?_).symm;unfold dV;(try simp only[dnL]at *);omega)
  refine z6 ?_
  iterate 3 refine z6 ?_
  refine zy2 ?_
  iterate 3 refine z6 ?_
  refine zy2 ?_
  iterate 3 refine z6 ?_
  refine zy2 ?_
  iterate 3 refine z6 ?_
  refine zy2 ?_
  iterate 3 refine z6 ?_
  refine zy2 ?_
  iterate 3 refine z6 ?_
  refine zy2 ?_
  iterate 3 refine z6 ?_
  refine zy2 ?_
  iterate 3 refine z6 ?_
  refine zy2 ?_
  iterate 3 refine z6 ?_
  refine zs2 ?_
  refine zR ?_
  (refine congrArg boo (decide_eq_false ?_).symm;unfold dV;(try simp only[dnL]at *);omega)
 refine z6 ?_
 iterate 2 refine z6 ?_
 refine zy2 ?_
 iterate 4 refine z6 ?_
 refine zy2 ?_
 iterate 3 refine z6 ?_
 refine zy2 ?_
 iterate 3 refine z6 ?_
 refine zy2 ?_
 iterate 3 refine z6 ?_
 refine zy2 ?_
 iterate 3 refine z6 ?_
 refine zy2 ?_
 iterate 3 refine z6 ?_
 refine zy2 ?_
 iterate 3 refine z6 ?_
 refine zy2 ?_
 iterate 3 refine z6 ?_
 refine zy2 ?_
 iterate 3 refine z6 ?_
 refine zs2 ?_
 refine zR ?_
 (refine congrArg boo (decide_eq_false ?_).symm;unfold dV;(try simp only[dnL]at *);omega)
def cr(p:ca):Prop:=p.b.length≤130∧(p.on=true∨p.b.length=0)
instance (p:ca):Decidable (cr p):=by unfold cr;infer_instance
theorem Cy(p:ca):ab Tryz.prog 85 [jY p] (boo (decide (cr p))):=by
 refine pW tG (rs:=[.tmp 2]) Tryz.func85 rfl rfl rfl (by simp) (by simp) (fun B=>?_)
 refine zu2 ?_
 refine zp5 ?_
 refine Wb 7 rfl (fun hg1=>?_) (fun hg1=>?_)
 ·refine zy3 ?_
  refine Wb 10 rfl (fun hg2=>?_) (fun hg2=>?_)
  ·refine z6 ?_
   iterate 3 refine z6 ?_
   refine zs3 ?_
   refine zR ?_
   (refine congrArg boo ?_;rw[Bool.eq_iff_iff];unfold cr;(try simp only[dnL]at *);simp_all;omega)
  refine zy5 ?_
  refine zs2 ?_
  refine zR ?_
  (refine congrArg boo ?_;rw[Bool.eq_iff_iff];unfold cr;(try simp only[dnL]at *);simp_all;done)
 refine z6 ?_
 iterate 7 refine z6 ?_
 refine zs2 ?_
 refine zR ?_
 (refine congrArg boo ?_;rw[Bool.eq_iff_iff];unfold cr;(try simp only[dnL]at *);simp_all;omega)
def fv(m:aV):Bool:=m.old.all (fun p=>ay m p.place p.old.length)&&(decide (m.b.length≤65536)&&decide (m.b.length%8=0))
theorem jL{α:Type}{f:α→Bool}{l:List α}{k:Nat}(d:α)(hk:k<l.length)(h:(l.take k).all f=true)(hf:f (l.getD k d)=true):(l.take (k+1)).all f=true:=by
 rw[gE l k d hk,List.all_append,h];simp only[List.all_cons,List.all_nil,hf];rfl
theorem jT{α:Type}{f:α→Bool}{l:List α}{k:Nat}(d:α)(hk:k<l.length)(hf:f (l.getD k d)=false):l.all f=false:=by
 rw[List.all_eq_false]
 refine⟨l.getD k d,?_,by rw[hf];simp⟩
 unfold List.getD
 rw[List.getElem?_eq_getElem hk]
 exact List.getElem_mem hk
theorem AO{α:Type}{l:List α}{k:Nat}(d:α)(hk:k<l.length):l.getD k d∈l:=by
 unfold List.getD
 rw[List.getElem?_eq_getElem hk]
 exact List.getElem_mem hk
theorem Bt(m:aV)(at_ n:Int)(hm:m.b.length≤9223372036854775807)(ha:n=0∨ae at_)(hn:ae n):ab Tryz.prog 124 [dr m,i64 at_,i64 n] (boo (ay m at_ n)):=by
 unfold ae at ha hn
 refine pW tG (rs:=[.tmp 6]) Tryz.func124 rfl rfl rfl (by simp) (by simp) (fun B=>?_)
 refine zu2 ?_
 refine Ws ?_
 refine zu2 ?_
 refine Wi rfl (fun hi1=>?_) (fun hi1=>?_)
 ·refine zu1 ?_
  refine zR ?_
  exact congrArg boo (by(simp only[ay,aK];rw[Bool.eq_iff_iff];simp only[dnL]at *;(try simp only[aK,wrap64]at *);omega))
 refine Wj ?_
 refine zp3 ?_
 refine Wb 11 rfl (fun hg1=>?_) (fun hg1=>?_)
 ·refine zy4 ?_
  refine Wb 15 rfl (fun hg2=>?_) (fun hg2=>?_)
  ·refine zy5 ?_
   refine zy2 ?_
   refine Wb 22 rfl (fun hg3=>?_) (fun hg3=>?_)
   ·refine zy5 ?_
    refine zs4 ?_
    refine zR ?_
    exact congrArg boo (by(simp only[ay,aK];rw[Bool.eq_iff_iff];simp only[dnL]at *;(try simp only[aK,wrap64]at *);omega))
   refine z6 ?_
   iterate 6 refine z6 ?_
   refine zs2 ?_
   refine zR ?_
   exact congrArg boo (by(simp only[ay,aK];rw[Bool.eq_iff_iff];simp only[dnL]at *;(try simp only[aK,wrap64]at *);omega))
  refine z6 ?_
  iterate 4 refine z6 ?_
  refine zy2 ?_
  iterate 7 refine z6 ?_
  refine zs2 ?_
  refine zR ?_
  exact congrArg boo (by(simp only[ay,aK];rw[Bool.eq_iff_iff];simp only[dnL]at *;(try simp only[aK,wrap64]at *);omega))
 refine z6 ?_
 refine z6 ?_
 refine zy2 ?_
 iterate 5 refine z6 ?_
 refine zy2 ?_
 iterate 7 refine z6 ?_
 refine zs2 ?_
 refine zR ?_
 exact congrArg boo (by(simp only[ay,aK];rw[Bool.eq_iff_iff];simp only[dnL]at *;(try simp only[aK,wrap64]at *);omega))
theorem BG(m:aV)(hb:m.b.length≤9223372036854775807)(ho:m.old.length≤9223372036854775807)(hp:∀p∈m.old,(p.old.length=0∨ae p.place)∧p.old.length≤9223372036854775807):ab Tryz.prog 83 [dr m] (boo (fv m)):=by
 refine pW tG (rs:=[.tmp 2]) Tryz.func83 rfl rfl rfl (by simp) (by simp) (fun B=>?_)
 refine zu2 ?_
 refine Ws ?_
 refine zu1 ?_
 refine Wl ?_
 show W _ _ _ _ _ _ _
 refine bG (fun(k:Nat)=>[(1,.ptr 0 0),(3,i64 k)]) (fun(k:Nat)=>[.cells (np m) 27]) (fun(k:Nat)=>[]) (fun(k:Nat)=>k≤m.old.length∧(m.old.take k).all (fun p=>ay m p.place p.old.length)=true) (fun(k:Nat)=>m.old.length-k) (0) (by simp) [] ?_ ?_
 ·exact bu
 intro k hk
 refine Ws ?_
 refine zu5 ?_
 refine Wi rfl (fun hi1=>?_) (fun hi1=>?_)
 ·have hlt:k<m.old.length:=by have:=oT hi1;omega
  have hq:=hp _ (AO default hlt)
  refine Wj ?_
  refine Ws ?_
  refine Wl ?_
  refine Ws ?_
  refine ai [1,0,1,0,0,0,1,0,1,0,0,0,1,0,0,0] [0,1,2,3,4,5,6,7,8,9,10,11,12,13,14,15] mG rfl (by kernel_rfl) ?_
  refine z5 ?_
  refine z3 ?_
  refine z5 ?_
  refine z3 ?_
  refine Xi tG rfl rfl rfl rfl (fun _=>rfl) (by omega) (iN cL 2 (fun _=>rfl) default (by omega)) ?_
  refine z3 ?_
  refine z5 ?_
  refine z3 ?_
  refine z5 ?_
  refine z3 ?_
  refine Xi tG rfl rfl rfl rfl (fun _=>rfl) (by omega) (iN cL 2 (fun _=>rfl) default (by omega)) ?_
  refine z3 ?_
  refine z5 ?_
  refine z3 ?_
  refine Xc rfl rfl rfl rfl (fun _=>dC rfl Tryz.func124 rfl rfl ((Bt m (m.old.getD k default).place (m.old.getD k default).old.length (by omega) (by rcases hq.1 with h|h;exact .inl (by omega);exact .inr h) (by unfold ae;omega)) _)) ?_
  refine z3 ?_
  refine ah ?_
  refine zu2 ?_
  refine Wi rfl (fun hi2=>?_) (fun hi2=>?_)
  ·have hno:m.old.all (fun p=>ay m p.place p.old.length)=false:=jT default hlt (by simpa using hi2)
   refine zu1 ?_
   refine zR ?_
   refine congrArg boo ?_;unfold fv;rw[hno];rfl
  have hyes:ay m (m.old.getD k default).place (m.old.getD k default).old.length=true:=by simpa using hi2
  refine Wj ?_
  refine aa rfl ?_
  refine zs3 ?_
  exact⟨k+1,[],(by exact⟨by omega,jL default hlt hk.2 hyes⟩),(by omega),bu⟩
 have hge:m.old.length≤k:=by have:=oF hi1;omega
 have hall:m.old.all (fun p=>ay m p.place p.old.length)=true:=by have h1:=hk.2;rw[bk _ k hge]at h1;exact h1
 have ht:(m.b.length:Int).tmod 8=((m.b.length%8:Nat):Int):=by rw[Int.tmod_eq_emod_of_nonneg (by omega)];omega
 refine aN ?_
 refine zp5 ?_
 refine Wb 33 rfl (fun hg1=>?_) (fun hg1=>?_)
 ·refine zy5 ?_
  refine zs2 ?_
  refine zR ?_
  refine congrArg boo ?_;unfold fv;rw[hall,Bool.true_and];rw[Bool.eq_iff_iff];(try simp only[dnL]at *);omega
 refine z6 ?_
 iterate 4 refine z6 ?_
 refine zs2 ?_
 refine zR ?_
 refine congrArg boo ?_;unfold fv;rw[hall,Bool.true_and];rw[Bool.eq_iff_iff];(try simp only[dnL]at *);omega
theorem jw:ab Tryz.prog 69 [] (sq fP ao):=by
 refine pW tG (rs:=[.tmp 0]) Tryz.func69 rfl rfl rfl (by simp) (by simp) (fun B=>?_)
 refine zu1 ?_
 refine zp1 ?_
 refine Wa 1 rfl (bsL fP [_,_,_,_,_,_,_,_,_,_,_,_,_,_,_,_,_,_,_,_,_,_,_,_,_,_,_,_,_,_,_,_,_,_,_,_,_,_,_,_,_,_,_,_,_,_,_,_,_,_,_,_,_,_,_,_,_,_,_,_,_,_,_,_,_,_,_,_,_,_,_,_,_,_,_,_,_,_,_,_,_,_,_,_,_,_,_,_,_,_,_,_,_,_,_,_,_,_,_,_,_,_,_,_,_,_,_,_,_,_,_,_,_,_,_,_,_,_,_,_,_,_,_,_,_,_,_,_,_,_] rfl rfl) ?_
 refine zs1 ?_
 refine zR ?_
 exact rfl
theorem sH:ab Tryz.prog 95 [] (sq fP lH):=by
 refine pW tG (rs:=[.tmp 0]) Tryz.func95 rfl rfl rfl (by simp) (by simp) (fun B=>?_)
 refine zu1 ?_
 refine zp1 ?_
 refine Wa 1 rfl (bsL fP [_,_,_,_,_,_,_,_,_,_,_,_,_,_,_,_,_,_,_,_,_,_,_,_,_,_,_,_,_,_,_,_,_,_,_,_,_] rfl rfl) ?_
 refine zs1 ?_
 refine zR ?_
 exact rfl
theorem ja:ab Tryz.prog 86 [] (sq fP lH):=by
 refine pW tG (rs:=[.tmp 0]) Tryz.func86 rfl rfl rfl (by simp) (by simp) (fun B=>?_)
 refine zu1 ?_
 refine zp1 ?_
 refine Wa 1 rfl (bsL fP [_,_,_,_,_,_,_,_,_,_,_,_,_,_,_,_,_,_,_,_,_,_,_,_,_,_,_,_,_,_,_,_,_,_,_,_,_] rfl rfl) ?_
 refine zs1 ?_
 refine zR ?_
 exact rfl
theorem Gq:ab Tryz.prog 282 [] (i64 1368):=by
 refine pW tG (rs:=[.tmp 0]) Tryz.func282 rfl rfl rfl (by simp) (by simp) (fun B=>?_)
 refine zu1 ?_
 refine zu1 ?_
 refine zR ?_
 rfl
def oY(name:Str):Int:=match ao.findIdx? (fun x=>decide (x=name))with
 | some i=>i
 | none=>-1
theorem EB{name:Str}{k:Nat}(hk:k<ao.length)(hno:∀j,j<k→ao.getD j []≠name)(h:ao.getD k []=name):oY name=k:=by
 have:ao.findIdx? (fun x=>decide (x=name))=some k:=by
  rw[List.findIdx?_eq_some_iff_getElem]
  refine⟨hk,?_,fun j hj=>?_⟩
  ·simp only[decide_eq_true_eq];rw[←h];unfold List.getD;rw[List.getElem?_eq_getElem hk];rfl
  have:=hno j hj
  unfold List.getD at this
  rw[List.getElem?_eq_getElem (by omega)]at this
  simpa using this
 unfold oY
 rw[this]
theorem GQ{name:Str}(hno:∀j,j<ao.length→ao.getD j []≠name):oY name = -1:=by
 have:ao.findIdx? (fun x=>decide (x=name))=none:=by
  rw[List.findIdx?_eq_none_iff]
  intro x hx
  obtain⟨j,hj,rfl⟩:=List.mem_iff_getElem.1 hx
  have:=hno j hj
  unfold List.getD at this
  rw[List.getElem?_eq_getElem hj]at this
  simpa using this
 unfold oY
 rw[this]
theorem Bo(name:Str):ab Tryz.prog 44 [str name] (i64 (oY name)):=by
 have hlen:ao.length=130:=jq
 refine pW tG (rs:=[.tmp 2]) Tryz.func44 rfl rfl rfl (by simp) (by simp) (fun B=>?_)
 refine zu1 ?_
 refine z8 ?_
 refine zc rfl Tryz.func69 ((jw) _) ?_
 refine zs1 ?_
 refine Ws ?_
 refine zu1 ?_
 refine Wl ?_
 show W _ _ _ _ _ _ _
 refine bG (fun(k:Nat)=>[(0,str name),(3,sq fP ao),(4,i64 k)]) (fun(k:Nat)=>[]) (fun(k:Nat)=>[]) (fun(k:Nat)=>k≤ao.length∧∀j,j<k→ao.getD j []≠name) (fun(k:Nat)=>ao.length-k) (0) (by simp) [] ?_ ?_
 ·exact bu
 intro k hk
 refine Ws ?_
 refine zu4 ?_
 refine Wi rfl (fun hi1=>?_) (fun hi1=>?_)
 ·have hlt:k<ao.length:=by have:=oT hi1;omega
  refine Wj ?_
  refine Ws ?_
  refine Wl ?_
  refine zp2 ?_
  refine Wv tG rfl rfl rfl (by omega) (iN fP 1 (fun _=>rfl) [] (by omega)) ?_
  refine zy3 ?_
  refine zq 17 ?_
  refine Wn ?_
  refine Wi rfl (fun hi2=>?_) (fun hi2=>?_)
  ·have hy:ao.getD k []=name:=oT hi2
   refine zu2 ?_
   refine zR ?_
   exact congrArg i64 (EB hlt hk.2 hy).symm
  have hn:ao.getD k []≠name:=oF hi2
  refine Wj ?_
  refine aa rfl ?_
  refine zs3 ?_
  exact⟨k+1,[],(by exact⟨by omega,fun j hj=>by rcases Nat.lt_or_ge j k with h|h;exact hk.2 j h;rw[show j=k by omega];exact hn⟩),(by omega),bu⟩
 have hge:ao.length≤k:=by have:=oF hi1;omega
 refine aN ?_
 refine zu1 ?_
 refine zR ?_
 exact congrArg i64 (GQ (fun j hj=>hk.2 j (by omega))).symm
theorem rU(n lo hi:Int):ab Tryz.prog 94 [i64 n,i64 lo,i64 hi] (boo (decide (lo≤n∧n≤hi))):=by
 refine pW tG (rs:=[.tmp 6]) Tryz.func94 rfl rfl rfl (by simp) (by simp) (fun B=>?_)
 refine zu1 ?_
 refine zp4 ?_
 refine Wb 10 rfl (fun hg1=>?_) (fun hg1=>?_)
 ·refine zs5 ?_
  refine zR ?_
  (refine congrArg boo (decide_eq_decide.2 ?_);(try simp only[dnL]at *);omega)
 refine z6 ?_
 iterate 2 refine z6 ?_
 refine zs2 ?_
 refine zR ?_
 (refine congrArg boo (decide_eq_false ?_).symm;(try simp only[dnL]at *);omega)
theorem IU:ab Tryz.prog 227 [] (i64 1368):=by
 have h1:=jq
 have h2:=i5
 refine pW tG (rs:=[.tmp 0]) Tryz.func227 rfl rfl rfl (by simp) (by simp) (fun B=>?_)
 refine zu1 ?_
 refine z8 ?_
 refine zc rfl Tryz.func54 ((nL) _) ?_
 refine z1 ?_
 refine zc rfl Tryz.func95 ((sH) _) ?_
 refine zs5 ?_
 refine zR ?_
 refine congrArg i64 ?_;rw[h1,h2];decide
def iY(v:VVm)(s:Str):VVm×Int:=if (s.length:Int)>v.conf.out-v.out.length then(v,-260)else({v with out:=v.out++s},0)
def tVm(r:VVm×Int):PV:=dm (eVm r.1) (i64 r.2)
@[simp] theorem SA (r : VVm × Int) : aQ (tVm r) := by simp [tVm]
theorem Gw(v:VVm)(s:Str)(hc:0≤v.conf.out∧v.conf.out≤1000000)(ho:v.out.length≤1000000)(hs:s.length≤140737488355328):ab Tryz.prog 167 [eVm v,str s] (tVm (iY v s)):=by
 have w1:IntKind.i64.wrap (v.conf.out-v.out.length)=v.conf.out-v.out.length:=by((rw[aK];unfold wrap64;(try simp only[dnL]at *);omega))
 refine pW tG (rs:=[.cell 4 36,.tmp 5]) Tryz.func167 rfl rfl rfl (by simp) (by simp) (fun B=>?_)
 refine zu3 ?_
 refine Ws ?_
 refine zp2 ?_
 refine Wa 7 rfl (kW _) ?_
 refine zy5 ?_
 refine zs3 ?_
 refine Wi rfl (fun hi1=>?_) (fun hi1=>?_)
 ·have h0:(s.length:Int)>v.conf.out-v.out.length:=by(try simp only[dnL]at *);omega
  refine zu3 ?_
  refine zR ?_
  rw[iY,if_pos h0];rfl
 have h0:¬(s.length:Int)>v.conf.out-v.out.length:=by(try simp only[dnL]at *);omega
 refine Wj ?_
 refine zp3 ?_
 refine Wd rfl rfl (aC (lO tG rfl) rfl (lO tG rfl) (lO tG rfl) rfl rfl (by exact⟨_,rfl⟩) (by exact⟨rfl,rfl,ag _ 1 (fun _=>rfl) _,aB _ (fun _=>rfl) _⟩) (by rfl) (by(dsimp only;omega)) (by(omega))) ?_
 refine Wa 20 rfl (i4 av) ?_
 refine zy2 ?_
 refine Wa 22 rfl (rW _) ?_
 refine Wd rfl rfl (aF (lO tG rfl) rfl (lO tG rfl) (lO tG rfl) rfl rfl rfl rfl (by simp) (by exact⟨_,rfl⟩) (by exact⟨rfl,rfl,ag _ 1 (fun _=>rfl) _,aB _ (fun _=>rfl) _⟩) (by(dsimp only;omega)) (by(omega))) ?_
 refine Wa 23 rfl (aM av) ?_
 refine zs2 ?_
 refine zu3 ?_
 refine zR ?_
 rw[iY,if_neg h0];rfl
theorem vu{l m:Str}{k:SK}:PV.seq (l.length+(⟨m.toArray⟩:ByteArray).size) (l.flatMap av++(⟨m.toArray⟩:ByteArray).data.toList.map fun b=>j4 b.toNat) k=.seq (l++m).length ((l++m).flatMap av) k:=by
 have h:(⟨m.toArray⟩:ByteArray).data.toList.map (fun b=>j4 b.toNat)=m.flatMap av:=by rw[kh,List.map_map];rfl
 rw[gF,h,←List.flatMap_append,List.length_append]
theorem KN(v:VVm)(s:Str)(hc:0≤v.conf.out∧v.conf.out≤1000000)(ho:v.out.length≤1000000)(hs:s.length≤140737488355328):ab Tryz.prog 313 [eVm v,str s] (tVm (iY v s)):=by
 have w1:IntKind.i64.wrap (v.conf.out-v.out.length)=v.conf.out-v.out.length:=by((rw[aK];unfold wrap64;(try simp only[dnL]at *);omega))
 refine pW tG (rs:=[.cell 4 36,.tmp 5]) Tryz.func313 rfl rfl rfl (by simp) (by simp) (fun B=>?_)
 refine zu3 ?_
 refine Ws ?_
 refine zp2 ?_
 refine Wa 7 rfl (kW _) ?_
 refine zy5 ?_
 refine zs3 ?_
 refine Wi rfl (fun hi1=>?_) (fun hi1=>?_)
 ·have h0:(s.length:Int)>v.conf.out-v.out.length:=by(try simp only[dnL]at *);omega
  refine zu3 ?_
  refine zR ?_
  rw[iY,if_pos h0];rfl
 have h0:¬(s.length:Int)>v.conf.out-v.out.length:=by(try simp only[dnL]at *);omega
 have h1:(⟨s.toArray⟩:ByteArray).size=s.length:=gF s
 refine Wj ?_
 refine zp2 ?_
 refine zc rfl Tryz.func338 ((Cf v.out (by omega)) _) ?_
 refine z1 ?_
 refine Wd rfl rfl (aC (lO tG rfl) rfl (lO tG rfl) (lO tG rfl) rfl rfl (by rfl) (by exact⟨rfl,rfl,rfl⟩) (by exact ag _ 1 (fun _=>rfl) _) (by(dsimp only;omega)) (by(omega))) ?_
 refine Wa 21 rfl (vu) ?_
 refine zs2 ?_
 refine zu3 ?_
 refine zR ?_
 rw[iY,if_neg h0];rfl
def dF(n:Int):Prop:=(0≤n∧n≤129)∨(256≤n∧n≤260)∨(300≤n∧n≤336)
instance (n:Int):Decidable (dF n):=by unfold dF;infer_instance
def aq(v:VVm)(xt:Int):Int×Int:=if (au v.mem xt).2=0 then(if dF (au v.mem xt).1 then((au v.mem xt).1,0)else(0,-9))else(0,(au v.mem xt).2)
theorem uV(v:VVm)(xt:Int)(hm:v.mem.b.length≤140737488355328)(hx:ae xt):ab Tryz.prog 64 [eVm v,i64 xt] (iu (aq v xt)):=by
 have h1:=jq
 have h2:=i5
 refine pW tG (rs:=[.tmp 4,.tmp 5]) Tryz.func64 rfl rfl rfl (by simp) (by simp) (fun B=>?_)
 refine zu3 ?_
 refine zp3 ?_
 refine zc rfl Tryz.func62 ((gg v.mem xt hm hx) _) ?_
 refine zs5 ?_
 refine Ws ?_
 refine zu2 ?_
 refine Wi rfl (fun hi1=>?_) (fun hi1=>?_)
 ·have h0:¬(au v.mem xt).2=0:=by simpa using hi1
  refine zu3 ?_
  refine zR ?_
  rw[aq,if_neg h0];rfl
 have h0:(au v.mem xt).2=0:=by simpa using hi1
 have w1:IntKind.i64.wrap (300+(lH.length:Int))=337:=by rw[h2];decide
 refine Wj ?_
 refine Ws ?_
 refine zp3 ?_
 refine Wb 20 rfl (fun hg1=>?_) (fun hg1=>?_)
 ·refine z1 ?_
  refine zc rfl Tryz.func69 ((jw) _) ?_
  refine zy4 ?_
  refine Wb 26 rfl (fun hg2=>?_) (fun hg2=>?_)
  ·refine z6 ?_
   iterate 5 refine z6 ?_
   refine zy2 ?_
   iterate 9 refine z6 ?_
   refine zs1 ?_
   refine Wt rfl rfl ?_
   refine zu3 ?_
   refine zR ?_
   (rw[aq,if_pos h0,if_pos (by unfold dF;(try simp only[dnL]at *);omega)];rfl)
  refine zy3 ?_
  refine Wb 29 rfl (fun hg3=>?_) (fun hg3=>?_)
  ·refine zy5 ?_
   refine Wb 34 rfl (fun hg4=>?_) (fun hg4=>?_)
   ·refine z6 ?_
    iterate 8 refine z6 ?_
    refine zs1 ?_
    refine Wt rfl rfl ?_
    refine zu3 ?_
    refine zR ?_
    (rw[aq,if_pos h0,if_pos (by unfold dF;(try simp only[dnL]at *);omega)];rfl)
   refine zy3 ?_
   refine Wb 37 rfl (fun hg5=>?_) (fun hg5=>?_)
   ·refine z1 ?_
    refine zc rfl Tryz.func86 ((ja) _) ?_
    refine zs5 ?_
    refine Wi rfl (fun hi2=>?_) (fun hi2=>?_)
    ·refine zu3 ?_
     refine zR ?_
     (rw[aq,if_pos h0,if_pos (by unfold dF;(try simp only[dnL]at *);omega)];rfl)
    refine Wj ?_
    refine zu2 ?_
    refine zR ?_
    (rw[aq,if_pos h0,if_neg (by unfold dF;(try simp only[dnL]at *);omega)];rfl)
   refine z6 ?_
   iterate 4 refine z6 ?_
   refine zs2 ?_
   refine Wf rfl rfl ?_
   refine Wj ?_
   refine zu2 ?_
   refine zR ?_
   (rw[aq,if_pos h0,if_neg (by unfold dF;(try simp only[dnL]at *);omega)];rfl)
  refine z6 ?_
  refine z6 ?_
  refine zy5 ?_
  refine z1 ?_
  refine Wb 37 rfl (fun hg5=>?_) (fun hg5=>?_)
  ·refine z1 ?_
   refine zc rfl Tryz.func86 ((ja) _) ?_
   refine zs5 ?_
   refine Wi rfl (fun hi2=>?_) (fun hi2=>?_)
   ·refine zu3 ?_
    refine zR ?_
    (rw[aq,if_pos h0,if_pos (by unfold dF;(try simp only[dnL]at *);omega)];rfl)
   refine Wj ?_
   refine zu2 ?_
   refine zR ?_
   (rw[aq,if_pos h0,if_neg (by unfold dF;(try simp only[dnL]at *);omega)];rfl)
  refine z6 ?_
  iterate 4 refine z6 ?_
  refine zs2 ?_
  refine Wf rfl rfl ?_
  refine Wj ?_
  refine zu2 ?_
  refine zR ?_
  (rw[aq,if_pos h0,if_neg (by unfold dF;(try simp only[dnL]at *);omega)];rfl)
 refine z6 ?_
 iterate 3 refine z6 ?_
 refine zy5 ?_
 refine Wb 29 rfl (fun hg3=>?_) (fun hg3=>?_)
 ·refine zy5 ?_
  refine Wb 34 rfl (fun hg4=>?_) (fun hg4=>?_)
  ·refine z6 ?_
   iterate 8 refine z6 ?_
   refine zs1 ?_
   refine Wt rfl rfl ?_
   refine zu3 ?_
   refine zR ?_
   (rw[aq,if_pos h0,if_pos (by unfold dF;(try simp only[dnL]at *);omega)];rfl)
  refine zy3 ?_
  refine Wb 37 rfl (fun hg5=>?_) (fun hg5=>?_)
  ·refine z1 ?_
   refine zc rfl Tryz.func86 ((ja) _) ?_
   refine zs5 ?_
   refine Wi rfl (fun hi2=>?_) (fun hi2=>?_)
   ·refine zu3 ?_
    refine zR ?_
    (rw[aq,if_pos h0,if_pos (by unfold dF;(try simp only[dnL]at *);omega)];rfl)
   refine Wj ?_
   refine zu2 ?_
   refine zR ?_
   (rw[aq,if_pos h0,if_neg (by unfold dF;(try simp only[dnL]at *);omega)];rfl)
  refine z6 ?_
  iterate 4 refine z6 ?_
  refine zs2 ?_
  refine Wf rfl rfl ?_
  refine Wj ?_
  refine zu2 ?_
  refine zR ?_
  (rw[aq,if_pos h0,if_neg (by unfold dF;(try simp only[dnL]at *);omega)];rfl)
 refine z6 ?_
 refine z6 ?_
 refine zy5 ?_
 refine z1 ?_
 refine Wb 37 rfl (fun hg5=>?_) (fun hg5=>?_)
 ·refine z1 ?_
  refine zc rfl Tryz.func86 ((ja) _) ?_
  refine zs5 ?_
  refine Wi rfl (fun hi2=>?_) (fun hi2=>?_)
  ·refine zu3 ?_
   refine zR ?_
   (rw[aq,if_pos h0,if_pos (by unfold dF;(try simp only[dnL]at *);omega)];rfl)
  refine Wj ?_
  refine zu2 ?_
  refine zR ?_
  (rw[aq,if_pos h0,if_neg (by unfold dF;(try simp only[dnL]at *);omega)];rfl)
 refine z6 ?_
 iterate 4 refine z6 ?_
 refine zs2 ?_
 refine Wf rfl rfl ?_
 refine Wj ?_
 refine zu2 ?_
 refine zR ?_
 (rw[aq,if_pos h0,if_neg (by unfold dF;(try simp only[dnL]at *);omega)];rfl)
theorem yN(v:VVm)(xt:Int)(hm:v.mem.b.length≤140737488355328)(hx:ae xt):ab Tryz.prog 47 [eVm v,i64 xt] (iu (aq v xt)):=by
 have h1:=jq
 have h2:=i5
 refine pW tG (rs:=[.tmp 4,.tmp 5]) Tryz.func47 rfl rfl rfl (by simp) (by simp) (fun B=>?_)
 refine zu3 ?_
 refine zp3 ?_
 refine zc rfl Tryz.func45 ((gT v.mem xt hm hx) _) ?_
 refine zs5 ?_
 refine Ws ?_
 refine zu2 ?_
 refine Wi rfl (fun hi1=>?_) (fun hi1=>?_)
 ·have h0:¬(au v.mem xt).2=0:=by simpa using hi1
  refine zu3 ?_
  refine zR ?_
  rw[aq,if_neg h0];rfl
 have h0:(au v.mem xt).2=0:=by simpa using hi1
 have w1:IntKind.i64.wrap (IntKind.i64.wrap (300+(lH.length:Int))-1)=336:=by rw[h2];decide
 have w2:IntKind.i64.wrap ((ao.length:Int)-1)=129:=by rw[h1];decide
 refine Wj ?_
 refine Ws ?_
 refine zp1 ?_
 refine zc rfl Tryz.func54 ((nL) _) ?_
 refine zy2 ?_
 refine zc rfl Tryz.func94 ((rU _ _ _) _) ?_
 refine z1 ?_
 refine Wb 23 rfl (fun hg1=>?_) (fun hg1=>?_)
 ·refine z6 ?_
  refine z6 ?_
  refine zy2 ?_
  iterate 6 refine z6 ?_
  refine zs1 ?_
  refine Wt rfl rfl ?_
  refine zu3 ?_
  refine zR ?_
  (rw[aq,if_pos h0,if_pos (by unfold dF;(try simp only[dnL]at *);omega)];rfl)
 refine z1 ?_
 refine zc rfl Tryz.func94 ((rU _ _ _) _) ?_
 refine zy2 ?_
 refine Wb 27 rfl (fun hg2=>?_) (fun hg2=>?_)
 ·refine z6 ?_
  iterate 5 refine z6 ?_
  refine zs1 ?_
  refine Wt rfl rfl ?_
  refine zu3 ?_
  refine zR ?_
  (rw[aq,if_pos h0,if_pos (by unfold dF;(try simp only[dnL]at *);omega)];rfl)
 refine z1 ?_
 refine zc rfl Tryz.func95 ((sH) _) ?_
 refine zy3 ?_
 refine zc rfl Tryz.func94 ((rU _ _ _) _) ?_
 refine zs1 ?_
 refine Wi rfl (fun hi2=>?_) (fun hi2=>?_)
 ·refine zu3 ?_
  refine zR ?_
  (rw[aq,if_pos h0,if_pos (by unfold dF;(try simp only[dnL]at *);omega)];rfl)
 refine Wj ?_
 refine zu2 ?_
 refine zR ?_
 (rw[aq,if_pos h0,if_neg (by unfold dF;(try simp only[dnL]at *);omega)];rfl)
theorem pg(m:aV)(at_:Int)(hm:cb m)(ha:ae at_):ab Tryz.prog 277 [dr m,i64 at_] (iu (ce m at_)):=by
 have hm1:=hm.b
 refine pW tG (rs:=[.tmp 4,.tmp 5]) Tryz.func277 rfl rfl rfl (by simp) (by simp) (fun B=>?_)
 refine zu3 ?_
 refine zp2 ?_
 refine zc rfl Tryz.func124 ((kn m at_ 1 (by omega) ha (Jd (n:=1) (by omega))) _) ?_
 refine zs1 ?_
 refine Ws ?_
 refine zu2 ?_
 refine Wi rfl (fun hi1=>?_) (fun hi1=>?_)
 ·refine zu2 ?_
  refine zR ?_
  rw[ce,if_neg (by simpa using hi1)];rfl
 have ht:ay m at_ 1=true:=by simpa using hi1
 obtain⟨k0,k1⟩:=qY (n:=1) ht (by omega)
 refine Wj ?_
 refine zp3 ?_
 refine Wv tG rfl rfl rfl (by omega) (iR av 1 (fun _=>rfl) 0 (by omega)) ?_
 refine zs4 ?_
 refine zR ?_
 rw[ce,if_pos ht];exact congrArg (fun z=>dm (i64 z) (i64 0)) (NQ _)
theorem Fx{l:List UInt8}{x:Int}{k:Nat}{s:SK}(h0:0≤x)(h1:x+k<l.length)(k2:IntKind.i64.wrap (x+(k:Int))=x+k):
  PV.seq ((l.drop x.toNat).take k++[l.getD (IntKind.i64.wrap (x+(k:Int))).toNat 0]).length (((l.drop x.toNat).take k++[l.getD (IntKind.i64.wrap (x+(k:Int))).toNat 0]).flatMap av) s=.seq ((l.drop x.toNat).take (k+1)).length (((l.drop x.toNat).take (k+1)).flatMap av) s:=by
 rw[k2,gE _ k 0 (by simp;omega)]
 have:l.getD (x+(k:Int)).toNat 0=(l.drop x.toNat).getD k 0:=by
  unfold List.getD
  rw[List.getElem?_drop]
  congr 2;omega
 rw[this]
theorem uv(m:aV)(at_ n:Int)(hm:cb m)(ha:ae at_)(hn:ae n):ab Tryz.prog 132 [dr m,i64 at_,i64 n] (Ec (bT m at_ n)):=by
 have hm1:=hm.b
 refine pW tG (rs:=[.tmp 6,.tmp 7]) Tryz.func132 rfl rfl rfl (by simp) (by simp) (fun B=>?_)
 refine zu3 ?_
 refine zp3 ?_
 refine zc rfl Tryz.func124 ((kn m at_ n (by omega) ha hn) _) ?_
 refine zs1 ?_
 refine Ws ?_
 refine zu2 ?_
 refine Wi rfl (fun hi1=>?_) (fun hi1=>?_)
 ·have ht:¬ay m at_ n=true:=by simpa using hi1
  refine zu2 ?_
  refine zR ?_
  rw[bT,if_neg ht];rfl
 have ht:ay m at_ n=true:=by simpa using hi1
 have hN:0≤n∧(0<n→0≤at_∧at_+n≤m.b.length):=by unfold ay at ht;simp only[decide_eq_true_eq]at ht;omega
 refine Wj ?_
 refine zp1 ?_
 refine ns 9 0 1 rfl rfl ?_
 refine Wn ?_
 refine Ws ?_
 refine zu1 ?_
 refine Wl ?_
 show W _ _ _ _ _ _ _
 refine bG (fun(k:Nat)=>[(1,i64 at_),(2,i64 n),(3,.ptr 0 0),(10,i64 k),(9,.seq ((m.b.drop at_.toNat).take k).length (((m.b.drop at_.toNat).take k).flatMap av) (.own 2 1))]) (fun(k:Nat)=>[.cells (np m) 27,.dead]) (fun(k:Nat)=>[.free (((m.b.drop at_.toNat).take k).length*1)]) (fun(k:Nat)=>(k:Int)≤n) (fun(k:Nat)=>n.toNat-k) (0) (by omega) [1] ?_ ?_
 ·exact bu
 intro k hk
 refine Ws ?_
 refine zu3 ?_
 refine Wi rfl (fun hi2=>?_) (fun hi2=>?_)
 ·have hlt:(k:Int)<n:=oT hi2
  have k2:IntKind.i64.wrap (at_+(k:Int))=at_+k:=s7 (by omega) (by omega)
  refine Wj ?_
  refine Ws ?_
  refine Wl ?_
  refine aa rfl ?_
  refine zy5 ?_
  refine z1 ?_
  refine Wv tG rfl rfl rfl (by rw[k2];omega) (iR av 1 (fun _=>rfl) 0 (by rw[k2];omega)) ?_
  refine zy2 ?_
  refine Wa 30 rfl (bsL av [_] rfl rfl) ?_
  refine Wd rfl rfl (aF (lO tG rfl) rfl (lO tG rfl) (lO tG rfl) rfl rfl rfl rfl (by simp) (by exact⟨_,rfl⟩) (by exact⟨rfl,rfl,ag _ 1 (fun _=>rfl) _,aB _ (fun _=>rfl) _⟩) (by((simp_all;omega))) (by((simp_all;omega)))) ?_
  refine Wa 31 rfl (aM av) ?_
  refine z1 ?_
  skip
  refine Wn ?_
  refine aa rfl ?_
  refine zs3 ?_
  exact⟨k+1,[3],(by omega),(by omega),(bu (sub:=by repeat (first|exact bo|refine aX (by first|exact aH rfl|exact aH (Fx (by omega) (by omega) k2)|exact aH (congrArg i64 (by(rw[aK];unfold wrap64;omega)))) ?_)))⟩
 have hkn:k=n.toNat:=by have:=oF hi2;omega
 refine aN ?_
 refine zu3 ?_
 refine zR ?_
 rw[bT,if_pos ht,←hkn];rfl
theorem FK(l:List UInt8)(k:Nat):dy l k []=l:=by simp[dy]
theorem CV{l b:List UInt8}{p k:Nat}(hk:k<b.length)(h:p+b.length≤l.length):(dy l p (b.take k)).set (p+k) (b.getD k 0)=dy l p (b.take (k+1)):=by
 unfold dy
 rw[gE b k 0 hk]
 apply List.ext_getElem?
 intro i
 have e1:(List.take p l).length=p:=by simp;omega
 have e2:(List.take k b).length=k:=by simp;omega
 simp only[List.getElem?_set,List.getElem?_append,List.length_append,e1,e2,List.length_singleton,List.getElem?_drop,List.length_drop]
 by_cases hi:p+k=i
 ·subst hi
  rw[if_pos rfl,if_pos (by omega),if_pos (by omega),if_neg (by omega),if_neg (by omega)]
  simp
 rw[if_neg hi]
 by_cases h1:i<p
 ·rw[if_pos (by omega),if_pos h1,if_pos (by omega),if_pos h1]
 by_cases h2:i<p+k
 ·rw[if_pos h2,if_neg h1,if_pos (by omega),if_neg h1,if_pos (by omega)]
 rw[if_neg h2,if_neg (by omega)]
 congr 1;omega
theorem BB{A B':Ob}{l b:List UInt8}{p k o:Nat}{e:TypeId}(hk:k<b.length)(h:p+b.length≤l.length)(ho:o=p+k):
  [A,B',Ob.cells ((dy l p (b.take (k+1))).flatMap av) e]=[A,B',.cells (cK ((dy l p (b.take k)).flatMap av) o [.val (.int .u8 ((b.getD k 0).toNat:Int))]) e]:=by
 subst ho
 rw[←CV hk h,←nv (by rw[lU (by simp;omega)];omega)]
theorem Kx{l b:List UInt8}{p k:Nat}(hk:b.length≤k)(h:p+b.length≤l.length):PV.seq l.length (((dy l p (b.take k)).flatMap av).take (dy l p (b.take k)).length) .any=sq av (dy l p b):=by
 rw[List.take_of_length_le hk,qg,List.take_length]
 unfold sq
 rw[lU h]
theorem km(m:aV)(at_:Int)(b:List UInt8)(hm:cb m)(ha:ae at_)(hb:b.length≤1000000):ab Tryz.prog 89 [dr m,i64 at_,sq av b] (mJ (bK m at_ b)):=by
 have hm1:=hm.b
 have hm2:=hm.old
 refine pW tG (rs:=[.cell 6 27,.tmp 7]) Tryz.func89 rfl rfl rfl (by simp) (by simp) (fun B=>?_)
 refine zu3 ?_
 refine zp4 ?_
 refine zc rfl Tryz.func124 ((kn m at_ b.length (by omega) ha (Jd hb)) _) ?_
 refine zs1 ?_
 refine Ws ?_
 refine zu2 ?_
 refine Wi rfl (fun hi1=>?_) (fun hi1=>?_)
 ·rw[sN (by simpa using hi1)]
  refine zu3 ?_
  refine zR ?_
  rfl
 have ht:ay m at_ b.length=true:=by simpa using hi1
 refine Wj ?_
 refine Ws ?_
 refine zu3 ?_
 refine Wi rfl (fun hi2=>?_) (fun hi2=>?_)
 ·rw[qy ht (by simpa using hi2)]
  refine zu3 ?_
  refine zR ?_
  rfl
 have hne:b.length≠0:=by simpa using hi2
 obtain⟨k0,k1⟩:=qY ht hne
 have hX:(bT m at_ b.length).1=(m.b.drop at_.toNat).take b.length:=by unfold bT;rw[if_pos ht];simp
 refine Wj ?_
 refine zp4 ?_
 refine zc rfl Tryz.func132 ((uv m at_ b.length hm ha (Jd hb)) _) ?_
 refine zs5 ?_
 refine zp3 ?_
 refine Wd rfl rfl (qE (lO tG rfl) rfl (lO tG rfl) (lO tG rfl) rfl rfl ⟨_,rfl⟩ ⟨rfl,rfl,ag _ 1 (fun _=>rfl) _,aB _ (fun _=>rfl) _⟩ rfl (by dsimp only;omega) (by omega) (by omega)) ?_
 refine Wa 36 rfl (show PV.arw 2 0 (0+m.b.length)=.arw 2 0 m.b.length by rw[Nat.zero_add]) ?_
 refine lA (H':=[.cells (np m) 27,.cells [.seq 0 [] .clip,.seq 0 [] .clip] 27,.cells ((dy m.b at_.toNat (b.take 0)).flatMap av) 5]) (by rw[List.take_zero,FK];rfl) ?_
 refine zs1 ?_
 refine Ws ?_
 refine zu1 ?_
 refine Wl ?_
 show W _ _ _ _ _ _ _
 refine bG (fun(k:Nat)=>[(1,i64 at_),(2,sq av b),(3,.ptr 0 0),(6,.ptr 1 0),(9,sq av (bT m at_ b.length).1),(11,.arw 2 0 m.b.length),(12,i64 k)]) (fun(k:Nat)=>[.cells (np m) 27,.cells [.seq 0 [] .clip,.seq 0 [] .clip] 27,.cells ((dy m.b at_.toNat (b.take k)).flatMap av) 5]) (fun(k:Nat)=>[]) (fun(k:Nat)=>k≤b.length) (fun(k:Nat)=>b.length-k) (0) (by omega) [] ?_ ?_
 ·exact bu
 intro k hk
 refine Ws ?_
 refine zu4 ?_
 refine Wi rfl (fun hi3=>?_) (fun hi3=>?_)
 ·have hlt:k<b.length:=by have:=oT hi3;omega
  have k2:IntKind.i64.wrap (at_+(k:Int))=at_+k:=s7 (by omega) (by omega)
  refine Wj ?_
  refine Ws ?_
  refine Wl ?_
  refine aa rfl ?_
  refine zy5 ?_
  refine z1 ?_
  refine Wv tG rfl rfl rfl (by omega) (iN av 1 (fun _=>rfl) 0 (by omega)) ?_
  refine z1 ?_
  refine z2 ?_ (q:=(by rw[k2];omega))
  refine Wd rfl rfl (bH (lO tG rfl) rfl rfl rfl rfl rfl rfl (by rw[Nat.ble_eq,dk,lU (by simp;omega)];dsimp only;rw[k2];simp;omega)) ?_
  refine lA (H':=[.cells (np m) 27,.cells [.seq 0 [] .clip,.seq 0 [] .clip] 27,.cells ((dy m.b at_.toNat (b.take (k+1))).flatMap av) 5]) (BB hlt (by omega) (by rw[k2];dsimp only;omega)) ?_
  refine Wn ?_
  refine aa rfl ?_
  refine zs3 ?_
  exact⟨k+1,[],(by omega),(by omega),bu⟩
 have hge:b.length≤k:=by have:=oF hi3;omega
 refine aN ?_
 refine zp1 ?_
 refine kf 52 2 _ (dy m.b at_.toNat (b.take k)).length rfl rfl (by rw[dk];exact Nat.le_refl _) ?_
 refine Wa 52 rfl (Kx hge (by omega)) ?_
 refine zy3 ?_
 refine Wd rfl rfl (aC (lO tG rfl) rfl (lO tG rfl) (lO tG rfl) rfl rfl (by exact⟨_,rfl⟩) (by exact⟨rfl,rfl,ag _ 2 (fun _=>rfl) _,aB _ (fun _=>rfl) _⟩) (by rfl) (by(dsimp only;omega)) (by(omega))) ?_
 refine Wa 56 rfl (i4 cL) ?_
 refine zy4 ?_
 refine Wa 60 rfl ((show PV.seq 1 _ .clip=.seq (List.length [(⟨at_,(bT m at_ b.length).1⟩:gY)]) (List.flatMap cL [(⟨at_,(bT m at_ b.length).1⟩:gY)]) .clip from rfl)) ?_
 refine Wd rfl rfl (aF (lO tG rfl) rfl (lO tG rfl) (lO tG rfl) rfl rfl rfl rfl (by simp) (by exact⟨_,rfl⟩) (by exact⟨rfl,rfl,ag _ 2 (fun _=>rfl) _,aB _ (fun _=>rfl) _⟩) (by((simp_all;omega))) (by((simp_all;omega)))) ?_
 refine Wa 61 rfl (aM cL) ?_
 refine zs3 ?_
 refine zR ?_
 rw[qp ht hne,←hX];rfl
theorem fy(m:aV)(at_ n:Int)(hm:cb m)(ha:ae at_):ab Tryz.prog 42 [dr m,i64 at_,i64 n] (mJ (aG m at_ n)):=by
 have hm1:=hm.b
 have hm2:=hm.old
 refine pW tG (rs:=[.cell 6 27,.tmp 7]) Tryz.func42 rfl rfl rfl (by simp) (by simp) (fun B=>?_)
 refine zu3 ?_
 refine zp2 ?_
 refine zc rfl Tryz.func88 ((tY m at_ (by omega) ha) _) ?_
 refine zs1 ?_
 refine Ws ?_
 refine zu2 ?_
 refine Wi rfl (fun hi1=>?_) (fun hi1=>?_)
 ·have h0:bE m at_≠0:=by simpa using hi1
  refine zu4 ?_
  refine zR ?_
  rw[aG,if_neg h0];rfl
 have h0:bE m at_=0:=by simpa using hi1
 refine Wj ?_
 refine Ws ?_
 refine ai [1,0,0,0,0,0,0,3,0] [0,1,2,3,4,5,6,7,8] mG rfl (by kernel_rfl) ?_
 refine z5 ?_
 iterate 2 refine z3 ?_
 refine Xc rfl rfl rfl rfl (fun _=>dC rfl Tryz.func90 rfl rfl ((AU n) _)) ?_
 refine Xc rfl rfl rfl rfl (fun _=>dC rfl Tryz.func89 rfl rfl ((km m at_ (mz n) hm ha (by rw[hZ];omega)) _)) ?_
 iterate 2 refine z3 ?_
 refine aZ tG rfl rfl rfl rfl rfl trivial ?_
 refine z3 ?_
 refine ah ?_
 refine zR ?_
 rw[aG,if_pos h0];rfl
theorem vy(m:aV)(at_ n:Int)(hm:cb m)(ha:ae at_):ab Tryz.prog 278 [dr m,i64 at_,i64 n] (mJ (jc m at_ n)):=by
 refine pW tG (rs:=[.cell 6 27,.tmp 7]) Tryz.func278 rfl rfl rfl (by simp) (by simp) (fun B=>?_)
 refine zu3 ?_
 refine zp4 ?_
 refine Wa 11 rfl (lm n) ?_
 refine z1 ?_
 refine Wa 12 rfl (bsL av [_] rfl rfl) ?_
 refine zc rfl Tryz.func89 ((km m at_ [loB n] hm ha (by simp)) _) ?_
 refine zs4 ?_
 refine zR ?_
 rfl
theorem IE(m:aV)(x to_ n:Int)(hm:cb m)(hx:ae x)(ht:ae to_)(hn:ae n):ab Tryz.prog 280 [dr m,i64 x,i64 to_,i64 n] (mJ (ik m x to_ n)):=by
 refine pW tG (rs:=[.cell 8 27,.tmp 9]) Tryz.func280 rfl rfl rfl (by simp) (by simp) (fun B=>?_)
 refine zu3 ?_
 refine zp3 ?_
 refine zc rfl Tryz.func132 ((uv m x n hm hx hn) _) ?_
 refine zs5 ?_
 refine Ws ?_
 refine zu2 ?_
 refine Wi rfl (fun hi1=>?_) (fun hi1=>?_)
 ·have h0:¬(bT m x n).2=0:=by simpa using hi1
  refine zu4 ?_
  refine zR ?_
  rw[ik,if_neg h0];rfl
 have h0:(bT m x n).2=0:=by simpa using hi1
 refine Wj ?_
 refine zp3 ?_
 refine zc rfl Tryz.func89 ((km m to_ _ hm ht (sI hm)) _) ?_
 refine zs4 ?_
 refine zR ?_
 rw[ik,if_pos h0];rfl
def lg(c:UInt8)(n k:Nat):List UInt8:=List.replicate k c++List.replicate (n-k) 0
theorem rT{c:UInt8}{n k:Nat}(h:k≤n):(lg c n k).length=n:=by simp[lg];omega
theorem EQ{c:UInt8}{n k:Nat}(h:k<n):(lg c n k).set k c=lg c n (k+1):=by
 unfold lg
 apply List.ext_getElem?
 intro i
 simp only[List.getElem?_set,List.getElem?_append,List.length_append,List.length_replicate,List.getElem?_replicate]
 by_cases hi:k=i
 ·subst hi;rw[if_pos rfl,if_pos (by omega),if_pos (by omega),if_pos (by omega)]
 rw[if_neg hi]
 repeat' split
 all_goals first|rfl|(exfalso;omega)
theorem Ct{A B':Ob}{c:UInt8}{n k o:Nat}{e:TypeId}(hk:k<n)(ho:o=k):[A,B',Ob.cells ((lg c n (k+1)).flatMap av) e]=[A,B',.cells (cK ((lg c n k).flatMap av) o [.val (.int .u8 (c.toNat:Int))]) e]:=by
 subst ho
 rw[←EQ hk,←nv (by rw[rT (by omega)];omega)]
theorem EK{A B':Ob}{c:UInt8}{n:Nat}{d:TD}{e:TypeId}(hd:d.zero=av 0):[A,B',Ob.cells ((lg c n 0).flatMap av) e]=[A,B',.cells (dD n d) e]:=by
 unfold dD lg
 rw[hd]
 simp only[List.replicate_zero,List.nil_append,Nat.sub_zero,List.flatMap_replicate]
theorem Ib{c:UInt8}{n k:Nat}(h:n≤k)(h2:k≤n):PV.seq n (((lg c n k).flatMap av).take n) .any=sq av (List.replicate n c):=by
 have:k=n:=by omega
 subst this
 unfold lg
 rw[Nat.sub_self,List.replicate_zero,List.append_nil,qg,List.take_of_length_le (by simp)]
 unfold sq
 simp
theorem Ky(m:aV)(at_ n c:Int)(hm:cb m)(ha:ae at_)(hn:ae n):ab Tryz.prog 279 [dr m,i64 at_,i64 n,i64 c] (mJ (im m at_ n c)):=by
 have hm1:=hm.b
 have hm2:=hm.old
 refine pW tG (rs:=[.cell 8 27,.tmp 9]) Tryz.func279 rfl rfl rfl (by simp) (by simp) (fun B=>?_)
 refine zu3 ?_
 refine zp3 ?_
 refine zc rfl Tryz.func124 ((kn m at_ n (by omega) ha hn) _) ?_
 refine zs1 ?_
 refine Ws ?_
 refine zu2 ?_
 refine Wi rfl (fun hi1=>?_) (fun hi1=>?_)
 ·have ht:¬ay m at_ n=true:=by simpa using hi1
  refine zu3 ?_
  refine zR ?_
  rw[im,if_neg ht];rfl
 have ht:ay m at_ n=true:=by simpa using hi1
 have hN:0≤n∧n≤1000000:=by unfold ay at ht;simp only[decide_eq_true_eq]at ht;omega
 refine Wj ?_
 refine zp1 ?_
 refine z2 ?_ (q:=(by(simp_all;omega)))
 refine Wa 21 rfl (show PV.arr 2 0 n.toNat n.toNat=.arr 2 0 n.toNat n.toNat from rfl) ?_
 refine lA (H':=[.cells (np m) 27,.cells [.seq 0 [] .clip,.seq 0 [] .clip] 27,.cells ((lg (loB c) n.toNat 0).flatMap av) 5]) (EK rfl) ?_
 refine zs1 ?_
 refine Ws ?_
 refine zu1 ?_
 refine Wl ?_
 show W _ _ _ _ _ _ _
 refine bG (fun(k:Nat)=>[(1,i64 at_),(2,i64 n),(3,i64 c),(4,.ptr 0 0),(8,.ptr 1 0),(11,.arr 2 0 n.toNat n.toNat),(12,i64 k)]) (fun(k:Nat)=>[.cells (np m) 27,.cells [.seq 0 [] .clip,.seq 0 [] .clip] 27,.cells ((lg (loB c) n.toNat k).flatMap av) 5]) (fun(k:Nat)=>[]) (fun(k:Nat)=>k≤n.toNat) (fun(k:Nat)=>n.toNat-k) (0) (by omega) [] ?_ ?_
 ·exact bu
 intro k hk
 refine Ws ?_
 refine zu3 ?_
 refine Wi rfl (fun hi2=>?_) (fun hi2=>?_)
 ·have hlt:k<n.toNat:=by have:=oT hi2;omega
  refine Wj ?_
  refine Ws ?_
  refine Wl ?_
  refine aa rfl ?_
  refine zy4 ?_
  refine Wa 30 rfl (lm c) ?_
  refine z2 ?_ (q:=(by omega))
  refine Wd rfl rfl (bH (lO tG rfl) rfl rfl rfl rfl rfl rfl (by rw[Nat.ble_eq,dk,rT (by omega)];dsimp only;simp;omega)) ?_
  refine lA (H':=[.cells (np m) 27,.cells [.seq 0 [] .clip,.seq 0 [] .clip] 27,.cells ((lg (loB c) n.toNat (k+1)).flatMap av) 5]) (Ct hlt (by dsimp only;omega)) ?_
  refine Wn ?_
  refine aa rfl ?_
  refine zs3 ?_
  exact⟨k+1,[],(by omega),(by omega),bu⟩
 have hge:n.toNat≤k:=by have:=oF hi2;omega
 refine aN ?_
 refine zp3 ?_
 refine Wm 34 rfl (jM (Nat.le_refl _)) ?_
 refine kf 34 2 _ n.toNat rfl rfl (by rw[dk,rT hk];exact Nat.le_refl _) ?_
 refine Wa 34 rfl (Ib hge hk) ?_
 refine zc rfl Tryz.func89 ((km m at_ _ hm ha (by simp;omega)) _) ?_
 refine zs4 ?_
 refine zR ?_
 rw[im,if_pos ht];rfl
end Go.Proofs.YtiibjcnedbncjaaGreatDoor
