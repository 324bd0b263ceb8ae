import Derived.Stop.IfaceNil
import Derived.Test.YtjcminooghmpeaaGreatDoorPk4
set_option linter.all false
set_option maxRecDepth 100000
set_option maxHeartbeats 40000000
open Go.Proofs.Tryz
namespace Go.Proofs.YtjcminooghmpeaaGreatDoor
open Go.RowKit
theorem qt(a b:Int):lU [47] a b=((two .quo a b).1,true,(two .quo a b).2):=rfl
theorem qC(a b:Int):lU [77,79,68] a b=((two .rem a b).1,true,(two .rem a b).2):=rfl
theorem qH(a b:Int):lU [43] a b=((two .add a b).1,true,(two .add a b).2):=rfl
theorem qJ(a b:Int):lU [45] a b=((two .sub a b).1,true,(two .sub a b).2):=rfl
theorem rp(a b:Int):lU [42] a b=((two .mul a b).1,true,(two .mul a b).2):=rfl
theorem rr(a b:Int):lU [65,78,68] a b=((two .and a b).1,true,(two .and a b).2):=rfl
theorem vv(a b:Int):lU [79,82] a b=((two .or a b).1,true,(two .or a b).2):=rfl
theorem qW(a b:Int):lU [88,79,82] a b=((two .xor a b).1,true,(two .xor a b).2):=rfl
theorem qw(a b:Int):lU [76,83,72,73,70,84] a b=((two .shl a b).1,true,(two .shl a b).2):=rfl
theorem qT(a b:Int):lU [82,83,72,73,70,84] a b=((two .shr a b).1,true,(two .shr a b).2):=rfl
theorem rE(a b:Int):lU [77,73,78] a b=((two .min a b).1,true,(two .min a b).2):=rfl
theorem qK(a b:Int):lU [77,65,88] a b=((two .max a b).1,true,(two .max a b).2):=rfl
theorem RS{s:Str}{a b:Int}(h0:s≠[47])(h1:s≠[77,79,68])(h2:s≠[43])(h3:s≠[45])(h4:s≠[42])(h5:s≠[65,78,68])(h6:s≠[79,82])(h7:s≠[88,79,82])(h8:s≠[76,83,72,73,70,84])(h9:s≠[82,83,72,73,70,84])(h10:s≠[77,73,78])(h11:s≠[77,65,88]):xa (lU s a b)=jW (i64 (GM s a b).1) (boo (GM s a b).2) (i64 0):=by
 unfold GM
 by_cases h12:s=[61]
 ·subst h12;rfl
 rw[if_neg h12]
 by_cases h13:s=[60,62]
 ·subst h13;rfl
 rw[if_neg h13]
 by_cases h15:s=[62]
 ·subst h15;rfl
 rw[if_neg h15]
 by_cases h14:s=[60]
 ·subst h14;rfl
 rw[if_neg h14]
 by_cases h16:s=[60,61]
 ·subst h16;rfl
 rw[if_neg h16]
 by_cases h17:s=[62,61]
 ·subst h17;rfl
 rw[if_neg h17]
 by_cases h19:s=[85,62]
 ·subst h19;rfl
 rw[if_neg h19]
 by_cases h18:s=[85,60]
 ·subst h18;rfl
 rw[if_neg h18]
 rw[XK (Qi h0 h1 h2 h3 h4 h5 h6 h7 h8 h9 h10 h11 h12 h13 h14 h15 h16 h17 h18 h19)];rfl
theorem WS(name:Str)(a b:Int)(hb:Fit b):ab prog 242 [str name,i64 a,i64 b] (xa (lU name a b)):=by
 refine zY func242 fun B=>?_
 refine zu3 ?_
 refine Ws<|zu1 ?_
 refine Wl<|Ws<|zp1 ?_
 refine zq 16 ?_
 refine zs1 ?_
 refine Wi rfl (fun hi1=>?_) (fun hi1=>?_)
 ·refine Wj<|Wt rfl hi1 ?_
  refine zp2 ?_
  refine zc rfl func272 ((QX a b hb) _) ?_
  refine zy5 ?_
  refine zs2 ?_
  refine Ws<|zp2 ?_
  refine zq 26 ?_
  refine Wn<|Wi rfl (fun hi2=>?_) (fun hi2=>?_)
  ·refine aa rfl ?_
   refine zs2 ?_
   refine zu5 ?_
   refine zR ?_
   (exfalso;(try simp only[dnL]at *);simp_all;done)
  refine Wj<|zu5 ?_
  refine zR ?_
  ((try simp only[dnL]at *);simp_all[xa,jW,i64,boo,bS,two,BF,orS,Bz,IntKind.bits,qt,qC,qH,qJ,rp,rr,vv,qW,qw,qT,rE,qK];done)
 refine aa rfl ?_
 refine z1 ?_
 refine zq 17 ?_
 refine zs1 ?_
 refine Wi rfl (fun hi3=>?_) (fun hi3=>?_)
 ·refine zp2 ?_
  refine zc rfl func272 ((QX a b hb) _) ?_
  refine zy5 ?_
  refine zs2 ?_
  refine Ws<|zp2 ?_
  refine zq 26 ?_
  refine Wn<|Wi rfl (fun hi2=>?_) (fun hi2=>?_)
  ·refine aa rfl ?_
   refine zs2 ?_
   refine zu5 ?_
   refine zR ?_
   ((try simp only[dnL]at *);simp_all[xa,jW,i64,boo,bS,two,BF,orS,Bz,IntKind.bits,qt,qC,qH,qJ,rp,rr,vv,qW,qw,qT,rE,qK];done)
  refine Wj<|zu5 ?_
  refine zR ?_
  (exfalso;(try simp only[dnL]at *);simp_all;done)
 refine zp1 ?_
 refine zq 31 ?_
 refine zs1 ?_
 refine Wi rfl (fun hi4=>?_) (fun hi4=>?_)
 ·refine zp5 ?_
  refine zs1 ?_
  refine zR ?_
  ((try simp only[dnL]at *);simp_all[xa,jW,i64,boo,bS,two,BF,orS,Bz,IntKind.bits,qt,qC,qH,qJ,rp,rr,vv,qW,qw,qT,rE,qK];done)
 refine zp1 ?_
 refine zq 36 ?_
 refine zs1 ?_
 refine Wi rfl (fun hi5=>?_) (fun hi5=>?_)
 ·refine zp5 ?_
  refine zs1 ?_
  refine zR ?_
  ((try simp only[dnL]at *);simp_all[xa,jW,i64,boo,bS,two,BF,orS,Bz,IntKind.bits,qt,qC,qH,qJ,rp,rr,vv,qW,qw,qT,rE,qK];done)
 refine zp1 ?_
 refine zq 41 ?_
 refine zs1 ?_
 refine Wi rfl (fun hi6=>?_) (fun hi6=>?_)
 ·refine zp5 ?_
  refine zs1 ?_
  refine zR ?_
  ((try simp only[dnL]at *);simp_all[xa,jW,i64,boo,bS,two,BF,orS,Bz,IntKind.bits,qt,qC,qH,qJ,rp,rr,vv,qW,qw,qT,rE,qK];done)
 refine zp1 ?_
 refine zq 46 ?_
 refine zs1 ?_
 refine Wi rfl (fun hi7=>?_) (fun hi7=>?_)
 ·refine zp5 ?_
  refine zs1 ?_
  refine zR ?_
  ((try simp only[dnL]at *);subst_vars;exact congrArg (fun z=>jW (i64 z) (boo true) (i64 0)) (bS _))
 refine zp1 ?_
 refine zq 51 ?_
 refine zs1 ?_
 refine Wi rfl (fun hi8=>?_) (fun hi8=>?_)
 ·refine zp5 ?_
  refine zs1 ?_
  refine zR ?_
  ((try simp only[dnL]at *);subst_vars;exact congrArg (fun z=>jW (i64 z) (boo true) (i64 0)) (bS _))
 refine zp1 ?_
 refine zq 56 ?_
 refine zs1 ?_
 refine Wi rfl (fun hi9=>?_) (fun hi9=>?_)
 ·refine zp5 ?_
  refine zs1 ?_
  refine zR ?_
  ((try simp only[dnL]at *);subst_vars;exact congrArg (fun z=>jW (i64 z) (boo true) (i64 0)) (bS _))
 refine Ws<|zp1 ?_
 refine zq 61 ?_
 refine zs1 ?_
 refine Wi rfl (fun hi10=>?_) (fun hi10=>?_)
 ·refine Wj<|Wt rfl hi10 ?_
  refine zp4 ?_
  refine zq 66 ?_
  refine zc rfl func273 ((B4 a b _) _) ?_
  refine zs3 ?_
  refine zR ?_
  ((try simp only[dnL]at *);simp_all[xa,jW,i64,boo,bS,two,BF,orS,Bz,IntKind.bits,qt,qC,qH,qJ,rp,rr,vv,qW,qw,qT,rE,qK];done)
 refine aa rfl ?_
 refine z1 ?_
 refine zq 62 ?_
 refine zs1 ?_
 refine Wi rfl (fun hi11=>?_) (fun hi11=>?_)
 ·refine zp4 ?_
  refine zq 66 ?_
  refine zc rfl func273 ((B4 a b _) _) ?_
  refine zs3 ?_
  refine zR ?_
  ((try simp only[dnL]at *);simp_all[xa,jW,i64,boo,bS,two,BF,orS,Bz,IntKind.bits,qt,qC,qH,qJ,rp,rr,vv,qW,qw,qT,rE,qK];done)
 refine zp1 ?_
 refine zq 69 ?_
 refine zs1 ?_
 refine Wi rfl (fun hi12=>?_) (fun hi12=>?_)
 ·refine zp5 ?_
  refine zs1 ?_
  refine zR ?_
  ((try simp only[dnL]at *);simp_all[xa,jW,i64,boo,bS,two,BF,orS,Bz,IntKind.bits,qt,qC,qH,qJ,rp,rr,vv,qW,qw,qT,rE,qK];done)
 refine zp1 ?_
 refine zq 74 ?_
 refine zs1 ?_
 refine Wi rfl (fun hi13=>?_) (fun hi13=>?_)
 ·refine zp5 ?_
  refine zs1 ?_
  refine zR ?_
  ((try simp only[dnL]at *);simp_all[xa,jW,i64,boo,bS,two,BF,orS,Bz,IntKind.bits,qt,qC,qH,qJ,rp,rr,vv,qW,qw,qT,rE,qK];done)
 refine Wj<|zp3 ?_
 refine zc rfl func274 ((PA name a b) _) ?_
 refine zs5 ?_
 refine zu5 ?_
 refine zR ?_
 ((try simp only[dnL]at *);exact(RS (by assumption) (by assumption) (by assumption) (by assumption) (by assumption) (by assumption) (by assumption) (by assumption) (by assumption) (by assumption) (by assumption) (by assumption)).symm)
theorem R5(p:dS)(n:Int)(hp:p.b.length<=1000000):ab prog 343 [yn p,i64 n] (Mv (oM p n)):=by
 refine zY func343 fun B=>?_
 refine zu3 ?_
 refine Ws<|zu2 ?_
 refine Wi rfl (fun hi1=>?_) (fun hi1=>?_)
 ·have h0:0<=n:=by(try simp only[dnL]at *);omega
  refine zu3 ?_
  refine zR ?_
  rw[oM,if_pos h0];rfl
 have h0:¬0<=n:=by(try simp only[dnL]at *);omega
 refine Wj<|zp1 ?_
 refine zc rfl func342 ((AS p 45 hp) _) ?_
 refine zs4 ?_
 refine zR ?_
 rw[oM,if_neg h0];rfl
def Gj(p:dS)(lo hi base:Int):dS×Int:=gC p (wb (io lo (io hi 0 base).2.1 base).2.1)
def aI(p:dS)(lo hi base:Int):dS×Int×Int×Int :=
 if base<2\/36<base then(p,lo,hi,-24)else
  if (Gj p lo hi base).2=0 then((Gj p lo hi base).1,(io lo (io hi 0 base).2.1 base).1,(io hi 0 base).1,0)else(p,lo,hi,(Gj p lo hi base).2)
def YH(r:dS×Int×Int×Int):PV:=OB (yn r.1) (i64 r.2.1) (i64 r.2.2.1) (i64 r.2.2.2)
@[simp] theorem ah7 (r : dS × Int × Int × Int) : aS (YH r) := by simp [YH]
theorem MC(n:Int):IntKind.i64.wrap (wb n)=wb n:=by rw[bS];unfold wb wrap64;split<;>(try split)<;>omega
theorem CF(p:dS)(lo hi base:Int)(hp:p.b.length<=1000000):ab prog 339 [yn p,i64 lo,i64 hi,i64 base] (YH (aI p lo hi base)):=by
 refine zY func339 fun B=>?_
 refine zu5 ?_
 refine Ws<|zp3 ?_
 refine Wb 22 rfl (fun hg1=>?_) (fun hg1=>?_)
 ·refine z6 ?_
  refine z6 ?_
  refine zs1 ?_
  refine Wt rfl rfl ?_
  refine zp5 ?_
  refine zs2 ?_
  refine zR ?_
  rw[aI,if_pos (by(try simp only[dnL]at *);omega)];rfl
 refine zs3 ?_
 refine Wi rfl (fun hi1=>?_) (fun hi1=>?_)
 ·have hb:base<2\/36<base:=by(try simp only[dnL]at *);omega
  refine zp5 ?_
  refine zs2 ?_
  refine zR ?_
  rw[aI,if_pos hb];rfl
 have hb:¬(base<2\/36<base):=by(try simp only[dnL]at *);omega
 refine Wj<|zp2 ?_
 refine zc rfl func287 ((I0 hi 0 base) _) ?_
 refine zy5 ?_
 refine zs2 ?_
 refine zp3 ?_
 refine zc rfl func287 ((I0 lo _ base) _) ?_
 refine zy5 ?_
 refine zs2 ?_
 refine Ws<|az [1,0,0,0,0,0,0,0,2,3,0] [0,1,2,3,4,5,6,7,8,9,10] mG rfl (by kernel_rfl) ?_
 refine z5 ?_
 refine z3 ?_
 refine Xc rfl rfl rfl rfl (fun _=>dC rfl func379 rfl rfl ((Uw _) _)) ?_
 refine z3 ?_
 refine Xa 48 rfl (congrArg (fun z=>PV.val (Value.int .i64 z)) (MC _)) ?_
 refine Xc rfl rfl rfl rfl (fun _=>dC rfl func342 rfl rfl ((AS p _ hp) _)) ?_
 iterate 3 refine z3 ?_
 refine uU tG rfl rfl rfl rfl rfl trivial rfl ?_
 refine dz tG rfl rfl rfl rfl rfl trivial ?_
 refine z3 ?_
 refine aP ?_
 refine Ws<|zu2 ?_
 refine Wi rfl (fun hi2=>?_) (fun hi2=>?_)
 ·have h0:¬(Gj p lo hi base).2=0:=by(try simp only[dnL]at *);exact hi2
  refine zp5 ?_
  refine zs3 ?_
  refine zR ?_
  rw[aI,if_neg hb,if_neg h0];rfl
 have h0:(Gj p lo hi base).2=0:=by(try simp only[dnL]at *);exact hi2
 refine Wj<|zp5 ?_
 refine zs2 ?_
 refine zR ?_
 rw[aI,if_neg hb,if_pos h0];rfl
def lq(p:dS):List UInt8×Int:=if p.on then(p.b.reverse,0)else([],-17)
theorem On(n:Nat)(h:n<=1000000):ab prog 373 [.val (.int .u64 1),.val (.int .u64 n)] (ic (.val (.int .u64 0)) (.val (.int .u64 n))):=by
 refine dT (P:=prog) (args:=[.int .u64 1,.int .u64 n]) (v:=.tuple #[.int .u64 0,.int .u64 n]) (fun c=>?_) (fun w=>?_)
 ·unfold ic Rep
  exact⟨[_,_],rfl,aj.2 ⟨ar _ _,aj.2 ⟨ar _ _,aG.2 rfl⟩⟩⟩
 refine Calls.mono (Tryz.bits_Mul 1 n (by omega) (by omega) w) ?_
 rintro e w' ⟨rfl,rfl⟩
 refine⟨?_,aX.refl _⟩
 rw[Nat.one_mul,Nat.div_eq_of_lt (by omega),Nat.mod_eq_of_lt (by omega)];rfl
theorem Xw{n:Nat}(h:n<=1000000):PV.val (.int .u64 (IntKind.u64.wrap (n:Int)))=.val (.int .u64 (n:Int)):=by
 exact congrArg (fun z=>PV.val (Value.int .u64 z)) (by rw[IntKind.wrap_u64];omega)
theorem UK{n:Nat}(h:n<=1000000):PV.val (.int .i64 (IntKind.i64.wrap (n:Int)))=.val (.int .i64 (n:Int)):=by
 exact congrArg (fun z=>PV.val (Value.int .i64 z)) (by rw[bS];unfold wrap64;omega)
def dB(c:UInt8)(n k:Nat):List PV:=(List.replicate k c).flatMap aK++List.replicate (n-k) .any
theorem hJ{c:UInt8}{n k:Nat}(h:k<=n):(dB c n k).length=n:=by
 unfold dB
 rw[List.length_append,al aK 1 (fun _=>rfl)]
 simp;omega
theorem xq(c:UInt8)(k:Nat):(List.replicate k c).flatMap aK=List.replicate k (.val (.int .u8 (c.toNat:Int))):=by
 rw[List.flatMap_replicate]
 induction k with
 | zero=>rfl
 | succ k ih=>rw[List.replicate_succ,List.flatten_cons,ih];rfl
theorem vf{c:UInt8}{n k q:Nat}(h:k+q<=n):cy (dB c n k) k ((List.replicate q c).flatMap aK)=dB c n (k+q):=by
 unfold dB cy
 rw[xq,xq,xq,List.take_append_of_le_length (by simp),List.take_of_length_le (by simp),List.drop_append,List.length_replicate,List.length_replicate,List.drop_of_length_le (by simp),List.nil_append,List.drop_replicate,List.replicate_append_replicate]
 congr 2;omega
theorem qY{c:UInt8}{n k q:Nat}(h:q<=k):((dB c n k).drop 0).take q=(List.replicate q c).flatMap aK:=by
 unfold dB
 rw[xq,xq,List.drop_zero,List.take_append_of_le_length (by simpa using h),List.take_replicate,Nat.min_eq_left h]
theorem wB(c:UInt8)(n:Nat):List.replicate n .any=dB c n 0:=by simp[dB]
theorem VY:Tryz.f388.body.isNone=true:=by kernel_rfl
theorem UI:Extern.findNext Tryz.f388=none:=by kernel_rfl
theorem VF:Extern.find Tryz.f388=some (Extern.BytealgMakeNoZero.makeNoZero #[3] #[22]):=by kernel_rfl
theorem Vh : (Tryz.f388.name == "runtime.NumGoroutine") = false := by kernel_rfl
theorem Mi{B:Nat->Nat->Prop}{o:Oper}{T:Nat->PV}{H:List Ob}{x:Operand}{ats:Array TypeId}{m:Nat}(ho:o.op=.call {callee:=.value (.func 388),args:=#[x],argTypes:=ats})(hx:opv T x=.val (.int .i64 (m:Int)))(hm:m<=281474976710656):
  bI prog B o T H (.arw H.length 0 m) (H++[.cells (List.replicate m .any) 5]) :=
 yd ho func388 Vh VY UI VF (lO (G:=tys) (t:=22) tG rfl) rfl hx hm
def hZ(n:Nat):Nat:=if 8192<n then 8192 else n
theorem NH{n:Nat}(h:n≠0):0<hZ n:=by unfold hZ;split<;>omega
theorem L9{n:Nat}(h:n≠0):PV.val (.int .i64 ((min 1 n:Nat):Int))=.val (.int .i64 ((1:Nat):Int)):=by rw[Nat.min_eq_left (by omega)]
theorem Dd{c:UInt8}{n:Nat}{e:TypeId}(h:n≠0):[Ob.cells (dB c n 1) e]=[Ob.cells (cy (dB c n 0) 0 ((List.flatMap aK [c]).take (min 1 n*1))) e]:=by
 rw[Nat.min_eq_left (by omega)]
 have:=vf (c:=c) (n:=n) (k:=0) (q:=1) (by omega)
 rw[Nat.zero_add]at this
 rw[<-this];rfl
theorem Lo{k q:Nat}:PV.val (.int .i64 (if (q:Int)<(k:Int)then(q:Int)else(k:Int)))=.val (.int .i64 ((min k q:Nat):Int)) :=
 congrArg (fun z=>PV.val (Value.int .i64 z)) (by split<;>omega)
@[simp] theorem VI (c : UInt8) (n k : Nat) : ay (dB c n k) := by
 unfold dB
 refine fy (bt oy _) ?_
 induction (n-k)with
 | zero=>trivial
 | succ m ih=>rw[List.replicate_succ];exact⟨trivial,ih⟩
theorem Ik{n k:Nat}(h:k<n):PV.arr 0 (if n=(k:Int).toNat then 0 else 0+(k:Int).toNat*1) (n-(k:Int).toNat) (n-(k:Int).toNat)=.arr 0 k (n-k) (n-k):=by
 rw[Int.toNat_natCast,if_neg (by omega)];congr 1;omega
theorem GQ{n q:Nat}:PV.arr 0 (if n=0 then 0 else 0+0*1) ((q:Int).toNat-0) (n-0)=.arr 0 0 q n:=by
 simp
theorem AO{c:UInt8}{n k q:Nat}(h:q<=k):∀z∈((dB c n k).drop 0).take q,okC z=true:=by
 rw[qY h,xq]
 intro z hz
 rw[List.eq_of_mem_replicate hz];rfl
theorem Fo{c:UInt8}{n k q:Nat}{e:TypeId}(h:q<=k)(h2:k+q<=n):[Ob.cells (dB c n (k+q)) e]=[Ob.cells (cy (dB c n k) k (((dB c n k).drop 0).take (q*1))) e]:=by
 rw[Nat.mul_one,qY h,vf h2]
theorem Kw{a b:Nat}(h:a+b<=1000000):PV.val (.int .i64 (IntKind.i64.wrap ((a:Int)+(b:Int))))=.val (.int .i64 ((a+b:Nat):Int)) :=
 congrArg (fun z=>PV.val (Value.int .i64 z)) (by rw[bS];unfold wrap64;omega)
theorem Mb{c:UInt8}{n k:Nat}(h:n<=k)(h2:k<=n):PV.seq n ((dB c n k).take n) .any=sq aK (List.replicate n c):=by
 have:k=n:=by omega
 subst this
 have:=qY (c:=c) (n:=k) (k:=k) (q:=k) (Nat.le_refl _)
 rw[List.drop_zero]at this
 rw[this]
 unfold sq
 rw[List.length_replicate]
theorem Bk(c:UInt8)(n:Nat)(h:n<=1000000):ab prog 369 [sq aK [c],i64 n] (sq aK (List.replicate n c)):=by
 refine zY func369 fun B=>?_
 refine zu1 ?_
 refine Ws<|zu2 ?_
 refine Wi rfl (fun hi1=>?_) (fun hi1=>?_)
 ·have hz:n=0:=by simpa using hi1
  subst hz
  refine zu2 ?_
  refine zR ?_
  rfl
 have hn:n≠0:=by simpa using hi1
 have hcp:=NH hn
 refine Wj<|Ws<|zu2 ?_
 refine Wf rfl (by(simp only[dnL]at *;omega)) ?_
 refine Wj<|zp3 ?_
 refine Wa 21 rfl ((rfl:PV.val (.int .u64 (IntKind.u64.wrap ((1:Nat):Int)))=.val (.int .u64 1))) ?_
 refine zy2 ?_
 refine Wa 23 rfl (Xw h) ?_
 refine zc rfl func373 ((On n h) _) ?_
 refine zs5 ?_
 refine Ws<|zp3 ?_
 refine px 29 rfl (by rfl) ?_
 refine zs3 ?_
 refine Wf rfl (by(simp only[dnL]at *;omega)) ?_
 refine Wj<|zp2 ?_
 refine Wa 35 rfl (UK h) ?_
 refine zs1 ?_
 refine Ws<|zu3 ?_
 refine Wf rfl (by rfl) ?_
 refine Wj<|zu2 ?_
 refine Ws<|zu2 ?_
 refine Wi rfl (fun hi5=>?_) (fun hi5=>?_)
 ·have hq:8192=hZ n:=by unfold hZ;rw[if_pos (by have:=oT hi5;omega)]
  refine zp3 ?_
  refine Wa 45 rfl (congrArg (fun z=>PV.val (Value.int .i64 z)) (show IntKind.i64.wrap (Int.tdiv 8192 ((1:Nat):Int))=8192 by decide)) ?_
  refine zy3 ?_
  refine Wa 48 rfl (congrArg (fun z=>PV.val (Value.int .i64 z)) (show IntKind.i64.wrap (8192*((1:Nat):Int))=(hZ n:Int) by rw[<-hq];decide)) ?_
  refine zs1 ?_
  refine zu2 ?_
  refine Wf rfl (by(simp;omega)) ?_
  refine Wj<|zp1 ?_
  have hmk:n<=281474976710656:=by omega
  refine Wd (x:=.arw 0 0 n) (H':=[.cells (List.replicate n .any) 5]) rfl rfl (Mi (H:=[]) (m:=n) rfl rfl hmk) ?_
  refine zy2 ?_
  refine Wd rfl rfl (mS (lO tG rfl) rfl (lO tG rfl) rfl rfl ⟨_,_,rfl,by omega,by simp⟩ ⟨_,_,rfl,by omega,by simp⟩) ?_
  refine jx (H':=[.cells (dB c n 0) 5]) (by rw[<-wB]) ?_
  refine zs1 ?_
  refine zp2 ?_
  refine Wd rfl rfl (nt (lO tG rfl) rfl (lO tG rfl) rfl rfl rfl rfl (al _ 1 (fun _=>rfl) _) (bD _ (fun _=>rfl) _) (by rw[hJ (by omega)];(try dsimp only);(try omega))) ?_
  refine Wa 60 rfl (L9 hn) ?_
  refine jx (H':=[.cells (dB c n 1) 5]) (Dd hn) ?_
  refine zs1 ?_
  refine Ws<|Wl ?_
  show W _ _ _ _ _ _ _
  refine fX (fun(k:Nat)=>[(7,i64 n),(8,i64 (hZ n)),(9,.arr 0 0 n n),(10,i64 k)]) (fun(k:Nat)=>[.cells (dB c n k) 5]) (fun(k:Nat)=>[]) (fun(k:Nat)=>1<=k/\k<=n) (fun(k:Nat)=>n-k) (1) (by omega) [] ?_ ?_
  ·exact(fc (sub:=by repeat (first|exact fN|refine ew (by exact cP rfl) ?_)))
  intro k hk
  refine Ws<|zu3 ?_
  refine Wi rfl (fun hi7=>?_) (fun hi7=>?_)
  ·have hlt:k<n:=by have:=oT hi7;omega
   have hm1:min k (hZ n)<=n:=by omega
   refine Wj<|Wl<|zp3 ?_
   refine Wa 66 rfl (Lo) ?_
   refine zs1 ?_
   refine az [0,0,0,0,0,0,0,3,0,0] [0,1,2,3,4,5,6,7,8,9] mG rfl (by kernel_rfl) ?_
   iterate 3 refine z3 ?_
   refine z4 ?_ (q:=(by(simp;omega)))
   refine Xa 70 rfl (Ik hlt) ?_
   iterate 2 refine z3 ?_
   refine z4 ?_ (q:=(by(simp;omega)))
   refine Xa 73 rfl (GQ) ?_
   refine me rfl rfl rfl rfl (rV (lO tG rfl) rfl (lO tG rfl) rfl rfl rfl rfl (AO (by dsimp only;omega)) (by rw[hJ hk.2];dsimp only;omega) (by rw[hJ hk.2];dsimp only;omega)) ?_
   refine TX (H':=[.cells (dB c n (k+min (min k (hZ n)) (n-k))) 5]) (Fo (by omega) (by omega)) ?_
   refine z3 ?_
   refine Xa 75 rfl (Kw (by omega)) ?_
   refine z3 ?_
   refine aP ?_
   exact⟨k+min (min k (hZ n)) (n-k),[],(by omega),(by omega),fc⟩
  have hge:n<=k:=by have:=oF hi7;omega
  refine bf ?_
  refine zp1 ?_
  refine Wm 76 rfl (oV (Nat.le_refl _)) ?_
  refine pY 76 0 _ n rfl rfl (by rw[hJ hk.2];exact Nat.le_refl _) ?_
  refine Wa 76 rfl (Mb hge hk.2) ?_
  refine zs1 ?_
  refine zR ?_
  rfl
 have hq:hZ n=n:=by unfold hZ;rw[if_neg (by have:=oF hi5;omega)]
 refine Wj<|zp1 ?_
 have hmk:n<=281474976710656:=by omega
 refine Wd (x:=.arw 0 0 n) (H':=[.cells (List.replicate n .any) 5]) rfl rfl (Mi (H:=[]) (m:=n) rfl rfl hmk) ?_
 refine zy2 ?_
 refine Wd rfl rfl (mS (lO tG rfl) rfl (lO tG rfl) rfl rfl ⟨_,_,rfl,by omega,by simp⟩ ⟨_,_,rfl,by omega,by simp⟩) ?_
 refine jx (H':=[.cells (dB c n 0) 5]) (by rw[<-wB]) ?_
 refine zs1 ?_
 refine zp2 ?_
 refine Wd rfl rfl (nt (lO tG rfl) rfl (lO tG rfl) rfl rfl rfl rfl (al _ 1 (fun _=>rfl) _) (bD _ (fun _=>rfl) _) (by rw[hJ (by omega)];(try dsimp only);(try omega))) ?_
 refine Wa 60 rfl (L9 hn) ?_
 refine jx (H':=[.cells (dB c n 1) 5]) (Dd hn) ?_
 refine zs1 ?_
 refine Ws<|Wl ?_
 show W _ _ _ _ _ _ _
 refine fX (fun(k:Nat)=>[(7,i64 n),(8,i64 (hZ n)),(9,.arr 0 0 n n),(10,i64 k)]) (fun(k:Nat)=>[.cells (dB c n k) 5]) (fun(k:Nat)=>[]) (fun(k:Nat)=>1<=k/\k<=n) (fun(k:Nat)=>n-k) (1) (by omega) [] ?_ ?_
 ·exact(fc (sub:=by repeat (first|exact fN|refine ew (by first|exact cP rfl|exact cP (congrArg i64 (by rw[hq]))) ?_)))
 intro k hk
 refine Ws<|zu3 ?_
 refine Wi rfl (fun hi7=>?_) (fun hi7=>?_)
 ·have hlt:k<n:=by have:=oT hi7;omega
  have hm1:min k (hZ n)<=n:=by omega
  refine Wj<|Wl<|zp3 ?_
  refine Wa 66 rfl (Lo) ?_
  refine zs1 ?_
  refine az [0,0,0,0,0,0,0,3,0,0] [0,1,2,3,4,5,6,7,8,9] mG rfl (by kernel_rfl) ?_
  iterate 3 refine z3 ?_
  refine z4 ?_ (q:=(by(simp;omega)))
  refine Xa 70 rfl (Ik hlt) ?_
  iterate 2 refine z3 ?_
  refine z4 ?_ (q:=(by(simp;omega)))
  refine Xa 73 rfl (GQ) ?_
  refine me rfl rfl rfl rfl (rV (lO tG rfl) rfl (lO tG rfl) rfl rfl rfl rfl (AO (by dsimp only;omega)) (by rw[hJ hk.2];dsimp only;omega) (by rw[hJ hk.2];dsimp only;omega)) ?_
  refine TX (H':=[.cells (dB c n (k+min (min k (hZ n)) (n-k))) 5]) (Fo (by omega) (by omega)) ?_
  refine z3 ?_
  refine Xa 75 rfl (Kw (by omega)) ?_
  refine z3 ?_
  refine aP ?_
  exact⟨k+min (min k (hZ n)) (n-k),[],(by omega),(by omega),fc⟩
 have hge:n<=k:=by have:=oF hi7;omega
 refine bf ?_
 refine zp1 ?_
 refine Wm 76 rfl (oV (Nat.le_refl _)) ?_
 refine pY 76 0 _ n rfl rfl (by rw[hJ hk.2];exact Nat.le_refl _) ?_
 refine Wa 76 rfl (Mb hge hk.2) ?_
 refine zs1 ?_
 refine zR ?_
 rfl
theorem RC(m:bj)(at_ n c:Int)(hm:cZ m)(ha:ae at_)(hn:ae n):ab prog 305 [jl m,i64 at_,i64 n,i64 c] (vq (m5 m at_ n c)):=by
 have hm1:=hm.b
 have hm2:=hm.old
 refine zY func305 fun B=>?_
 refine zu3 ?_
 refine Ws<|zp3 ?_
 refine zc rfl func102 ((pr m at_ n (by omega) ha hn) _) ?_
 refine zs1 ?_
 refine Wi rfl (fun hi1=>?_) (fun hi1=>?_)
 ·have ht:¬bp m at_ n=true:=by simpa using hi1
  refine zu3 ?_
  refine zR ?_
  rw[m5,if_neg ht];rfl
 have ht:bp m at_ n=true:=by simpa using hi1
 have hN:0<=n/\n<=1000000:=by unfold bp at ht;simp only[decide_eq_true_eq]at ht;omega
 refine Wj<|Ws<|az [1,0,0,0,0,0,0,0,0,0,3,0] [0,1,2,3,4,5,6,7,8,9,10,11] mG rfl (by kernel_rfl) ?_
 refine z5 ?_
 iterate 3 refine z3 ?_
 refine Xa 19 rfl (zH c) ?_
 refine z3 ?_
 refine Xa 20 rfl (bsL aK [_] rfl rfl) ?_
 refine z3 ?_
 refine Xa 21 rfl ((show PV.val (.int .i64 n)=i64 ((n.toNat:Nat):Int) by rw[Int.toNat_of_nonneg hN.1];rfl)) ?_
 refine Xc rfl rfl rfl rfl (fun _=>dC rfl func369 rfl rfl ((Bk (loB c) n.toNat (by omega)) _)) ?_
 refine Xc rfl rfl rfl rfl (fun _=>dC rfl func123 rfl rfl ((nI m at_ _ hm ha (by simp;omega)) _)) ?_
 iterate 2 refine z3 ?_
 refine dz tG rfl rfl rfl rfl rfl trivial ?_
 refine z3 ?_
 refine aP ?_
 refine zR ?_
 rw[m5,if_pos ht];rfl
def l7(m:bj)(low here n:Int):Int×Int:=if n>m.b.length-here\/n<low-here then(here,-8)else(here+n,0)
def da(m:bj)(here:Int)(b:List UInt8):bj×Int×Int:=if (b.length:Int)>m.b.length-here then(m,here,-8)else((ce m here b).1,here+b.length,0)
def cv(m:bj)(here n:Int):bj×Int×Int:=if here.tmod 8=0 then da m here (tP n)else(m,here,-23)
def aM(m:bj)(here:Int):bj×Int×Int:=da m here (List.replicate ((8-here.tmod 8).tmod 8).toNat 0)
def BD(r:bj×Int×Int):PV:=jW (jl r.1) (i64 r.2.1) (i64 r.2.2)
@[simp] theorem ah6 (r : bj × Int × Int) : aS (BD r) := by simp [BD]
structure ia (m:bj) (here:Int):Prop where
 h0:0<=here
 h1:here<=m.b.length
theorem ia.fit{m:bj}{here:Int}(h:ia m here)(hm:cZ m):ae here:=by have:=h.h0;have:=h.h1;have:=hm.b;unfold ae;omega
theorem BZ(m:bj)(here:Int)(hm:cZ m)(hh:ia m here):ab prog 209 [.agg [sq aK m.b,sq mF m.old,i64 here]] (i64 (m.b.length-here)):=by
 have h0:=hh.h0
 have h1:=hh.h1
 have h2:=hm.b
 refine zY func209 fun B=>?_
 refine zu2 ?_
 refine zp5 ?_
 refine zs3 ?_
 refine zR ?_
 exact congrArg i64 (by((rw[bS];unfold wrap64;(try simp only[dnL]at *);omega)))
theorem NE(m:bj)(low here n:Int)(hm:cZ m)(hh:ia m here)(hl:ae low/\0<=low)(hn:ae n):ab prog 318 [jl m,i64 low,i64 here,i64 n] (qP (l7 m low here n)):=by
 have h0:=hh.h0
 have h1:=hh.h1
 have h2:=hm.b
 unfold ae at hl hn
 have w1:IntKind.i64.wrap (low-here)=low-here:=by((rw[bS];unfold wrap64;(try simp only[dnL]at *);omega))
 refine zY func318 fun B=>?_
 refine zu3 ?_
 refine zu5 ?_
 refine Ws<|zp2 ?_
 refine Wc rfl rfl (dW rfl rfl func209 rfl rfl (BZ m here hm hh _)) ?_
 refine zy2 ?_
 refine Wb 19 rfl (fun hg1=>?_) (fun hg1=>?_)
 ·refine z6 ?_
  iterate 4 refine z6 ?_
  refine zs1 ?_
  refine Wt rfl rfl ?_
  refine zu3 ?_
  refine zR ?_
  (rw[l7,if_pos (by(try simp only[dnL]at *);omega)];rfl)
 refine zy5 ?_
 refine zs1 ?_
 refine Wi rfl (fun hi1=>?_) (fun hi1=>?_)
 ·refine zu3 ?_
  refine zR ?_
  (rw[l7,if_pos (by(try simp only[dnL]at *);omega)];rfl)
 refine Wj<|zu5 ?_
 refine zR ?_
 (rw[l7,if_neg (by(try simp only[dnL]at *);omega)];exact congrArg (fun z=>ic (i64 z) (i64 0)) (by((rw[bS];unfold wrap64;(try simp only[dnL]at *);omega))))
theorem yu(m:bj)(here:Int)(b:List UInt8)(hm:cZ m)(hh:ia m here)(hb:b.length<=1000000):ab prog 174 [jl m,i64 here,sq aK b] (BD (da m here b)):=by
 have h0:=hh.h0
 have h1:=hh.h1
 have h2:=hm.b
 refine zY func174 fun B=>?_
 refine zu4 ?_
 refine zu5 ?_
 refine Ws<|zp3 ?_
 refine Wc rfl rfl (dW rfl rfl func209 rfl rfl (BZ m here hm hh _)) ?_
 refine zs1 ?_
 refine Wi rfl (fun hi1=>?_) (fun hi1=>?_)
 ·refine zu5 ?_
  refine zR ?_
  rw[da,if_pos (by(try simp only[dnL]at *);omega)];rfl
 refine Wj<|zp3 ?_
 refine zc rfl func123 ((nI m here b hm (hh.fit hm) hb) _) ?_
 refine zs4 ?_
 refine zp5 ?_
 refine zs3 ?_
 refine zR ?_
 rw[da,if_neg (by(try simp only[dnL]at *);omega)];exact congrArg (fun z=>jW (jl (ce m here b).1) (i64 z) (i64 0)) (by((rw[bS];unfold wrap64;(try simp only[dnL]at *);omega)))
theorem Ce(m:bj)(here n:Int)(hm:cZ m)(hh:ia m here):ab prog 127 [jl m,i64 here,i64 n] (BD (cv m here n)):=by
 have h0:=hh.h0
 have h1:=hh.h1
 have h2:=hm.b
 refine zY func127 fun B=>?_
 refine zu4 ?_
 refine Ws<|zu3 ?_
 refine Wi rfl (fun hi1=>?_) (fun hi1=>?_)
 ·refine zu5 ?_
  refine zR ?_
  rw[cv,if_neg (by(try simp only[dnL]at *);omega)];rfl
 refine Wj<|Ws<|az [1,0,0,0,0,0,0,0,3,0,0] [0,1,2,3,4,5,6,7,8,9,10] mG rfl (by kernel_rfl) ?_
 refine z5 ?_
 iterate 2 refine z3 ?_
 refine Xc rfl rfl rfl rfl (fun _=>dC rfl func124 rfl rfl ((C7 n) _)) ?_
 refine Xc rfl rfl rfl rfl (fun _=>dC rfl func174 rfl rfl ((yu m here (tP n) hm hh (by rw[kx];omega)) _)) ?_
 iterate 3 refine z3 ?_
 refine dz tG rfl rfl rfl rfl rfl trivial ?_
 iterate 2 refine z3 ?_
 refine aP ?_
 refine zR ?_
 rw[cv,if_pos (by(try simp only[dnL]at *);omega)];rfl
theorem as5{x:Int}(h:0<=x):0<=(8-x.tmod 8).tmod 8/\(8-x.tmod 8).tmod 8<8:=by
 rw[Int.tmod_eq_emod_of_nonneg h,Int.tmod_eq_emod_of_nonneg (by omega)];omega
theorem OV{c:UInt8}{n:Nat}{d:TD}(hz:d.zero=aK 0):fq n d=(List.replicate n (0:UInt8)).flatMap aK:=by
 unfold fq;rw[hz,List.flatMap_replicate]
theorem OQ{n:Int}{d:TD}(hz:d.zero=aK 0):PV.seq n.toNat (fq n.toNat d) .clip=sqc aK (List.replicate n.toNat (0:UInt8)):=by
 rw[OV (c:=0) hz];unfold sqc;rw[List.length_replicate]
theorem sg(m:bj)(here:Int)(hm:cZ m)(hh:ia m here):ab prog 220 [jl m,i64 here] (BD (aM m here)):=by
 have h0:=hh.h0
 have h1:=hh.h1
 have h2:=hm.b
 obtain⟨u0,u1⟩:=as5 h0
 have w1:IntKind.i64.wrap (8-here.tmod 8)=8-here.tmod 8:=by
  rw[bS];unfold wrap64;rw[Int.tmod_eq_emod_of_nonneg h0];omega
 refine zY func220 fun B=>?_
 refine zu4 ?_
 refine Ws<|az [1,0,0,0,0,0,0,0,0,0,0,3,0,0] [0,1,2,3,4,5,6,7,8,9,10,11,12,13] mG rfl (by kernel_rfl) ?_
 refine z5 ?_
 iterate 5 refine z3 ?_
 refine Xa 12 rfl ((show PV.val (.int .i64 _)=.val (.int .i64 ((8-here.tmod 8).tmod 8)) by rw[w1])) ?_
 refine gW rfl rfl rfl rfl (fun _=>D5 (lO tG rfl) rfl (lO tG rfl) rfl rfl rfl u0 (by dsimp only;omega) (by omega)) ?_
 refine Xa 13 rfl (OQ rfl) ?_
 refine Xc rfl rfl rfl rfl (fun _=>dC rfl func174 rfl rfl ((yu m here (List.replicate ((8-here.tmod 8).tmod 8).toNat 0) hm hh (by simp;omega)) _)) ?_
 iterate 3 refine z3 ?_
 refine dz tG rfl rfl rfl rfl rfl trivial ?_
 iterate 2 refine z3 ?_
 refine aP ?_
 refine zR ?_
 rfl
def lM(s:List Int)(takes:Nat)(leaves:List Int)(limit:Int):List Int×Bool×Int :=
 if ((s.length-takes+leaves.length:Nat):Int)>limit then(s,true,-3)else(s.take (s.length-takes)++leaves,true,0)
def Bl(r:List Int×Bool×Int):PV:=jW (sq ap r.1) (boo r.2.1) (i64 r.2.2)
@[simp] theorem aj9 (r : List Int × Bool × Int) : aS (Bl r) := by simp [Bl]
theorem qc(s:List Int)(takes:Nat)(leaves:List Int)(limit:Int)(hs:s.length<=100000)(ht:takes<=s.length)(hl:leaves.length<=100000)(hm : -9223372036854775808<=limit/\limit<=9223372036854775807):
  ab prog 237 [sq ap s,i64 takes,sq ap leaves,i64 limit] (Bl (lM s takes leaves limit)):=by
 have w1:IntKind.i64.wrap ((s.length:Int)-(takes:Int))=((s.length-takes:Nat):Int):=by((rw[bS];unfold wrap64;(try simp only[dnL]at *);omega))
 have w2:IntKind.i64.wrap (((s.take (s.length-takes)).length:Int)+(leaves.length:Int))=((s.length-takes+leaves.length:Nat):Int):=by
  rw[List.length_take,Nat.min_eq_left (by omega)];((rw[bS];unfold wrap64;(try simp only[dnL]at *);omega))
 refine zY func237 fun B=>?_
 refine zu3 ?_
 refine zp5 ?_
 refine Wa 16 rfl (congrArg (fun z=>PV.val (Value.int .i64 z)) w1) ?_
 refine z2 ?_ (q:=(by(simp_all;done)))
 refine Wa 17 rfl (cK ap 1 (fun _=>rfl) (by omega)) ?_
 refine Wa 17 rfl ((show _=sq ap (s.take (s.length-takes)) by rw[Int.toNat_natCast,List.drop_zero];rfl)) ?_
 refine zs1 ?_
 refine Ws<|zp5 ?_
 refine Wa 22 rfl (congrArg (fun z=>PV.val (Value.int .i64 z)) w2) ?_
 refine zs2 ?_
 refine Wi rfl (fun hi1=>?_) (fun hi1=>?_)
 ·refine zu4 ?_
  refine zR ?_
  rw[lM,if_pos (by(try simp only[dnL]at *);omega)];rfl
 refine Wj<|zp3 ?_
 refine Wa 28 rfl (bsL BH [_,_] rfl rfl) ?_
 refine zc rfl func202 ((Lm _ _ (by simp;omega) (by omega)) _) ?_
 refine zs3 ?_
 refine zR ?_
 rw[lM,if_neg (by(try simp only[dnL]at *);omega)];rfl
def bk(s:List Int):Int×List Int×Int:=if s.length=0 then(0,s,-4)else(s.getD (s.length-1) 0,s.take (s.length-1),0)
def ab5(r:Int×List Int×Int):PV:=jW (i64 r.1) (sq ap r.2.1) (i64 r.2.2)
@[simp] theorem aj2 (r : Int × List Int × Int) : aS (ab5 r) := by simp [ab5]
theorem Dk(s:List Int)(hs:s.length<=100000):ab prog 259 [sq ap s] (ab5 (bk s)):=by
 refine zY func259 fun B=>?_
 refine zu3 ?_
 refine Ws<|zu3 ?_
 refine Wi rfl (fun hi1=>?_) (fun hi1=>?_)
 ·have h0:s.length=0:=by(try simp only[dnL]at *);omega
  refine zu4 ?_
  refine zR ?_
  rw[bk,if_pos h0];rfl
 have h0:s.length≠0:=by(try simp only[dnL]at *);omega
 have w1:IntKind.i64.wrap ((s.length:Int)-1)=((s.length-1:Nat):Int):=by((rw[bS];unfold wrap64;(try simp only[dnL]at *);omega))
 refine Wj<|Ws<|az [0,0,0,0,0,1,0,0,0,0,0,0,0,0] [0,1,2,3,4,5,6,7,8,9,10,11,12,13] mG rfl (by kernel_rfl) ?_
 iterate 4 refine z3 ?_
 refine Xa 12 rfl (congrArg (fun z=>PV.val (Value.int .i64 z)) w1) ?_
 refine Xi tG rfl rfl rfl rfl (fun _=>rfl) (by omega) (iN ap 1 (fun _=>rfl) 0 (by omega)) ?_
 refine z5 ?_
 iterate 4 refine z3 ?_
 refine Xa 18 rfl (congrArg (fun z=>PV.val (Value.int .i64 z)) w1) ?_
 refine z4 ?_ (q:=(by(simp_all;done)))
 refine Xa 19 rfl (cK ap 1 (fun _=>rfl) (by omega)) ?_
 refine Xa 19 rfl ((show _=sq ap (s.take (s.length-1)) by rw[Int.toNat_natCast,List.drop_zero];rfl)) ?_
 iterate 3 refine z3 ?_
 refine aP ?_
 refine zR ?_
 rw[bk,if_neg h0];rfl
abbrev W64(n:Int):Int:=IntKind.i64.wrap n
def xat(x:List Int)(i:Nat):Int:=x.getD i 0
def bA(x:List Int):List Int×Int:=([(m9 (xat x 0) (xat x 1)).2.1,(m9 (xat x 0) (xat x 1)).1],(m9 (xat x 0) (xat x 1)).2.2)
def yT(x:List Int):Int×Int×Int:=jv (xe (xat x 0) (xat x 1)).1 (xe (xat x 0) (xat x 1)).2 (xat x 2)
def be(x:List Int):List Int×Int:=([(yT x).2.1,(yT x).1],(yT x).2.2)
def dj(x:List Int):List Int×Int:=([(yT x).1],(yT x).2.2)
def pUM(x:List Int):List Int×Int:=([(sG (xat x 0) (xat x 1)).1,(sG (xat x 0) (xat x 1)).2],0)
def pM(x:List Int):List Int×Int:=([(xe (xat x 0) (xat x 1)).1,(xe (xat x 0) (xat x 1)).2],0)
def dh(x:List Int):List Int×Int:=([(io (xat x 0) (xat x 1) (xat x 2)).2.1,(io (xat x 0) (xat x 1) (xat x 2)).1],(io (xat x 0) (xat x 1) (xat x 2)).2.2)
def dk(x:List Int):List Int×Int:=([(lc (xat x 0) (xat x 1) (xat x 2)).2.1,(lc (xat x 0) (xat x 1) (xat x 2)).1],(lc (xat x 0) (xat x 1) (xat x 2)).2.2)
def di(x:List Int):List Int×Int:=([(jv (xat x 0) (xat x 1) (xat x 2)).2.1,(jv (xat x 0) (xat x 1) (xat x 2)).1],(jv (xat x 0) (xat x 1) (xat x 2)).2.2)
def pSD(x:List Int):List Int×Int:=([xat x 0,eZ (decide (xat x 0<0))],0)
def bz(x:List Int):List Int×Int:=([eZ (decide (U (wrap64 (xat x 0-xat x 1))<U (wrap64 (xat x 2-xat x 1))))],0)
def qR(name:Str)(x:List Int):Option (List Int×Int) :=
 if name=[47,77,79,68]then some (bA x)else
 if name=[42,47]then some (dj x)else
 if name=[42,47,77,79,68]then some (be x)else
 if name=[85,77,42]then some (pUM x)else
 if name=[77,42]then some (pM x)else
 if name=[85,77,47,77,79,68]then some (dh x)else
 if name=[83,77,47,82,69,77]then some (dk x)else
 if name=[70,77,47,77,79,68]then some (di x)else
 if name=[83,62,68]then some (pSD x)else
 if name=[87,73,84,72,73,78]then some (bz x)else
 if name=[84,82,85,69]then some ([-1],0)else
 if name=[66,65,83,69]then some ([0],0)else
 if name=[70,65,76,83,69]then some ([0],0)else
 if name=[83,84,65,84,69]then some ([8],0)else
 if name=[66,76]then some ([32],0)else none
def sK(v:VVm)(m:bj):VVm:={v with mem:=m}
def bY(v:VVm)(x:List Int):VVm×List Int×Int:=(v,[(am v.mem (xat x 0)).1],(am v.mem (xat x 0)).2)
def bF(v:VVm)(x:List Int):VVm×List Int×Int:=(v,[(dU v.mem (xat x 0)).1],(dU v.mem (xat x 0)).2)
def du(v:VVm)(r:bj×Int):VVm×List Int×Int:=(sK v r.1,[],r.2)
def rO(v:VVm)(x:List Int):bj×Int:=if (am v.mem (xat x 1)).2=0 then aF v.mem (xat x 1) (W64 ((am v.mem (xat x 1)).1+xat x 0))else(v.mem,(am v.mem (xat x 1)).2)
def kM(v:VVm)(x:List Int):VVm×List Int×Int :=
 if (am v.mem (xat x 0)).2=0 then(v,[(am v.mem (W64 (xat x 0+8))).1,(am v.mem (xat x 0)).1],(am v.mem (W64 (xat x 0+8))).2)else(v,[],(am v.mem (xat x 0)).2)
def oG(v:VVm)(x:List Int):bj×Int:=if (aF v.mem (xat x 2) (xat x 1)).2=0 then aF (aF v.mem (xat x 2) (xat x 1)).1 (W64 (xat x 2+8)) (xat x 0)else aF v.mem (xat x 2) (xat x 1)
def bW(v:VVm)(x:List Int):VVm×List Int×Int:=(v,[W64 (xat x 0+1),(dU v.mem (xat x 0)).1],(dU v.mem (xat x 0)).2)
def j0(v:VVm)(s b:Int):Int:=if (am v.mem (W64 (b+8))).2=0 then(if s<0\/(am v.mem (W64 (b+8))).1<=s then -24 else 0)else(am v.mem (W64 (b+8))).2
def gH(v:VVm)(x:List Int):VVm×List Int×Int:=if j0 v (xat x 0) (xat x 1)=0 then du v (aF v.mem (xat x 1) (xat x 0))else(v,[],j0 v (xat x 0) (xat x 1))
def iY(v:VVm)(x:List Int):VVm×List Int×Int:=if j0 v (xat x 1) (xat x 2)=0 then du v (aF v.mem (W64 (W64 (xat x 2+16)+W64 (8*xat x 1))) (xat x 0))else(v,[],j0 v (xat x 1) (xat x 2))
def qs(v:VVm)(name:Str)(x:List Int):Option (VVm×List Int×Int) :=
 if name=[64]\/name=[71,69,84,45,83,84,65,84,69]then some (bY v x)else
 if name=[67,64]then some (bF v x)else
 if name=[33]then some (du v (aF v.mem (xat x 1) (xat x 0)))else
 if name=[67,33]then some (du v (m6 v.mem (xat x 1) (xat x 0)))else
 if name=[43,33]then some (du v (rO v x))else
 if name=[50,64]then some (kM v x)else
 if name=[50,33]then some (du v (oG v x))else
 if name=[70,73,76,76]then some (du v (m5 v.mem (xat x 0) (xat x 1) (xat x 2)))else
 if name=[77,79,86,69]then some (du v (m4 v.mem (xat x 0) (xat x 1) (xat x 2)))else
 if name=[67,79,85,78,84]then some (bW v x)else
 if name=[68,69,67,73,77,65,76]then some (du v (aF v.mem 0 10))else
 if name=[72,69,88]then some (du v (aF v.mem 0 16))else
 if name=[83,69,84,45,83,84,65,84,69]then some (gH v x)else
 if name=[65,84,45,83,84,65,84,69]then some (iY v x)else none
def eJ(v:VVm)(r:bj×Int×Int):VVm×List Int×Int:=({v with mem:=r.1,here:=r.2.1},[],r.2.2)
def ui(v:VVm)(x:List Int):bj×Int×Int:=(v.mem,(l7 v.mem 1368 v.here (xat x 0)).1,(l7 v.mem 1368 v.here (xat x 0)).2)
def uJ(v:VVm)(name:Str)(x:List Int):Option (VVm×List Int×Int) :=
 if name=[65,76,76,79,84]then some (eJ v (ui v x))else
 if name=[44]then some (eJ v (cv v.mem v.here (xat x 0)))else
 if name=[67,44]then some (eJ v (da v.mem v.here [loB (xat x 0)]))else
 if name=[65,76,73,71,78]then some (eJ v (aM v.mem v.here))else none
def j7(v:VVm):Int:=(am v.mem 0).1
def vL(v:VVm)(x:List Int):Str:=List.replicate (min (max (xat x 0) 0) (v.conf.out+1)).toNat 32
def rJ(r:Str×Int):Str×Int:=(r.1++[32],r.2)
def FG(v:VVm)(name:Str)(x:List Int):Option (Str×Int) :=
 if name=[69,77,73,84]then some ([loB (xat x 0)],0)else
 if name=[67,82]then some ([10],0)else
 if name=[83,80,65,67,69]then some ([32],0)else
 if name=[83,80,65,67,69,83]then some (vL v x,0)else
 if name=[84,89,80,69]then some (dN v.mem (xat x 0) (xat x 1))else
 if name=[46]then some (rJ (iU (xat x 0) (j7 v)))else
 if name=[85,46]then some (rJ (gF (xat x 0) (j7 v)))else none
def dy(v:VVm)(r:Str×Int):VVm×List Int×Int:=if r.2=0 then((iI v r.1).1,[],(iI v r.1).2)else(v,[],r.2)
def tV(v:VVm)(p:dS):VVm:={v with pic:=p}
def rn:Nat->dS->Int->Int->Int->dS×Int
 | 0,q,lo,hi,base=>(q,(aI q lo hi base).2.2.2)
 | n+1,q,lo,hi,base=>if (aI q lo hi base).2.2.2≠0 then(q,(aI q lo hi base).2.2.2)else if (aI q lo hi base).2.1=0/\(aI q lo hi base).2.2.1=0 then((aI q lo hi base).1,0)else rn n (aI q lo hi base).1 (aI q lo hi base).2.1 (aI q lo hi base).2.2.1 base
def rD(q:dS)(lo hi base:Int):dS×Int:=rn (131-q.b.length) q lo hi base
def OH(p:dS)(r:dS×Int):dS×Int:=if r.2=0 then(r.1,0)else(p,r.2)
def ut(p:dS)(lo hi base:Int):dS×Int:=OH p (rD p lo hi base)
def fZ(v:VVm)(x:List Int):VVm×List Int×Int:=(tV v (aI v.pic (xat x 0) (xat x 1) (j7 v)).1,[(aI v.pic (xat x 0) (xat x 1) (j7 v)).2.1,(aI v.pic (xat x 0) (xat x 1) (j7 v)).2.2.1],(aI v.pic (xat x 0) (xat x 1) (j7 v)).2.2.2)
def fL(v:VVm)(x:List Int):VVm×List Int×Int:=(tV v (ut v.pic (xat x 0) (xat x 1) (j7 v)).1,[0,0],(ut v.pic (xat x 0) (xat x 1) (j7 v)).2)
def fJ(v:VVm)(r:dS×Int):VVm×List Int×Int:=(tV v r.1,[],r.2)
def xv(v:VVm):VVm×List Int×Int :=
 if (lq v.pic).2=0 then(tV (sK v (ce v.mem (W64 (v.conf.mem-136)) (lq v.pic).1).1) ⟨[],false⟩,[W64 (v.conf.mem-136),((lq v.pic).1.length:Int)],(ce v.mem (W64 (v.conf.mem-136)) (lq v.pic).1).2)else(v,[],(lq v.pic).2)
def Ar(v:VVm)(name:Str)(x:List Int):Option (VVm×List Int×Int) :=
 if name=[60,35]then some (tV v ⟨[],true⟩,[],0)else
 if name=[35]then some (fZ v x)else
 if name=[35,83]then some (fL v x)else
 if name=[72,79,76,68]then some (fJ v (gC v.pic (xat x 0)))else
 if name=[83,73,71,78]then some (fJ v (oM v.pic (xat x 0)))else
 if name=[35,62]then some (xv v)else none
def BS(v:VVm)(q:vG):VVm:={v with req:=v.req++[q]}
def iV(v:VVm)(x:List Int):Prop:=xat x 1<0\/(v.hand.length:Int)<=xat x 1\/xat x 2<0\/3<xat x 2
instance (v:VVm) (x:List Int):Decidable (iV v x):=by unfold iV;infer_instance
def jr(v:VVm)(x:List Int):VVm×List Int×Int:=if 16<=(v.req.length:Int)then(v,[],-257)else(BS v ⟨4,0,0,0,0,xat x 0⟩,[],0)
def jO(v:VVm)(x:List Int):VVm×List Int×Int:=if iV v x then(v,[],-259)else if 16<=(v.req.length:Int)then(v,[],-257)else(BS v ⟨1,xat x 0,xat x 1,xat x 2,0,0⟩,[],0)
def dw(kind:Int)(v:VVm)(x:List Int):VVm×List Int×Int :=
 if iV v x then(v,[],-259)else if xat x 3<1\/4294967295<xat x 3 then(v,[],-24)else if 16<=(v.req.length:Int)then(v,[],-257)else if v.free=0\/v.next=4611686018427387904 then(v,[],-258)else
  ({BS v ⟨kind,xat x 0,xat x 1,xat x 2,xat x 3,v.next⟩with free:=W64 (v.free-1),next:=W64 (v.next+1)},[v.next],0)
def Am(v:VVm)(name:Str)(x:List Int):Option (VVm×List Int×Int) :=
 if name=[80,79,83,84]then some (jO v x)else
 if name=[67,65,78,67,69,76]then some (jr v x)else
 if name=[65,70,84,69,82]then some (dw 2 v x)else
 if name=[69,86,69,82,89]then some (dw 3 v x)else none
def vJ(v:VVm)(x:List Int):VVm×List Int×Int:=if (av v (xat x 0)).2=0/\((av v (xat x 0)).1<257\/260<(av v (xat x 0)).1)then(v,[],-31)else(v,[W64 (xat x 0+16)],(av v (xat x 0)).2)
def GV(v:VVm)(name:Str)(x:List Int):VVm×List Int×Int :=
 if name=[72,69,82,69]then(v,[v.here],0)else
 if name=[65,82,71]then(v,[v.arg],0)else
 if name=[83,69,76,70]then(v,[v.self],0)else
 if name=[78,79,87]then(v,[v.now],0)else
 if name=[62,66,79,68,89]then vJ v x else(v,[],-1)
def bM(v:VVm)(n:Int)(name:Str)(x:List Int):VVm×List Int×Int :=
 if n<=58 then(v,[(lU name (xat x 0) (xat x 1)).1],(lU name (xat x 0) (xat x 1)).2.2)else
 if n<=72 then(v,[(v7 name (xat x 0)).1],0)else
 match qR name x with
 | some r=>(v,r.1,r.2)
 | none=>match qs v name x with
  | some r=>r
  | none=>match uJ v name x with
   | some r=>r
   | none=>match FG v name x with
    | some r=>dy v r
    | none=>match Ar v name x with
     | some r=>r
     | none=>match Am v name x with
      | some r=>r
      | none=>GV v name x
def bi(n:Int)(name:Str):Nat :=
 if n<=58 then 2 else if n<=72 then 1 else
 if name=[65,70,84,69,82]\/name=[69,86,69,82,89]then 4 else
 if name=[42,47]\/name=[42,47,77,79,68]\/name=[85,77,47,77,79,68]\/name=[83,77,47,82,69,77]\/name=[70,77,47,77,79,68]\/name=[87,73,84,72,73,78]\/name=[50,33]\/name=[70,73,76,76]\/name=[77,79,86,69]\/name=[80,79,83,84]\/name=[65,84,45,83,84,65,84,69]then 3 else
 if name=[47,77,79,68]\/name=[85,77,42]\/name=[77,42]\/name=[33]\/name=[67,33]\/name=[43,33]\/name=[84,89,80,69]\/name=[35]\/name=[35,83]\/name=[35,62]\/name=[83,69,84,45,83,84,65,84,69]then 2 else
 if name=[83,62,68]\/name=[64]\/name=[67,64]\/name=[50,64]\/name=[67,79,85,78,84]\/name=[65,76,76,79,84]\/name=[44]\/name=[67,44]\/name=[69,77,73,84]\/name=[83,80,65,67,69,83]\/name=[46]\/name=[85,46]\/name=[72,79,76,68]\/name=[83,73,71,78]\/name=[62,66,79,68,89]\/name=[67,65,78,67,69,76]\/name=[71,69,84,45,83,84,65,84,69]then 1 else 0
def ow(name:Str)(s:List Int):Int :=
 if name=[68,69,80,84,72]then 0 else
 if name=[68,85,80]\/name=[68,82,79,80]\/name=[63,68,85,80]then 1 else
 if name=[83,87,65,80]\/name=[79,86,69,82]\/name=[78,73,80]\/name=[84,85,67,75]\/name=[50,68,85,80]\/name=[50,68,82,79,80]then 2 else
 if name=[82,79,84]\/name=[45,82,79,84]then 3 else
 if name=[50,83,87,65,80]\/name=[50,79,86,69,82]then 4 else
 if name=[80,73,67,75]\/name=[82,79,76,76]then(if s.length=0\/s.getD (s.length-1) 0<0\/(s.length:Int)-1<=s.getD (s.length-1) 0 then(s.length:Int)+1 else s.getD (s.length-1) 0+2)else -1
def y4(name:Str)(x:List Int)(depth:Nat):List Int :=
 if name=[68,85,80]then [xat x 0,xat x 0]else
 if name=[83,87,65,80]then [xat x 1,xat x 0]else
 if name=[79,86,69,82]then [xat x 0,xat x 1,xat x 0]else
 if name=[78,73,80]then [xat x 1]else
 if name=[84,85,67,75]then [xat x 1,xat x 0,xat x 1]else
 if name=[82,79,84]then [xat x 1,xat x 2,xat x 0]else
 if name=[45,82,79,84]then [xat x 2,xat x 0,xat x 1]else
 if name=[50,68,85,80]then [xat x 0,xat x 1,xat x 0,xat x 1]else
 if name=[50,83,87,65,80]then [xat x 2,xat x 3,xat x 0,xat x 1]else
 if name=[50,79,86,69,82]then [xat x 0,xat x 1,xat x 2,xat x 3,xat x 0,xat x 1]else
 if name=[63,68,85,80]then(if xat x 0=0 then x else [xat x 0,xat x 0])else
 if name=[68,69,80,84,72]then [(depth:Int)]else
 if name=[80,73,67,75]then x.take (x.length-1)++[xat x 0]else
 if name=[82,79,76,76]then(x.take (x.length-1)).drop 1++[xat x 0]else []
def dJ(name:Str)(s:List Int)(limit:Int):List Int×Bool×Int :=
 if ow name s<0 then(s,false,0)else
 if (s.length:Int)<ow name s then(s,true,-4)else
 if limit<((s.length-(ow name s).toNat+(y4 name (s.drop (s.length-(ow name s).toNat)) s.length).length:Nat):Int)then(s,true,-3)else
 (s.take (s.length-(ow name s).toNat)++y4 name (s.drop (s.length-(ow name s).toNat)) s.length,true,0)
def doS(v:VVm)(n:Int):VVm×Int :=
 if n<23\/129<n then(v,-24)else
 let name:=ao.getD n.toNat []
 if n<=38 then({v with d:=(dJ name v.d v.conf.data).1},(dJ name v.d v.conf.data).2.2)else
 let k:=bi n name
 if v.d.length<k then(v,-4)else
 let r:=bM v n name (v.d.drop (v.d.length-k))
 if r.2.2≠0 then(v,r.2.2)else
 if v.conf.data<((v.d.length-k+r.2.1.length:Nat):Int)then(v,-3)else({r.1 with d:=v.d.take (v.d.length-k)++r.2.1},0)
def tLv(r:List Int×Int):PV:=ic (sq ap r.1) (i64 r.2)
@[simp] theorem ar0 (r : List Int × Int) : aS (tLv r) := by simp [tLv]
structure bH where
 vm:VVm
 ip:Int
 w:Int
 dof:Bool
 fuel:Int
 deriving DecidableEq,Inhabited
def sZ(x:bH):List PV:=cVm x.vm++[i64 x.ip,i64 x.w,boo x.dof,i64 x.fuel]
@[simp] theorem OD (x : bH) : ay (sZ x) := by simp [sZ, cVm]
def w9(x:bH):PV:=.agg (sZ x)
@[simp] theorem ai0 (x : bH) : aS (w9 x) := by unfold w9 aS; exact OD x
structure VWk where
 v:VVm
 ip:Int
 w:Int
 dof:Bool
 over:Bool
 bad:Int
 deriving DecidableEq,Inhabited
def gD(s:List Int)(n limit:Int):List Int×Int:=if limit<=(s.length:Int)then(s,-3)else(s++[n],0)
def gJ(v:VVm)(n:Int):VVm×Int:=({v with d:=(gD v.d n v.conf.data).1},(gD v.d n v.conf.data).2)
def dV(v:VVm):Int×VVm×Int:=((bk v.d).1,{v with d:=(bk v.d).2.1},(bk v.d).2.2)
def gm(v:VVm)(n:Int):VVm×Int:=if v.conf.ret<=(v.r.length:Int)then(v,-5)else({v with r:=v.r++[n]},0)
def eU(v:VVm):Int×VVm×Int:=if v.r.length=0 then(0,v,-6)else(v.r.getD (v.r.length-1) 0,{v with r:=v.r.take (v.r.length-1)},0)
def cH(k:VWk)(e:Int):VWk:=if k.bad=0 then {k with bad:=e} else k
def jw(k:VWk)(n:Int):VWk:={cH k (gJ k.v n).2 with v:=(gJ k.v n).1}
def fS(k:VWk):VWk×Int:=({cH k (dV k.v).2.2 with v:=(dV k.v).2.1},(dV k.v).1)
def dY(k:VWk)(n:Int):VWk:={cH k (gm k.v n).2 with v:=(gm k.v n).1}
def g9(k:VWk):VWk×Int:=({cH k (eU k.v).2.2 with v:=(eU k.v).2.1},(eU k.v).1)
def bq(k:VWk)(at_:Int):VWk×Int:=(cH k (am k.v.mem at_).2,(am k.v.mem at_).1)
def mD(k:VWk)(at_ n:Int):VWk:={cH k (aF k.v.mem at_ n).2 with v:=sK k.v (aF k.v.mem at_ n).1}
def kD(k:VWk)(n:Int):VWk×Int:=if (k.v.r.length:Int)<=n then(cH k (-6),0)else(k,k.v.r.getD (k.v.r.length-1-n.toNat) 0)
def dTo(k:VWk):VWk:={(bq k k.ip).1 with ip:=(bq k k.ip).2}
def jH(k:VWk):VWk:={k with ip:=W64 (k.ip+8)}
def Mf(k:VWk)(xt:Int):VWk:={k with w:=xt,dof:=true}
def oa(i l n:Int):Int×Bool:=(W64 (i+n),if 0<=n then decide (W64 (i-l)<0)&&decide (0<=W64 (W64 (i-l)+n))else decide (0<=W64 (i-l))&&decide (W64 (W64 (i-l)+n)<0))
def zw(k:VWk)(n:Int):VWk :=
 let a:=kD k 1
 let b:=kD a.1 0
 if b.1.bad≠0 then b.1 else
  let c:=(g9 b.1).1
  if (oa b.2 a.2 n).2 then jH (g9 c).1 else dTo (dY c (oa b.2 a.2 n).1)
def ww(k:VWk):VWk×Int×Int:=let a:=fS k;let b:=fS a.1;(b.1,a.2,b.2)
def vh(k:VWk):VWk:=if k.v.f.length=0 then cH k (-6)else
 jw {k with ip:=(k.v.f.getD (k.v.f.length-1) default).ip,v:={k.v with f:=k.v.f.take (k.v.f.length-1)}} 0
def CR(k:VWk):VWk :=
 if k.v.last=0\/(av k.v k.v.last).2≠0\/((av k.v k.v.last).1≠257/\(av k.v k.v.last).1≠259)then cH k (-31)else
  let b:=mD (mD k k.v.last 259) (W64 ((mD k k.v.last 259).v.last+8)) (mD k k.v.last 259).ip
  {(g9 b).1 with ip:=(g9 b).2}
def V6(k:VWk):VWk :=
 let a:=bq k k.ip
 let at_:=W64 (k.ip+8)
 let b:=if bp a.1.v.mem at_ a.2 then a.1 else cH a.1 (-9)
 {jw (jw b at_) a.2 with ip:=(v7 [65,76,73,71,78,69,68] (W64 (at_+a.2))).1}
def sM(k:VWk)(name:Str):VWk×Bool :=
 if name=[40,101,120,105,116,41]then({(g9 k).1 with ip:=(g9 k).2},true)else
 if name=[40,108,105,116,41]then(jH (jw (bq k k.ip).1 (bq k k.ip).2),true)else
 if name=[40,98,114,97,110,99,104,41]then(dTo k,true)else
 if name=[40,48,98,114,97,110,99,104,41]then(if (fS k).2=0 then dTo (fS k).1 else jH (fS k).1,true)else
 if name=[40,100,111,41]then(let t:=ww k;dY (dY t.1 t.2.2) t.2.1,true)else
 if name=[40,63,100,111,41]then(let t:=ww k;if t.2.1=t.2.2 then dTo t.1 else jH (dY (dY t.1 t.2.2) t.2.1),true)else
 if name=[40,108,111,111,112,41]then(zw k 1,true)else
 if name=[40,43,108,111,111,112,41]then(zw (fS k).1 (fS k).2,true)else
 if name=[40,104,97,108,116,41]then({k with over:=true},true)else
 if name=[40,99,97,117,103,104,116,41]then(vh k,true)else
 if name=[40,100,111,101,115,41]then(CR k,true)else
 if name=[40,115,116,114,41]then(V6 k,true)else(k,false)
def A9(k:VWk):VWk :=
 let a:=fS k
 let b:=if 64<=(a.1.v.f.length:Int)then cH a.1 (-5)else a.1
 Mf {b with ip:=24,v:={b.v with f:=b.v.f++[⟨(b.v.d.length:Int),(b.v.r.length:Int),b.ip⟩]}} a.2
def F9(k:VWk)(name:Str):VWk :=
 if name=[69,88,69,67,85,84,69]then Mf (fS k).1 (fS k).2 else
 if name=[67,65,84,67,72]then A9 k else
 if name=[84,72,82,79,87]then cH (fS k).1 (fS k).2 else
 if name=[73]\/name=[82,64]then jw (kD k 0).1 (kD k 0).2 else
 if name=[74]then jw (kD k 2).1 (kD k 2).2 else
 if name=[85,78,76,79,79,80]then(g9 (g9 (kD k 1).1).1).1 else
 if name=[62,82]then dY (fS k).1 (fS k).2 else
 if name=[82,62]then jw (g9 k).1 (g9 k).2 else
 if name=[50,62,82]then(let t:=ww k;dY (dY t.1 t.2.2) t.2.1)else
 if name=[50,82,62]then(let a:=g9 k;let b:=g9 a.1;jw (jw b.1 b.2) a.2)else k
def pw(k:VWk)(xt:Int):VWk :=
 let a:=bq k (W64 (xt+16))
 let b:=bq a.1 (W64 (xt+24))
 let c:=if a.2<0\/b.2<=a.2 then cH b.1 (-24)else b.1
 let d:=bq c (W64 (W64 (xt+32)+W64 (8*a.2)))
 if d.2=0 then d.1 else Mf d.1 d.2
def rF(k:VWk)(xt:Int):VWk :=
 let q:=av k.v xt
 if q.2≠0 then cH k q.2 else
 if 300<=q.1 then cH k (-14)else
 if q.1=256 then {dY k k.ip with ip:=W64 (xt+8)} else
 if q.1=257 then jw k (W64 (xt+16))else
 if q.1=258 then jw (bq k (W64 (xt+16))).1 (bq k (W64 (xt+16))).2 else
 if q.1=259 then(let a:=bq k (W64 (xt+8));{dY (jw a.1 (W64 (xt+16))) (jw a.1 (W64 (xt+16))).ip with ip:=a.2})else
 if q.1=260 then pw k xt else
 if 23<=q.1 then {cH k (doS k.v q.1).2 with v:=(doS k.v q.1).1} else
 if (sM k (ao.getD q.1.toNat [])).2 then(sM k (ao.getD q.1.toNat [])).1 else F9 (sM k (ao.getD q.1.toNat [])).1 (ao.getD q.1.toNat [])
def ky(s:List Int)(n:Nat):List Int:=s.take n++List.replicate (n-s.length) 0
def cp(a:bH)(bad:Int):bH×Int :=
 if a.vm.f.length=0 then(a,bad)else
  let f:=a.vm.f.getD (a.vm.f.length-1) default
  ({a with vm:={a.vm with f:=a.vm.f.take (a.vm.f.length-1),d:=ky a.vm.d (min f.d (a.vm.conf.data-1)).toNat++[bad],r:=ky a.vm.r (min f.r a.vm.conf.ret).toNat},ip:=f.ip},0)
def bR(r:bH):bH×Bool×Int :=
 if r.fuel<1 then(r,false,-256)else
  let k0:VWk:=⟨r.vm,r.ip,0,false,false,0⟩
  let q:=if r.dof then(k0,r.w)else(let a:=bq k0 r.ip;(if a.1.bad=0 then jH a.1 else a.1,a.2))
  let ahead:bH:=⟨r.vm,q.1.ip,0,false,W64 (r.fuel-1)⟩
  let k:=if q.1.bad=0 then rF q.1 q.2 else q.1
  if k.bad=0 then(⟨k.v,k.ip,k.w,k.dof,W64 (r.fuel-1)⟩,k.over,0)else((cp ahead k.bad).1,false,(cp ahead k.bad).2)
def zX(v:VVm)(xt fuel:Int):bH:=⟨{v with r:=[],f:=[]},16,xt,true,fuel⟩
def y6(v:VVm):VVm:={v with r:=[],f:=[]}
def xS:Nat->bH->VVm×Int×Int
 | 0,r=>(y6 r.vm,r.fuel,-256)
 | n+1,r=>if (bR r).2.1=true\/(bR r).2.2≠0 then(y6 (bR r).1.vm,(bR r).1.fuel,(bR r).2.2)else xS n (bR r).1
inductive yl where
 | ok
 | bad (e:Int)
 | halt
 deriving DecidableEq,Inhabited
structure PW where
 r:bH
 err:yl
 deriving DecidableEq,Inhabited
def pOk(k:PW)(v:VVm)(e:Int):PW:=match k.err with
 | .ok=>if e=0 then {k with r:={k.r with vm:=v}} else {k with err:=.bad e}
 | _=>k
def ib:yl->Bool
 | .ok=>true
 | _=>false
def dm(k:PW)(n:Int):PW:=pOk k (gJ k.r.vm n).1 (gJ k.r.vm n).2
def aZ(k:PW):PW×Int:=(pOk k (dV k.r.vm).2.1 (dV k.r.vm).2.2,if ib (pOk k (dV k.r.vm).2.1 (dV k.r.vm).2.2).err then(dV k.r.vm).1 else 0)
def iZ(k:PW)(n:Int):PW:=pOk k (gm k.r.vm n).1 (gm k.r.vm n).2
def gc(k:PW):PW×Int:=(pOk k (eU k.r.vm).2.1 (eU k.r.vm).2.2,if ib (pOk k (eU k.r.vm).2.1 (eU k.r.vm).2.2).err then(eU k.r.vm).1 else 0)
def bv(k:PW)(a:Int):PW×Int:=(pOk k k.r.vm (am k.r.vm.mem a).2,(am k.r.vm.mem a).1)
def mB(k:PW)(a n:Int):PW:=pOk k (sK k.r.vm (aF k.r.vm.mem a n).1) (aF k.r.vm.mem a n).2
def vw(k:PW)(xt:Int):PW:={k with r:={k.r with w:=xt,dof:=true}}
def wIp(k:PW)(a:Int):PW:={k with r:={k.r with ip:=a}}
def W4(k:PW)(e:yl):PW:={k with err:=e}
def co(k:PW)(n:Nat):PW×Int:=if k.r.vm.r.length<=n then(pOk k k.r.vm (-6),0)else(k,k.r.vm.r.getD (k.r.vm.r.length-1-n) 0)
def kJ(k:PW)(b:Bool):PW:=if b then wIp (bv k k.r.ip).1 (bv k k.r.ip).2 else wIp k (W64 (k.r.ip+8))
def pg(k:PW)(n:Int):PW :=
 if ib (co (co k 1).1 0).1.err then
  kJ (if (oa (co (co k 1).1 0).2 (co k 1).2 n).2 then(gc (gc (co (co k 1).1 0).1).1).1 else iZ (gc (co (co k 1).1 0).1).1 (oa (co (co k 1).1 0).2 (co k 1).2 n).1) (!(oa (co (co k 1).1 0).2 (co k 1).2 n).2)
 else(co (co k 1).1 0).1
def mm(k:PW):PW :=
 if k.r.vm.last=0\/(av k.r.vm k.r.vm.last).2≠0\/((av k.r.vm k.r.vm.last).1≠257/\(av k.r.vm k.r.vm.last).1≠259)then pOk k k.r.vm (-31)else
  mB (mB k k.r.vm.last 259) (W64 (k.r.vm.last+8)) (mB k k.r.vm.last 259).r.ip
def sP(k:PW):PW:=wIp (gc k).1 (gc k).2
def wDo(k:PW):PW:=iZ (iZ (aZ (aZ k).1).1 (aZ (aZ k).1).2) (aZ k).2
def zO(k:PW):PW :=
 if (aZ k).2=(aZ (aZ k).1).2 then kJ (aZ (aZ k).1).1 true else
  wDo (wIp (dm (dm (aZ (aZ k).1).1 (aZ (aZ k).1).2) (aZ k).2) (W64 ((dm (dm (aZ (aZ k).1).1 (aZ (aZ k).1).2) (aZ k).2).r.ip+8)))
def NS(k:PW):PW:=wIp (dm (bv k k.r.ip).1 (bv k k.r.ip).2) (W64 ((dm (bv k k.r.ip).1 (bv k k.r.ip).2).r.ip+8))
def kI(k:PW):PW:=if k.r.vm.f.length=0 then pOk k k.r.vm (-6)else
 dm {k with r:={k.r with ip:=(k.r.vm.f.getD (k.r.vm.f.length-1) default).ip,vm:={k.r.vm with f:=k.r.vm.f.take (k.r.vm.f.length-1)}}} 0
def IK(k:PW):PW :=
 wIp (dm (dm (pOk (bv k k.r.ip).1 (bv k k.r.ip).1.r.vm (dN (bv k k.r.ip).1.r.vm.mem (W64 (k.r.ip+8)) (bv k k.r.ip).2).2) (W64 (k.r.ip+8))) (bv k k.r.ip).2)
  (v7 [65,76,73,71,78,69,68] (W64 (W64 (k.r.ip+8)+(bv k k.r.ip).2))).1
def wFr(b:PW):PW:={b with r:={b.r with ip:=24,vm:={b.r.vm with f:=b.r.vm.f++[⟨(b.r.vm.d.length:Int),(b.r.vm.r.length:Int),b.r.ip⟩]}}}
def ou(k:PW):PW:=vw (wFr (if 64<=((aZ k).1.r.vm.f.length:Int)then pOk (aZ k).1 (aZ k).1.r.vm (-5)else(aZ k).1)) (aZ k).2
def Ax(k:PW):PW:=iZ (iZ (aZ (aZ k).1).1 (aZ (aZ k).1).2) (aZ k).2
def sL(k:PW):PW:=dm (dm (gc (gc k).1).1 (gc (gc k).1).2) (gc k).2
def GA(k:PW)(name:Str):PW :=
 if name=[40,99,97,117,103,104,116,41]then kI k else
 if name=[40,115,116,114,41]then IK k else
 if name=[69,88,69,67,85,84,69]then vw (aZ k).1 (aZ k).2 else
 if name=[67,65,84,67,72]then ou k else
 if name=[84,72,82,79,87]then pOk (aZ k).1 (aZ k).1.r.vm (aZ k).2 else
 if name=[73]then dm (co k 0).1 (co k 0).2 else
 if name=[74]then dm (co k 2).1 (co k 2).2 else
 if name=[85,78,76,79,79,80]then(gc (gc (co k 1).1).1).1 else
 if name=[62,82]then iZ (aZ k).1 (aZ k).2 else
 if name=[82,62]then dm (gc k).1 (gc k).2 else
 if name=[82,64]then dm (co k 0).1 (co k 0).2 else
 if name=[50,62,82]then Ax k else
 if name=[50,82,62]then sL k else k
def mf(k:PW)(name:Str):PW :=
 if name=[40,100,111,101,115,41]then sP (mm k)else
 if name=[40,101,120,105,116,41]then sP k else
 if name=[40,108,105,116,41]then NS k else
 if name=[40,98,114,97,110,99,104,41]then kJ k true else
 if name=[40,48,98,114,97,110,99,104,41]then kJ (aZ k).1 (decide ((aZ k).2=0))else
 if name=[40,63,100,111,41]then zO k else
 if name=[40,100,111,41]then wDo k else
 if name=[40,108,111,111,112,41]then pg k 1 else
 if name=[40,43,108,111,111,112,41]then pg (aZ k).1 (aZ k).2 else
 if name=[40,104,97,108,116,41]then W4 k .halt else GA k name
def fa(k:PW)(b:Int):PW :=
 let p:=bv k b
 let q:=bv p.1 (W64 (b+8))
 let c:=if ib q.1.err&&(decide (p.2<0)||decide (q.2<=p.2))then pOk q.1 q.1.r.vm (-24)else q.1
 let x:=bv c (W64 (W64 (b+16)+W64 (8*p.2)))
 if x.2=0 then x.1 else vw x.1 x.2
def j3(k0:PW)(xt:Int):PW :=
 let n:=(av k0.r.vm xt).1
 let k:=pOk k0 k0.r.vm (av k0.r.vm xt).2
 if ib k.err then
  if 300<=n then pOk k k.r.vm (-14)else
  if n=256 then wIp (iZ k k.r.ip) (W64 (xt+8))else
  if n=257 then dm k (W64 (xt+16))else
  if n=258 then dm (bv k (W64 (xt+16))).1 (bv k (W64 (xt+16))).2 else
  if n=259 then wIp (iZ (dm (bv k (W64 (xt+8))).1 (W64 (xt+16))) (dm (bv k (W64 (xt+8))).1 (W64 (xt+16))).r.ip) (bv k (W64 (xt+8))).2 else
  if n=260 then fa k (W64 (xt+16))else
  if 23<=n/\n<=129 then pOk k (doS k.r.vm n).1 (doS k.r.vm n).2 else mf k (ao.getD n.toNat [])
 else k
def gg(r:bH):PW:=⟨{r with w:=0,dof:=false,fuel:=W64 (r.fuel-1)},.ok⟩
def bZ(r:bH):PW×Int :=
 if r.dof then(gg r,r.w)else
  (if ib (bv (gg r) r.ip).1.err then wIp (bv (gg r) r.ip).1 (W64 ((bv (gg r) r.ip).1.r.ip+8))else(bv (gg r) r.ip).1,(bv (gg r) r.ip).2)
def im(r:bH):PW:=if ib (bZ r).1.err then j3 (bZ r).1 (bZ r).2 else(bZ r).1
def sH(r:bH):bH×Bool×Int :=
 if r.fuel<1 then(r,false,-256)else
  match (im r).err with
  | .ok=>((im r).r,false,0)
  | .halt=>((im r).r,true,0)
  | .bad e=>((cp (bZ r).1.r e).1,false,(cp (bZ r).1.r e).2)
def Rel(p:PW)(d:VWk):Prop:=match p.err with
 | .ok=>d=⟨p.r.vm,p.r.ip,p.r.w,p.r.dof,false,0⟩
 | .bad e=>d.bad=e/\e≠0
 | .halt=>False
def Kf(p:PW×Int)(d:VWk×Int):Prop:=Rel p.1 d.1/\(p.1.err=.ok->p.2=d.2)
theorem Rel.ok{p:PW}{d:VWk}(h:Rel p d)(k:p.err=.ok):d=⟨p.r.vm,p.r.ip,p.r.w,p.r.dof,false,0⟩:=by unfold Rel at h;rw[k]at h;exact h
theorem Rel.bad{p:PW}{d:VWk}{e:Int}(h:Rel p d)(k:p.err=.bad e):d.bad=e/\e≠0:=by unfold Rel at h;rw[k]at h;exact h
theorem Rel.cases{p:PW}{d:VWk}(h:Rel p d):(p.err=.ok)\/∃e,p.err=.bad e:=by
 unfold Rel at h
 cases k:p.err with
 | ok=>exact .inl rfl
 | bad e=>exact .inr ⟨e,rfl⟩
 | halt=>rw[k]at h;exact h.elim
theorem xd{p:PW}{d:VWk}(k:p.err=.ok)(h:d=⟨p.r.vm,p.r.ip,p.r.w,p.r.dof,false,0⟩):Rel p d:=by unfold Rel;rw[k];exact h
theorem jq{p:PW}{d:VWk}{e:Int}(k:p.err=.bad e)(h:d.bad=e)(h0:e≠0):Rel p d:=by unfold Rel;rw[k];exact⟨h,h0⟩
theorem iL{k:PW}{c e:Int}{v:VVm}(h:k.err=.bad c):pOk k v e=k:=by unfold pOk;rw[h]
theorem gX{k:PW}{e:Int}{v:VVm}(h:(pOk k v e).err=.ok):k.err=.ok/\e=0:=by
 unfold pOk at h
 cases k1:k.err with
 | ok =>
  rw[k1]at h;simp only at h
  by_cases he:e=0
  ·exact⟨rfl,he⟩
  rw[if_neg he]at h;cases h
 | bad c=>rw[k1]at h;simp only at h;rw[k1]at h;cases h
 | halt=>rw[k1]at h;simp only at h;rw[k1]at h;cases h
theorem gV{e:yl}:ib e=true↔e=.ok:=by cases e<;>simp[ib]
theorem Hp{d:VWk}{e:Int}(h:d.bad≠0):cH d e=d:=by unfold cH;rw[if_neg h]
theorem sc{p:PW}{d:VWk}{v v':VVm}{e e':Int}(h:Rel p d)(he:p.err=.ok->e=e'/\(e=0->v=v')):Rel (pOk p v e) {cH d e' with v:=v'}:=by
 rcases h.cases with k|⟨c,k⟩
 ·obtain⟨rfl,hv⟩:=he k
  have hd:=h.ok k
  subst hd
  unfold pOk cH;rw[k];simp only[if_true]
  by_cases he:e=0
  ·rw[if_pos he];exact xd rfl (by rw[hv he,he])
  rw[if_neg he];exact jq rfl rfl he
 have hb:=h.bad k
 rw[iL k]
 exact jq k (by rw[Hp (by rw[hb.1];exact hb.2)];exact hb.1) hb.2
theorem lX{p:PW}{d:VWk}{e:Int}(h:Rel p d):Rel (pOk p p.r.vm e) (cH d e):=by
 have k:=sc (v:=p.r.vm) (v':=d.v) (e:=e) (e':=e) h (fun k=>⟨rfl,fun _=>by rw[h.ok k]⟩)
 have e2:({cH d e with v:=d.v}:VWk)=cH d e:=by unfold cH;split<;>rfl
 rw[e2]at k;exact k
theorem gR{p:PW}{d:VWk}(h:Rel p d){n n':Int}(hn:p.err=.ok->n=n'):Rel (dm p n) (jw d n') :=
 sc h (fun k=>by rw[h.ok k,hn k];exact⟨rfl,fun _=>rfl⟩)
theorem ke{p:PW}{d:VWk}(h:Rel p d){n n':Int}(hn:p.err=.ok->n=n'):Rel (iZ p n) (dY d n') :=
 sc h (fun k=>by rw[h.ok k,hn k];exact⟨rfl,fun _=>rfl⟩)
theorem BY{p:PW}{d:VWk}(h:Rel p d){a a' n n':Int}(hn:p.err=.ok->a=a'/\n=n'):Rel (mB p a n) (mD d a' n') :=
 sc h (fun k=>by rw[h.ok k,(hn k).1,(hn k).2];exact⟨rfl,fun _=>rfl⟩)
theorem jh{p:PW}{d:VWk}(h:Rel p d):Kf (aZ p) (fS d) :=
 ⟨sc h (fun k=>by rw[h.ok k];exact⟨rfl,fun _=>rfl⟩),fun k=>by
  have k':(pOk p (dV p.r.vm).2.1 (dV p.r.vm).2.2).err=.ok:=k
  show(if ib _ then _ else _)=_
  rw[if_pos (gV.2 k'),h.ok (gX k).1];rfl⟩
theorem jL{p:PW}{d:VWk}(h:Rel p d):Kf (gc p) (g9 d) :=
 ⟨sc h (fun k=>by rw[h.ok k];exact⟨rfl,fun _=>rfl⟩),fun k=>by
  have k':(pOk p (eU p.r.vm).2.1 (eU p.r.vm).2.2).err=.ok:=k
  show(if ib _ then _ else _)=_
  rw[if_pos (gV.2 k'),h.ok (gX k).1];rfl⟩
theorem jj{p:PW}{d:VWk}(h:Rel p d){a a':Int}(ha:p.err=.ok->a=a'):Kf (bv p a) (bq d a'):=by
 refine⟨?_,fun k=>by
  show(am _ _).1=(am _ _).1
  rw[h.ok (gX k).1,ha (gX k).1]⟩
 have k:=sc (v:=p.r.vm) (v':=d.v) (e:=(am p.r.vm.mem a).2) (e':=(am d.v.mem a').2) h (fun k=>⟨by rw[h.ok k,ha k],fun _=>by rw[h.ok k]⟩)
 have e2:({cH d (am d.v.mem a').2 with v:=d.v}:VWk)=(bq d a').1:=by unfold bq cH;dsimp only;split<;>rfl
 rw[e2]at k;exact k
theorem xl{p:PW}{d:VWk}(h:Rel p d){a a':Int}(ha:p.err=.ok->a=a'):Rel (wIp p a) {d with ip:=a'}:=by
 rcases h.cases with k|⟨c,k⟩
 ·exact xd k (by rw[h.ok k,ha k];rfl)
 exact jq k (h.bad k).1 (h.bad k).2
theorem FF{p:PW}{d:VWk}(h:Rel p d){a a':Int}(ha:p.err=.ok->a=a'):Rel (vw p a) (Mf d a'):=by
 rcases h.cases with k|⟨c,k⟩
 ·exact xd k (by rw[h.ok k,ha k];rfl)
 exact jq k (h.bad k).1 (h.bad k).2
theorem tB{p A B:PW}{d A' B':VWk}{c c':Prop}[Decidable c][Decidable c'](h:Rel p d)(hc:p.err=.ok->(c↔c'))(h1:Rel A A')(h2:Rel B B')
  (hp:∀e,p.err=.bad e->A.err=.bad e/\B.err=.bad e) (hd:d.bad≠0->A'.bad=d.bad/\B'.bad=d.bad):Rel (if c then A else B) (if c' then A' else B'):=by
 rcases h.cases with k|⟨e,k⟩
 ·by_cases q:c
  ·rw[if_pos q,if_pos ((hc k).1 q)];exact h1
  rw[if_neg q,if_neg (fun q'=>q ((hc k).2 q'))];exact h2
 have hb:=h.bad k
 have h3:=hp e k
 have h4:=hd (by rw[hb.1];exact hb.2)
 have a1:(if c then A else B).err=.bad e:=by split;exact h3.1;exact h3.2
 have a2:(if c' then A' else B').bad=e:=by split;rw[h4.1,hb.1];rw[h4.2,hb.1]
 exact jq a1 a2 hb.2
section
variable {p : PW} {e : Int} (h : p.err = .bad e)
include h
theorem IN{n:Int}:dm p n=p:=iL h
theorem LQ{n:Int}:iZ p n=p:=iL h
theorem Lw{a n:Int}:mB p a n=p:=iL h
theorem Yg:(aZ p).1=p:=iL h
theorem JG:(gc p).1=p:=iL h
theorem Uf{a:Int}:(bv p a).1=p:=iL h
theorem Tw{n:Nat}:(co p n).1=p:=by unfold co;split;exact iL h;rfl
end
section
variable {d : VWk} (h : d.bad ≠ 0)
include h
theorem mJ{e:Int}:(cH d e).bad=d.bad:=by rw[Hp h]
theorem ti{n:Int}:(dY d n).bad=d.bad:=mJ h
theorem EI{a n:Int}:(mD d a n).bad=d.bad:=mJ h
theorem Z1:(g9 d).1.bad=d.bad:=mJ h
theorem Uj{a:Int}:(bq d a).1.bad=d.bad:=mJ h
theorem al2{n:Int}:(kD d n).1.bad=d.bad:=by unfold kD;split;exact mJ h;rfl
theorem ap5:(dTo d).bad=d.bad:=Uj h
end
theorem kK{p:PW}{d:VWk}(h:Rel p d)(n:Nat):Kf (co p n) (kD d (n:Int)):=by
 rcases h.cases with k|⟨e,k⟩
 ·have hd:=h.ok k
  by_cases q:p.r.vm.r.length<=n
  ·have q':(d.v.r.length:Int)<=(n:Int):=by rw[hd];dsimp only;omega
   unfold co kD;rw[if_pos q,if_pos q']
   exact⟨lX h,fun _=>rfl⟩
  have q':¬(d.v.r.length:Int)<=(n:Int):=by rw[hd];dsimp only;omega
  unfold co kD;rw[if_neg q,if_neg q']
  exact⟨h,fun _=>by rw[hd];rfl⟩
 have hb:=h.bad k
 have hb0:d.bad≠0:=by rw[hb.1];exact hb.2
 exact⟨jq (by rw[Tw k];exact k) (by rw[al2 hb0,hb.1]) hb.2,fun q=>by rw[Tw k,k]at q;cases q⟩
theorem Ad{p:PW}{d:VWk}(h:Rel p d):Rel (kJ p true) (dTo d):=by
 have f:=jj h (a:=p.r.ip) (a':=d.ip) (fun k=>by rw[h.ok k])
 exact xl f.1 f.2
theorem s4{p:PW}{d:VWk}(h:Rel p d):Rel (kJ p false) (jH d):=xl h (fun k=>by rw[h.ok k])
theorem Ip{p:PW}{e:Int}(h:p.err=.bad e)(b:Bool):(kJ p b).err=.bad e:=by
 unfold kJ;split
 ·show(bv p p.r.ip).1.err=_;rw[Uf h];exact h
 exact h
theorem yy{p:PW}{n:Nat}(h:(co p n).1.err=.ok):p.err=.ok:=by
 unfold co at h;split at h
 ·exact(gX h).1
 exact h
theorem Jg{p:PW}(h:(aZ p).1.err=.ok):p.err=.ok:=(gX h).1
theorem WL{p:PW}(h:(gc p).1.err=.ok):p.err=.ok:=(gX h).1
theorem wa{p:PW}{n:Int}(h:(dm p n).err=.ok):p.err=.ok:=(gX h).1
theorem GX{p:PW}{n:Int}(h:(iZ p n).err=.ok):p.err=.ok:=(gX h).1
theorem Gi{p:PW}{n:Int}(h:(bv p n).1.err=.ok):p.err=.ok:=(gX h).1
theorem yJ{p:PW}{n:Int}:(bv p n).1.r=p.r:=by
 unfold bv pOk;dsimp only;cases p.err<;>dsimp only;split<;>rfl
theorem Qg{p:PW}{v:VVm}{e:Int}:(pOk p v e).r.ip=p.r.ip:=by
 unfold pOk;cases p.err<;>dsimp only;split<;>rfl
theorem FB{p:PW}{d:VWk}(h:Rel p d):Rel (sP p) {(g9 d).1 with ip:=(g9 d).2}:=xl (jL h).1 (jL h).2
theorem XC{p:PW}{d:VWk}(h:Rel p d):Rel (NS p) (jH (jw (bq d d.ip).1 (bq d d.ip).2)):=by
 have f:=jj h (a:=p.r.ip) (a':=d.ip) (fun k=>by rw[h.ok k])
 exact s4 (gR f.1 f.2)
theorem ae5{p:PW}{d:VWk}(h:Rel p d):Rel (kJ (aZ p).1 (decide ((aZ p).2=0))) (if (fS d).2=0 then dTo (fS d).1 else jH (fS d).1):=by
 have f:=jh h
 have e:kJ (aZ p).1 (decide ((aZ p).2=0))=if (aZ p).2=0 then kJ (aZ p).1 true else kJ (aZ p).1 false:=by
  by_cases q:(aZ p).2=0
  ·rw[if_pos q,decide_eq_true q]
  rw[if_neg q,decide_eq_false q]
 rw[e]
 exact tB f.1 (fun k=>by rw[f.2 k]) (Ad f.1) (s4 f.1) (fun e k=>⟨Ip k _,Ip k _⟩) (fun k=>⟨ap5 k,rfl⟩)
theorem F8{p:PW}{d:VWk}(h:Rel p d){n n':Int}(hn:p.err=.ok->n=n'):Rel (pg p n) (zw d n'):=by
 have a:Kf (co p 1) (kD d 1):=kK h 1
 have b:Kf (co (co p 1).1 0) (kD (kD d 1).1 0):=kK a.1 0
 rcases b.1.cases with k|⟨e,k⟩
 ·have hb:(kD (kD d 1).1 0).1.bad=0:=by rw[b.1.ok k]
  have a2:=a.2 (yy k)
  have b2:=b.2 k
  have n2:=hn (yy (yy k))
  have c:=(jL b.1).1
  unfold pg zw
  dsimp only
  have hb':¬(kD (kD d 1).1 0).1.bad≠0:=fun q=>q hb
  rw[if_pos (gV.2 k),if_neg hb',a2,b2,n2]
  by_cases q:(oa (kD (kD d 1).1 0).2 (kD d 1).2 n').2=true
  ·rw[if_pos q,if_pos q,q]
   exact s4 (jL c).1
  have q':(oa (kD (kD d 1).1 0).2 (kD d 1).2 n').2=false:=by simpa using q
  rw[if_neg q,if_neg q,q']
  exact Ad (ke c (fun _=>rfl))
 have hb:=b.1.bad k
 unfold pg zw
 dsimp only
 rw[if_neg (by rw[k];simp[ib]),if_pos (fun q=>hb.2 (hb.1.symm.trans q))]
 exact b.1
theorem L6{p:PW}{d:VWk}(h:Rel p d):Rel (Ax p) (dY (dY (ww d).1 (ww d).2.2) (ww d).2.1):=by
 have a:=jh h
 have b:=jh a.1
 exact ke (ke b.1 b.2) (fun k=>a.2 (Jg (GX k)))
theorem TP{p:PW}{d:VWk}(h:Rel p d):Rel (sL p) (jw (jw (g9 (g9 d).1).1 (g9 (g9 d).1).2) (g9 d).2):=by
 have a:=jL h
 have b:=jL a.1
 exact gR (gR b.1 b.2) (fun k=>a.2 (WL (wa k)))
theorem HH{q:PW}{n:Int}(k:q.err=.ok)(h:(q.r.vm.d.length:Int)<q.r.vm.conf.data):aZ (dm q n)=(q,n):=by
 obtain⟨⟨v,ip,w,df,fu⟩,err⟩:=q
 simp only at k;subst k
 have e:dm ⟨⟨v,ip,w,df,fu⟩,.ok⟩ n=⟨⟨{v with d:=v.d++[n]},ip,w,df,fu⟩,.ok⟩:=by
  unfold dm gJ gD pOk
  simp only at h
  simp only[if_neg (show ¬v.conf.data<=(v.d.length:Int) by omega),if_true]
 rw[e]
 have e2:bk (v.d++[n])=(n,v.d,0):=by
  unfold bk
  rw[if_neg (by simp)]
  simp
 unfold aZ dV pOk
 simp only[e2,if_true,ib]
theorem ZA{q:PW}{a:Int}:aZ (wIp q a)=(wIp (aZ q).1 a,(aZ q).2):=by
 obtain⟨r,err⟩:=q
 unfold aZ wIp pOk
 cases err<;>dsimp only
 split<;>rfl
theorem zm{d:VWk}{n:Int}:jH (dY d n)=dY (jH d) n:=by
 unfold jH dY cH;dsimp only;split<;>rfl
theorem Ys{p:PW}(k:(aZ p).1.err=.ok):(aZ p).1.r.vm.d.length+1=p.r.vm.d.length/\(aZ p).1.r.vm.conf=p.r.vm.conf:=by
 obtain⟨r,err⟩:=p
 have h1:=gX k
 simp only at h1
 obtain⟨rfl,h2⟩:=h1
 have hl:r.vm.d.length≠0:=by
  intro q
  unfold dV bk at h2;rw[if_pos q]at h2;cases h2
 unfold aZ pOk
 simp only[h2,if_true]
 unfold dV bk
 simp only[if_neg hl,List.length_take]
 exact⟨by omega,trivial⟩
theorem UF{p:PW}{d:VWk}(h:Rel p d)(hd:(p.r.vm.d.length:Int)<=p.r.vm.conf.data):
  Rel (zO p) (if (ww d).2.1=(ww d).2.2 then dTo (ww d).1 else jH (dY (dY (ww d).1 (ww d).2.2) (ww d).2.1)):=by
 have a:=jh h
 have b:=jh a.1
 rcases b.1.cases with k|⟨e,k⟩
 ·have a2:=a.2 (Jg k)
  have b2:=b.2 k
  have l1:=Ys (Jg k)
  have l2:=Ys k
  unfold zO ww
  dsimp only
  by_cases q:(aZ p).2=(aZ (aZ p).1).2
  ·rw[if_pos q,if_pos (show(fS d).2=(fS (fS d).1).2 by rw[<-a2,<-b2];exact q)]
   exact Ad b.1
  rw[if_neg q,if_neg (show ¬(fS d).2=(fS (fS d).1).2 by rw[<-a2,<-b2];exact q)]
  have b1:Rel (aZ (aZ p).1).1 (fS (fS d).1).1:=b.1
  generalize hP:(aZ (aZ p).1).1=P at *
  have e1:=HH (n:=(aZ (aZ p).1).2) k (by rw[l2.2,l1.2];omega)
  have l3:(dm P (aZ (aZ p).1).2).err=.ok:=by
   have:(pOk P (gJ P.r.vm (aZ (aZ p).1).2).1 (gJ P.r.vm (aZ (aZ p).1).2).2).err=.ok:=by
    unfold pOk gJ gD
    simp only[k,if_neg (show ¬P.r.vm.conf.data<=(P.r.vm.d.length:Int) by rw[l2.2,l1.2];omega),if_true]
   exact this
  have l4:(dm P (aZ (aZ p).1).2).r.vm.d.length=P.r.vm.d.length+1/\(dm P (aZ (aZ p).1).2).r.vm.conf=P.r.vm.conf:=by
   unfold dm pOk gJ gD
   simp only[k,if_neg (show ¬P.r.vm.conf.data<=(P.r.vm.d.length:Int) by rw[l2.2,l1.2];omega),if_true]
   simp
  have e2:=HH (n:=(aZ p).2) l3 (by rw[l4.2,l2.2,l1.2];omega)
  have ip1:(dm (dm P (aZ (aZ p).1).2) (aZ p).2).r.ip=P.r.ip:=by
   show(pOk (pOk P _ _) _ _).r.ip=_
   rw[Qg,Qg]
  unfold wDo
  simp only[ZA,e2,e1,ip1]
  rw[zm,zm]
  exact ke (ke (s4 b1) (fun k=>b2)) (fun k=>a2)
 have hb:=b.1.bad k
 have hb0:(fS (fS d).1).1.bad≠0:=by rw[hb.1];exact hb.2
 have w1:∀A:PW,A.err=.bad e->∀n m a,(wDo (wIp (dm (dm A n) m) a)).err=.bad e:=by
  intro A kA n m a
  rw[IN kA,IN kA]
  unfold wDo
  have k1:(wIp A a).err=.bad e:=kA
  rw[Yg k1,Yg k1,LQ k1,LQ k1];exact k1
 refine tB b.1 (fun q=>by rw[k]at q;cases q) (Ad b.1) (jq (e:=e) (w1 _ k _ _ _) ?_ hb.2) (fun e' k'=>⟨Ip k' _,?_⟩) (fun _=>⟨ap5 hb0,?_⟩)
 ·show(dY (dY (fS (fS d).1).1 _) _).bad=e
  rw[ti (by rw[ti hb0];exact hb0),ti hb0];exact hb.1
 ·rw[k]at k';cases k';exact w1 _ k _ _ _
 show(dY (dY (fS (fS d).1).1 _) _).bad=(fS (fS d).1).1.bad
 rw[ti (by rw[ti hb0];exact hb0),ti hb0]
theorem TO{p:PW}{d:VWk}(h:Rel p d):Rel (sP (mm p)) (CR d):=by
 rcases h.cases with k|⟨e,k⟩
 ·have hd:=h.ok k
  unfold mm CR
  have hv:d.v=p.r.vm:=by rw[hd]
  rw[hv]
  split
  ·have k2:(pOk p p.r.vm (-31)).err=.bad (-31):=by unfold pOk;rw[k];rfl
   refine jq (e:=-31) ?_ ?_ (by decide)
   ·show(gc _).1.err=_;rw[JG k2];exact k2
   unfold cH;rw[hd];rfl
  have s1:=BY h (a:=p.r.vm.last) (a':=d.v.last) (n:=259) (n':=259) (fun _=>⟨by rw[hv],rfl⟩)
  rw[hv]at s1
  have e1:(mB p p.r.vm.last 259).err=.ok->(mD d p.r.vm.last 259).v.last=p.r.vm.last/\(mD d p.r.vm.last 259).ip=(mB p p.r.vm.last 259).r.ip:=fun k3=>by
   rw[s1.ok k3]
   refine⟨?_,rfl⟩
   unfold mB pOk;rw[k];dsimp only;split<;>rfl
  exact FB (BY s1 (fun k3=>⟨by rw[(e1 k3).1],by rw[(e1 k3).2]⟩))
 have hb:=h.bad k
 have hb0:d.bad≠0:=by rw[hb.1];exact hb.2
 refine jq (e:=e) ?_ ?_ hb.2
 ·unfold sP mm
  show(gc _).1.err=_
  split
  ·rw[iL k,JG k];exact k
  rw[Lw k,Lw k,JG k];exact k
 unfold CR
 split
 ·rw[mJ hb0];exact hb.1
 show(g9 _).1.bad=e
 have s1:(mD d d.v.last 259).bad≠0:=by rw[EI hb0];exact hb0
 have s2:=EI s1 (a:=W64 ((mD d d.v.last 259).v.last+8)) (n:=(mD d d.v.last 259).ip)
 rw[Z1 (by rw[s2];exact s1),s2,EI hb0];exact hb.1
theorem Jc{p:PW}{d:VWk}(h:Rel p d):Rel (kI p) (vh d):=by
 unfold kI vh
 refine tB h (fun k=>by rw[h.ok k]) (lX h) (gR ?_ (fun _=>rfl)) (fun e k=>⟨by rw[iL k];exact k,?_⟩) (fun k=>⟨mJ k,?_⟩)
 ·rcases h.cases with k|⟨e,k⟩
  ·exact xd k (by rw[h.ok k])
  exact jq k (h.bad k).1 (h.bad k).2
 ·have hX:∀X:PW,X.err=.bad e->(dm X 0).err=.bad e:=fun X hX=>by rw[IN hX];exact hX
  exact hX _ k
 exact mJ (d:={d with ip:=_,v:=_}) (by exact k)
theorem Oz{d:VWk}:cH d 0=d:=by
 obtain⟨v,ip,w,df,ov,bad⟩:=d
 unfold cH;dsimp only;split
 ·rename_i q;rw[q]
 rfl
theorem WZ{p:PW}{d:VWk}(h:Rel p d):Rel (IK p) (V6 d):=by
 have f:=jj h (a:=p.r.ip) (a':=d.ip) (fun k=>by rw[h.ok k])
 have ip1:(bv p p.r.ip).1.err=.ok->p.r.ip=d.ip:=fun k=>by rw[h.ok (Gi k)]
 have g:Rel (pOk (bv p p.r.ip).1 (bv p p.r.ip).1.r.vm (dN (bv p p.r.ip).1.r.vm.mem (W64 (p.r.ip+8)) (bv p p.r.ip).2).2) (if bp (bq d d.ip).1.v.mem (W64 (d.ip+8)) (bq d d.ip).2 then(bq d d.ip).1 else cH (bq d d.ip).1 (-9)):=by
  rcases f.1.cases with k|⟨e,k⟩
  ·have e1:(if bp (bq d d.ip).1.v.mem (W64 (d.ip+8)) (bq d d.ip).2 then(bq d d.ip).1 else cH (bq d d.ip).1 (-9))=cH (bq d d.ip).1 (dN (bv p p.r.ip).1.r.vm.mem (W64 (p.r.ip+8)) (bv p p.r.ip).2).2:=by
    rw[<-f.2 k,f.1.ok k,<-ip1 k]
    unfold dN
    split
    ·rw[Oz]
    rfl
   rw[e1];exact lX f.1
  have hb:=f.1.bad k
  have hb0:(bq d d.ip).1.bad≠0:=by rw[hb.1];exact hb.2
  exact jq (by rw[iL k];exact k) (by split;exact hb.1;rw[mJ hb0];exact hb.1) hb.2
 refine xl (gR (gR g ?_) ?_) ?_
 ·intro k;rw[ip1 (gX k).1]
 ·intro k;exact f.2 (gX (wa k)).1
 intro k
 have k1:=(gX (wa (wa k))).1
 rw[f.2 k1,ip1 k1]
theorem MM{p:PW}{d:VWk}(h:Rel p d):Rel (ou p) (A9 d):=by
 have a:=jh h
 have b:Rel (if 64<=((aZ p).1.r.vm.f.length:Int)then pOk (aZ p).1 (aZ p).1.r.vm (-5)else(aZ p).1) (if 64<=((fS d).1.v.f.length:Int)then cH (fS d).1 (-5)else(fS d).1) :=
  tB a.1 (fun k=>by rw[a.1.ok k]) (lX a.1) a.1 (fun e k=>⟨by rw[iL k];exact k,k⟩) (fun k=>⟨mJ k,rfl⟩)
 have hk:(if 64<=((aZ p).1.r.vm.f.length:Int)then pOk (aZ p).1 (aZ p).1.r.vm (-5)else(aZ p).1).err=.ok->(aZ p).2=(fS d).2:=fun k=>a.2 (by
  split at k
  ·exact(gX k).1
  exact k)
 unfold ou wFr A9
 dsimp only
 generalize (if 64<=((aZ p).1.r.vm.f.length:Int)then pOk (aZ p).1 (aZ p).1.r.vm (-5)else(aZ p).1)=P at *
 generalize (if 64<=((fS d).1.v.f.length:Int)then cH (fS d).1 (-5)else(fS d).1)=D at *
 rcases b.cases with k|⟨e,k⟩
 ·rw[b.ok k,hk k];exact xd k rfl
 exact jq (e:=e) k (b.bad k).1 (b.bad k).2
theorem LL(a b:Int):W64 (W64 a+b)=W64 (a+b):=by show IntKind.i64.wrap (IntKind.i64.wrap a+b)=IntKind.i64.wrap (a+b);rw[bS,bS,bS];exact DF a b
theorem MT{p:PW}{d:VWk}(h:Rel p d):Rel (pOk (aZ p).1 (aZ p).1.r.vm (aZ p).2) (cH (fS d).1 (fS d).2):=by
 have a:=jh h
 rcases a.1.cases with k|⟨e,k⟩
 ·rw[a.2 k];exact lX a.1
 have hb:=a.1.bad k
 exact jq (by rw[iL k];exact k) (by rw[mJ (by rw[hb.1];exact hb.2)];exact hb.1) hb.2
theorem Fl{p:PW}{d:VWk}(h:Rel p d)(xt:Int):Rel (fa p (W64 (xt+16))) (pw d xt):=by
 have a:=jj h (a:=W64 (xt+16)) (a':=W64 (xt+16)) (fun _=>rfl)
 have b:=jj a.1 (a:=W64 (W64 (xt+16)+8)) (a':=W64 (xt+24)) (fun _=>by rw[LL];exact congrArg W64 (by omega))
 unfold fa pw
 dsimp only
 generalize hb:bq (bq d (W64 (xt+16))).1 (W64 (xt+24))=B at *
 generalize ha:bq d (W64 (xt+16))=A at *
 generalize hb':bv (bv p (W64 (xt+16))).1 (W64 (W64 (xt+16)+8))=B' at *
 have hba:B'.1.err=.ok->(bv p (W64 (xt+16))).2=A.2:=fun k=>a.2 (Gi (by rw[hb'];exact k))
 generalize ha':bv p (W64 (xt+16))=A' at *
 have c:Rel (if ib B'.1.err&&(decide (A'.2<0)||decide (B'.2<=A'.2))then pOk B'.1 B'.1.r.vm (-24)else B'.1) (if A.2<0\/B.2<=A.2 then cH B.1 (-24)else B.1) :=
  tB b.1 (fun k=>by rw[hba k,b.2 k,gV.2 k];simp) (lX b.1) b.1 (fun e k=>⟨by rw[iL k];exact k,k⟩) (fun k=>⟨mJ k,rfl⟩)
 have hc:(if ib B'.1.err&&(decide (A'.2<0)||decide (B'.2<=A'.2))then pOk B'.1 B'.1.r.vm (-24)else B'.1).err=.ok->B'.1.err=.ok:=fun k=>by
  split at k
  ·exact(gX k).1
  exact k
 generalize (if ib B'.1.err&&(decide (A'.2<0)||decide (B'.2<=A'.2))then pOk B'.1 B'.1.r.vm (-24)else B'.1)=C' at *
 generalize (if A.2<0\/B.2<=A.2 then cH B.1 (-24)else B.1)=C at *
 have x:=jj c (a:=W64 (W64 (W64 (xt+16)+16)+W64 (8*A'.2))) (a':=W64 (W64 (xt+32)+W64 (8*A.2))) (fun k=>by rw[hba (hc k),LL (xt+16)];exact congrArg W64 (congrArg (·+W64 (8*A.2)) (congrArg W64 (by omega))))
 exact tB x.1 (fun k=>by rw[x.2 k]) x.1 (FF x.1 x.2) (fun e k=>⟨k,k⟩) (fun _=>⟨rfl,rfl⟩)
def Je(p:PW)(d:VWk):Prop:=match p.err with
 | .halt=>d=⟨p.r.vm,p.r.ip,p.r.w,p.r.dof,true,0⟩
 | _=>Rel p d
theorem cL{p:PW}{d:VWk}(h:Rel p d):Je p d:=by
 unfold Je
 rcases h.cases with k|⟨e,k⟩<;>rw[k]<;>exact h
theorem Tt{p:PW}{d:VWk}(h:Rel p d)(k:p.err=.ok):Je (W4 p .halt) {d with over:=true}:=by
 unfold Je W4;dsimp only;rw[h.ok k]
theorem Us{p:PW}{d:VWk}(h:Rel p d)(k:p.err=.ok)(hd:(p.r.vm.d.length:Int)<=p.r.vm.conf.data)(m:Nat)(hm:m<23):
  Je (mf p (ao.getD m [])) (if (sM d (ao.getD m [])).2 then(sM d (ao.getD m [])).1 else F9 (sM d (ao.getD m [])).1 (ao.getD m [])):=by
 match m,hm with
 | 0,_=>exact cL (FB h)
 | 1,_=>exact cL (XC h)
 | 2,_=>exact cL (Ad h)
 | 3,_=>exact cL (ae5 h)
 | 4,_=>exact cL (L6 h)
 | 5,_=>exact cL (UF h hd)
 | 6,_=>exact cL (F8 h (fun _=>rfl))
 | 7,_=>exact cL (F8 (jh h).1 (jh h).2)
 | 8,_=>exact Tt h k
 | 9,_=>exact cL (Jc h)
 | 10,_=>exact cL (TO h)
 | 11,_=>exact cL (WZ h)
 | 12,_=>exact cL (FF (jh h).1 (jh h).2)
 | 13,_=>exact cL (MM h)
 | 14,_=>exact cL (MT h)
 | 15,_=>exact cL (gR (kK h 0).1 (kK h 0).2)
 | 16,_=>exact cL (gR (kK h 2).1 (kK h 2).2)
 | 17,_=>exact cL (jL (jL (kK h 1).1).1).1
 | 18,_=>exact cL (ke (jh h).1 (jh h).2)
 | 19,_=>exact cL (gR (jL h).1 (jL h).2)
 | 20,_=>exact cL (gR (kK h 0).1 (kK h 0).2)
 | 21,_=>exact cL (L6 h)
 | 22,_=>exact cL (TP h)
 | m+23,hm=>exact absurd hm (by omega)
theorem Fh{v:VVm}{xt:Int}(h:(av v xt).2=0):eX (av v xt).1:=by
 unfold av at h ⊢
 split
 ·rename_i h1
  rw[if_pos h1]at h
  split
  ·assumption
  rename_i h2
  rw[if_neg h2]at h;cases h
 rename_i h1;rw[if_neg h1]at h;exact absurd h h1
theorem cR{k:PW}{v:VVm}{e:Int}:(pOk k v e).r.fuel=k.r.fuel:=by
 unfold pOk;cases k.err<;>dsimp only;split<;>rfl
theorem eg{k:PW}{n:Int}:(dm k n).r.fuel=k.r.fuel:=cR
theorem lC{k:PW}{n:Int}:(iZ k n).r.fuel=k.r.fuel:=cR
theorem gG{k:PW}:(aZ k).1.r.fuel=k.r.fuel:=cR
theorem ju{k:PW}:(gc k).1.r.fuel=k.r.fuel:=cR
theorem fR{k:PW}{n:Int}:(bv k n).1.r.fuel=k.r.fuel:=cR
theorem AU{k:PW}{a n:Int}:(mB k a n).r.fuel=k.r.fuel:=cR
theorem rh{k:PW}{n:Int}:(wIp k n).r.fuel=k.r.fuel:=rfl
theorem xm{k:PW}{n:Int}:(vw k n).r.fuel=k.r.fuel:=rfl
theorem bu{c:Prop}[Decidable c]{a b:PW}{f:Int}(ha:a.r.fuel=f)(hb:b.r.fuel=f):(if c then a else b).r.fuel=f:=by split<;>assumption
theorem iC{k:PW}{n:Nat}:(co k n).1.r.fuel=k.r.fuel:=by unfold co;split;exact cR;rfl
theorem s8{k:PW}{b:Bool}:(kJ k b).r.fuel=k.r.fuel:=by unfold kJ;exact bu (by rw[rh,fR]) rfl
theorem Cl{k:PW}:(sP k).r.fuel=k.r.fuel:=by unfold sP;rw[rh,ju]
theorem M3{k:PW}:(mm k).r.fuel=k.r.fuel:=by unfold mm;exact bu cR (by rw[AU,AU])
theorem Td{k:PW}:(NS k).r.fuel=k.r.fuel:=by unfold NS;rw[rh,eg,fR]
theorem FN{k:PW}:(Ax k).r.fuel=k.r.fuel:=by unfold Ax;rw[lC,lC,gG,gG]
theorem LF{k:PW}:(wDo k).r.fuel=k.r.fuel:=FN
theorem NP{k:PW}:(sL k).r.fuel=k.r.fuel:=by unfold sL;rw[eg,eg,ju,ju]
theorem Qz{k:PW}:(zO k).r.fuel=k.r.fuel:=by
 unfold zO;exact bu (by rw[s8,gG,gG]) (by rw[LF,rh,eg,eg,gG,gG])
theorem BJ{k:PW}{n:Int}:(pg k n).r.fuel=k.r.fuel:=by
 unfold pg;exact bu (by rw[s8];exact bu (by rw[ju,ju,iC,iC]) (by rw[lC,ju,iC,iC])) (by rw[iC,iC])
theorem Hy{k:PW}:(kI k).r.fuel=k.r.fuel:=by unfold kI;exact bu cR (by rw[eg])
theorem Rm{k:PW}:(IK k).r.fuel=k.r.fuel:=by unfold IK;rw[rh,eg,eg,cR,fR]
theorem Ix{k:PW}:(ou k).r.fuel=k.r.fuel:=by unfold ou;rw[xm];show(ite _ _ _:PW).r.fuel=_;exact bu (by rw[cR,gG]) gG
theorem Eq{k:PW}{b:Int}:(fa k b).r.fuel=k.r.fuel:=by
 have h:∀(c:Bool) (x:PW),(if c then pOk x x.r.vm (-24)else x).r.fuel=x.r.fuel:=fun c x=>bu cR rfl
 unfold fa;dsimp only;exact bu (by rw[fR,h,fR,fR]) (by rw[xm,fR,h,fR,fR])
theorem Ef{k:PW}{name:Str}:(mf k name).r.fuel=k.r.fuel:=by
 unfold mf GA
 refine bu (by rw[Cl,M3]) (bu Cl (bu Td (bu s8 (bu (by rw[s8,gG]) (bu Qz (bu LF (bu BJ (bu (by rw[BJ,gG]) (bu rfl ?_)))))))))
 refine bu Hy (bu Rm (bu (by rw[xm,gG]) (bu Ix (bu (by rw[cR,gG]) ?_))))
 refine bu (by rw[eg,iC]) (bu (by rw[eg,iC]) (bu (by rw[ju,ju,iC]) (bu (by rw[lC,gG]) (bu (by rw[eg,ju]) (bu (by rw[eg,iC]) (bu FN (bu NP rfl)))))))
theorem CV{p:PW}{xt:Int}:(j3 p xt).r.fuel=p.r.fuel:=by
 unfold j3;dsimp only
 refine bu (bu (by rw[cR,cR]) (bu (by rw[rh,lC,cR]) (bu (by rw[eg,cR]) (bu (by rw[eg,fR,cR]) (bu (by rw[rh,lC,eg,fR,cR]) (bu (by rw[Eq,cR]) (bu (by rw[cR,cR]) (by rw[Ef,cR])))))))) cR
theorem Sg{p:PW}{d:VWk}(h:Rel p d)(k:p.err=.ok)(hd:(p.r.vm.d.length:Int)<=p.r.vm.conf.data)(xt:Int):Je (j3 p xt) (rF d xt):=by
 have hv:d.v=p.r.vm:=by rw[h.ok k]
 have hip:d.ip=p.r.ip:=by rw[h.ok k]
 have hK:=Fh (v:=p.r.vm) (xt:=xt)
 unfold j3 rF
 dsimp only
 rw[hv]
 generalize av p.r.vm xt=q at *
 by_cases he:q.2=0
 ·have e1:pOk p p.r.vm q.2=p:=by unfold pOk;rw[k];dsimp only;rw[if_pos he,<-k]
  have hk:=hK he
  unfold eX at hk
  rw[e1,if_pos (gV.2 k),if_neg (show ¬q.2≠0 from fun h=>h he)]
  by_cases c1:300<=q.1
  ·rw[if_pos c1,if_pos c1];exact cL (lX h)
  rw[if_neg c1,if_neg c1]
  by_cases c2:q.1=256
  ·rw[if_pos c2,if_pos c2];exact cL (xl (ke h (fun _=>hip.symm)) (fun _=>rfl))
  rw[if_neg c2,if_neg c2]
  by_cases c3:q.1=257
  ·rw[if_pos c3,if_pos c3];exact cL (gR h (fun _=>rfl))
  rw[if_neg c3,if_neg c3]
  by_cases c4:q.1=258
  ·rw[if_pos c4,if_pos c4]
   have f:=jj h (a:=W64 (xt+16)) (a':=W64 (xt+16)) (fun _=>rfl)
   exact cL (gR f.1 f.2)
  rw[if_neg c4,if_neg c4]
  by_cases c5:q.1=259
  ·rw[if_pos c5,if_pos c5]
   have f:=jj h (a:=W64 (xt+8)) (a':=W64 (xt+8)) (fun _=>rfl)
   have g:=gR f.1 (n:=W64 (xt+16)) (n':=W64 (xt+16)) (fun _=>rfl)
   refine cL (xl (ke g (fun k=>by rw[g.ok k])) (fun k=>f.2 (wa (GX k))))
  rw[if_neg c5,if_neg c5]
  by_cases c6:q.1=260
  ·rw[if_pos c6,if_pos c6];exact cL (Fl h xt)
  rw[if_neg c6,if_neg c6]
  by_cases c7:23<=q.1
  ·rw[if_pos ⟨c7,by omega⟩,if_pos c7]
   exact cL (sc h (fun _=>⟨rfl,fun _=>rfl⟩))
  rw[if_neg (fun h=>c7 h.1),if_neg c7]
  exact Us h k hd q.1.toNat (by omega)
 have e1:(pOk p p.r.vm q.2).err=.bad q.2:=by unfold pOk;rw[k];dsimp only;rw[if_neg he]
 rw[if_neg (by rw[e1];simp[ib]),if_pos (show q.2≠0 from he)]
 exact cL (lX h)
def xQ(r:bH):VWk×Int :=
 if r.dof then(⟨r.vm,r.ip,0,false,false,0⟩,r.w)else
  (if (bq ⟨r.vm,r.ip,0,false,false,0⟩ r.ip).1.bad=0 then jH (bq ⟨r.vm,r.ip,0,false,false,0⟩ r.ip).1 else(bq ⟨r.vm,r.ip,0,false,false,0⟩ r.ip).1,(bq ⟨r.vm,r.ip,0,false,false,0⟩ r.ip).2)
theorem vE(r:bH):Kf (bZ r) (xQ r)/\(bZ r).1.r=⟨r.vm,(xQ r).1.ip,0,false,W64 (r.fuel-1)⟩:=by
 have h0:Rel (gg r) ⟨r.vm,r.ip,0,false,false,0⟩:=xd rfl rfl
 have f:=jj h0 (a:=r.ip) (a':=r.ip) (fun _=>rfl)
 unfold bZ xQ
 by_cases q:r.dof=true
 ·rw[if_pos q,if_pos q];exact⟨⟨h0,fun _=>rfl⟩,rfl⟩
 rw[if_neg q,if_neg q]
 rcases f.1.cases with k|⟨e,k⟩
 ·have hb:(bq ⟨r.vm,r.ip,0,false,false,0⟩ r.ip).1.bad=0:=by rw[f.1.ok k]
  rw[if_pos (gV.2 k),if_pos hb]
  refine⟨⟨s4 f.1,fun _=>f.2 k⟩,?_⟩
  dsimp only
  unfold jH wIp
  dsimp only
  rw[f.1.ok k,yJ];rfl
 have hb:=f.1.bad k
 rw[if_neg (by rw[k];simp[ib]),if_neg (by rw[hb.1];exact hb.2)]
 refine⟨⟨f.1,fun q=>by rw[k]at q;cases q⟩,?_⟩
 dsimp only
 rw[yJ]
 unfold bq cH
 dsimp only
 split<;>rfl
theorem Ek(r:bH)(hd:(r.vm.d.length:Int)<=r.vm.conf.data):sH r=bR r:=by
 unfold sH bR
 by_cases hf:r.fuel<1
 ·rw[if_pos hf,if_pos hf]
 rw[if_neg hf,if_neg hf]
 obtain⟨⟨h1,h2⟩,h3⟩:=vE r
 have e0:(if r.dof then((⟨r.vm,r.ip,0,false,false,0⟩:VWk),r.w)else(let a:=bq ⟨r.vm,r.ip,0,false,false,0⟩ r.ip;(if a.1.bad=0 then jH a.1 else a.1,a.2)))=xQ r:=rfl
 dsimp only at e0 ⊢
 rw[e0]
 unfold im
 rcases h1.cases with k|⟨e,k⟩
 ·have hb:(xQ r).1.bad=0:=by rw[h1.ok k]
  rw[if_pos (gV.2 k),if_pos hb,<-h2 k,<-h3]
  have hw:=Sg h1 k (by rw[h3];exact hd) (bZ r).2
  have hfu:(j3 (bZ r).1 (bZ r).2).r.fuel=W64 (r.fuel-1):=by rw[CV,h3]
  generalize j3 (bZ r).1 (bZ r).2=P at *
  generalize rF (xQ r).1 (bZ r).2=D at *
  unfold Je at hw
  cases kp:P.err with
  | ok =>
   rw[kp]at hw;simp only at hw
   rw[hw.ok kp]
   simp only[if_true]
   rw[<-hfu]
  | halt =>
   rw[kp]at hw;simp only at hw
   rw[hw]
   simp only[if_true]
   rw[<-hfu]
  | bad c =>
   rw[kp]at hw;simp only at hw
   have hb:=hw.bad kp
   simp only[hb.1,if_neg hb.2]
 have hb:=h1.bad k
 have hz:¬(xQ r).1.bad=0:=by rw[hb.1];exact hb.2
 rw[if_neg (by rw[k];simp[ib]),if_neg hz,if_neg hz,k,hb.1,h3]
open Go.RowKit
section
variable {P : Program} {B : Nat -> Nat -> Prop} {n : Nat} {all : Array Oper} {T : Nat -> PV} {H : List Ob} {o : Oper}
theorem Ac{t g j:Nat}{td:TD}{u:Value}(f:an P t td)(ha:td.agg=false)(ho:o.op=.load t (.global g))(hj:H[j]?=some (.glob g u)):bI P B o T H (.val u) H :=
 aL fun σ w a s h=>by
  obtain⟨q1,_⟩:=s.holds j _ hj
  obtain⟨v,h2,h3⟩:=jS (P:=P) (w:=w) (b:=g) (off:=0) (k:=0) (x:=.val u) f (c:=cx B H σ w) (aj.2 ⟨ar _ u,aG.2 rfl⟩) (fun i u' hi=>by
   match i,hi with
   | 0,hi=>cases hi;exact q1
   | i+1,hi=>simp at hi) (by unfold ku;rw[ha];rfl)
  have h1:a.eval (.global g)=.pointer (some ⟨g,0,none⟩):=rfl
  exact⟨v,by simp[execOp,ho,h1,Instr.loadAt,Instr.sureAddr,h2],h3⟩
theorem pR{t:TypeId}{x:Operand}{v:PV}(ho:o.op=.makeInterface t x)(hc:P.concrete t=true)(hx:opv T x=v):bI P B o T H (.ifc t v) H :=
 aL fun σ w a s h=>by
  have h1:=h x (by simp[ho,Op.operands])
  rw[hx]at h1
  exact⟨.iface t (a.eval x),by simp[execOp,ho,run_makeInterface w t (a.eval x) hc],by unfold Rep;exact⟨_,rfl,h1⟩⟩
def wL:PV->Option Bool
 | .val .nilIface=>some true
 | .val (.iface _ _)=>some false
 | .ifc _ _=>some false
 | _=>none
theorem Gg{c:Cx}{x:PV}{v:Value}{b:Bool}(h:wL x=some b)(k:Rep c x v):(v=.nilIface/\b=true)\/∃t u,v=.iface t u/\b=false:=by
 unfold wL at h
 split at h
 ·unfold Rep at k;cases h;exact .inl ⟨k,rfl⟩
 ·unfold Rep at k;cases h;exact .inr ⟨_,_,k,rfl⟩
 ·unfold Rep at k;obtain⟨u,k1,_⟩:=k;cases h;exact .inr ⟨_,u,k1,rfl⟩
 cases h
theorem aV{t yt:TypeId}{x:Operand}{y:PV}{b:Bool}(ho:o.op=.binOp .eql t x (.const .nilIface) yt)(ht:P.isIface t=true)(hx:opv T x=y)(hy:wL y=some b):bI P B o T H (.val (.bool b)) H :=
 aL fun σ w a s h=>by
  have h1:=h x (by simp[ho,Op.operands])
  rw[hx]at h1
  have hc:a.eval (.const .nilIface)=.nilIface:=rfl
  rcases Gg hy h1 with ⟨h2,rfl⟩|⟨u,z,h2,rfl⟩
  ·exact⟨_,by simp[execOp,ho,h2,hc,eqGuard,run_eql_nil_nil_at w t ht],ar _ _⟩
  exact⟨_,by simp[execOp,ho,h2,hc,eqGuard,run_eql_iface_nil w t ht],ar _ _⟩
theorem i6{t yt:TypeId}{x:Operand}{y:PV}{b:Bool}(ho:o.op=.binOp .neq t x (.const .nilIface) yt)(ht:P.isIface t=true)(hx:opv T x=y)(hy:wL y=some b):bI P B o T H (.val (.bool (!b))) H :=
 aL fun σ w a s h=>by
  have h1:=h x (by simp[ho,Op.operands])
  rw[hx]at h1
  have hc:a.eval (.const .nilIface)=.nilIface:=rfl
  rcases Gg hy h1 with ⟨h2,rfl⟩|⟨u,z,h2,rfl⟩
  ·exact⟨_,by simp[execOp,ho,h2,hc,eqGuard,run_neq_nil_nil_at w t ht],ar _ _⟩
  exact⟨_,by simp[execOp,ho,h2,hc,eqGuard,run_neq_iface_nil w t ht],ar _ _⟩
theorem dt{n:Nat}{all:Array Oper}{K:(Nat->PV)->List Ob->Prop}{l:List Oper}{dd:Option Tmp}{H':List Ob}{t:TypeId}{d:TD}{x y:Operand}{i off:Nat}{xs ys zs:List PV}{e:TypeId}(f:an P t d)(ho:o.op=.store t x y)(hx:opv T x=.ptr i off)(hi:H[i]?=some (.cells xs e))(hy:ri (opv T y)=some ys)(hl:Nat.beq ys.length d.size=true)(hok:ys.all okC=true)
  (hle:Nat.ble (off+ys.length) xs.length=true) (hz:cy xs off ys=zs) (hH:nfH (H.set i (.cells zs e))=some H') (hd:nfD n o.dst=some dd) (hw:aq all T o=some true) (k:WO P B n all l (bK dd (.val undef) T) H' K):WO P B n all (o::l) T H K :=
 Wd hd hw (bL f ho hx hi hy hl hok hle) (by rw[hz,<-sJ hH];exact k)
theorem Ec{n:Nat}{σ:Nat->Option Nat}{w:World}{a:Act}(g:lI B n T H σ w a){d i m q:Nat}{xs:List PV}{e:TypeId}(hT:T d=.arr i 0 m m)(hi:H[i]?=some (.cells xs e))(hq:q<=xs.length):
  lI B n (upd d (.seq m (xs.take q) .clip) T) (H.set i .dead) σ w a/\dK B H σ w (H.set i .dead) σ w:=by
 obtain⟨s',st⟩:=lx g.sim hi
 refine⟨⟨s',fun j=>?_,g.size,g.defers⟩,st⟩
 by_cases hj:j=d
 ·subst hj
  rw[dM]
  have h1:=g.rep j
  rw[hT]at h1
  unfold Rep at h1
  obtain⟨_,b,hb,hv⟩:=h1
  obtain⟨b',vs,fr,hb',hg,_,hp⟩:=g.sim.holds i _ hi
  simp only[cx]at hb hb' hg
  rw[hb]at hb'
  cases hb'
  rw[hv]
  unfold Rep
  refine⟨_,m,vs.take q,rfl,Nat.le_refl _,(fun h=>by cases h),au.mono st.le (hp.take hq),fun b1 hb1=>.inl ?_,rfl⟩
  cases hb1
  refine⟨rfl,fun j' u hu=>⟨?_,?_⟩⟩
  ·rw[List.getElem?_take]at hu
   split at hu
   ·show w.cell? ⟨b,0+j',none⟩=some u
    rw[Nat.zero_add,eH hg];exact hu
   cases hu
  rintro(h2|⟨k,ok,h2,h3,h4⟩)
  ·exact g.sim.sep i b _ hi rfl hb _ h2
  have hlk:ok.live=true:=by cases ok<;>first|rfl|cases h4
  by_cases hki:k=i
  ·subst hki
   rw[List.getElem?_set_self (cV hi)]at h2;cases h2;cases h4
  rw[List.getElem?_set_ne (Ne.symm hki)]at h2
  exact hki (g.sim.inj k i b _ _ h2 hi hlk rfl h3 hb)
 rw[cG _ _ _ _ hj];exact(g.rep j).mono st.le
theorem Ap{n:Nat}{all:Array Oper}{K:(Nat->PV)->List Ob->Prop}{l:List Oper}(d i m q:Nat){xs:List PV}{e:TypeId}(hT:T d=.arr i 0 m m)(hi:H[i]?=some (.cells xs e))(hq:q<=xs.length)(h1:WO P B n all l (upd d (.seq m (xs.take q) .clip) T) (H.set i .dead) K):WO P B n all l T H K:=by
 intro hall σ w a g
 obtain⟨g',st⟩:=Ec g hT hi hq
 exact fV (fun _ _ _ h=>gQ st (fun _ _ _ h=>h) h) _ _ _ (h1 hall σ w a g')
theorem Ch{c:Cx}:∀l:List Value,au c (l.map .val) l
 | []=>aG.2 rfl
 | x::l=>aj.2 ⟨ar _ _,Ch l⟩
theorem si{f:FuncId}{args:List PV}{l:List Value}{r:PV}{v:Value}(hl:∀(c:Cx) vs,au c args vs->vs=l)(hr:∀c,Rep c r v)(h:∀w,Calls P f l.toArray w fun e w'=>e=.returned v/\aX w w'):ab P f args r:=by
 intro H B σ w vs s hv
 have:=hl _ _ hv
 subst this
 exact dT (args:=vs) hr h H B σ w vs s (Ch vs)
end
open Go.RowKit
theorem wV(l:List Int)(hl:l.length<=1000000):ab prog 154 [sq ap l] (sqc ap l):=by
 refine zY func154 fun B=>?_
 refine zu1 ?_
 refine zp5 ?_
 refine z2 ?_ (q:=(by(simp_all;done)))
 refine Wa 8 rfl (cK ap 1 (fun _=>rfl) (by omega)) ?_
 refine zs1 ?_
 refine Wq ?_
 exact nY rfl (by simp[sqc];rfl)
@[simp] theorem XT (l : List jc) : aS (sqc je l) := kU (fun x => by simp) l
theorem xE(l:List jc)(hl:l.length<=1000000):ab prog 258 [sq je l] (sqc je l):=by
 refine zY func258 fun B=>?_
 refine zu1 ?_
 refine zp5 ?_
 refine z2 ?_ (q:=(by(simp_all;done)))
 refine Wa 8 rfl (cK je 3 (fun _=>rfl) (by omega)) ?_
 refine zs1 ?_
 refine Wq ?_
 exact nY rfl (by simp[sqc];rfl)
def Su(r:List Int×Int):PV:=ic (sq ap r.1) (i64 r.2)
@[simp] theorem ad3 (r : List Int × Int) : aS (Su r) := by simp [Su]
theorem GY(s:List Int)(n limit:Int)(hs:s.length<=100000)(hm:ae limit):ab prog 107 [sq ap s,i64 n,i64 limit] (Su (gD s n limit)):=by
 unfold ae at hm
 refine zY func107 fun B=>?_
 refine zu2 ?_
 refine Ws<|zu4 ?_
 refine Wi rfl (fun hi1=>?_) (fun hi1=>?_)
 ·have h0:limit<=(s.length:Int):=by(try simp only[dnL]at *);omega
  refine zu3 ?_
  refine zR ?_
  rw[gD,if_pos h0];rfl
 have h0:¬limit<=(s.length:Int):=by(try simp only[dnL]at *);omega
 refine Wj<|zp1 ?_
 refine zc rfl func154 ((wV s (by omega)) _) ?_
 refine zy2 ?_
 refine Wa 16 rfl (bsL ap [_] rfl rfl) ?_
 refine Wd rfl rfl (cb (lO tG rfl) rfl (lO tG rfl) (lO tG rfl) rfl rfl (by exact⟨_,rfl⟩) (by exact⟨rfl,rfl,al _ 1 (fun _=>rfl) _,bD _ (fun _=>rfl) _⟩) (by exact al _ 1 (fun _=>rfl) _) (by((simp_all;omega))) (by((simp_all;omega)))) ?_
 refine Wa 17 rfl (cw ap) ?_
 refine zs2 ?_
 refine zR ?_
 rw[gD,if_neg h0];rfl
def KQ(r:Int×VVm×Int):PV:=jW (i64 r.1) (eVm r.2.1) (i64 r.2.2)
@[simp] theorem Z2 (r : Int × VVm × Int) : aS (KQ r) := by simp [KQ]
theorem Lk(v:VVm)(n:Int)(hs:v.d.length<=100000)(hm:ae v.conf.data):ab prog 82 [eVm v,i64 n] (tVm (gJ v n)):=by
 refine zY func82 fun B=>?_
 refine zu3 ?_
 refine zp5 ?_
 refine z1 ?_
 refine zc rfl func107 ((GY v.d n v.conf.data hs hm) _) ?_
 refine zs5 ?_
 refine zu3 ?_
 refine zu4 ?_
 refine zR ?_
 rfl
theorem Q6(v:VVm)(hs:v.d.length<=100000):ab prog 211 [eVm v] (KQ (dV v)):=by
 refine zY func211 fun B=>?_
 refine zu4 ?_
 refine zp2 ?_
 refine zc rfl func259 ((Dk v.d hs) _) ?_
 refine zy5 ?_
 refine zs2 ?_
 refine zu3 ?_
 refine Ws<|az [0,1,0,0,3,0] [0,1,2,3,4,5] mG rfl (by kernel_rfl) ?_
 refine z3 ?_
 refine z5 ?_
 iterate 2 refine z3 ?_
 refine dz tG rfl rfl rfl rfl rfl trivial ?_
 refine z3 ?_
 refine aP ?_
 refine zR ?_
 rfl
def yb(e:Int):Int:=if e = -3 then -5 else if e = -4 then -6 else e
theorem K6(e:Int):ab prog 236 [i64 e] (i64 (yb e)):=by
 refine zY func236 fun B=>?_
 refine zu1 ?_
 refine Ws<|zu1 ?_
 refine Wl<|zu2 ?_
 refine Wi rfl (fun hi1=>?_) (fun hi1=>?_)
 ·refine zu1 ?_
  refine zR ?_
  exact congrArg i64 (by unfold yb;(try simp only[dnL]at *);split<;>(try split)<;>omega)
 refine zu2 ?_
 refine Wi rfl (fun hi2=>?_) (fun hi2=>?_)
 ·refine zu1 ?_
  refine zR ?_
  exact congrArg i64 (by unfold yb;(try simp only[dnL]at *);split<;>(try split)<;>omega)
 refine Wj<|zu2 ?_
 refine zR ?_
 exact congrArg i64 (by unfold yb;(try simp only[dnL]at *);split<;>(try split)<;>omega)
theorem Rt(v:VVm)(n:Int):gm v n=({v with r:=(gD v.r n v.conf.ret).1},yb (gD v.r n v.conf.ret).2):=by
 unfold gm gD yb;split<;>rfl
theorem V9(v:VVm):eU v=((bk v.r).1,{v with r:=(bk v.r).2.1},yb (bk v.r).2.2):=by
 unfold eU bk yb;split<;>rfl
theorem SL(v:VVm)(n:Int)(hs:v.r.length<=100000)(hm:ae v.conf.ret):ab prog 197 [eVm v,i64 n] (tVm (gm v n)):=by
 rw[Rt]
 refine zY func197 fun B=>?_
 refine zu3 ?_
 refine zp5 ?_
 refine z1 ?_
 refine zc rfl func107 ((GY v.r n v.conf.ret hs hm) _) ?_
 refine zs5 ?_
 refine zu3 ?_
 refine Ws<|az [1,0,0,3,0] [0,1,2,3,4] mG rfl (by kernel_rfl) ?_
 refine z5 ?_
 refine z3 ?_
 refine Xc rfl rfl rfl rfl (fun _=>dC rfl func236 rfl rfl ((K6 _) _)) ?_
 refine dz tG rfl rfl rfl rfl rfl trivial ?_
 refine z3 ?_
 refine aP ?_
 refine zR ?_
 rfl
theorem U8(v:VVm)(hs:v.r.length<=100000):ab prog 254 [eVm v] (KQ (eU v)):=by
 rw[V9]
 refine zY func254 fun B=>?_
 refine zu4 ?_
 refine zp2 ?_
 refine zc rfl func259 ((Dk v.r hs) _) ?_
 refine zy5 ?_
 refine zs2 ?_
 refine zu3 ?_
 refine Ws<|az [0,1,0,0,0,3,0] [0,1,2,3,4,5,6] mG rfl (by kernel_rfl) ?_
 refine z3 ?_
 refine z5 ?_
 refine z3 ?_
 refine Xc rfl rfl rfl rfl (fun _=>dC rfl func236 rfl rfl ((K6 _) _)) ?_
 refine z3 ?_
 refine dz tG rfl rfl rfl rfl rfl trivial ?_
 refine z3 ?_
 refine aP ?_
 refine zR ?_
 rfl
theorem Sz(i l n:Int):ab prog 256 [i64 i,i64 l,i64 n] (jV (oa i l n)):=by
 refine zY func256 fun B=>?_
 refine zu2 ?_
 refine zu4 ?_
 refine Ws<|zu2 ?_
 refine Wi rfl (fun hi1=>?_) (fun hi1=>?_)
 ·have h0:0<=n:=by(try simp only[dnL]at *);omega
  refine zp5 ?_
  refine z1 ?_
  refine Wb 19 rfl (fun hg1=>?_) (fun hg1=>?_)
  ·have q1:decide (W64 (i-l)<0)=true:=hg1
   refine zy5 ?_
   refine zs2 ?_
   refine zR ?_
   (rw[oa,if_pos h0,q1];rfl)
  have q1:decide (W64 (i-l)<0)=false:=hg1
  iterate 4 refine z6 ?_
  refine zs3 ?_
  refine zR ?_
  (rw[oa,if_pos h0,q1];rfl)
 have h0:¬0<=n:=by(try simp only[dnL]at *);omega
 refine Wj<|zp5 ?_
 refine z1 ?_
 refine Wb 30 rfl (fun hg2=>?_) (fun hg2=>?_)
 ·have q1:decide (0<=W64 (i-l))=true:=hg2
  refine zy5 ?_
  refine zs2 ?_
  refine zR ?_
  (rw[oa,if_neg h0,q1];rfl)
 have q1:decide (0<=W64 (i-l))=false:=hg2
 iterate 4 refine z6 ?_
 refine zs3 ?_
 refine zR ?_
 (rw[oa,if_neg h0,q1];rfl)
def haltV(a:Addr):Value:=.iface 383 (.pointer (some a))
def BE(a:Addr):yl->PV
 | .ok=>.val .nilIface
 | .bad e=>.ifc 201 (.agg [i64 e])
 | .halt=>.val (haltV a)
@[simp] theorem ai8 (a : Addr) (e : yl) : aS (BE a e) := by cases e <;> simp [BE, aS, ay]
theorem tj(a:Addr)(e:yl):wL (BE a e)=some (ib e):=by cases e<;>rfl
def cPW(a:Addr)(k:PW):List PV:=sZ k.r++[BE a k.err]
@[simp] theorem ao4 (a : Addr) (k : PW) : ay (cPW a k) := by simp [cPW, sZ, cVm]
def F7(e:Int):yl:=if e=0 then .ok else .bad e
theorem zJ(a:Addr)(e:Int):ab prog 196 [i64 e] (BE a (F7 e)):=by
 refine zY func196 fun B=>?_
 refine zu1 ?_
 refine Ws<|zu2 ?_
 refine Wi rfl (fun hi1=>?_) (fun hi1=>?_)
 ·have h0:e=0:=by(try simp only[dnL]at *);omega
  refine zu1 ?_
  refine zR ?_
  rw[F7,if_pos h0];rfl
 have h0:¬e=0:=by(try simp only[dnL]at *);omega
 refine Wj<|zp2 ?_
 refine Wd rfl rfl (pR rfl (by kernel_rfl) rfl) ?_
 refine zs1 ?_
 refine zR ?_
 rw[F7,if_neg h0];rfl
section
variable (a : Addr)
theorem Wu(r:bH)(v:VVm):∀(H:List Ob) (i:Nat),H[i]?=some (.cells (cPW a ⟨r,.ok⟩) 197)->HC prog 161 (.ptr i 0::[eVm v,i64 0]) H (boo true) (H.set i (.cells (cPW a ⟨{r with vm:=v},.ok⟩) 197)):=by
 refine zM func161 fun B=>?_
 refine zu2 ?_
 refine Ws<|zp4 ?_
 refine Wd rfl rfl (aV rfl (by kernel_rfl) rfl (by rfl)) ?_
 refine Wn<|Wt rfl (by rfl) ?_
 refine aa rfl ?_
 refine zy2 ?_
 refine zc rfl func196 ((zJ a 0) _) ?_
 refine Wa 14 rfl ((show _=PV.val .nilIface from rfl)) ?_
 refine zs3 ?_
 refine Ws<|zp4 ?_
 refine Wd rfl rfl (aV rfl (by kernel_rfl) rfl (by rfl)) ?_
 refine Wn<|Wt rfl (by rfl) ?_
 refine aa rfl ?_
 refine zy5 ?_
 refine zs1 ?_
 refine zp4 ?_
 refine Wd rfl rfl (aV rfl (by kernel_rfl) rfl (by rfl)) ?_
 refine zs1 ?_
 refine Wq<|aN rfl rfl ?_ ?_
 ·rfl
 rfl
theorem Sq(r:bH)(v:VVm)(e:Int)(he:e≠0):∀(H:List Ob) (i:Nat),H[i]?=some (.cells (cPW a ⟨r,.ok⟩) 197)->HC prog 161 (.ptr i 0::[eVm v,i64 e]) H (boo false) (H.set i (.cells (cPW a ⟨r,.bad e⟩) 197)):=by
 have hm:BE a (F7 e)=.ifc 201 (.agg [i64 e]):=by rw[F7,if_neg he];rfl
 refine zM func161 fun B=>?_
 refine zu2 ?_
 refine Ws<|zp4 ?_
 refine Wd rfl rfl (aV rfl (by kernel_rfl) rfl (by rfl)) ?_
 refine Wn<|Wt rfl (by rfl) ?_
 refine aa rfl ?_
 refine zy2 ?_
 refine zc rfl func196 ((zJ a e) _) ?_
 refine Wa 14 rfl (hm) ?_
 refine zs3 ?_
 refine Ws<|zp4 ?_
 refine Wd rfl rfl (aV rfl (by kernel_rfl) rfl (by rfl)) ?_
 refine Wn<|Wf rfl (by rfl) ?_
 refine Wj<|zp4 ?_
 refine Wd rfl rfl (aV rfl (by kernel_rfl) rfl (by rfl)) ?_
 refine zs1 ?_
 refine Wq<|aN rfl rfl ?_ ?_
 ·rfl
 rfl
theorem Vx(r:bH)(v:VVm)(e c:Int):∀(H:List Ob) (i:Nat),H[i]?=some (.cells (cPW a ⟨r,.bad c⟩) 197)->HC prog 161 (.ptr i 0::[eVm v,i64 e]) H (boo false) (H.set i (.cells (cPW a ⟨r,.bad c⟩) 197)):=by
 refine zM func161 fun B=>?_
 refine zu2 ?_
 refine Ws<|zp4 ?_
 refine Wd rfl rfl (aV rfl (by kernel_rfl) rfl (by rfl)) ?_
 refine Wn<|Wf rfl (by rfl) ?_
 refine Wj<|Ws<|zp4 ?_
 refine Wd rfl rfl (aV rfl (by kernel_rfl) rfl (by rfl)) ?_
 refine Wn<|Wf rfl (by rfl) ?_
 refine Wj<|zp4 ?_
 refine Wd rfl rfl (aV rfl (by kernel_rfl) rfl (by rfl)) ?_
 refine zs1 ?_
 refine Wq<|aN rfl rfl ?_ ?_
 ·rfl
 rfl
theorem OO(r:bH)(v:VVm)(e:Int):∀(H:List Ob) (i:Nat),H[i]?=some (.cells (cPW a ⟨r,.halt⟩) 197)->HC prog 161 (.ptr i 0::[eVm v,i64 e]) H (boo false) (H.set i (.cells (cPW a ⟨r,.halt⟩) 197)):=by
 refine zM func161 fun B=>?_
 refine zu2 ?_
 refine Ws<|zp4 ?_
 refine Wd rfl rfl (aV rfl (by kernel_rfl) rfl (by rfl)) ?_
 refine Wn<|Wf rfl (by rfl) ?_
 refine Wj<|Ws<|zp4 ?_
 refine Wd rfl rfl (aV rfl (by kernel_rfl) rfl (by rfl)) ?_
 refine Wn<|Wf rfl (by rfl) ?_
 refine Wj<|zp4 ?_
 refine Wd rfl rfl (aV rfl (by kernel_rfl) rfl (by rfl)) ?_
 refine zs1 ?_
 refine Wq<|aN rfl rfl ?_ ?_
 ·rfl
 rfl
theorem rx(k:PW)(v:VVm)(e:Int):∀(H:List Ob) (i:Nat),H[i]?=some (.cells (cPW a k) 197)->HC prog 161 (.ptr i 0::[eVm v,i64 e]) H (boo (ib (pOk k v e).err)) (H.set i (.cells (cPW a (pOk k v e)) 197)):=by
 intro H i hi
 obtain⟨r,err⟩:=k
 cases err with
 | ok =>
  by_cases he:e=0
  ·subst he;exact Wu a r v H i hi
  have e1:pOk ⟨r,.ok⟩ v e=⟨r,.bad e⟩:=by unfold pOk;dsimp only;rw[if_neg he]
  rw[e1];exact Sq a r v e he H i hi
 | bad c=>exact Vx a r v e c H i hi
 | halt=>exact OO a r v e H i hi
end
end Go.Proofs.YtjcminooghmpeaaGreatDoor
