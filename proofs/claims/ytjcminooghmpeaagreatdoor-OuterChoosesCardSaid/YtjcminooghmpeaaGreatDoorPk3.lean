import Derived.BigQuiet
import Derived.ChangeKeysEq
import Derived.ChangeOld
import Derived.ChangeSlices
import Derived.Deep.CutBlock
import Derived.Deep.DeepCutAuto
import Derived.Deep.QuietTactic
import Derived.Handy
import Derived.Laws.BitsAllLaws
import Derived.Laws.CopyOwn
import Derived.Laws.RangeString
import Derived.Lib.AppendZerosOnto
import Derived.Lib.Hide
import Derived.Lib.ItoaNum
import Derived.Lib.SliceRun
import Derived.Lib.Walk
import Derived.OpenShut
import Derived.Outline
import Derived.ProofKit
import Derived.Shelf.Bytes.SlEqualAll
import Derived.ShutString
import Derived.Test.YtjcminooghmpeaaGreatDoorPk2
set_option linter.all false
set_option maxRecDepth 100000
set_option maxHeartbeats 40000000
open Go.Proofs.Tryz
namespace Go.Proofs.YtjcminooghmpeaaGreatDoor
open Go.RowKit (wrap64)
def xZ(n:Int):wrap64 n=n.bmod 18446744073709551616:=by
 unfold wrap64;rw[Int.bmod_def];split<;>omega
def Ee(x y:Int):wrap64 (wrap64 x+y)=wrap64 (x+y):=by simp[xZ]
def rI(x y:Int):wrap64 (wrap64 x-y)=wrap64 (x-y):=by simp[xZ]
def MK(a:Int)(ha : -9223372036854775808<=a/\a<=9223372036854775807):(U a:Int)=a+(if a<0 then 18446744073709551616 else 0):=by
 unfold U;split<;>omega
def HF(a b:Int)(ha : -9223372036854775808<=a/\a<=9223372036854775807)(hb : -9223372036854775808<=b/\b<=9223372036854775807):
  ((U a*U b:Nat):Int)=a*b+18446744073709551616*((if a<0 then b else 0)+(if b<0 then a else 0)+(if a<0/\b<0 then 18446744073709551616 else 0)):=by
 rw[Int.natCast_mul,MK a ha,MK b hb]
 by_cases h1:a<0<;>by_cases h2:b<0
 ·simp only[h1,h2,if_true,and_self];rw[Int.add_mul,Int.mul_add,Int.mul_add,Int.mul_comm a 18446744073709551616];omega
 ·simp only[h1,h2,if_true,if_false,and_false,Int.add_zero];rw[Int.add_mul]
 ·simp only[h1,h2,if_true,if_false,false_and];rw[Int.mul_add,Int.add_zero,Int.mul_comm a 18446744073709551616];omega
 simp only[h1,h2,if_false,and_self,Int.add_zero,Int.mul_zero]
def QF(a b:Int)(ha : -9223372036854775808<=a/\a<=9223372036854775807)(hb : -9223372036854775808<=b/\b<=9223372036854775807):
  -85070591730234615865843651857942052864<=a*b/\a*b<=85070591730234615865843651857942052864:=by
 have h:(a*b).natAbs<=9223372036854775808*9223372036854775808:=by
  rw[Int.natAbs_mul];exact Nat.mul_le_mul (by omega) (by omega)
 omega
def Tx(a b:Int)(ha : -9223372036854775808<=a/\a<=9223372036854775807)(hb : -9223372036854775808<=b/\b<=9223372036854775807):
  (s6 a b).1=(xD a b).1:=by
 have h:=HF a b ha hb
 simp only[s6,xD,S]
 generalize U a*U b=p at *
 generalize a*b=q at *
 unfold wrap64
 omega
def ag5(a b:Int)(ha : -9223372036854775808<=a/\a<=9223372036854775807)(hb : -9223372036854775808<=b/\b<=9223372036854775807):
  wrap64 ((s6 a b).2-((if a<0 then b else 0)+(if b<0 then a else 0)))=(xD a b).2:=by
 have h:=HF a b ha hb
 have h2:=QF a b ha hb
 simp only[s6,xD,S]
 generalize (if a<0 then b else 0)+(if b<0 then a else 0)=x at *
 have hz:(if a<0/\b<0 then(18446744073709551616:Int)else 0)=0\/(if a<0/\b<0 then(18446744073709551616:Int)else 0)=18446744073709551616:=by
  split<;>simp
 generalize (if a<0/\b<0 then(18446744073709551616:Int)else 0)=z at *
 generalize U a*U b=p at *
 generalize a*b=q at *
 have e:((p/18446744073709551616:Nat):Int)=q/18446744073709551616+(x+z):=by
  rw[Int.natCast_ediv,h]
  exact Int.add_mul_ediv_left _ _ (by decide)
 rw[rI,e,show q/18446744073709551616+(x+z)-x=q/18446744073709551616+z from by omega]
 have hq : -9223372036854775808<=q/18446744073709551616/\q/18446744073709551616<=9223372036854775807:=by omega
 generalize q/18446744073709551616=r at *
 unfold wrap64
 omega
def OP(a b:Int)(hb:b=0):nG a b=(0,0,-10):=by simp[nG,hb]
def Pm{a b:Int}(hb:b≠0)(h:a.tmod b=0):nG a b=(wrap64 (a.tdiv b),a.tmod b,0):=by
 obtain⟨h1,h2⟩:=uh a b hb
 rw[if_neg (by simp[h])]at h1 h2
 simp[nG,hb,h1,h2]
def CT(a b:Int)(h:a.tmod b≠0):decide (a.tmod b<0)=decide (a<0):=by
 by_cases hb:b=0
 ·subst hb;simp
 have:=(qZ a b hb).2
 by_cases ha:a<0
 ·rw[if_pos ha]at this;simp[ha];omega
 rw[if_neg ha]at this;simp[ha];omega
def Yd(a b:Int)(hb:b≠0):(a.tmod b).natAbs<b.natAbs:=by
 rw[Int.natAbs_tmod];exact Nat.mod_lt _ (by omega)
def Tw{a b:Int}(hb:b≠0)(hb2 : -9223372036854775808<=b/\b<=9223372036854775807)(h:a.tmod b≠0)(hs:(decide (a.tmod b<0)==decide (b<0))=false):
  nG a b=(wrap64 (wrap64 (a.tdiv b)-1),wrap64 (a.tmod b+b),0):=by
 have ht:=CT a b h
 have hl:=Yd a b hb
 obtain⟨h1,h2⟩:=uh a b hb
 rw[<-ht]at h1 h2
 have hs':(decide (a.tmod b<0) != decide (b<0))=true:=by simp[bne,hs]
 rw[if_pos ⟨h,hs'⟩]at h1 h2
 have hf:wrap64 (a.tmod b+b)=a.tmod b+b:=by
  apply di
  simp at hs
  omega
 rw[rI,hf]
 simp only[nG,if_neg hb,h1,h2]
def Mk{a b:Int}(hb:b≠0)(hs:a.tmod b=0\/(decide (a.tmod b<0)==decide (b<0))=true):
  nG a b=(wrap64 (a.tdiv b),a.tmod b,0):=by
 by_cases h:a.tmod b=0
 ·exact Pm hb h
 have ht:=CT a b h
 obtain⟨h1,h2⟩:=uh a b hb
 rw[<-ht]at h1 h2
 have hs':(decide (a.tmod b<0) != decide (b<0))=false:=by
  rcases hs with hs|hs
  ·exact absurd hs h
  simp[bne,hs]
 rw[if_neg (by simp[hs'])]at h1 h2
 simp[nG,hb,h1,h2]
open Go.RowKit
def Yc{k:IntKind}{a b:Int}(h:a=b):Ending.returned (.int k a)=Ending.returned (.int k b):=by rw[h]
def KE{k l:IntKind}{a b c d:Int}(h1:a=c)(h2:b=d):Ending.returned (.tuple #[.int k a,.int l b])=Ending.returned (.tuple #[.int k c,.int l d]):=by rw[h1,h2]
def pH{k l m:IntKind}{a b c d e f:Int}(h1:a=d)(h2:b=e)(h3:c=f):Ending.returned (.tuple #[.int k a,.int l b,.int m c])=Ending.returned (.tuple #[.int k d,.int l e,.int m f]):=by rw[h1,h2,h3]
def yv(w:World):∃n,w=w.drewN n:=⟨0,rfl⟩
abbrev Fit(a:Int):Prop:=-9223372036854775808<=a/\a<=9223372036854775807
def vf(a b:Int)(w:World):
  Calls prog 359 #[.int .i64 a,.int .i64 b] w fun e w'=>e=.returned (.bool (decide (U a<U b)))/\w=w':=by
 go_enter func359,ntmps359
 go_wp2
 go_ret
 exact⟨by simp[go_sem,kV],rfl⟩
def qt(a b:Int)(w:World):
  Calls prog 284 #[.int .i64 a,.int .i64 b] w fun e w'=>e=.returned (.tuple #[.int .i64 (s6 a b).1,.int .i64 (s6 a b).2])/\w=w':=by
 have ha:=w8 a
 have hb:=w8 b
 go_enter func284,ntmps284
 go_wp2_with fail
 rw[kV a,kV b]
 refine(Tryz.bits_Mul64 (U a) (U b) ha hb _).mono ?_
 rintro e w' ⟨rfl,rfl⟩
 go_wp2
 go_ret2
 exact⟨KE (by simp only[s6,S,Int.natCast_emod,Int.natCast_mul];rfl) (by simp only[s6,S,Int.natCast_ediv,Int.natCast_mul];rfl),rfl⟩
def Ri(a b:Int)(w:World)(ha:Fit a)(hb:Fit b):
  Calls prog 278 #[.int .i64 a,.int .i64 b] w fun e w'=>e=.returned (.tuple #[.int .i64 (xD a b).1,.int .i64 (xD a b).2])/\w=w':=by
 have e1:=Tx a b ha hb
 have e2:=ag5 a b ha hb
 by_cases h1:a<0<;>by_cases h2:b<0
 ·rw[if_pos h1,if_pos h2]at e2
  have H1:=Lib.hid e1
  have H2:=Lib.hid e2
  clear e1 e2
  go_enter func278,ntmps278
  go_wp2_with (go_at_call 284;refine(qt _ _ _).mono ?_;rintro e w' ⟨rfl,rfl⟩)
  go_ret2
  exact⟨KE H1.out (by rw[<-H2.out,rI];congr 1;omega),rfl⟩
 ·rw[if_pos h1,if_neg h2]at e2
  have H1:=Lib.hid e1
  have H2:=Lib.hid e2
  clear e1 e2
  go_enter func278,ntmps278
  go_wp2_with (go_at_call 284;refine(qt _ _ _).mono ?_;rintro e w' ⟨rfl,rfl⟩)
  go_ret2
  exact⟨KE H1.out (by rw[<-H2.out,Int.add_zero]),rfl⟩
 ·rw[if_neg h1,if_pos h2]at e2
  have H1:=Lib.hid e1
  have H2:=Lib.hid e2
  clear e1 e2
  go_enter func278,ntmps278
  go_wp2_with (go_at_call 284;refine(qt _ _ _).mono ?_;rintro e w' ⟨rfl,rfl⟩)
  go_ret2
  exact⟨KE H1.out (by rw[<-H2.out,Int.zero_add]),rfl⟩
 rw[if_neg h1,if_neg h2]at e2
 have H1:=Lib.hid e1
 have H2:=Lib.hid e2
 clear e1 e2
 go_enter func278,ntmps278
 go_wp2_with (go_at_call 284;refine(qt _ _ _).mono ?_;rintro e w' ⟨rfl,rfl⟩)
 go_ret2
 exact⟨KE H1.out (by rw[<-H2.out,Int.add_zero,Int.sub_zero];exact(di _ (Yz _)).symm),rfl⟩
def PL(a b:Int)(w:World)(hb2:Fit b):
  Calls prog 272 #[.int .i64 a,.int .i64 b] w fun e w'=>e=.returned (.tuple #[.int .i64 (nG a b).1,.int .i64 (nG a b).2.1,.int .i64 (nG a b).2.2])/\∃n,w'=w.drewN n:=by
 by_cases hb:b=0
 ·have HZ:=Lib.hid (OP a b hb)
  have hb':(b==0)=true:=by simp[hb]
  clear hb
  go_enter func272,ntmps272
  go_wp2
  go_ret3
  exact⟨pH (by rw[HZ.out]) (by rw[HZ.out]) (by rw[HZ.out]),yv w⟩
 have hb':(b==0)=false:=by simp[hb]
 go_enter func272,ntmps272
 go_wp2
 go_quiet (fail)
 go_wp2
 all_goals go_ret3
 ·have h:a.tmod b=0:=by assumption
  have e:=Mk hb (.inl h)
  exact⟨pH (by rw[e]) (by rw[e,h]) (by rw[e]),_,rfl⟩
 ·have h:(a.tmod b != 0)=true/\(!decide (a.tmod b<0)==decide (b<0))=true:=by assumption
  have e:=Tw hb hb2 (by simpa using h.1) (by simpa using h.2)
  exact⟨pH (by rw[e]) (by rw[e]) (by rw[e]),_,rfl⟩
 have h:(a.tmod b != 0)=false\/(!decide (a.tmod b<0)==decide (b<0))=false:=by assumption
 have e:=Mk (a:=a) hb (by rcases h with h|h<;>simp at h<;>simp[h])
 exact⟨pH (by rw[e]) (by rw[e]) (by rw[e]),_,rfl⟩
def qj(n:Int)(w:World)(hn:Fit n):
  Calls prog 362 #[.int .i64 n] w fun e w'=>e=.returned (.int .u64 n.natAbs)/\w=w':=by
 by_cases h:n<0
 ·go_enter func362,ntmps362
  go_wp2
  go_ret
  exact⟨Yc (by rw[kV n,IntKind.wrap_u64];have:=YE n h hn.1;omega),rfl⟩
 go_enter func362,ntmps362
 go_wp2
 go_ret
 exact⟨Yc (by omega),rfl⟩
end Go.Proofs.YtjcminooghmpeaaGreatDoor
namespace Go.Proofs.YtjcminooghmpeaaGreatDoor
def Kc(hi lo y s:Nat)(h0:hi<y)(s1:s<=63)(s2:9223372036854775808<=y*2 ^ s)(s3:y*2 ^ s<18446744073709551616)(hl:lo<18446744073709551616):
  ∃Y y1 y0 un ul u1 u0:Nat,
   ((y:Int)*2 ^ s=(Y:Int))/\((Y:Int)/4294967296=(y1:Int))/\(bits .and .u64 (Y:Int) 4294967295=(y0:Int)) /\
   (bits .or .u64 (IntKind.u64.wrap ((hi:Int)*2 ^ s)) ((lo:Int)/2 ^ (64-s))=(un:Int))/\(IntKind.u64.wrap ((lo:Int)*2 ^ s)=(ul:Int)) /\
   ((ul:Int)/4294967296=(u1:Int))/\(bits .and .u64 (ul:Int) 4294967295=(u0:Int)) /\
   Y=y1*4294967296+y0/\y0<4294967296/\2147483648<=y1/\y1<4294967296/\ul=u1*4294967296+u0/\u1<4294967296/\u0<4294967296/\un<Y /\
   Y=y*2 ^ s/\un*18446744073709551616+ul=(hi*18446744073709551616+lo)*2 ^ s:=by
 have hp:0<2 ^ s:=Nat.two_pow_pos _
 have hq:0<2 ^ (64-s):=Nat.two_pow_pos _
 have e64:2 ^ (64-s)*2 ^ s=18446744073709551616:=by rw[<-Nat.pow_add,show 64-s+s=64 from by omega]
 have hhi:hi*2 ^ s+2 ^ s<=y*2 ^ s:=by
  have:(hi+1)*2 ^ s<=y*2 ^ s:=Nat.mul_le_mul_right _ h0
  rwa [Nat.add_mul,Nat.one_mul]at this
 have hlo:lo/2 ^ (64-s)<2 ^ s:=by rw[Nat.div_lt_iff_lt_mul hq,Nat.mul_comm,e64];exact hl
 have hlo2:lo*2 ^ s/18446744073709551616=lo/2 ^ (64-s):=by
  rw[<-e64];exact Nat.mul_div_mul_right _ _ hp
 have hul:=Nat.div_add_mod (lo*2 ^ s) 18446744073709551616
 refine⟨y*2 ^ s,y*2 ^ s/4294967296,y*2 ^ s%4294967296,hi*2 ^ s+lo/2 ^ (64-s),lo*2 ^ s%18446744073709551616,
  lo*2 ^ s%18446744073709551616/4294967296,lo*2 ^ s%18446744073709551616%4294967296,?_⟩
 refine⟨by simp,by simp,?_,?_,?_,by simp,?_,?_⟩
 ·rw[show(4294967295:Int)=((4294967295:Nat):Int) from rfl,u64_and_nat _ _ s3 (by decide)]
  rw[show(4294967295:Nat)=2 ^ 32-1 from rfl,Nat.and_two_pow_sub_one_eq_mod]
 ·have e1:IntKind.u64.wrap ((hi:Int)*2 ^ s)=((hi*2 ^ s:Nat):Int):=by
   rw[show((hi:Int)*2 ^ s)=((hi*2 ^ s:Nat):Int) from by simp]
   exact IntWalk.u64_in _ (by omega)
  have e2:(lo:Int)/2 ^ (64-s)=((lo/2 ^ (64-s):Nat):Int):=by simp
  rw[e1,e2,u64_or_nat _ _ (by omega) (by omega)]
  congr 1
  have:=Nat.shiftLeft_add_eq_or_of_lt hlo hi
  rw[Nat.shiftLeft_eq]at this
  exact this.symm
 ·rw[show((lo:Int)*2 ^ s)=((lo*2 ^ s:Nat):Int) from by simp,IntKind.wrap_u64]
  rfl
 ·rw[show(4294967295:Int)=((4294967295:Nat):Int) from rfl,u64_and_nat _ _ (Nat.mod_lt _ (by decide)) (by decide)]
  rw[show(4294967295:Nat)=2 ^ 32-1 from rfl,Nat.and_two_pow_sub_one_eq_mod]
 refine⟨by omega,by omega,by omega,by omega,by omega,by omega,by omega,by omega,rfl,?_⟩
 rw[Nat.add_mul,Nat.add_mul,<-hlo2]
 rw[show hi*18446744073709551616*2 ^ s=hi*2 ^ s*18446744073709551616 from by rw[Nat.mul_right_comm]]
 omega
def M6{hi lo y s Y un ul u1 u0 q1 q0 r1 r0:Nat}(hy:0<y)(eY:Y=y*2 ^ s)(eN:un*18446744073709551616+ul=(hi*18446744073709551616+lo)*2 ^ s)(eu:ul=u1*4294967296+u0)
  (e1:q1=(un*4294967296+u1)/Y) (f1:r1=(un*4294967296+u1)%Y) (e0:q0=(r1*4294967296+u0)/Y) (f0:r0=(r1*4294967296+u0)%Y) :
  q1*4294967296+q0=(hi*18446744073709551616+lo)/y/\r0/2 ^ s=(hi*18446744073709551616+lo)%y:=by
 have hp:0<2 ^ s:=Nat.two_pow_pos _
 have hY:0<Y:=by rw[eY];exact Nat.mul_pos hy hp
 obtain⟨a,b⟩:=Kn (B:=4294967296) (un:=un) (u1:=u1) (u0:=u0) hY
 have e:un*(4294967296*4294967296)+u1*4294967296+u0=(hi*18446744073709551616+lo)*2 ^ s:=by
  have hB:4294967296*4294967296=18446744073709551616:=by decide
  rw[hB,<-eN,eu,Nat.add_assoc]
 rw[e,eY]at a b
 rw[Nat.mul_div_mul_right _ _ hp]at a
 rw[Nat.mul_mod_mul_right]at b
 subst e1 f1 e0 f0
 rw[eY]
 exact⟨a,by rw[b];exact Nat.mul_div_cancel _ hp⟩
def IU{un y1 y0 u1 a b Q Y:Nat}(hY:Y=y1*4294967296+y0)(hQ:Q=(un*4294967296+u1)/Y)(h1:2147483648<=y1)(h0:y0<4294967296)(hu:u1<4294967296)(hlt:un<Y)
  (inv:a*y1+b=un/\Q<=a) (hc:4294967296<=a\/4294967296*b+u1<a*y0) :
  ∃a',a=a'+1/\(a'*y1+(b+y1)=un/\Q<=a')/\(4294967296<=b+y1->a'=Q):=by
 obtain⟨i1,i2⟩:=inv
 have hs:=QI (B:=4294967296) (un:=un) (y1:=y1) (y0:=y0) (u1:=u1) (q:=a) (r:=b) (by omega) (by omega) hu i1 (by omega) (by rw[<-hY,<-hQ];exact i2) hc
 rw[<-hY,<-hQ]at hs
 obtain⟨a',rfl⟩:∃a',a=a'+1:=⟨a-1,by omega⟩
 have e:(a'+1)*y1=a'*y1+y1:=by rw[Nat.add_mul,Nat.one_mul]
 refine⟨a',rfl,⟨by omega,by omega⟩,fun hb=>?_⟩
 have ha:a'<=4294967296:=by
  apply Nat.le_of_not_lt
  intro hgt
  have:4294967297*y1<=a'*y1:=Nat.mul_le_mul_right _ hgt
  omega
 have hm:a'*y0<=4294967296*y0:=Nat.mul_le_mul_right _ ha
 have:=Gh (B:=4294967296) (un:=un) (y1:=y1) (y0:=y0) (u1:=u1) (q:=a') (r:=b+y1) (by omega) (by omega) (by omega) (by rw[<-hY,<-hQ];omega) (by omega)
 rw[<-hY,<-hQ]at this
 exact this.symm
def L0{un y1 y0 u1 a b Q Y:Nat}(hY:Y=y1*4294967296+y0)(hQ:Q=(un*4294967296+u1)/Y)(h1:2147483648<=y1)
  (inv:a*y1+b=un/\Q<=a) (hc:¬4294967296*b+u1<a*y0):a=Q:=by
 obtain⟨i1,i2⟩:=inv
 have:=Gh (B:=4294967296) (un:=un) (y1:=y1) (y0:=y0) (u1:=u1) (q:=a) (r:=b) (by omega) (by omega) i1 (by rw[<-hY,<-hQ];exact i2) (by omega)
 rw[<-hY,<-hQ]at this
 exact this.symm
def Cu{un y1 y0 u1 Q Y:Nat}(hY:Y=y1*4294967296+y0)(hQ:Q=(un*4294967296+u1)/Y)(h1:2147483648<=y1)(hu:u1<4294967296):
  ∃q r:Nat,((un:Int)/y1=(q:Int))/\((un:Int)-(q:Int)*y1=(r:Int))/\(q*y1+r=un/\Q<=q)/\r<y1/\q<=un/\0<=(q:Int)*y1/\(q:Int)*y1<=un:=by
 have hm:=Nat.div_add_mod un y1
 have hc:=Nat.mul_comm y1 (un/y1)
 have hs:=M2 (B:=4294967296) (un:=un) (y1:=y1) (y0:=y0) (u1:=u1) (by omega) (by omega) hu
 rw[<-hY,<-hQ]at hs
 have e:((un/y1*y1:Nat):Int)=((un/y1:Nat):Int)*y1:=by simp
 refine⟨un/y1,un%y1,by simp,by omega,⟨by omega,hs⟩,Nat.mod_lt _ (by omega),Nat.div_le_self _ _,by omega,by omega⟩
def CF(a b:Nat)(ha:a<4294967296)(hb:b<4294967296):0<=(a:Int)*b/\(a:Int)*b<=18446744065119617025:=by
 have h:a*b<=4294967295*4294967295:=Nat.mul_le_mul (by omega) (by omega)
 have e:((a*b:Nat):Int)=(a:Int)*b:=by simp
 omega
def nV(a b:Nat):((a*b:Nat):Int)=(a:Int)*b:=by simp
def QM{hi lo y Q1 Q0:Nat}(h0:hi<y)(hl:lo<18446744073709551616)(x1:Q1*4294967296+Q0=(hi*18446744073709551616+lo)/y):
  IntKind.u64.wrap (IntKind.u64.wrap ((Q1:Int)*4294967296)+Q0)=(((hi*18446744073709551616+lo)/y:Nat):Int):=by
 have hlt:(hi*18446744073709551616+lo)/y<18446744073709551616:=by
  rw[Nat.div_lt_iff_lt_mul (by omega)]
  have:(hi+1)*18446744073709551616<=y*18446744073709551616:=Nat.mul_le_mul_right _ h0
  rw[Nat.add_mul]at this
  rw[Nat.mul_comm _ y]
  omega
 generalize (hi*18446744073709551616+lo)/y=z at *
 rw[IntKind.wrap_u64,IntKind.wrap_u64]
 omega
def Uc{r0 s z:Nat}(h:r0/2 ^ s=z):(r0:Int)/2 ^ s=(z:Int):=by rw[<-h];simp
def Jm(lo y:Nat)(hl:lo<18446744073709551616):IntKind.u64.wrap ((lo:Int)/y)=(lo:Int)/y:=by
 have e:(lo:Int)/y=((lo/y:Nat):Int):=by simp
 have:=Nat.div_le_self lo y
 rw[e]
 generalize lo/y=z at *
 exact IntWalk.u64_in _ (by omega)
open Go.RowKit
def lz(y:Nat)(h0:0<y)(h1:y<18446744073709551616):∃s:Nat,s<=63/\9223372036854775808<=y*2 ^ s/\y*2 ^ s<18446744073709551616 /\
  ∀w:World,Calls prog 387 #[.int .u64 y] w fun e w'=>e=.returned (.int .i64 s)/\w=w':=by
 obtain⟨a,b,c⟩:=Lib.bitLenAux_bounds 64 y h1 (by omega)
 have hL:Lib.bitLenAux 64 y<=64:=Lib.bitLen_le y 64 (Nat.le_refl _) h1
 have hc:=fun w=>Tryz.bits_LeadingZeros64 y w (by omega) (by omega)
 simp only[Int.toNat_natCast,Lib.bitLen]at hc
 generalize Lib.bitLenAux 64 y=L at *
 have e:2 ^ (64-L)*2 ^ (L-1)=9223372036854775808:=by rw[<-Nat.pow_add,show 64-L+(L-1)=63 from by omega]
 have e2:2 ^ (64-L)*2 ^ L=18446744073709551616:=by rw[<-Nat.pow_add,show 64-L+L=64 from by omega]
 have hp:0<2 ^ (64-L):=Nat.two_pow_pos _
 refine⟨64-L,by omega,?_,?_,?_⟩
 ·rw[<-e,Nat.mul_comm y];exact Nat.mul_le_mul_left _ b
 ·rw[<-e2,Nat.mul_comm y];exact Nat.mul_lt_mul_of_pos_left c hp
 intro w
 have:=hc w
 rw[show(64:Int)-(L:Int)=((64-L:Nat):Int) from by omega]at this
 refine this.mono ?_
 rintro e w' ⟨h,h'⟩
 exact⟨h,h'.symm⟩
def OV(hi lo y:Nat)(w:World)(h0:hi<y)(hh:0<hi)(hy:y<18446744073709551616)(hl:lo<18446744073709551616):
  Calls prog 366 #[.int .u64 hi,.int .u64 lo,.int .u64 y] w fun e w'=>e=.returned (.tuple #[.int .u64 ((hi*18446744073709551616+lo)/y:Nat),.int .u64 ((hi*18446744073709551616+lo)%y:Nat)])/\∃n,w'=w.drewN n:=by
 have t0:((y:Int)==0)=false:=by simp;omega
 have t1:((hi:Int)==0)=false:=by simp;omega
 have hy2:0<y:=by omega
 obtain⟨s,s1,s2,s3,hc⟩:=lz y hy2 hy
 have Hc:=Lib.hid hc
 clear hc
 have ep:(y:Int)*2 ^ s=((y*2 ^ s:Nat):Int):=by simp
 have b1:(9223372036854775808:Int)<=(y:Int)*2 ^ s:=by rw[ep];omega
 have b2:(y:Int)*2 ^ s<=18446744073709551615:=by rw[ep];omega
 clear ep
 obtain⟨Y,y1,y0,un,ul,u1,u0,e1,e2,e3,e4,e5,e6,e7,f1,f2,f3,f3',f4,f5,f6,f7,f8,f9⟩:=Kc hi lo y s h0 s1 s2 s3 hl
 have hYb:9223372036854775808<=Y/\Y<18446744073709551616:=by rw[f8];exact⟨s2,s3⟩
 have hend:=fun q1 q0 r1 r0=>@M6 hi lo y s Y un ul u1 u0 q1 q0 r1 r0 hy2 f8 f9 f4
 have Hend:=Lib.hid hend
 have Hs2:=Lib.hid s2
 have Hs3:=Lib.hid s3
 have F1:=Lib.hid f1
 have F4:=Lib.hid f4
 clear hend s2 s3 f1 f4 f8 f9
 obtain⟨Q1,hQ1⟩:∃Q1,Q1=(un*4294967296+u1)/Y:=⟨_,rfl⟩
 obtain⟨q,r,e8,e9,g1,g2,g3,g4,g5⟩:=Cu F1.out hQ1 f3 f5
 have hnext:=fun a b=>@IU un y1 y0 u1 a b Q1 Y F1.out hQ1 f3 f2 f5 f7
 have hout:=fun a b=>@L0 un y1 y0 u1 a b Q1 Y F1.out hQ1 f3
 have Hnext:=Lib.hid hnext
 have Hout:=Lib.hid hout
 have G1:=Lib.hid g1
 have HQ1:=Lib.hid hQ1
 clear hQ1 g1 hnext hout
 go_enter func366,ntmps366
 go_upto_block 0 with (go_at_call 387;refine(Hc.out _).mono ?_;rintro e w' ⟨rfl,rfl⟩)
 go_cut [15] (fun x wx=>x=.int .u64 Q1/\wx=w)
 case first =>
  clear e1 e2 e3 e4 e5 e6 e7 e8 e9
  go_wp2_with fail
  go_loop [15,16] (fun x z=>∃a b:Nat,x=.int .u64 a/\z=.int .u64 b/\Hid (a*y1+b=un/\Q1<=a)/\b<4294967296/\a<=18446744073709551615) (fun x _=>(intOf x).toNat)
  case atStart=>exact⟨q,r,rfl,rfl,G1,by omega,by omega⟩
  case round =>
   obtain⟨a,b,rfl,rfl,hi1,hi2,hi3⟩:=hrel
   have F3:=Lib.hid f3
   have F3':=Lib.hid f3'
   have F2:=Lib.hid f2
   have F5:=Lib.hid f5
   have D4:=Lib.hid hi2
   have d0:(a:Int)<=18446744073709551615:=by omega
   have d3:(b:Int)<4294967296:=by omega
   have d4:(y1:Int)<4294967296:=by omega
   have d5:(2147483648:Int)<=y1:=by omega
   have d6:(u1:Int)<4294967296:=by omega
   clear hYb hl hy b1 b2 h0 hh t0 t1 hy2 g2 g3 g4 g5 f7 f3 f3' f2 f5 f6 hi2 hi3
   by_cases c1:(4294967296:Int)<=(a:Int)
   ·obtain⟨a',rfl,j1,j2⟩:=Hnext.out a b hi1.out (.inl (by omega))
    have J1:=Lib.hid j1
    have J2:=Lib.hid j2
    have C1:(4294967296:Int)<=(a':Int)+1:=by omega
    have D0:(a':Int)+1<=18446744073709551615:=by omega
    clear j1 j2 hi1 c1 d0
    by_cases c3:(4294967296:Int)<=(b:Int)+y1
    ·go_wp2_with fail
     go_meet
     exact⟨by rw[<-J2.out (by omega)],rfl⟩
    go_wp2_with fail
    go_round
    case rel=>exact⟨a',b+y1,rfl,by go_num,J1,by omega,by omega⟩
    case measure=>simp[intOf]
   obtain⟨p1,p2⟩:=CF a y0 (by omega) F2.out
   by_cases c2:4294967296*(b:Int)+u1<(a:Int)*y0
   ·have C2:=Lib.hid c2
    obtain⟨a',ha',j1,j2⟩:=Hnext.out a b hi1.out (.inr (by have:=nV a y0;omega))
    have A:=Lib.hid ha'
    have J1:=Lib.hid j1
    have J2:=Lib.hid j2
    have d1:(1:Int)<=(a:Int):=by omega
    clear ha' j1 j2 hi1
    by_cases c3:(4294967296:Int)<=(b:Int)+y1
    ·go_wp2_with fail
     go_meet
     exact⟨by rw[<-J2.out (by omega)];have:=A.out;go_num,rfl⟩
    go_wp2_with fail
    go_round
    case rel=>exact⟨a',b+y1,by have:=A.out;go_num,by go_num,J1,by omega,by have:=A.out;omega⟩
    case measure=>have:=A.out;simp[intOf];omega
   have J:=Lib.hid (Hout.out a b hi1.out (by have:=nV a y0;omega))
   clear hi1
   go_wp2_with fail
   go_meet
   exact⟨by rw[<-J.out],rfl⟩
 case rest =>
  obtain⟨rfl,rfl⟩:=hcut
  clear e1 e2 e3 e4 e5 e6 e7 e8 e9 g2 g3 g4 g5
  obtain⟨r1,hr1⟩:∃r1,r1=(un*4294967296+u1)%Y:=⟨_,rfl⟩
  have hr1Y:r1<Y:=by rw[hr1];exact Nat.mod_lt _ (by omega)
  have ed:=Nat.div_add_mod (un*4294967296+u1) Y
  rw[<-HQ1.out,<-hr1]at ed
  have ep:=nV Q1 Y
  have ec:=Nat.mul_comm Y Q1
  have er:IntKind.u64.wrap (IntKind.u64.wrap (IntKind.u64.wrap ((un:Int)*4294967296)+u1)-IntKind.u64.wrap ((Q1:Int)*Y))=(r1:Int):=by
   rw[IntKind.wrap_u64,IntKind.wrap_u64,IntKind.wrap_u64,IntKind.wrap_u64];omega
  clear ed ep ec
  obtain⟨Q0,hQ0⟩:∃Q0,Q0=(r1*4294967296+u0)/Y:=⟨_,rfl⟩
  obtain⟨q',r',e8,e9,g1,g2,g3,g4,g5⟩:=Cu F1.out hQ0 f3 f6
  have hnext:=fun a b=>@IU r1 y1 y0 u0 a b Q0 Y F1.out hQ0 f3 f2 f6 hr1Y
  have hout:=fun a b=>@L0 r1 y1 y0 u0 a b Q0 Y F1.out hQ0 f3
  have Hnext':=Lib.hid hnext
  have Hout':=Lib.hid hout
  have G1':=Lib.hid g1
  have HQ0:=Lib.hid hQ0
  have HR1:=Lib.hid hr1
  clear hQ0 g1 hnext hout hr1
  go_upto_block 2 with fail
  go_cut [18] (fun x wx=>x=.int .u64 Q0/\wx=wc)
  case first =>
   clear er e8 e9
   go_wp2_with fail
   go_loop [18,16] (fun x z=>∃a b:Nat,x=.int .u64 a/\z=.int .u64 b/\Hid (a*y1+b=r1/\Q0<=a)/\b<4294967296/\a<=18446744073709551615) (fun x _=>(intOf x).toNat)
   case atStart=>exact⟨q',r',rfl,rfl,G1',by omega,by omega⟩
   case round =>
    obtain⟨a,b,rfl,rfl,hi1,hi2,hi3⟩:=hrel
    have F3:=Lib.hid f3
    have F3':=Lib.hid f3'
    have F2:=Lib.hid f2
    have F5:=Lib.hid f6
    have D4:=Lib.hid hi2
    have d0:(a:Int)<=18446744073709551615:=by omega
    have d3:(b:Int)<4294967296:=by omega
    have d4:(y1:Int)<4294967296:=by omega
    have d5:(2147483648:Int)<=y1:=by omega
    have d6:(u0:Int)<4294967296:=by omega
    clear hYb hl hy b1 b2 h0 hh t0 t1 hy2 g2 g3 g4 g5 f7 hr1Y f3 f3' f2 f5 f6 hi2 hi3
    by_cases c1:(4294967296:Int)<=(a:Int)
    ·obtain⟨a',rfl,j1,j2⟩:=Hnext'.out a b hi1.out (.inl (by omega))
     have J1:=Lib.hid j1
     have J2:=Lib.hid j2
     have C1:(4294967296:Int)<=(a':Int)+1:=by omega
     have D0:(a':Int)+1<=18446744073709551615:=by omega
     clear j1 j2 hi1 c1 d0
     by_cases c3:(4294967296:Int)<=(b:Int)+y1
     ·go_wp2_with fail
      go_meet
      exact⟨by rw[<-J2.out (by omega)],rfl⟩
     go_wp2_with fail
     go_round
     case rel=>exact⟨a',b+y1,rfl,by go_num,J1,by omega,by omega⟩
     case measure=>simp[intOf]
    obtain⟨p1,p2⟩:=CF a y0 (by omega) F2.out
    by_cases c2:4294967296*(b:Int)+u0<(a:Int)*y0
    ·have C2:=Lib.hid c2
     obtain⟨a',ha',j1,j2⟩:=Hnext'.out a b hi1.out (.inr (by have:=nV a y0;omega))
     have A:=Lib.hid ha'
     have J1:=Lib.hid j1
     have J2:=Lib.hid j2
     have d1:(1:Int)<=(a:Int):=by omega
     clear ha' j1 j2 hi1
     by_cases c3:(4294967296:Int)<=(b:Int)+y1
     ·go_wp2_with fail
      go_meet
      exact⟨by rw[<-J2.out (by omega)];have:=A.out;go_num,rfl⟩
     go_wp2_with fail
     go_round
     case rel=>exact⟨a',b+y1,by have:=A.out;go_num,by go_num,J1,by omega,by have:=A.out;omega⟩
     case measure=>have:=A.out;simp[intOf];omega
    have J:=Lib.hid (Hout'.out a b hi1.out (by have:=nV a y0;omega))
    clear hi1
    go_wp2_with fail
    go_meet
    exact⟨by rw[<-J.out],rfl⟩
  case rest =>
   obtain⟨rfl,rfl⟩:=hcut
   clear er e8 e9 g2 g3 g4 g5
   obtain⟨r0,hr0⟩:∃r0,r0=(r1*4294967296+u0)%Y:=⟨_,rfl⟩
   have hr0Y:r0<Y:=by rw[hr0];exact Nat.mod_lt _ (by omega)
   have ed:=Nat.div_add_mod (r1*4294967296+u0) Y
   rw[<-HQ0.out,<-hr0]at ed
   have ep:=nV Q0 Y
   have ec:=Nat.mul_comm Y Q0
   have er:IntKind.u64.wrap (IntKind.u64.wrap (IntKind.u64.wrap ((r1:Int)*4294967296)+u0)-IntKind.u64.wrap ((Q0:Int)*Y))=(r0:Int):=by
    rw[IntKind.wrap_u64,IntKind.wrap_u64,IntKind.wrap_u64,IntKind.wrap_u64];omega
   have HE:=Lib.hid (Hend.out Q1 Q0 r1 r0 HQ1.out HR1.out HQ0.out hr0)
   clear ed ep ec hr0
   go_wp2_with fail
   go_ret2
   refine⟨KE ?_ ?_,yv _⟩
   ·exact QM h0 hl HE.out.1
   exact Uc HE.out.2
def F8(hi lo y:Nat)(w:World)(h0:hi<y)(hh:hi=0)(hy:y<18446744073709551616)(hl:lo<18446744073709551616):
  Calls prog 366 #[.int .u64 hi,.int .u64 lo,.int .u64 y] w fun e w'=>e=.returned (.tuple #[.int .u64 ((hi*18446744073709551616+lo)/y:Nat),.int .u64 ((hi*18446744073709551616+lo)%y:Nat)])/\∃n,w'=w.drewN n:=by
 have H:=Lib.hid hh
 have t0:((y:Int)==0)=false:=by simp;omega
 have t1:((hi:Int)==0)=true:=by simp;omega
 have hy2:0<y:=by omega
 clear hh
 go_enter func366,ntmps366
 go_wp2
 go_quiet (fail)
 go_wp2
 go_ret2
 refine⟨KE ?_ ?_,_,rfl⟩
 ·rw[H.out];simp[Jm lo y hl]
 rw[H.out];simp
def vu(hi lo y:Nat)(w:World)(h0:hi<y)(hy:y<18446744073709551616)(hl:lo<18446744073709551616):
  Calls prog 366 #[.int .u64 hi,.int .u64 lo,.int .u64 y] w fun e w'=>e=.returned (.tuple #[.int .u64 ((hi*18446744073709551616+lo)/y:Nat),.int .u64 ((hi*18446744073709551616+lo)%y:Nat)])/\∃n,w'=w.drewN n:=by
 by_cases hh:hi=0
 ·exact F8 hi lo y w h0 hh hy hl
 exact OV hi lo y w h0 (by omega) hy hl
end Go.Proofs.YtjcminooghmpeaaGreatDoor
namespace Go.Proofs.YtjcminooghmpeaaGreatDoor
open Go.RowKit (wrap64)
def WS(lo hi:Int)(h:0<=hi):(PS lo hi).natAbs=hi.toNat*18446744073709551616+U lo:=by unfold PS;omega
def DO(lo hi:Int):PS lo hi<0↔hi<0:=by
 have:=w8 lo
 unfold PS;omega
def Se(lo hi d:Int)(hd:d≠0)(q r:Nat)(hq:q=(PS lo hi).natAbs/d.natAbs)(hr:r=(PS lo hi).natAbs%d.natAbs):
  lD lo hi d=(if (decide (hi<0) != decide (d<0))=true then(if q<=9223372036854775808 then(-(q:Int),(if hi<0 then -(r:Int)else r),0)else(0,0,-11))
   else(if q<9223372036854775808 then((q:Int),(if hi<0 then -(r:Int)else r),0)else(0,0,-11))):=by
 obtain⟨h1,h2⟩:=qZ (PS lo hi) d hd
 rw[<-hq]at h1
 rw[<-hr]at h2
 have hn:decide (PS lo hi<0)=decide (hi<0):=by simp[DO]
 rw[hn]at h1
 simp only[DO]at h2
 simp only[lD,if_neg hd,h1,h2]
 by_cases hb:(decide (hi<0) != decide (d<0))=true
 ·simp only[if_pos hb]
  by_cases hf:q<=9223372036854775808
  ·rw[if_pos hf,if_pos (by simp[gE];omega)]
  rw[if_neg hf,if_neg (by simp[gE];omega)]
 simp only[if_neg hb]
 by_cases hf:q<9223372036854775808
 ·rw[if_pos hf,if_pos (by simp[gE];omega)]
 rw[if_neg hf,if_neg (by simp[gE];omega)]
def QH(lo hi d:Int)(hd:d≠0)(q r:Nat)(hq:q=(PS lo hi).natAbs/d.natAbs)(hr:r=(PS lo hi).natAbs%d.natAbs):
    jL lo hi d=(if (decide (hi<0) != decide (d<0))=true then
        (if r=0 then(if q<=9223372036854775808 then(-(q:Int),0,0)else(0,0,-11))
         else(if q+1<=9223372036854775808 then(-((q:Int)+1),(if d<0 then -((d.natAbs-r:Nat):Int)else((d.natAbs-r:Nat):Int)),0)else(0,0,-11)))
      else(if q<9223372036854775808 then((q:Int),(if d<0 then -(r:Int)else r),0)else(0,0,-11))):=by
  obtain⟨h1,h2⟩:=qZ (PS lo hi) d hd
  obtain⟨h3,h4⟩:=uh (PS lo hi) d hd
  have hlt:r<d.natAbs:=by rw[hr];exact Nat.mod_lt _ (by omega)
  rw[<-hq]at h1
  rw[<-hr]at h2
  have hn:decide (PS lo hi<0)=decide (hi<0):=by simp[DO]
  rw[hn]at h1 h3 h4
  simp only[DO]at h2
  have hz:(PS lo hi).tmod d≠0↔r≠0:=by rw[h2];split<;>omega
  simp only[hz]at h3 h4
  simp only[jL,if_neg hd]
  by_cases hb:(decide (hi<0) != decide (d<0))=true
  · simp only[if_pos hb]
    rw[if_pos hb]at h1
    by_cases hr0:r=0
    · rw[if_neg (by simp[hr0])]at h3 h4
      rw[if_pos hr0]
      have h5:(PS lo hi).tmod d=0:=by rw[h2,hr0];split<;>rfl
      rw[h3,h4,h1,h5]
      by_cases hf:q<=9223372036854775808
      · rw[if_pos hf,if_pos (by simp[gE];omega)]
      rw[if_neg hf,if_neg (by simp[gE];omega)]
    rw[if_pos ⟨hr0,hb⟩]at h3 h4
    rw[if_neg hr0]
    have h5:(PS lo hi).tmod d+d=(if d<0 then -((d.natAbs-r:Nat):Int)else((d.natAbs-r:Nat):Int)):=by
      rw[h2]
      by_cases a:hi<0<;>by_cases b:d<0<;>simp[a,b]at hb ⊢<;>omega
    rw[h3,h4,h1,h5]
    by_cases hf:q+1<=9223372036854775808
    · rw[if_pos hf,if_pos (by simp[gE];omega),show -(q:Int)-1 = -((q:Int)+1) from by omega]
    rw[if_neg hf,if_neg (by simp[gE];omega)]
  simp only[if_neg hb]
  rw[if_neg hb]at h1
  rw[if_neg (by simp[hb])]at h3 h4
  have h5:(PS lo hi).tmod d=(if d<0 then -(r:Int)else r):=by
    rw[h2]
    by_cases a:hi<0<;>by_cases b:d<0<;>simp[a,b]at hb ⊢
  rw[h3,h4,h1,h5]
  by_cases hf:q<9223372036854775808
  · rw[if_pos hf,if_pos (by simp[gE];omega)]
  rw[if_neg hf,if_neg (by simp[gE];omega)]
open Go.RowKit
def Cp(lo hi d:Int)(w:World):
  Calls prog 287 #[.int .i64 lo,.int .i64 hi,.int .i64 d] w fun e w'=>e=.returned (.tuple #[.int .i64 (iH lo hi d).1,.int .i64 (iH lo hi d).2.1,.int .i64 (iH lo hi d).2.2])/\∃n,w'=w.drewN n:=by
 have b1:=w8 lo
 have b2:=w8 d
 by_cases h:d=0
 ·have E:iH lo hi d=(0,0,-10):=by simp[iH,h]
  have H:=Lib.hid E
  have t:(d==0)=true:=by simp[h]
  clear E h b1 b2
  go_enter func287,ntmps287
  go_wp2
  go_ret3
  exact⟨pH (by rw[H.out]) (by rw[H.out]) (by rw[H.out]),yv w⟩
 have t:(d==0)=false:=by simp[h]
 by_cases h2:U d<=U hi
 ·have E:iH lo hi d=(0,0,-11):=by simp[iH,h,h2]
  have H:=Lib.hid E
  have t2:decide (U hi<U d)=false:=by simp;omega
  clear E b1 b2
  go_enter func287,ntmps287
  go_wp2_with (go_at_call 359;refine(vf _ _ _).mono ?_;rintro e w' ⟨rfl,rfl⟩)
  go_ret3
  exact⟨pH (by rw[H.out]) (by rw[H.out]) (by rw[H.out]),yv w⟩
 have E:iH lo hi d=(S (PU lo hi/U d),S (PU lo hi%U d),0):=by simp[iH,h,h2]
 have H:=Lib.hid E
 have t2:decide (U hi<U d)=true:=by simp;omega
 have HB:=Lib.hid b1
 have HB2:=Lib.hid b2
 have H2:=Lib.hid h2
 clear E b1 b2 h2
 go_enter func287,ntmps287
 go_wp2_with (go_at_call 359;refine(vf _ _ _).mono ?_;rintro e w' ⟨rfl,rfl⟩)
 rw[kV hi,kV lo,kV d]
 refine(vu (U hi) (U lo) (U d) _ (by have:=H2.out;omega) HB2.out HB.out).mono ?_
 rintro e w' ⟨rfl,n,rfl⟩
 go_wp2
 go_ret3
 exact⟨pH (by rw[H.out];simp[S,PU]) (by rw[H.out];simp[S,PU]) (by rw[H.out]),_,rfl⟩
def BA(lo hi d:Int)(w:World)(hh:Fit hi)(hd:Fit d)(hp:0<=hi):
  Calls prog 361 #[.int .i64 lo,.int .i64 hi,.int .i64 d] w fun e w' =>
   e=(if (PS lo hi).natAbs/18446744073709551616<d.natAbs then .returned (.tuple #[.int .u64 ((PS lo hi).natAbs/d.natAbs:Nat),.int .u64 ((PS lo hi).natAbs%d.natAbs:Nat),.bool (!(decide (hi<0)==decide (d<0))),.bool true])
    else .returned (.tuple #[.int .u64 0,.int .u64 0,.bool false,.bool false]))/\∃n,w'=w.drewN n:=by
 have b1:=w8 lo
 have u1:=kV hi
 have u3:=kV lo
 have hs:=WS lo hi hp
 have hU:U hi=hi.toNat:=aG8 hi hp hh.2
 rw[<-hU]at hs
 by_cases h2:d.natAbs<=U hi
 ·have E:¬(PS lo hi).natAbs/18446744073709551616<d.natAbs:=by omega
  rw[if_neg E]
  clear E hs b1 hU
  go_enter func361,ntmps361
  go_wp2_with (go_at_call 362;refine(qj d _ hd).mono ?_;rintro e w' ⟨rfl,rfl⟩)
  exact bodyPost_ret (v:=.tuple #[.int .u64 0,.int .u64 0,.bool false,.bool false]) (by simp[results,Tryz.results361,go_sem]) rfl ⟨rfl,yv _⟩
 have E:(PS lo hi).natAbs/18446744073709551616<d.natAbs:=by omega
 rw[if_pos E]
 have HS:=Lib.hid hs
 have HB:=Lib.hid b1
 clear E hs b1 hU
 go_enter func361,ntmps361
 go_wp2_with (go_at_call 362;refine(qj d _ hd).mono ?_;rintro e w' ⟨rfl,rfl⟩)
 refine(vu (U hi) (U lo) d.natAbs _ (by omega) (by omega) HB.out).mono ?_
 rintro e w' ⟨rfl,n,rfl⟩
 go_wp2
 exact bodyPost_ret (v:=.tuple #[.int .u64 ((PS lo hi).natAbs/d.natAbs:Nat),.int .u64 ((PS lo hi).natAbs%d.natAbs:Nat),.bool (!(decide (hi<0)==decide (d<0))),.bool true]) (by rw[HS.out];simp[results,Tryz.results361,go_sem]) rfl ⟨rfl,_,rfl⟩
def MI(n:Nat)(h:n<18446744073709551616):bits .xor .u64 IntKind.u64.max (n:Int)=((18446744073709551615-n:Nat):Int):=by
 show IntKind.u64.wrap ((BitVec.ofInt 64 IntKind.u64.max ^^^ BitVec.ofInt 64 (n:Int)).toNat:Int)=_
 have e:BitVec.ofInt 64 IntKind.u64.max=BitVec.allOnes 64:=by decide
 have h1:(BitVec.ofInt 64 (n:Int)).toNat=n:=by
  rw[BitVec.ofInt_natCast,BitVec.toNat_ofNat];exact Nat.mod_eq_of_lt (by omega)
 rw[e,BitVec.allOnes_xor,BitVec.toNat_not,h1]
 exact IntWalk.u64_in _ (by omega)
def OX(x:Nat)(w:World):
  (callFunc 386 #[.int .u64 (x:Int),.int .u64 1,.int .u64 0]).run prog w =
   .ok (.value (.tuple #[.int .u64 (((x+1)%18446744073709551616:Nat):Int),.int .u64 (((x+1)/18446744073709551616:Nat):Int)])) w:=by
 rw[run_callFunc_extern func386 (by kernel_rfl) (by kernel_rfl) (by kernel_rfl) (e:=add64Entry) (by kernel_rfl),run_add64 _ _ _ (by omega) (by omega) (by omega) (by omega)]
 simp only[Result.andThen]
 congr 5
def Bz(lo hi d:Int)(w:World)(hh:Fit hi)(hd:Fit d)(hp:hi<0):
  Calls prog 361 #[.int .i64 lo,.int .i64 hi,.int .i64 d] w fun e w' =>
   e=(if (PS lo hi).natAbs/18446744073709551616<d.natAbs then .returned (.tuple #[.int .u64 ((PS lo hi).natAbs/d.natAbs:Nat),.int .u64 ((PS lo hi).natAbs%d.natAbs:Nat),.bool (!(decide (hi<0)==decide (d<0))),.bool true])
    else .returned (.tuple #[.int .u64 0,.int .u64 0,.bool false,.bool false]))/\∃n,w'=w.drewN n:=by
 have b1:=w8 lo
 have b2:=w8 hi
 have hneg:=YE hi hp hh.1
 have hA:((PS lo hi).natAbs:Int) = -(hi*18446744073709551616+U lo):=by unfold PS;omega
 have u1:=kV hi
 have u3:=kV lo
 have n1:=MI (U lo) b1
 have n2:=MI (U hi) b2
 have radd:=fun w=>OX (18446744073709551615-U lo) w
 generalize (PS lo hi).natAbs=A at *
 obtain⟨low,hlow⟩:∃l,l=A%18446744073709551616:=⟨_,rfl⟩
 obtain⟨high,hhigh⟩:∃l,l=A/18446744073709551616:=⟨_,rfl⟩
 obtain⟨c,hc⟩:∃c,c=(18446744073709551615-U lo+1)/18446744073709551616:=⟨_,rfl⟩
 obtain⟨nl,hnl⟩:∃c,c=18446744073709551615-U lo:=⟨_,rfl⟩
 obtain⟨nh,hnh⟩:∃c,c=18446744073709551615-U hi:=⟨_,rfl⟩
 have f1:(18446744073709551615-U lo+1)%18446744073709551616=low:=by omega
 have f2:IntKind.u64.wrap ((nh:Int)+(c:Int))=(high:Int):=by rw[IntKind.wrap_u64];omega
 have hAe:A=high*18446744073709551616+low:=by omega
 have hlt:low<18446744073709551616:=by omega
 rw[f1,<-hc,<-hnl]at radd
 rw[<-hnl]at n1
 rw[<-hnh]at n2
 rw[<-hhigh]
 clear hlow hhigh hc hnl hnh f1 hA hneg b1 b2
 by_cases h2:d.natAbs<=high
 ·rw[if_neg (by omega)]
  clear hAe hlt
  go_enter func361,ntmps361
  go_wp2_with (go_at_call 362;refine(qj d _ hd).mono ?_;rintro e w' ⟨rfl,rfl⟩)
  exact bodyPost_ret (v:=.tuple #[.int .u64 0,.int .u64 0,.bool false,.bool false]) (by simp[results,Tryz.results361,go_sem]) rfl ⟨rfl,yv _⟩
 rw[if_pos (by omega)]
 have HS:=Lib.hid hAe
 have HB:=Lib.hid hlt
 clear hAe hlt
 go_enter func361,ntmps361
 go_wp2_with (go_at_call 362;refine(qj d _ hd).mono ?_;rintro e w' ⟨rfl,rfl⟩)
 refine(vu high low d.natAbs _ (by omega) (by omega) HB.out).mono ?_
 rintro e w' ⟨rfl,n,rfl⟩
 go_wp2
 exact bodyPost_ret (v:=.tuple #[.int .u64 (A/d.natAbs:Nat),.int .u64 (A%d.natAbs:Nat),.bool (!(decide (hi<0)==decide (d<0))),.bool true]) (by rw[HS.out];simp[results,Tryz.results361,go_sem,hp]) rfl ⟨rfl,_,rfl⟩
def Dy(lo hi d:Int)(w:World)(hh:Fit hi)(hd:Fit d)(h:¬(PS lo hi).natAbs/18446744073709551616<d.natAbs):
  Calls prog 361 #[.int .i64 lo,.int .i64 hi,.int .i64 d] w fun e w' =>
   e=.returned (.tuple #[.int .u64 0,.int .u64 0,.bool false,.bool false])/\∃n,w'=w.drewN n:=by
 by_cases hp:hi<0
 ·have:=Bz lo hi d w hh hd hp
  rw[if_neg h]at this;exact this
 have:=BA lo hi d w hh hd (by omega)
 rw[if_neg h]at this;exact this
def AJ(lo hi d:Int)(w:World)(hh:Fit hi)(hd:Fit d)(q r:Nat)(b:Bool)(h:(PS lo hi).natAbs/18446744073709551616<d.natAbs)
  (hq:q=(PS lo hi).natAbs/d.natAbs) (hr:r=(PS lo hi).natAbs%d.natAbs) (hb:(decide (hi<0) != decide (d<0))=b) :
  Calls prog 361 #[.int .i64 lo,.int .i64 hi,.int .i64 d] w fun e w' =>
   e=.returned (.tuple #[.int .u64 q,.int .u64 r,.bool b,.bool true])/\∃n,w'=w.drewN n:=by
 subst hq hr
 have hb':(!(decide (hi<0)==decide (d<0)))=b:=hb
 by_cases hp:hi<0
 ·have:=Bz lo hi d w hh hd hp
  rw[if_pos h,hb']at this;exact this
 have:=BA lo hi d w hh hd (by omega)
 rw[if_pos h,hb']at this;exact this
def Ib(q:Nat)(f:Bool)(w:World)(hq:q<18446744073709551616)(hf:decide (q<=9223372036854775808)=f):
  Calls prog 363 #[.int .u64 q,.bool true] w fun e w'=>e=.returned (.tuple #[.int .i64 (wrap64 (-(q:Int))),.bool f])/\w=w':=by
 have e:IntKind.i64.wrap (IntKind.u64.wrap (-(q:Int)))=wrap64 (-(q:Int)):=by
  rw[IntWalk.i64_left,IntKind.wrap_u64];unfold wrap64;omega
 cases f
 ·have h:¬(q:Int)<=9223372036854775808:=by simp at hf;omega
  clear hf hq
  go_enter func363,ntmps363
  go_wp2
  go_ret2
  exact⟨by rw[<-e];simp[go_sem];done,rfl⟩
 have h:(q:Int)<=9223372036854775808:=by simp at hf;omega
 clear hf hq
 go_enter func363,ntmps363
 go_wp2
 go_ret2
 exact⟨by rw[<-e];simp[go_sem];done,rfl⟩
def Gk(q:Nat)(f:Bool)(w:World)(hf:decide (q<9223372036854775808)=f):
  Calls prog 363 #[.int .u64 q,.bool false] w fun e w'=>e=.returned (.tuple #[.int .i64 (wrap64 q),.bool f])/\w=w':=by
 cases f
 ·have h:¬(q:Int)<9223372036854775808:=by simp at hf;omega
  clear hf
  go_enter func363,ntmps363
  go_wp2
  go_ret2
  exact⟨by simp[go_sem];done,rfl⟩
 have h:(q:Int)<9223372036854775808:=by simp at hf;omega
 clear hf
 go_enter func363,ntmps363
 go_wp2
 go_ret2
 exact⟨by rw[di q (by omega)];rfl,rfl⟩
def uv(q:Nat)(b:Bool):Int:=wrap64 (if b then -(q:Int)else q)
def uq(q:Nat)(b:Bool):Bool:=if b then decide (q<=9223372036854775808)else decide (q<9223372036854775808)
def m6(r:Nat)(b:Bool):Int:=wrap64 (if b then -(r:Int)else r)
def l9(q:Nat)(b:Bool)(w:World)(hq:q<18446744073709551616):
  Calls prog 363 #[.int .u64 q,.bool b] w fun e w'=>e=.returned (.tuple #[.int .i64 (uv q b),.bool (uq q b)])/\w=w':=by
 cases b
 ·exact Gk q _ w rfl
 exact Ib q _ w hq rfl
def tH(r:Nat)(b:Bool)(w:World):
  Calls prog 364 #[.int .u64 r,.bool b] w fun e w'=>e=.returned (.int .i64 (m6 r b))/\w=w':=by
 have e:wrap64 (IntKind.u64.wrap (-(r:Int)))=wrap64 (-(r:Int)):=by
  rw[IntKind.wrap_u64];unfold wrap64;omega
 have H:=Lib.hid e
 clear e
 cases b
 ·go_enter func364,ntmps364
  go_wp2
  go_ret
  exact⟨Yc rfl,rfl⟩
 go_enter func364,ntmps364
 go_wp2
 go_ret
 exact⟨Yc H.out,rfl⟩
def Rh(lo hi d:Int)(h:(PS lo hi).natAbs/18446744073709551616<d.natAbs):(PS lo hi).natAbs/d.natAbs<18446744073709551616:=by
 rw[Nat.div_lt_iff_lt_mul (by omega),Nat.mul_comm]
 exact(Nat.div_lt_iff_lt_mul (by decide)).1 h
def PH(lo hi d:Int)(hd:d≠0)(h:¬(PS lo hi).natAbs/18446744073709551616<d.natAbs):18446744073709551616<=(PS lo hi).natAbs/d.natAbs:=by
 rw[Nat.le_div_iff_mul_le (by omega),Nat.mul_comm]
 have:=Nat.div_mul_le_self (PS lo hi).natAbs 18446744073709551616
 exact Nat.le_trans (Nat.mul_le_mul_right _ (by omega)) this
def Ny(lo hi d:Int)(w:World)(hh:Fit hi)(hd:Fit d):
  Calls prog 289 #[.int .i64 lo,.int .i64 hi,.int .i64 d] w fun e w'=>e=.returned (.tuple #[.int .i64 (lD lo hi d).1,.int .i64 (lD lo hi d).2.1,.int .i64 (lD lo hi d).2.2])/\∃n,w'=w.drewN n:=by
 by_cases hz:d=0
 ·have E:=Lib.hid (show lD lo hi d=(0,0,-10) by simp[lD,hz])
  have t:(d==0)=true:=by simp[hz]
  clear hz
  go_enter func289,ntmps289
  go_wp2
  go_ret3
  exact⟨pH (by rw[E.out]) (by rw[E.out]) (by rw[E.out]),yv w⟩
 have t:(d==0)=false:=by simp[hz]
 obtain⟨q,hq⟩:∃q,q=(PS lo hi).natAbs/d.natAbs:=⟨_,rfl⟩
 obtain⟨r,hr⟩:∃r,r=(PS lo hi).natAbs%d.natAbs:=⟨_,rfl⟩
 have hs:=Se lo hi d hz q r hq hr
 have hrl:r<d.natAbs:=by rw[hr];exact Nat.mod_lt _ (by omega)
 by_cases hy:(PS lo hi).natAbs/18446744073709551616<d.natAbs
 ·obtain⟨b,hb⟩:∃b,(decide (hi<0) != decide (d<0))=b:=⟨_,rfl⟩
  have hql:q<18446744073709551616:=by rw[hq];exact Rh lo hi d hy
  have hc:=fun w=>AJ lo hi d w hh hd q r b hy hq hr hb
  obtain⟨f,hf⟩:∃f,uq q b=f:=⟨_,rfl⟩
  have hl:=fun w=>l9 q b w hql
  rw[hf]at hl
  have E:lD lo hi d=if f then(uv q b,m6 r (decide (hi<0)),0)else(0,0,-11):=by
   rw[hs,hb,<-hf]
   have hw:m6 r (decide (hi<0))=if hi<0 then -(r:Int)else r:=by
    by_cases hn:hi<0
    ·simp only[m6,hn,decide_true,if_true];exact di _ (by omega)
    simp only[m6,hn,decide_false,if_false,Bool.false_eq_true]
    by_cases hx:r=9223372036854775808
    ·omega
    exact di _ (by omega)
   cases b
   ·simp only[Bool.false_eq_true,if_false,uq,decide_eq_true_eq,uv]
    by_cases hx:q<9223372036854775808
    ·rw[if_pos hx,if_pos hx,di _ (by omega),hw]
    rw[if_neg hx,if_neg hx]
   simp only[if_true,uq,decide_eq_true_eq,uv]
   by_cases hx:q<=9223372036854775808
   ·rw[if_pos hx,if_pos hx,di _ (by omega),hw]
   rw[if_neg hx,if_neg hx]
  have HE:=Lib.hid E
  have HC:=Lib.hid hc
  have HL:=Lib.hid hl
  clear E hc hl hf hb hs hq hr hrl hql hy hz hh hd
  cases f
  ·go_enter func289,ntmps289
   go_wp2_with (first|(go_at_call 361;refine(HC.out _).mono ?_;rintro e w' ⟨rfl,n,rfl⟩)|(go_at_call 363;refine(HL.out _).mono ?_;rintro e w' ⟨rfl,rfl⟩))
   go_ret3
   exact⟨pH (by rw[HE.out];rfl) (by rw[HE.out];rfl) (by rw[HE.out];rfl),_,rfl⟩
  go_enter func289,ntmps289
  go_wp2_with (first|(go_at_call 361;refine(HC.out _).mono ?_;rintro e w' ⟨rfl,n,rfl⟩)|(go_at_call 363;refine(HL.out _).mono ?_;rintro e w' ⟨rfl,rfl⟩)|(go_at_call 364;refine(tH r _ _).mono ?_;rintro e w' ⟨rfl,rfl⟩))
  go_ret3
  exact⟨pH (by rw[HE.out];rfl) (by rw[HE.out];rfl) (by rw[HE.out];rfl),_,rfl⟩
 have hqg:18446744073709551616<=q:=by rw[hq];exact PH lo hi d hz hy
 have hc:=fun w=>Dy lo hi d w hh hd hy
 have E:lD lo hi d=(0,0,-11):=by
  rw[hs]
  by_cases hb:(decide (hi<0) != decide (d<0))=true
  ·rw[if_pos hb,if_neg (show ¬q<=9223372036854775808 by omega)]
  rw[if_neg hb,if_neg (show ¬q<9223372036854775808 by omega)]
 have HE:=Lib.hid E
 have HC:=Lib.hid hc
 clear E hc hs hq hr hrl hqg hy hz hh hd
 go_enter func289,ntmps289
 go_wp2_with (first|(go_at_call 361;refine(HC.out _).mono ?_;rintro e w' ⟨rfl,n,rfl⟩)|(go_at_call 363;refine(l9 0 false _ (by decide)).mono ?_;rintro e w' ⟨rfl,rfl⟩))
 go_ret3
 exact⟨pH (by rw[HE.out]) (by rw[HE.out]) (by rw[HE.out]),_,rfl⟩
def Of(lo hi d:Int)(w:World)(hh:Fit hi)(hd:Fit d):
  Calls prog 279 #[.int .i64 lo,.int .i64 hi,.int .i64 d] w fun e w'=>e=.returned (.tuple #[.int .i64 (jL lo hi d).1,.int .i64 (jL lo hi d).2.1,.int .i64 (jL lo hi d).2.2])/\∃n,w'=w.drewN n:=by
 by_cases hz:d=0
 ·have E:=Lib.hid (show jL lo hi d=(0,0,-10) by simp[jL,hz])
  have t:(d==0)=true:=by simp[hz]
  clear hz
  go_enter func279,ntmps279
  go_wp2
  go_ret3
  exact⟨pH (by rw[E.out]) (by rw[E.out]) (by rw[E.out]),yv w⟩
 have t:(d==0)=false:=by simp[hz]
 obtain⟨q,hq⟩:∃q,q=(PS lo hi).natAbs/d.natAbs:=⟨_,rfl⟩
 obtain⟨r,hr⟩:∃r,r=(PS lo hi).natAbs%d.natAbs:=⟨_,rfl⟩
 have hs:=QH lo hi d hz q r hq hr
 have hrl:r<d.natAbs:=by rw[hr];exact Nat.mod_lt _ (by omega)
 by_cases hy:(PS lo hi).natAbs/18446744073709551616<d.natAbs
 ·obtain⟨b,hb⟩:∃b,(decide (hi<0) != decide (d<0))=b:=⟨_,rfl⟩
  have hql:q<18446744073709551616:=by rw[hq];exact Rh lo hi d hy
  have hc:=fun w=>AJ lo hi d w hh hd q r b hy hq hr hb
  rw[hb]at hs
  have HC:=Lib.hid hc
  clear hc hb hq hr hy hz
  have hz1:=fun w=>qj d w hd
  have HZ:=Lib.hid hz1
  clear hz1
  cases b
  ·simp only[Bool.false_eq_true,if_false]at hs
   obtain⟨f,hf⟩:∃f,uq q false=f:=⟨_,rfl⟩
   have hl:=fun w=>l9 q false w hql
   rw[hf]at hl
   have hw:m6 r (decide (d<0))=if d<0 then -((r:Nat):Int)else((r:Nat):Int):=by
    by_cases hn:d<0
    ·simp only[m6,hn,decide_true,if_true];exact di _ (by omega)
    simp only[m6,hn,decide_false,if_false,Bool.false_eq_true];exact di _ (by omega)
   have E:jL lo hi d=if f then(uv q false,m6 r (decide (d<0)),0)else(0,0,-11):=by
    rw[hs,<-hf]
    simp only[uq,Bool.false_eq_true,if_false,decide_eq_true_eq,uv]
    by_cases hx:q<9223372036854775808
    ·rw[if_pos hx,if_pos hx,di _ (by omega),hw]
    rw[if_neg hx,if_neg hx]
   have HE:=Lib.hid E
   have HL:=Lib.hid hl
   clear E hl hf hs hrl hql hh hd hw
   cases f
   ·go_enter func279,ntmps279
    go_wp2_with (first|(go_at_call 361;refine(HC.out _).mono ?_;rintro e w' ⟨rfl,n,rfl⟩)|(go_at_call 363;refine(HL.out _).mono ?_;rintro e w' ⟨rfl,rfl⟩))
    go_ret3
    exact⟨pH (by rw[HE.out];rfl) (by rw[HE.out];rfl) (by rw[HE.out];rfl),_,rfl⟩
   cases hq0:((q:Int)==0)
   all_goals
    go_enter func279,ntmps279
    go_wp2_with (first|(go_at_call 361;refine(HC.out _).mono ?_;rintro e w' ⟨rfl,n,rfl⟩)|(go_at_call 363;refine(HL.out _).mono ?_;rintro e w' ⟨rfl,rfl⟩)|(go_at_call 364;refine(tH r _ _).mono ?_;rintro e w' ⟨rfl,rfl⟩))
    go_ret3
    exact⟨pH (by rw[HE.out];rfl) (by rw[HE.out];rfl) (by rw[HE.out];rfl),_,rfl⟩
  simp only[if_true]at hs
  by_cases hr0:r=0
  ·subst hr0
   obtain⟨f,hf⟩:∃f,uq q true=f:=⟨_,rfl⟩
   have hl:=fun w=>l9 q true w hql
   rw[hf]at hl
   have hw:m6 0 (decide (d<0))=0:=by
    unfold m6;cases decide (d<0)<;>simp<;>exact di _ (by omega)
   have E:jL lo hi d=if f then(uv q true,m6 0 (decide (d<0)),0)else(0,0,-11):=by
    rw[hs,<-hf]
    simp only[uq,if_true,decide_eq_true_eq,uv]
    by_cases hx:q<=9223372036854775808
    ·rw[if_pos hx,if_pos hx,di _ (by omega),hw]
    rw[if_neg hx,if_neg hx]
   have HE:=Lib.hid E
   have HL:=Lib.hid hl
   clear E hl hf hs hrl hql hh hd hw
   cases f
   ·go_enter func279,ntmps279
    go_wp2_with (first|(go_at_call 361;refine(HC.out _).mono ?_;rintro e w' ⟨rfl,n,rfl⟩)|(go_at_call 363;refine(HL.out _).mono ?_;rintro e w' ⟨rfl,rfl⟩))
    go_ret3
    exact⟨pH (by rw[HE.out];rfl) (by rw[HE.out];rfl) (by rw[HE.out];rfl),_,rfl⟩
   cases hq0:((q:Int)==0)
   all_goals
    go_enter func279,ntmps279
    go_wp2_with (first|(go_at_call 361;refine(HC.out _).mono ?_;rintro e w' ⟨rfl,n,rfl⟩)|(go_at_call 363;refine(HL.out _).mono ?_;rintro e w' ⟨rfl,rfl⟩)|(go_at_call 364;refine(tH 0 _ _).mono ?_;rintro e w' ⟨rfl,rfl⟩))
    go_ret3
    exact⟨pH (by rw[HE.out];rfl) (by rw[HE.out];rfl) (by rw[HE.out];rfl),_,rfl⟩
  rw[if_neg hr0]at hs
  have g1:((r:Int)==0)=false:=by simp;omega
  have g2:((r:Int) != 0)=true:=by simp;omega
  have hsub:((d.natAbs:Nat):Int)-r=((d.natAbs-r:Nat):Int):=by omega
  obtain⟨r',hr'⟩:∃r',r'=d.natAbs-r:=⟨_,rfl⟩
  rw[<-hr']at hs hsub
  have hrI:(r:Int)<(d.natAbs:Nat):=by omega
  have hdI:((d.natAbs:Nat):Int)<=9223372036854775808:=by omega
  have hr'l:r'<=d.natAbs/\0<r'/\r'<d.natAbs:=by omega
  have g3:((r':Int)==0)=false:=by simp;omega
  have g4:((r':Int) != 0)=true:=by simp;omega
  by_cases hq1:q+1<18446744073709551616
  ·obtain⟨q',hq'⟩:∃q',q'=q+1:=⟨_,rfl⟩
   have hqs:(q:Int)+1=(q':Int):=by omega
   have hqb:(q:Int)<=18446744073709551614:=by omega
   have g5:((q':Int)==0)=false:=by simp;omega
   obtain⟨f,hf⟩:∃f,uq q' true=f:=⟨_,rfl⟩
   have hl:=fun w=>l9 q' true w (by omega)
   rw[hf]at hl
   have hw:m6 r' (decide (d<0))=if d<0 then -((r':Nat):Int)else((r':Nat):Int):=by
    by_cases hn:d<0
    ·simp only[m6,hn,decide_true,if_true];exact di _ (by omega)
    simp only[m6,hn,decide_false,if_false,Bool.false_eq_true];exact di _ (by omega)
   have E:jL lo hi d=if f then(uv q' true,m6 r' (decide (d<0)),0)else(0,0,-11):=by
    rw[hs,<-hf,hqs,<-hq']
    simp only[uq,if_true,decide_eq_true_eq,uv]
    by_cases hx:q'<=9223372036854775808
    ·rw[if_pos hx,if_pos hx,di _ (by omega),hw]
    rw[if_neg hx,if_neg hx]
   have HE:=Lib.hid E
   have HL:=Lib.hid hl
   have HA:=Lib.hid hrl
   clear E hl hf hs hrl hql hh hd hw hr'l hr' hq' hq1 hr0
   cases f
   ·go_enter func279,ntmps279
    go_wp2_with (first|(go_at_call 361;refine(HC.out _).mono ?_;rintro e w' ⟨rfl,n,rfl⟩)|(go_at_call 363;refine(HL.out _).mono ?_;rintro e w' ⟨rfl,rfl⟩)|(go_at_call 362;refine(HZ.out _).mono ?_;rintro e w' ⟨rfl,rfl⟩))
    go_ret3
    exact⟨pH (by rw[HE.out];rfl) (by rw[HE.out];rfl) (by rw[HE.out];rfl),_,rfl⟩
   go_enter func279,ntmps279
   go_wp2_with (first|(go_at_call 361;refine(HC.out _).mono ?_;rintro e w' ⟨rfl,n,rfl⟩)|(go_at_call 363;refine(HL.out _).mono ?_;rintro e w' ⟨rfl,rfl⟩)|(go_at_call 362;refine(HZ.out _).mono ?_;rintro e w' ⟨rfl,rfl⟩)|(go_at_call 364;refine(tH r' _ _).mono ?_;rintro e w' ⟨rfl,rfl⟩))
   go_ret3
   exact⟨pH (by rw[HE.out];rfl) (by rw[HE.out];rfl) (by rw[HE.out];rfl),_,rfl⟩
  have hqs:IntKind.u64.wrap ((q:Int)+1)=0:=by rw[IntKind.wrap_u64];omega
  have hl:=fun w=>l9 0 true w (by decide)
  have E:jL lo hi d=(0,0,-11):=by
   rw[hs,if_neg (by omega)]
  have HE:=Lib.hid E
  have HL:=Lib.hid hl
  clear E hl hs hrl hql hh hd hr'l hr' hq1 hr0
  go_enter func279,ntmps279
  go_wp2_with (first|(go_at_call 361;refine(HC.out _).mono ?_;rintro e w' ⟨rfl,n,rfl⟩)|(go_at_call 363;refine(HL.out _).mono ?_;rintro e w' ⟨rfl,rfl⟩)|(go_at_call 362;refine(HZ.out _).mono ?_;rintro e w' ⟨rfl,rfl⟩))
  go_ret3
  exact⟨pH (by rw[HE.out]) (by rw[HE.out]) (by rw[HE.out]),_,rfl⟩
 have hqg:18446744073709551616<=q:=by rw[hq];exact PH lo hi d hz hy
 have hc:=fun w=>Dy lo hi d w hh hd hy
 have E:jL lo hi d=(0,0,-11):=by
  rw[hs]
  by_cases hb:(decide (hi<0) != decide (d<0))=true
  ·rw[if_pos hb,if_neg (show ¬q<=9223372036854775808 by omega),if_neg (show ¬q+1<=9223372036854775808 by omega)];simp
  rw[if_neg hb,if_neg (show ¬q<9223372036854775808 by omega)]
 have HE:=Lib.hid E
 have HC:=Lib.hid hc
 clear E hc hs hq hr hrl hqg hy hz hh hd
 go_enter func279,ntmps279
 go_wp2_with (first|(go_at_call 361;refine(HC.out _).mono ?_;rintro e w' ⟨rfl,n,rfl⟩)|(go_at_call 363;refine(l9 0 false _ (by decide)).mono ?_;rintro e w' ⟨rfl,rfl⟩))
 go_ret3
 exact⟨pH (by rw[HE.out]) (by rw[HE.out]) (by rw[HE.out]),_,rfl⟩
def lT(u:Nat):List Int:=[(u:Int)%256,(u:Int)/256%256,(u:Int)/65536%256,(u:Int)/16777216%256,
  (u:Int)/4294967296%256,(u:Int)/1099511627776%256,(u:Int)/281474976710656%256,(u:Int)/72057594037927936%256]
def Ki(u:Nat):(lT u).length=8:=rfl
def U0(w:World)(x:List Value):World :=
 ((w.alloc (.cells x.toArray 244)).alloc (.cells #[.int .u8 0,.int .u8 0,.int .u8 0,.int .u8 0,.int .u8 0,.int .u8 0,.int .u8 0,.int .u8 0] 5)).setRow (w.heap.size+1) x.toArray
def Na(w:World)(x:List Value):(U0 w x).heap[w.heap.size+1]?=some (.cells x.toArray 5 (0,0)):=by
 unfold U0
 exact setRow_heap _ (w.heap.size+1) #[.int .u8 0,.int .u8 0,.int .u8 0,.int .u8 0,.int .u8 0,.int .u8 0,.int .u8 0,.int .u8 0] _ _ _ (by simpa using heap_alloc_new (w.alloc (.cells x.toArray 244)) _)
def JB(w:World)(x:List Value):Below w.heap.size w (U0 w x) :=
 below_setRow (((Below.refl _ _).alloc (Nat.le_refl _) _).alloc (by simp) _) (by omega) _
def Nc(w:World)(x0 x1 x2 x3 x4 x5 x6 x7:Int):
  (Builtin.copy_ #[22,22] 3 #[.slice (some ⟨w.heap.size+1,0,none⟩) 8 8,.slice (some ⟨w.heap.size,0,none⟩) 8 8]).run prog
   ((w.alloc (.cells #[.int .u8 x0,.int .u8 x1,.int .u8 x2,.int .u8 x3,.int .u8 x4,.int .u8 x5,.int .u8 x6,.int .u8 x7] 244)).alloc (.cells #[.int .u8 0,.int .u8 0,.int .u8 0,.int .u8 0,.int .u8 0,.int .u8 0,.int .u8 0,.int .u8 0] 5)) =
   .ok (.int .i64 8) (U0 w [.int .u8 x0,.int .u8 x1,.int .u8 x2,.int .u8 x3,.int .u8 x4,.int .u8 x5,.int .u8 x6,.int .u8 x7]):=by
 have h:=run_copy_row (P:=prog) ((w.alloc (.cells #[.int .u8 x0,.int .u8 x1,.int .u8 x2,.int .u8 x3,.int .u8 x4,.int .u8 x5,.int .u8 x6,.int .u8 x7] 244)).alloc (.cells #[.int .u8 0,.int .u8 0,.int .u8 0,.int .u8 0,.int .u8 0,.int .u8 0,.int .u8 0,.int .u8 0] 5))
  22 22 3 5 (w.heap.size+1) 0 8 8 ⟨w.heap.size,0,none⟩ 8 8 #[.int .u8 0,.int .u8 0,.int .u8 0,.int .u8 0,.int .u8 0,.int .u8 0,.int .u8 0,.int .u8 0] 5
  [.int .u8 x0,.int .u8 x1,.int .u8 x2,.int .u8 x3,.int .u8 x4,.int .u8 x5,.int .u8 x6,.int .u8 x7]
  underlying22 (by kernel_rfl) (by simpa using heap_alloc_new (w.alloc _) _) rfl ?_ (by simp) (by simp[Value.oneCell'])
 ·exact h
 intro j v hj
 have hg:((w.alloc (.cells #[.int .u8 x0,.int .u8 x1,.int .u8 x2,.int .u8 x3,.int .u8 x4,.int .u8 x5,.int .u8 x6,.int .u8 x7] 244)).alloc (.cells #[.int .u8 0,.int .u8 0,.int .u8 0,.int .u8 0,.int .u8 0,.int .u8 0,.int .u8 0,.int .u8 0] 5)).heap[w.heap.size]? =
   some (.cells #[.int .u8 x0,.int .u8 x1,.int .u8 x2,.int .u8 x3,.int .u8 x4,.int .u8 x5,.int .u8 x6,.int .u8 x7] 244 (0,0)):=by
  rw[Below.heap_alloc _ _ _ (by simp)];exact heap_alloc_new w _
 rw[show(⟨w.heap.size,0,none⟩:Addr).add j=⟨w.heap.size,j,none⟩ from by unfold Addr.add;split<;>simp_all,cell_of_row _ _ _ _ _ _ hg]
 simpa using hj
def A6(xs:List Int)(w:World)(e:Ending)(w':World):Prop :=
 ∃b c,e=.returned (.slice (some ⟨b,0,none⟩) xs.length c)/\w.heap.size<=b/\xs.length<=c/\(∀i,i<xs.length->w'.cell? ⟨b,i,none⟩=some (.int .u8 (xs.getD i 0)))/\Below w.heap.size w w'
def Si(n:Int)(w:World):
  Calls prog 124 #[.int .i64 n] w (A6 (lT (U n)) w):=by
 have u:=kV n
 have hmk:∀w,(Instr.makeSlice 22 (.int .i64 8) (.int .i64 8)).run prog w=.ok (.slice (some ⟨w.heap.size,0,none⟩) 8 8) (w.alloc (.cells #[.int .u8 0,.int .u8 0,.int .u8 0,.int .u8 0,.int .u8 0,.int .u8 0,.int .u8 0,.int .u8 0] 5)):=fun _=>by kernel_rfl
 have hcp:=Nc w ((U n:Int)%256) ((U n:Int)/256%256) ((U n:Int)/65536%256) ((U n:Int)/16777216%256) ((U n:Int)/4294967296%256) ((U n:Int)/1099511627776%256) ((U n:Int)/281474976710656%256) ((U n:Int)/72057594037927936%256)
 go_enter func124,ntmps124
 go_wp2_with fail
 go_rounds 9
 go_ret
 refine⟨w.heap.size+1,8,rfl,by omega,by rw[Ki];exact Nat.le_refl _,fun i hi=>?_,JB _ _⟩
 rw[cell_of_row _ _ _ _ _ _ (Na _ _)]
 have h8:i<8:=hi
 have:i=0\/i=1\/i=2\/i=3\/i=4\/i=5\/i=6\/i=7:=by omega
 rcases this with rfl|rfl|rfl|rfl|rfl|rfl|rfl|rfl<;>rfl
def Tryz.infoByte:(prog.info? 5).map (fun i=>(i.zero,i.size,i.bytes))=some (some (.int .u8 0),1,1):=by kernel_rfl
def qn:List Int->Nat
 | []=>0
 | x::t=>x.toNat+256*qn t
def G0(xs ys:List Int):qn (xs++ys)=qn xs+256 ^ xs.length*qn ys:=by
 induction xs with
 | nil=>simp[qn]
 | cons x t ih =>
  simp only[List.cons_append,qn,ih,List.length_cons,Nat.pow_succ,Nat.mul_add,Nat.add_assoc]
  rw[<-Nat.mul_assoc 256,Nat.mul_comm 256 (256 ^ _)]
def VT(xs:List Int)(h:∀x∈xs,0<=x/\x<256):qn xs<256 ^ xs.length:=by
 induction xs with
 | nil=>simp[qn]
 | cons x t ih =>
  have h1:=ih fun y hy=>h y (List.mem_cons_of_mem _ hy)
  have h2:=h x List.mem_cons_self
  simp only[qn,List.length_cons,Nat.pow_succ]
  omega
def N6{xs:List Int}(h:∀x∈xs,0<=x/\x<256)(k:Nat)(hk:k<xs.length):0<=xs.getD k 0/\xs.getD k 0<256:=by
 have e:xs.getD k 0=xs[k]:=by simp[List.getD,hk]
 rw[e];exact h _ (List.getElem_mem hk)
def O8(xs:List Int)(k:Nat)(hk:k<xs.length):xs.take (k+1)=xs.take k++[xs.getD k 0]:=by
 rw[List.take_add_one,List.getElem?_eq_getElem hk];simp[List.getD,hk]
def V9(acc x k:Nat)(hacc:acc<256 ^ k)(hx:x<256)(hk:k<8):
  bits .or .u64 (acc:Int) (IntKind.u64.wrap ((x:Int)*2 ^ (8*k)))=((acc+256 ^ k*x:Nat):Int):=by
 have e0:(256:Nat) ^ k=2 ^ (8*k):=by rw[show(256:Nat)=2 ^ 8 from rfl,<-Nat.pow_mul]
 have e1:(x:Int)*2 ^ (8*k)=((x*2 ^ (8*k):Nat):Int):=by simp
 have hp:2 ^ (8*k)<=2 ^ 56:=Nat.pow_le_pow_right (by omega) (by omega)
 have hq:x*2 ^ (8*k)<=255*2 ^ 56:=Nat.mul_le_mul (by omega) hp
 have h56:(2:Nat) ^ 56=72057594037927936:=by decide
 rw[e0]at hacc
 rw[e1,IntWalk.u64_in _ (by omega),u64_or_nat _ _ (by omega) (by omega),e0]
 congr 1
 have:=Nat.shiftLeft_add_eq_or_of_lt hacc x
 rw[Nat.shiftLeft_eq]at this
 rw[Nat.or_comm,<-this,Nat.mul_comm,Nat.add_comm]
def RK(b o c:Nat)(xs:List Int)(w:World)(hl:xs.length=8)(hb:∀x∈xs,0<=x/\x<256)(hc:∀i,i<8->w.cell? ⟨b,o+i,none⟩=some (.int .u8 (xs.getD i 0))):
  Calls prog 73 #[.slice (some ⟨b,o,none⟩) 8 c] w fun e w'=>e=.returned (.tuple #[.int .i64 (wrap64 (qn xs)),.int .i64 0])/\w=w':=by
 have HC:=Lib.hid hc
 have HL:=Lib.hid hl
 have HB:=Lib.hid hb
 clear hc hl hb
 go_enter func73,ntmps73
 go_wp2_with fail
 go_loop [4,12] (fun a i=>∃k m:Nat,k<=8/\i=.int .i64 k/\a=.int .u64 m/\Hid (m=qn (xs.take k))) (fun _ i=>8-(intOf i).toNat)
 case atStart=>exact⟨0,0,by omega,rfl,rfl,rfl⟩
 case round =>
  obtain⟨k,m,hk,rfl,rfl,hm⟩:=hrel
  by_cases hlt:k<8
  ·obtain⟨x,hx,hx2,hcell⟩:∃x:Nat,(xs.getD k 0=(x:Int))/\x<256/\w.cell? ⟨b,o+k,none⟩=some (.int .u8 (x:Int)):=by
    have h1:=N6 HB.out k (by have:=HL.out;omega)
    refine⟨(xs.getD k 0).toNat,by omega,by omega,?_⟩
    rw[HC.out k hlt]
    congr 2
    omega
   have hmlt:m<256 ^ k:=by
    have:=VT (xs.take k) fun y hy=>HB.out y (List.mem_of_mem_take hy)
    rw[<-hm.out,List.length_take]at this
    rwa [Nat.min_eq_left (by have:=HL.out;omega)]at this
   have hor:=V9 m x k hmlt hx2 hlt
   have hm':Hid (m+256 ^ k*x=qn (xs.take (k+1))):=by
    show _=_
    rw[O8 _ _ (by have:=HL.out;omega),G0,<-hm.out,hx,List.length_take,Nat.min_eq_left (by have:=HL.out;omega)]
    simp[qn]
   generalize m+256 ^ k*x=m' at *
   clear hm hmlt hx
   go_wp2
   go_round
   case rel=>exact⟨k+1,m',by omega,by go_num,rfl,hm'⟩
   case measure=>simp[intOf];omega
  have e:m=qn xs:=by rw[hm.out,List.take_of_length_le (by have:=HL.out;omega)]
  clear hm
  go_wp2
  go_ret2
  exact⟨rfl,rfl⟩
def ae(n:Int):Prop:=-9223372036854775808<=n/\n<=9223372036854775807
def bt(m:bn)(at_ n:Int):Bool:=decide (n=0\/(0<n/\0<=at_/\at_+n<=m.b.length))
def cV(m:bn)(at_:Int):Int:=if bt m at_ 8 then(if at_.tmod 8=0 then 0 else -23)else -9
def Jk(l:List UInt8):Int:=wrap64 (qn (l.map fun b=>(b.toNat:Int)))
def am(m:bn)(at_:Int):Int×Int:=if cV m at_=0 then(Jk ((m.b.drop at_.toNat).take 8),0)else(0,cV m at_)
def pV(m:bn)(at_ n:Int)(hm:m.b.length<=9223372036854775807)(ha:ae at_)(hn:ae n):ab prog 102 [jC m,i64 at_,i64 n] (boo (bt m at_ n)):=by
 unfold ae at ha hn
 refine zY func102 fun B=>?_
 refine zu2 ?_
 refine zp3 ?_
 refine Wb 9 rfl (fun hg1=>?_) (fun hg1=>?_)
 ·refine z6 ?_
  iterate 21 refine z6 ?_
  refine zs2 ?_
  refine zR ?_
  exact congrArg boo (by(simp only[bt,bU];rw[Bool.eq_iff_iff];simp only[dnL]at *;(try simp only[bU,wrap64]at *);omega))
 refine zy3 ?_
 refine Wb 12 rfl (fun hg2=>?_) (fun hg2=>?_)
 ·refine zy4 ?_
  refine Wb 16 rfl (fun hg3=>?_) (fun hg3=>?_)
  ·refine zy5 ?_
   refine zy2 ?_
   refine Wb 23 rfl (fun hg4=>?_) (fun hg4=>?_)
   ·refine zy5 ?_
    refine zs5 ?_
    refine zR ?_
    exact congrArg boo (by(simp only[bt,bU];rw[Bool.eq_iff_iff];simp only[dnL]at *;(try simp only[bU,wrap64]at *);omega))
   refine z6 ?_
   iterate 6 refine z6 ?_
   refine zs3 ?_
   refine zR ?_
   exact congrArg boo (by(simp only[bt,bU];rw[Bool.eq_iff_iff];simp only[dnL]at *;(try simp only[bU,wrap64]at *);omega))
  refine z6 ?_
  iterate 4 refine z6 ?_
  refine zy2 ?_
  iterate 7 refine z6 ?_
  refine zs3 ?_
  refine zR ?_
  exact congrArg boo (by(simp only[bt,bU];rw[Bool.eq_iff_iff];simp only[dnL]at *;(try simp only[bU,wrap64]at *);omega))
 refine z6 ?_
 refine z6 ?_
 refine zy2 ?_
 iterate 5 refine z6 ?_
 refine zy2 ?_
 iterate 7 refine z6 ?_
 refine zs3 ?_
 refine zR ?_
 exact congrArg boo (by(simp only[bt,bU];rw[Bool.eq_iff_iff];simp only[dnL]at *;(try simp only[bU,wrap64]at *);omega))
def aD2:ae 8:=by unfold ae;omega
def Ag(m:bn)(at_:Int)(hm:m.b.length<=9223372036854775807)(ha:ae at_):ab prog 72 [jC m,i64 at_] (i64 (cV m at_)):=by
 refine zY func72 fun B=>?_
 refine zu2 ?_
 refine Ws<|Wl<|zp2 ?_
 refine zc rfl func102 ((pV m at_ 8 hm ha aD2) _) ?_
 refine zs2 ?_
 refine Wi rfl (fun hi1=>?_) (fun hi1=>?_)
 ·refine zu1 ?_
  refine zR ?_
  simp_all[cV,iA,kg,Pg,i64,boo,str]
 refine zu4 ?_
 refine Wi rfl (fun hi2=>?_) (fun hi2=>?_)
 ·refine zu1 ?_
  refine zR ?_
  simp_all[cV,iA,kg,Pg,i64,boo,str]
 refine Wj<|zu1 ?_
 refine zR ?_
 simp_all[cV,iA,kg,Pg,i64,boo,str]
def O0(m:bn)(at_:Int)(h:cV m at_=0)(ha:ae at_)(hm:m.b.length<=140737488355328):0<=at_/\at_+8<=m.b.length/\wrap64 (at_+8)=at_+8:=by
 unfold cV bt at h
 simp only[decide_eq_true_eq]at h
 split at h
 ·rename_i h0
  refine⟨by omega,by omega,?_⟩
  unfold wrap64 ae at *;omega
 omega
def JI{c:Cx}{l:List UInt8}{b:Addr}{vs:List Value}(hrl:au c (l.flatMap aL) vs):vs=l.map (fun x=>Value.int .u8 (x.toNat:Int)):=by
 rw[kD]at hrl
 rw[rj hrl,List.map_map]
 rfl
def GJ{f:FuncId}(l:List UInt8)(hl:l.length=8)(H0:∀(b o c:Nat) (xs:List Int) (w:World) (hl:xs.length=8) (hb:∀x∈xs,0<=x/\x<256) (hc:∀i,i<8->w.cell? ⟨b,o+i,none⟩=some (.int .u8 (xs.getD i 0))),Calls prog f #[.slice (some ⟨b,o,none⟩) 8 c] w fun e w'=>e=.returned (.tuple #[.int .i64 (wrap64 (qn xs)),.int .i64 0])/\w=w'):
  ab prog f [sq aL l] (iA (i64 (Jk l)) (i64 0)):=by
 intro H B σ w vs s hv
 match vs,hv with
 | [],hv=>unfold au at hv;obtain⟨u,us,h1,_⟩:=hv;cases h1
 | v::vs,hv =>
  rw[aj,az]at hv
  obtain⟨hv,rfl⟩:=hv
  unfold sq at hv
  obtain⟨ad,cap,ws,rfl,hle,hnil,hrl,hlies,_⟩:=gQ hv
  have hws:=JI (b:=default) hrl
  have hwl:ws.length=8:=by rw[hws];simpa using hl
  match ad,hnil,hlies with
  | none,hnil,_=>have:=(hnil rfl).1;omega
  | some b,_,hlies =>
   have hl2:=(hlies b rfl).resolve_right (by rintro⟨_,h3⟩;rw[h3]at hwl;simp at hwl)
   have hbe:=g9 hl2
   rw[hbe,hl]
   refine Calls.mono (H0 b.block b.off cap (l.map fun x=>(x.toNat:Int)) w (by simpa using hl) (fun x hx=>?_) (fun i hi=>(hl2.2 i _ (by rw[hws,List.getElem?_map,List.getElem?_eq_getElem (by omega)];simp[List.getD,show i<l.length by omega])).1)) ?_
   ·obtain⟨y,_,rfl⟩:=List.mem_map.1 hx
    have:=y.toNat_lt;omega
   rintro e w' ⟨rfl,rfl⟩
   refine⟨_,σ,rfl,?_,s,dR.refl _ _ _ _⟩
   unfold iA Rep
   exact⟨[_,_],rfl,aj.2 ⟨aq _ _,aj.2 ⟨aq _ _,az.2 rfl⟩⟩⟩
def Oo(l:List UInt8)(hl:l.length=8):ab prog 73 [sq aL l] (iA (i64 (Jk l)) (i64 0)):=GJ l hl RK
def aI5{m:bn}{at_:Int}(h0:0<=at_)(h1:at_+8<=m.b.length)(h2:wrap64 (at_+8)=at_+8):((m.b.take (IntKind.i64.wrap (at_+8)).toNat).drop at_.toNat).length=8:=by
 rw[bU,h2];simp;omega
def aJ3{m:bn}{at_:Int}(h0:0<=at_)(h1:at_+8<=m.b.length)(h2:wrap64 (at_+8)=at_+8):(m.b.take (IntKind.i64.wrap (at_+8)).toNat).drop at_.toNat=(m.b.drop at_.toNat).take 8:=by
 rw[bU,h2,List.drop_take];congr 1;omega
def ri(r:Int×Int):PV:=iA (i64 r.1) (i64 r.2)
@[simp] theorem Y7 (r : Int × Int) : aU (ri r) := by simp [ri]
def gH(m:bn)(at_:Int)(hm:m.b.length<=140737488355328)(ha:ae at_):ab prog 39 [jC m,i64 at_] (ri (am m at_)):=by
 have hF:cV m at_=0->0<=at_/\at_+8<=m.b.length/\wrap64 (at_+8)=at_+8:=fun h=>O0 m at_ h ha hm
 refine zY func39 fun B=>?_
 refine zu3 ?_
 refine Ws<|zp2 ?_
 refine zc rfl func72 ((Ag m at_ (by omega) ha) _) ?_
 refine zs1 ?_
 refine zu2 ?_
 refine Wi rfl (fun hi1=>?_) (fun hi1=>?_)
 ·refine zu3 ?_
  refine zR ?_
  simp_all[ri,am,iA,i64]
 have h0:cV m at_=0:=by simpa using hi1
 obtain⟨k0,k1,k2⟩:=hF h0
 refine Wj<|zp5 ?_
 refine z2 ?_ (q:=(by rw[bU,k2];omega))
 refine Wa 18 rfl (cM aL 1 (fun _=>rfl) (by rw[bU,k2];omega)) ?_
 refine zc rfl func73 ((Oo _ (aI5 k0 k1 k2)) _) ?_
 refine zs4 ?_
 refine zR ?_
 (rw[aJ3 k0 k1 k2];simp[ri,am,iA,i64,h0])
def oo:ab prog 98 [] (sq gR ao):=by
 refine zY func98 fun B=>?_
 refine zu1 ?_
 refine zp1 ?_
 refine Wa 1 rfl (bsL gR [_,_,_,_,_,_,_,_,_,_,_,_,_,_,_,_,_,_,_,_,_,_,_,_,_,_,_,_,_,_,_,_,_,_,_,_,_,_,_,_,_,_,_,_,_,_,_,_,_,_,_,_,_,_,_,_,_,_,_,_,_,_,_,_,_,_,_,_,_,_,_,_,_,_,_,_,_,_,_,_,_,_,_,_,_,_,_,_,_,_,_,_,_,_,_,_,_,_,_,_,_,_,_,_,_,_,_,_,_,_,_,_,_,_,_,_,_,_,_,_,_,_,_,_,_,_,_,_,_,_] rfl rfl) ?_
 refine zs1 ?_
 refine zR ?_
 exact rfl
@[simp] theorem Y6 (l : List tp) : aU (sqc mZ l) := lA yh l
@[simp] theorem an3 (l : List wi) : aU (sqc wB l) := lA CL l
@[simp] theorem al8 (l : List UInt8) : aU (sqc aL l) := lA oM l
@[simp] theorem an2 (l : List Int) : aU (sqc ap l) := lA DH l
def yo(l:List UInt8)(hl:l.length<=140737488355328):ab prog 172 [sq aL l] (sq aL l):=by
 refine zY func172 fun B=>?_
 refine zu1 ?_
 refine Ws<|zp1 ?_
 refine wX (lO tG rfl) rfl rfl rfl rfl rfl (fun bn1 hn1=>?_)
 refine Wn<|Wi rfl (fun hi1=>?_) (fun hi1=>?_)
 ·refine zu1 ?_
  refine zR ?_
  exact av5 (hn1 hi1)
 refine Wj<|zp2 ?_
 refine Wd rfl rfl (ce (lO tG rfl) rfl (lO tG rfl) (lO tG rfl) rfl rfl (by exact⟨_,rfl⟩) (by exact⟨rfl,rfl,al _ 1 (fun _=>rfl) _,bF _ (fun _=>rfl) _⟩) (by rfl) (by(dsimp only;omega)) (by(omega))) ?_
 refine Wa 7 rfl (yS aL) ?_
 refine zs1 ?_
 refine zR ?_
 rfl
def I3(l:List Int)(hl:l.length<=1000000):ab prog 201 [sq ap l] (sq ap l):=by
 refine zY func201 fun B=>?_
 refine zu1 ?_
 refine Ws<|zp1 ?_
 refine wX (lO tG rfl) rfl rfl rfl rfl rfl (fun bn1 hn1=>?_)
 refine Wn<|Wi rfl (fun hi1=>?_) (fun hi1=>?_)
 ·refine zu1 ?_
  refine zR ?_
  exact av5 (hn1 hi1)
 refine Wj<|zp2 ?_
 refine Wd rfl rfl (ce (lO tG rfl) rfl (lO tG rfl) (lO tG rfl) rfl rfl (by exact⟨_,rfl⟩) (by exact⟨rfl,rfl,al _ 1 (fun _=>rfl) _,bF _ (fun _=>rfl) _⟩) (by rfl) (by(dsimp only;omega)) (by(omega))) ?_
 refine Wa 7 rfl (yS ap) ?_
 refine zs1 ?_
 refine zR ?_
 rfl
def E3(l:List tp)(hl:l.length<=1000000):ab prog 171 [sq mZ l] (sqc mZ l):=by
 refine zY func171 fun B=>?_
 refine zu1 ?_
 refine zp5 ?_
 refine z2 ?_ (q:=(by(simp_all;done)))
 refine Wa 8 rfl (cM mZ 2 (fun _=>rfl) (by omega)) ?_
 refine zs1 ?_
 refine Wq ?_
 exact ow rfl (by simp[sqc];rfl)
def xu(l:List wi)(hl:l.length<=1000000):ab prog 384 [sq wB l] (sqc wB l):=by
 refine zY func384 fun B=>?_
 refine zu1 ?_
 refine zp5 ?_
 refine z2 ?_ (q:=(by(simp_all;done)))
 refine Wa 8 rfl (cM wB 6 (fun _=>rfl) (by omega)) ?_
 refine zs1 ?_
 refine Wq ?_
 exact ow rfl (by simp[sqc];rfl)
def La(l:List UInt8)(hl:l.length<=140737488355328):ab prog 221 [sq aL l] (sqc aL l):=by
 refine zY func221 fun B=>?_
 refine zu1 ?_
 refine zp5 ?_
 refine z2 ?_ (q:=(by(simp_all;done)))
 refine Wa 8 rfl (cM aL 1 (fun _=>rfl) (by omega)) ?_
 refine zs1 ?_
 refine Wq ?_
 exact ow rfl (by simp[sqc];rfl)
def t2i(r:Int×Int):PV:=iA (i64 r.1) (i64 r.2)
def t3i(r:Int×Int×Int):PV:=kg (i64 r.1) (i64 r.2.1) (i64 r.2.2)
@[simp] theorem av4 (r : Int × Int) : aU (t2i r) := by simp [t2i]
@[simp] theorem au0 (r : Int × Int × Int) : aU (t3i r) := by simp [t3i]
def ba.drewN(w:World)(n:Nat):ba w (w.drewN n):=by
 have e:w.drewN n={w with drawn:=w.drawn+n}:=rfl
 exact⟨rfl,rfl,rfl,Nat.le_refl _,fun b hb=>rfl⟩
def YA{P:Program}{f:FuncId}{args:List Value}{r:Int×Int}(h:∀w,Calls P f args.toArray w fun e w'=>e=.returned (.tuple #[.int .i64 r.1,.int .i64 r.2])/\ba w w'):ab P f (args.map .val) (t2i r) :=
 d9 (v:=.tuple #[.int .i64 r.1,.int .i64 r.2]) (fun c=>by unfold t2i iA Rep;exact⟨[_,_],rfl,aj.2 ⟨aq _ _,aj.2 ⟨aq _ _,az.2 rfl⟩⟩⟩) h
def L5{P:Program}{f:FuncId}{args:List Value}{r:Int×Int×Int}(h:∀w,Calls P f args.toArray w fun e w'=>e=.returned (.tuple #[.int .i64 r.1,.int .i64 r.2.1,.int .i64 r.2.2])/\ba w w'):ab P f (args.map .val) (t3i r) :=
 d9 (v:=.tuple #[.int .i64 r.1,.int .i64 r.2.1,.int .i64 r.2.2]) (fun c=>by unfold t3i kg Rep;exact⟨[_,_,_],rfl,aj.2 ⟨aq _ _,aj.2 ⟨aq _ _,aj.2 ⟨aq _ _,az.2 rfl⟩⟩⟩⟩) h
def ab6{P:Program}{f:FuncId}{args:List Value}{r:Bool}(h:∀w,Calls P f args.toArray w fun e w'=>e=.returned (.bool r)/\ba w w'):ab P f (args.map .val) (boo r) :=
 d9 (v:=.bool r) (fun c=>aq _ _) h
def ML{w:World}{v:Value}:∀{e:Ending} {w':World},(e=.returned v/\w=w')->(e=.returned v/\ba w w'):=by rintro e w' ⟨h,rfl⟩;exact⟨h,ba.refl _⟩
def Ms{w:World}{v:Value}:∀{e:Ending} {w':World},(e=.returned v/\∃n,w'=w.drewN n)->(e=.returned v/\ba w w'):=by rintro e w' ⟨h,n,rfl⟩;exact⟨h,ba.drewN _ _⟩
def Fl(a b:Int):ab prog 359 [i64 a,i64 b] (boo (decide (U a<U b))):=ab6 (args:=[.int .i64 a,.int .i64 b]) fun w=>Calls.mono (vf a b w) fun _ _ h=>ML h
def aa9(a b:Int):ab prog 284 [i64 a,i64 b] (t2i (s6 a b)):=YA (args:=[.int .i64 a,.int .i64 b]) fun w=>Calls.mono (qt a b w) fun _ _ h=>ML h
def Y4(a b:Int)(ha:Fit a)(hb:Fit b):ab prog 278 [i64 a,i64 b] (t2i (xD a b)):=YA (args:=[.int .i64 a,.int .i64 b]) fun w=>Calls.mono (Ri a b w ha hb) fun _ _ h=>ML h
def RF(a b:Int)(hb:Fit b):ab prog 272 [i64 a,i64 b] (t3i (nG a b)):=L5 (args:=[.int .i64 a,.int .i64 b]) fun w=>Calls.mono (PL a b w hb) fun _ _ h=>Ms h
def JJ(lo hi d:Int):ab prog 287 [i64 lo,i64 hi,i64 d] (t3i (iH lo hi d)):=L5 (args:=[.int .i64 lo,.int .i64 hi,.int .i64 d]) fun w=>Calls.mono (Cp lo hi d w) fun _ _ h=>Ms h
def ad6(lo hi d:Int)(hh:Fit hi)(hd:Fit d):ab prog 289 [i64 lo,i64 hi,i64 d] (t3i (lD lo hi d)):=L5 (args:=[.int .i64 lo,.int .i64 hi,.int .i64 d]) fun w=>Calls.mono (Ny lo hi d w hh hd) fun _ _ h=>Ms h
def Qv(lo hi d:Int)(hh:Fit hi)(hd:Fit d):ab prog 279 [i64 lo,i64 hi,i64 d] (t3i (jL lo hi d)):=L5 (args:=[.int .i64 lo,.int .i64 hi,.int .i64 d]) fun w=>Calls.mono (Of lo hi d w hh hd) fun _ _ h=>Ms h
end Go.Proofs.YtjcminooghmpeaaGreatDoor
namespace Go.Proofs.YtjcminooghmpeaaGreatDoor
open Go.ChangeShapes Go.WideShapes Go.ChangeAt Go.RowKit
open Go.ChangeMaps (open_string)
def YV(w:World)(t:TypeId)(v:Value):Prop:=∃(H:Type) (enc:TypeId×Value->H) (d:DataW H) (p:List MemPlace) (base:Nat),Value.okWide prog w .any base t v/\DataW.Trod enc prog w 0 (fun _=>true) true t v d p
def O9{w:World}{t:TypeId}{v:Value}{k:IntKind}(ht:prog.underlying t=some (.int k))(h:YV w t v):∃n,v=.int k n/\(Lit.int k n).wf=true:=by
 obtain⟨H,enc,d,p,base,hv,hd⟩:=h
 obtain⟨n,hn,_,_,hw⟩:=open_int ht hv hd
 exact⟨n,hn,hw⟩
def ad2{n:Int}(h:(Lit.int .i64 n).wf=true): -9223372036854775808<=n/\n<=9223372036854775807:=by
 have:=h;simp[Lit.wf,IntKind.min,IntKind.max,IntKind.bits,IntKind.signed]at this;omega
open Go.RowKit
def c0(w:World):Cx:=cx (fun _ _=>False) [] (fun _=>none) w
def Oa(n:Nat)(h0:0<n)(hn:n<=1000000)(w:World):Calls prog 252 #[.slice none 0 0,.int .i64 n] w fun e w' =>
  ∃cs:Array Value,e=.returned (.slice (some ⟨w.heap.size,0,none⟩) 0 (grownCap w n 0 3))/\w'=w.drew.alloc (.cells cs 3)/\grownCap w n 0 3<=cs.size:=by
 have h1:¬((n:Int)<0):=by omega
 have h3:wrap64 ((n:Int)-0)=(n:Int):=by unfold wrap64;omega
 have h4:(n:Int)>0:=by omega
 have fe:an prog 3 ⟨1,8,[.val (.int .i64 0)],.int .i64⟩:=lO (G:=tys) tG rfl
 have fs:an prog 29 ⟨1,24,[.seq 0 [] .clip],.slice 3⟩:=lO (G:=tys) tG rfl
 obtain⟨i,z,hi,hsz,hby,hz,hzr⟩:=fe.info
 have hr:=fun ty=>Lib.run_append_nil_zeros (P:=prog) w 29 3 ty 3 i z .i64 .i64 (fs.slice rfl) (by kernel_rfl) hi hz n h0 (by rw[hsz];exact Nat.one_pos) (by omega) (by rw[hby];show n*8<=_;omega)
 have hGn:n<=grownCap w n 0 3:=grownCap_ge w _ _ _
 have hzl:z.cells.size=1:=by have:=au.length (hzr (c0 w));rw[Array.length_toList]at this;rw[this];rfl
 have hG63:grownCap w n 0 3<=9223372036854775807:=by
  have:=grownCap_le_maxLen w n 0 3 (by unfold maxLen;omega)
  unfold maxLen at this
  omega
 obtain⟨G,hG⟩:∃G,G=grownCap w n 0 3:=⟨_,rfl⟩
 rw[<-hG]at hr hGn hG63 ⊢
 have hcs:∀q:Array Value,q.size=1->G<=(Builtin.zeroCells q n++Builtin.zeroCells q (G-n)).size:=by
  intro q hq
  rw[Array.size_append,size_zeroCells,size_zeroCells,hq];omega
 clear hG
 go_enter func252,ntmps252
 go_wp2_with (at_builtin;refine Lib.wpList_append_run _ rfl _ _ _ _ rfl _ _ rfl rfl _ _ (hr _) ?_)
 all_goals (go_ret;exact⟨rfl,_,rfl,hcs _ (by first|exact hzl|rfl)⟩)
def NP(w:World):Calls prog 252 #[.slice none 0 0,.int .i64 0] w fun e w'=>e=.returned (.slice none 0 0)/\w'=w:=by
 go_enter func252,ntmps252
 go_wp2
 go_ret
 exact⟨rfl,rfl⟩
def Nf{B:Nat->Nat->Prop}{o:Oper}{T:Nat->PV}{H:List Ob}{x:Operand}{ats:Array TypeId}{n:Nat}(ho:o.op=.call {callee:=.value (.func 252),args:=#[.const (.slice none 0 0),x],argTypes:=ats})(hx:opv T x=.val (.int .i64 (n:Int)))(hn:n<=1000000):
  js prog B o T H (.seq 0 [] (.own H.length 1)) (H++[.free 0]):=by
 intro σ w a s ha
 have k1:=ha x (by rw[ho];simp[Op.operands,Call.operands])
 rw[hx]at k1
 unfold Rep at k1
 refine⟨252,#[.slice none 0 0,.int .i64 n],?_,?_⟩
 ·unfold execOp
  simp only[ho,resolve,Act.eval,Deferred.ofValue,invoke,Sem.run_bind,Sem.run_pure,Result.andThen_ok]
  rw[mP func252 rfl rfl]
  have hev:a.eval x=.int .i64 n:=k1
  simp[Act.eval]at hev ⊢
  exact hev
 by_cases h0:n=0
 ·subst h0
  refine Calls.mono (NP w) ?_
  rintro e w' ⟨rfl,rfl⟩
  obtain⟨s',st⟩:=fq s (ba.refl w') (.free 0) none (fun b hb=>by cases hb) (fun b hb=>by simp only[cx]at hb;rw[bA]at hb;cases hb)
  refine⟨_,_,rfl,?_,s',st⟩
  unfold Rep
  exact⟨none,0,[],rfl,Nat.le_refl _,fun _=>⟨rfl,rfl,rfl⟩,az.2 rfl,(fun b h=>by cases h),by simp[cx],rfl,.inl rfl⟩
 refine Calls.mono (Oa n (by omega) hn w) ?_
 rintro e w' ⟨cs,rfl,rfl,hcs⟩
 have gr:ba w (w.drew.alloc (.cells cs 3)):=(ba.drew w).trans (ba.alloc _ _)
 have hheap:(w.drew.alloc (.cells cs 3)).heap[w.heap.size]?=some (Obj.cells cs 3 (0,0)):=by
  show(w.heap.push _)[w.heap.size]?=_;simp
 obtain⟨s',st⟩:=fq s gr (.free 0) (some w.heap.size) (fun b hb=>by cases hb;exact Nat.le_refl _) (fun b hb=>by
  simp only[cx]at hb;rw[bA]at hb;cases hb
  exact⟨_,3,hheap,Nat.zero_le _⟩)
 refine⟨_,_,rfl,sk (vs:=[]) (az.2 rfl) (by simp) (bA _ _ _) hheap rfl (Nat.zero_le _) (by rw[Nat.mul_one];exact hcs) (fun j hj=>by simp at hj) (fun off hoff=>by simp at hoff),s',st⟩
def B8(l:List Int):List PV:=[sq ap l]
@[simp] theorem NG (x : List Int) : aw (B8 x) := by simp [B8, aw]
@[simp] theorem ao7 (l : List (List Int)) : aU (sq B8 l) := gW NG l
def aI6{a b:Nat}(ha:a<=500000)(hb:b<=500000):PV.val (.int .i64 (IntKind.i64.wrap (IntKind.i64.wrap (0+(a:Int))+(b:Int))))=.val (.int .i64 ((a+b:Nat):Int)) :=
 congrArg (fun z=>PV.val (Value.int .i64 z)) (by simp only[bU];unfold wrap64;omega)
def L4(a b:List Int)(ha:a.length<=500000)(hb:b.length<=500000):ab prog 202 [sq B8 [a,b]] (sq ap (a++b)):=by
 refine zY func202 fun B=>?_
 refine zu1 ?_
 refine zu1 ?_
 refine Ws<|zu3 ?_
 refine Wl<|jY 3 ?_
 show W _ _ _ _ _ _ _
 refine zu1 ?_
 refine Ws<|Wt rfl (by rfl) ?_
 refine Wj<|Ws<|Wl<|z8 ?_
 refine Wv tG rfl rfl rfl (by(simp_all;done)) (iN B8 1 (fun _=>rfl) [] (by(simp_all;done))) ?_
 refine z1 ?_
 refine Wa 14 rfl (show _=sq ap a from rfl) ?_
 refine zs1 ?_
 refine zu5 ?_
 refine zu2 ?_
 refine Wf rfl (by(simp only[bU,decide_eq_false_iff_not];unfold wrap64;omega)) ?_
 refine Wj<|aa rfl ?_
 refine z1 ?_
 refine Wa 22 rfl (show _=PV.val (.int .i64 1) from rfl) ?_
 refine zs1 ?_
 show W _ _ _ _ _ _ _
 refine zu1 ?_
 refine Ws<|Wt rfl (by rfl) ?_
 refine Wj<|Ws<|Wl<|z8 ?_
 refine Wv tG rfl rfl rfl (by(simp_all;done)) (iN B8 1 (fun _=>rfl) [] (by(simp_all;done))) ?_
 refine z1 ?_
 refine Wa 14 rfl (show _=sq ap b from rfl) ?_
 refine zs1 ?_
 refine zu5 ?_
 refine zu2 ?_
 refine Wf rfl (by(simp only[bU,decide_eq_false_iff_not];unfold wrap64;omega)) ?_
 refine Wj<|aa rfl ?_
 refine z1 ?_
 refine Wa 22 rfl (show _=PV.val (.int .i64 2) from rfl) ?_
 refine zs1 ?_
 show W _ _ _ _ _ _ _
 refine zu1 ?_
 refine Ws<|Wf rfl (by rfl) ?_
 refine bi ?_
 refine zp1 ?_
 refine Wa 23 rfl (aI6 ha hb) ?_
 refine Wc rfl rfl (Nf rfl rfl (by omega)) ?_
 refine zs1 ?_
 refine Ws<|zu3 ?_
 refine Wl<|jY 3 ?_
 show W _ _ _ _ _ _ _
 refine zu1 ?_
 refine Ws<|Wt rfl (by rfl) ?_
 refine Wj<|Ws<|Wl<|z8 ?_
 refine Wv tG rfl rfl rfl (by(simp_all;done)) (iN B8 1 (fun _=>rfl) [] (by(simp_all;done))) ?_
 refine z1 ?_
 refine Wa 30 rfl (show _=sq ap a from rfl) ?_
 refine zs1 ?_
 refine aa rfl ?_
 refine zy2 ?_
 refine Wd rfl rfl (fw (lO tG rfl) rfl (lO tG rfl) (lO tG rfl) rfl rfl rfl rfl (by simp) (by exact⟨_,rfl⟩) (by exact⟨rfl,rfl,al _ 1 (fun _=>rfl) _,bF _ (fun _=>rfl) _⟩) (by(dsimp only;omega)) (by(omega))) ?_
 refine Wa 33 rfl (yS ap) ?_
 refine zs1 ?_
 refine aa rfl ?_
 refine z1 ?_
 refine Wa 34 rfl (show _=PV.val (.int .i64 1) from rfl) ?_
 refine zs1 ?_
 show W _ _ _ _ _ _ _
 refine zu1 ?_
 refine Ws<|Wt rfl (by rfl) ?_
 refine Wj<|Ws<|Wl<|z8 ?_
 refine Wv tG rfl rfl rfl (by(simp_all;done)) (iN B8 1 (fun _=>rfl) [] (by(simp_all;done))) ?_
 refine z1 ?_
 refine Wa 30 rfl (show _=sq ap b from rfl) ?_
 refine zs1 ?_
 refine aa rfl ?_
 refine zy2 ?_
 refine Wd rfl rfl (fw (lO tG rfl) rfl (lO tG rfl) (lO tG rfl) rfl rfl rfl rfl (by simp) (by exact⟨_,rfl⟩) (by exact⟨rfl,rfl,al _ 1 (fun _=>rfl) _,bF _ (fun _=>rfl) _⟩) (by(dsimp only;omega)) (by(omega))) ?_
 refine Wa 33 rfl (cz ap) ?_
 refine zs1 ?_
 refine aa rfl ?_
 refine z1 ?_
 refine Wa 34 rfl (show _=PV.val (.int .i64 2) from rfl) ?_
 refine zs1 ?_
 show W _ _ _ _ _ _ _
 refine zu1 ?_
 refine Ws<|Wf rfl (by rfl) ?_
 refine bi ?_
 refine zu2 ?_
 refine zR ?_
 rfl
def NY{α:Type}{a b:List α}{k:Nat}(d:α)(hl:a.length=b.length)(hk:k<a.length)(h:a.take k=b.take k)(he:a.getD k d=b.getD k d):a.take (k+1)=b.take (k+1):=by
 rw[ki a k d hk,ki b k d (by omega),h,he]
def SV{α:Type}{a b:List α}{k:Nat}(d:α)(he:a.getD k d≠b.getD k d):a≠b:=fun h=>he (by rw[h])
def NK(a b:List Int)(ha:a.length<=1000000)(hb:b.length<=1000000):ab prog 20 [sq ap a,sq ap b] (boo (decide (a=b))):=by
 refine zY func20 fun B=>?_
 refine zu1 ?_
 refine Ws<|zu5 ?_
 refine Wi rfl (fun hi1=>?_) (fun hi1=>?_)
 ·have hne:a≠b:=fun h=>by subst h;simp at hi1
  refine zu1 ?_
  refine zR ?_
  exact congrArg boo (decide_eq_false hne).symm
 have hl:a.length=b.length:=by(try simp only[dnL]at *);omega
 refine Wj<|Ws<|zu1 ?_
 refine Wl ?_
 show W _ _ _ _ _ _ _
 refine gz (fun(k:Nat)=>[(0,sq ap a),(1,sq ap b),(5,i64 k)]) (fun(k:Nat)=>[]) (fun(k:Nat)=>[]) (fun(k:Nat)=>k<=a.length/\a.take k=b.take k) (fun(k:Nat)=>a.length-k) (0) (by simp) [] ?_ ?_
 ·exact fM
 intro k hk
 refine Ws<|zu4 ?_
 refine Wi rfl (fun hi2=>?_) (fun hi2=>?_)
 ·have hlt:k<a.length:=by have:=oT hi2;omega
  refine Wj<|Ws<|Wl<|Ws<|ax [0,0,0,1,0,0,0,1,0] [0,1,2,3,4,5,6,7,8] mG rfl (by kernel_rfl) ?_
  iterate 2 refine z3 ?_
  refine Xi tG rfl rfl rfl rfl (fun _=>rfl) (by omega) (iN ap 1 (fun _=>rfl) 0 (by omega)) ?_
  refine z5 ?_
  iterate 2 refine z3 ?_
  refine Xi tG rfl rfl rfl rfl (fun _=>rfl) (by omega) (iN ap 1 (fun _=>rfl) 0 (by omega)) ?_
  refine z5 ?_
  refine z3 ?_
  refine aQ ?_
  refine Wi rfl (fun hi3=>?_) (fun hi3=>?_)
  ·have hne:a≠b:=SV 0 (k:=k) (by simpa using hi3)
   refine zu1 ?_
   refine zR ?_
   exact congrArg boo (decide_eq_false hne).symm
  have he:a.getD k 0=b.getD k 0:=by simpa using hi3
  refine Wj<|aa rfl ?_
  refine zs3 ?_
  exact⟨k+1,[],(by exact⟨by omega,NY 0 hl hlt hk.2 he⟩),(by omega),fM⟩
 have hge:a.length<=k:=by have:=oF hi2;omega
 refine bi ?_
 refine zu1 ?_
 refine zR ?_
 exact congrArg boo (decide_eq_true (by have h1:=hk.2;rw[px a k hge,px b k (by omega)]at h1;exact h1)).symm
def eO(c:oc):Prop:=2048<=c.mem/\c.mem<=65536/\c.mem.tmod 8=0/\1<=c.data/\c.data<=256/\1<=c.ret/\c.ret<=256/\200<=c.words/\c.words<=1024/\0<=c.out/\c.out<=65536
instance (c:oc):Decidable (eO c):=by unfold eO;infer_instance
def Th(c:oc):ab prog 46 [Ll c] (boo (decide (eO c))):=by
 refine zY func46 fun B=>?_
 refine zu2 ?_
 refine zp4 ?_
 refine Wb 6 rfl (fun hg1=>?_) (fun hg1=>?_)
 ·refine zy5 ?_
  refine Wb 11 rfl (fun hg2=>?_) (fun hg2=>?_)
  ·refine zy5 ?_
   refine z1 ?_
   refine Wb 17 rfl (fun hg3=>?_) (fun hg3=>?_)
   ·refine zy5 ?_
    refine Wb 22 rfl (fun hg4=>?_) (fun hg4=>?_)
    ·refine zy5 ?_
     refine Wb 27 rfl (fun hg5=>?_) (fun hg5=>?_)
     ·refine zy5 ?_
      refine Wb 32 rfl (fun hg6=>?_) (fun hg6=>?_)
      ·refine zy5 ?_
       refine Wb 37 rfl (fun hg7=>?_) (fun hg7=>?_)
       ·refine zy5 ?_
        refine Wb 42 rfl (fun hg8=>?_) (fun hg8=>?_)
        ·refine zy5 ?_
         refine Wb 47 rfl (fun hg9=>?_) (fun hg9=>?_)
         ·refine zy5 ?_
          refine Wb 52 rfl (fun hg10=>?_) (fun hg10=>?_)
          ·refine zs5 ?_
           refine zR ?_
           (refine congrArg boo (decide_eq_decide.2 ?_);unfold eO;(try simp only[dnL]at *);omega)
          refine z6 ?_
          iterate 2 refine z6 ?_
          refine zs2 ?_
          refine zR ?_
          (refine congrArg boo (decide_eq_false ?_).symm;unfold eO;(try simp only[dnL]at *);omega)
         refine z6 ?_
         iterate 2 refine z6 ?_
         refine zy2 ?_
         iterate 3 refine z6 ?_
         refine zs2 ?_
         refine zR ?_
         (refine congrArg boo (decide_eq_false ?_).symm;unfold eO;(try simp only[dnL]at *);omega)
        refine z6 ?_
        iterate 2 refine z6 ?_
        refine zy2 ?_
        iterate 3 refine z6 ?_
        refine zy2 ?_
        iterate 3 refine z6 ?_
        refine zs2 ?_
        refine zR ?_
        (refine congrArg boo (decide_eq_false ?_).symm;unfold eO;(try simp only[dnL]at *);omega)
       refine z6 ?_
       iterate 2 refine z6 ?_
       refine zy2 ?_
       iterate 3 refine z6 ?_
       refine zy2 ?_
       iterate 3 refine z6 ?_
       refine zy2 ?_
       iterate 3 refine z6 ?_
       refine zs2 ?_
       refine zR ?_
       (refine congrArg boo (decide_eq_false ?_).symm;unfold eO;(try simp only[dnL]at *);omega)
      refine z6 ?_
      iterate 2 refine z6 ?_
      refine zy2 ?_
      iterate 3 refine z6 ?_
      refine zy2 ?_
      iterate 3 refine z6 ?_
      refine zy2 ?_
      iterate 3 refine z6 ?_
      refine zy2 ?_
      iterate 3 refine z6 ?_
      refine zs2 ?_
      refine zR ?_
      (refine congrArg boo (decide_eq_false ?_).symm;unfold eO;(try simp only[dnL]at *);omega)
     refine z6 ?_
     iterate 2 refine z6 ?_
     refine zy2 ?_
     iterate 3 refine z6 ?_
     refine zy2 ?_
     iterate 3 refine z6 ?_
     refine zy2 ?_
     iterate 3 refine z6 ?_
     refine zy2 ?_
     iterate 3 refine z6 ?_
     refine zy2 ?_
     iterate 3 refine z6 ?_
     refine zs2 ?_
     refine zR ?_
     (refine congrArg boo (decide_eq_false ?_).symm;unfold eO;(try simp only[dnL]at *);omega)
    refine z6 ?_
    iterate 2 refine z6 ?_
    refine zy2 ?_
    iterate 3 refine z6 ?_
    refine zy2 ?_
    iterate 3 refine z6 ?_
    refine zy2 ?_
    iterate 3 refine z6 ?_
    refine zy2 ?_
    iterate 3 refine z6 ?_
    refine zy2 ?_
    iterate 3 refine z6 ?_
    refine zy2 ?_
    iterate 3 refine z6 ?_
    refine zs2 ?_
    refine zR ?_
    (refine congrArg boo (decide_eq_false ?_).symm;unfold eO;(try simp only[dnL]at *);omega)
   refine z6 ?_
   iterate 2 refine z6 ?_
   refine zy2 ?_
   iterate 3 refine z6 ?_
   refine zy2 ?_
   iterate 3 refine z6 ?_
   refine zy2 ?_
   iterate 3 refine z6 ?_
   refine zy2 ?_
   iterate 3 refine z6 ?_
   refine zy2 ?_
   iterate 3 refine z6 ?_
   refine zy2 ?_
   iterate 3 refine z6 ?_
   refine zy2 ?_
   iterate 3 refine z6 ?_
   refine zs2 ?_
   refine zR ?_
   (refine congrArg boo (decide_eq_false ?_).symm;unfold eO;(try simp only[dnL]at *);omega)
  refine z6 ?_
  iterate 3 refine z6 ?_
  refine zy2 ?_
  iterate 3 refine z6 ?_
  refine zy2 ?_
  iterate 3 refine z6 ?_
  refine zy2 ?_
  iterate 3 refine z6 ?_
  refine zy2 ?_
  iterate 3 refine z6 ?_
  refine zy2 ?_
  iterate 3 refine z6 ?_
  refine zy2 ?_
  iterate 3 refine z6 ?_
  refine zy2 ?_
  iterate 3 refine z6 ?_
  refine zy2 ?_
  iterate 3 refine z6 ?_
  refine zs2 ?_
  refine zR ?_
  (refine congrArg boo (decide_eq_false ?_).symm;unfold eO;(try simp only[dnL]at *);omega)
 refine z6 ?_
 iterate 2 refine z6 ?_
 refine zy2 ?_
 iterate 4 refine z6 ?_
 refine zy2 ?_
 iterate 3 refine z6 ?_
 refine zy2 ?_
 iterate 3 refine z6 ?_
 refine zy2 ?_
 iterate 3 refine z6 ?_
 refine zy2 ?_
 iterate 3 refine z6 ?_
 refine zy2 ?_
 iterate 3 refine z6 ?_
 refine zy2 ?_
 iterate 3 refine z6 ?_
 refine zy2 ?_
 iterate 3 refine z6 ?_
 refine zy2 ?_
 iterate 3 refine z6 ?_
 refine zs2 ?_
 refine zR ?_
 (refine congrArg boo (decide_eq_false ?_).symm;unfold eO;(try simp only[dnL]at *);omega)
def eK(p:d8):Prop:=p.b.length<=130/\(p.on=true\/p.b.length=0)
instance (p:d8):Decidable (eK p):=by unfold eK;infer_instance
def mj(m:bn):Bool:=m.old.all (fun p=>bt m p.place p.old.length)&&(decide (m.b.length<=65536)&&decide (m.b.length%8=0))
def T0{α:Type}{f:α->Bool}{l:List α}{k:Nat}(d:α)(hk:k<l.length)(h:(l.take k).all f=true)(hf:f (l.getD k d)=true):(l.take (k+1)).all f=true:=by
 rw[ki l k d hk,List.all_append,h];simp only[List.all_cons,List.all_nil,hf];rfl
def S1{α:Type}{l:List α}{k:Nat}(d:α)(hk:k<l.length):l.getD k d∈l:=by
 unfold List.getD
 rw[List.getElem?_eq_getElem hk]
 exact List.getElem_mem hk
def Cg:ab prog 47 [] (sq gR ao):=by
 refine zY func47 fun B=>?_
 refine zu1 ?_
 refine zp1 ?_
 refine Wa 1 rfl (bsL gR [_,_,_,_,_,_,_,_,_,_,_,_,_,_,_,_,_,_,_,_,_,_,_,_,_,_,_,_,_,_,_,_,_,_,_,_,_,_,_,_,_,_,_,_,_,_,_,_,_,_,_,_,_,_,_,_,_,_,_,_,_,_,_,_,_,_,_,_,_,_,_,_,_,_,_,_,_,_,_,_,_,_,_,_,_,_,_,_,_,_,_,_,_,_,_,_,_,_,_,_,_,_,_,_,_,_,_,_,_,_,_,_,_,_,_,_,_,_,_,_,_,_,_,_,_,_,_,_,_,_] rfl rfl) ?_
 refine zs1 ?_
 refine zR ?_
 exact rfl
def fh:ab prog 71 [] (sq gR cv):=by
 refine zY func71 fun B=>?_
 refine zu1 ?_
 refine zp1 ?_
 refine Wa 1 rfl (bsL gR [_,_,_,_,_,_,_,_,_,_,_,_,_,_,_,_,_,_,_,_,_,_,_,_,_,_,_,_,_,_,_,_,_,_,_,_,_] rfl rfl) ?_
 refine zs1 ?_
 refine zR ?_
 exact rfl
def DV:ab prog 48 [] (sq gR cv):=by
 refine zY func48 fun B=>?_
 refine zu1 ?_
 refine zp1 ?_
 refine Wa 1 rfl (bsL gR [_,_,_,_,_,_,_,_,_,_,_,_,_,_,_,_,_,_,_,_,_,_,_,_,_,_,_,_,_,_,_,_,_,_,_,_,_] rfl rfl) ?_
 refine zs1 ?_
 refine zR ?_
 exact rfl
def xm(n lo hi:Int):ab prog 97 [i64 n,i64 lo,i64 hi] (boo (decide (lo<=n/\n<=hi))):=by
 refine zY func97 fun B=>?_
 refine zu1 ?_
 refine zp4 ?_
 refine Wb 10 rfl (fun hg1=>?_) (fun hg1=>?_)
 ·refine zs5 ?_
  refine zR ?_
  (refine congrArg boo (decide_eq_decide.2 ?_);(try simp only[dnL]at *);omega)
 refine z6 ?_
 iterate 2 refine z6 ?_
 refine zs2 ?_
 refine zR ?_
 (refine congrArg boo (decide_eq_false ?_).symm;(try simp only[dnL]at *);omega)
def Au:ab prog 218 [] (i64 1368):=by
 have h1:=lI
 have h2:=iF
 refine zY func218 fun B=>?_
 refine zu1 ?_
 refine z8 ?_
 refine zc rfl func98 ((oo) _) ?_
 refine z1 ?_
 refine zc rfl func71 ((fh) _) ?_
 refine zs5 ?_
 refine zR ?_
 refine congrArg i64 ?_;rw[h1,h2];decide
def i8(v:VVm)(s:Str):VVm×Int:=if (s.length:Int)>v.conf.out-v.out.length then(v,-260)else({v with out:=v.out++s},0)
def tVm(r:VVm×Int):PV:=iA (eVm r.1) (i64 r.2)
@[simp] theorem ar2 (r : VVm × Int) : aU (tVm r) := by simp [tVm]
def BJ{l m:Str}{k:SK}:PV.seq (l.length+(⟨m.toArray⟩:ByteArray).size) (l.flatMap aL++(⟨m.toArray⟩:ByteArray).data.toList.map fun b=>kx b.toNat) k=.seq (l++m).length ((l++m).flatMap aL) k:=by
 have h:(⟨m.toArray⟩:ByteArray).data.toList.map (fun b=>kx b.toNat)=m.flatMap aL:=by rw[kD,List.map_map];rfl
 rw[ew,h,<-List.flatMap_append,List.length_append]
def If(v:VVm)(s:Str)(hc:0<=v.conf.out/\v.conf.out<=1000000)(ho:v.out.length<=1000000)(hs:s.length<=140737488355328):ab prog 190 [eVm v,str s] (tVm (i8 v s)):=by
 have w1:IntKind.i64.wrap (v.conf.out-v.out.length)=v.conf.out-v.out.length:=by((rw[bU];unfold wrap64;(try simp only[dnL]at *);omega))
 refine zY func190 fun B=>?_
 refine zu3 ?_
 refine Ws<|zp2 ?_
 refine Wa 7 rfl (gJ _) ?_
 refine zy5 ?_
 refine zs3 ?_
 refine Wi rfl (fun hi1=>?_) (fun hi1=>?_)
 ·have h0:(s.length:Int)>v.conf.out-v.out.length:=by(try simp only[dnL]at *);omega
  refine zu3 ?_
  refine zR ?_
  rw[i8,if_pos h0];rfl
 have h0:¬(s.length:Int)>v.conf.out-v.out.length:=by(try simp only[dnL]at *);omega
 have h1:(⟨s.toArray⟩:ByteArray).size=s.length:=ew s
 refine Wj<|zp2 ?_
 refine zc rfl func221 ((La v.out (by omega)) _) ?_
 refine z1 ?_
 refine Wd rfl rfl (ce (lO tG rfl) rfl (lO tG rfl) (lO tG rfl) rfl rfl (by rfl) (by exact⟨rfl,rfl,rfl⟩) (by exact al _ 1 (fun _=>rfl) _) (by(dsimp only;omega)) (by(omega))) ?_
 refine Wa 21 rfl (BJ) ?_
 refine zs2 ?_
 refine zu3 ?_
 refine zR ?_
 rw[i8,if_neg h0];rfl
def gi(n:Int):Prop:=(0<=n/\n<=129)\/(256<=n/\n<=260)\/(300<=n/\n<=336)
instance (n:Int):Decidable (gi n):=by unfold gi;infer_instance
def av(v:VVm)(xt:Int):Int×Int:=if (am v.mem xt).2=0 then(if gi (am v.mem xt).1 then((am v.mem xt).1,0)else(0,-9))else(0,(am v.mem xt).2)
def qW(v:VVm)(xt:Int)(hm:v.mem.b.length<=140737488355328)(hx:ae xt):ab prog 67 [eVm v,i64 xt] (ri (av v xt)):=by
 have h1:=lI
 have h2:=iF
 refine zY func67 fun B=>?_
 refine zu3 ?_
 refine zp3 ?_
 refine zc rfl func39 ((gH v.mem xt hm hx) _) ?_
 refine zs5 ?_
 refine Ws<|zu2 ?_
 refine Wi rfl (fun hi1=>?_) (fun hi1=>?_)
 ·have h0:¬(am v.mem xt).2=0:=by simpa using hi1
  refine zu3 ?_
  refine zR ?_
  rw[av,if_neg h0];rfl
 have h0:(am v.mem xt).2=0:=by simpa using hi1
 have w1:IntKind.i64.wrap (IntKind.i64.wrap (300+(cv.length:Int))-1)=336:=by rw[h2];decide
 have w2:IntKind.i64.wrap ((ao.length:Int)-1)=129:=by rw[h1];decide
 refine Wj<|Ws<|zp1 ?_
 refine zc rfl func98 ((oo) _) ?_
 refine zy2 ?_
 refine zc rfl func97 ((xm _ _ _) _) ?_
 refine z1 ?_
 refine Wb 23 rfl (fun hg1=>?_) (fun hg1=>?_)
 ·refine z6 ?_
  refine z6 ?_
  refine zy2 ?_
  iterate 6 refine z6 ?_
  refine zs1 ?_
  refine Wt rfl rfl ?_
  refine zu3 ?_
  refine zR ?_
  (rw[av,if_pos h0,if_pos (by unfold gi;(try simp only[dnL]at *);omega)];rfl)
 refine z1 ?_
 refine zc rfl func97 ((xm _ _ _) _) ?_
 refine zy2 ?_
 refine Wb 27 rfl (fun hg2=>?_) (fun hg2=>?_)
 ·refine z6 ?_
  iterate 5 refine z6 ?_
  refine zs1 ?_
  refine Wt rfl rfl ?_
  refine zu3 ?_
  refine zR ?_
  (rw[av,if_pos h0,if_pos (by unfold gi;(try simp only[dnL]at *);omega)];rfl)
 refine z1 ?_
 refine zc rfl func71 ((fh) _) ?_
 refine zy3 ?_
 refine zc rfl func97 ((xm _ _ _) _) ?_
 refine zs1 ?_
 refine Wi rfl (fun hi2=>?_) (fun hi2=>?_)
 ·refine zu3 ?_
  refine zR ?_
  (rw[av,if_pos h0,if_pos (by unfold gi;(try simp only[dnL]at *);omega)];rfl)
 refine Wj<|zu2 ?_
 refine zR ?_
 (rw[av,if_pos h0,if_neg (by unfold gi;(try simp only[dnL]at *);omega)];rfl)
def upC(c:UInt8):UInt8:=if 97<=c.toNat/\c.toNat<=122 then c-32 else c
def Ht(l:Str):Str:=l.map upC
def YN(a b:Str):Bool:=decide (Ht a=Ht b)
def Xt{c:UInt8}(h:97<=c.toNat/\c.toNat<=122):IntKind.u8.wrap ((c.toNat:Int)-32)=((upC c).toNat:Int):=by
 unfold upC
 rw[if_pos h,UInt8.toNat_sub]
 simp[IntKind.wrap,IntKind.bits,IntKind.signed]
 omega
def I4{c:UInt8}(h:¬(97<=c.toNat/\c.toNat<=122)):upC c=c:=by unfold upC;rw[if_neg h]
def Sv(l:List UInt8)(k:Nat)(hk:k<l.length)(H:List Ob)(i:Nat)(hi:H[i]?=some (.cells (l.flatMap aL) 5)):HC prog 126 [.ptr i k] H (.tup []) (H.set i (.cells ((l.set k (upC (l.getD k 0))).flatMap aL) 5)):=by
 revert hi
 revert i H
 refine ju (off:=k) tG (rs:=[]) func126 rfl rfl rfl (by simp) (by simp) (bv oM _) (bv oM _) (fun B=>?_)
 refine zp2 ?_
 refine Wd rfl rfl (bD (lO tG rfl) rfl rfl rfl (EK rfl hk)) ?_
 refine zy2 ?_
 refine Wb 6 rfl (fun hg1=>?_) (fun hg1=>?_)
 ·refine zy2 ?_
  refine Wd rfl rfl (bD (lO tG rfl) rfl rfl rfl (EK rfl hk)) ?_
  refine zs2 ?_
  refine Wi rfl (fun hi1=>?_) (fun hi1=>?_)
  ·refine aa rfl ?_
   refine zy2 ?_
   refine Wd rfl rfl (bD (lO tG rfl) rfl rfl rfl (EK rfl hk)) ?_
   refine z1 ?_
   refine Wa 15 rfl (congrArg (fun z=>PV.val (Value.int .u8 z)) (Xt (c:=l.getD k 0) (by simp only[decide_eq_true_eq]at *;omega))) ?_
   refine z1 ?_
   refine Wd rfl rfl (bO (lO tG rfl) rfl rfl rfl rfl rfl rfl (by rw[Nat.ble_eq,al aL 1 (fun _=>rfl)];simp;omega)) ?_
   refine jM (H':=[.cells ((l.set k (upC (l.getD k 0))).flatMap aL) 5]) (by rw[<-yn hk];rfl) ?_
   refine Wn<|bj rfl rfl ?_ ?_
   ·rfl
   rfl
  refine Wj<|bj rfl rfl ?_ ?_
  ·rfl
  (rw[I4 (by simp only[decide_eq_true_eq,decide_eq_false_iff_not]at *;omega)];congr 1;simp[List.getD,hk])
 refine z6 ?_
 iterate 3 refine z6 ?_
 refine zs1 ?_
 refine Wf rfl rfl ?_
 refine Wj<|bj rfl rfl ?_ ?_
 ·rfl
 (rw[I4 (by simp only[decide_eq_true_eq,decide_eq_false_iff_not]at *;omega)];congr 1;simp[List.getD,hk])
def az5{l:Str}{k:Nat}(h:k<l.length):((l.take k).map upC++l.drop k).getD k 0=l.getD k 0:=by
 have hl:((l.take k).map upC).length=k:=by simp;omega
 unfold List.getD
 rw[List.getElem?_append_right (by omega),hl,Nat.sub_self,List.getElem?_drop,Nat.add_zero]
def X1{l:Str}{k:Nat}(h:k<l.length):((l.take k).map upC++l.drop k).set k (upC (((l.take k).map upC++l.drop k).getD k 0))=(l.take (k+1)).map upC++l.drop (k+1):=by
 have hl:((l.take k).map upC).length=k:=by simp;omega
 rw[az5 h,List.drop_eq_getElem_cons h,List.set_append_right _ _ (by omega),hl,Nat.sub_self,List.set_cons_zero,ki l k 0 h,List.map_append,List.append_assoc]
 rfl
def ae6{l:Str}{k:Nat}(h:l.length<=k):(l.take k).map upC++l.drop k=Ht l:=by
 rw[px l k h,List.drop_eq_nil_of_le h,List.append_nil];rfl
def Dm(l:Str)(hl:l.length<=9223372036854775807):ab prog 96 [str l] (str (Ht l)):=by
 refine zY func96 fun B=>?_
 refine zu1 ?_
 refine zp1 ?_
 refine Wd rfl rfl (vj (lO tG rfl) rfl (lO tG rfl) rfl (lO tG rfl) rfl rfl rfl) ?_
 refine Wa 7 rfl (show PV.arw 0 0 (⟨l.toArray⟩:ByteArray).size=.arw 0 0 l.length by rw[ew]) ?_
 refine jM (H':=[.cells (l.flatMap aL) 5]) (by rw[kD];simp[List.map_map]) ?_
 refine zs1 ?_
 refine zu1 ?_
 refine Ws<|zu3 ?_
 refine Wl ?_
 show W _ _ _ _ _ _ _
 refine gz (fun(k:Nat)=>[(3,.arw 0 0 l.length),(4,.fn (.func 126) [] []),(9,i64 l.length),(10,i64 k)]) (fun(k:Nat)=>[.cells (((l.take k).map upC++l.drop k).flatMap aL) 5]) (fun(k:Nat)=>[]) (fun(k:Nat)=>k<=l.length) (fun(k:Nat)=>l.length-k) (0) (by omega) [] ?_ ?_
 ·exact fM
 intro k hk
 refine zu1 ?_
 refine Ws<|Wi rfl (fun hi1=>?_) (fun hi1=>?_)
 ·have hk2:k<l.length:=by have:=oT hi1;omega
  refine Wj<|Ws<|Wl<|zu2 ?_
  refine aa rfl ?_
  refine zy3 ?_
  refine z2 ?_ (q:=(by omega))
  refine Wa 16 rfl ((by show PV.ptr 0 (0+((k:Int)).toNat*1)=.ptr 0 k;simp)) ?_
  refine Wc rfl rfl (ei rfl rfl func126 rfl rfl (Sv ((l.take k).map upC++l.drop k) k (by simp;omega) _ 0 rfl)) ?_
  refine jM (H':=[.cells (((l.take (k+1)).map upC++l.drop (k+1)).flatMap aL) 5]) (by rw[<-X1 hk2];rfl) ?_
  refine Wn<|aa rfl ?_
  refine zs2 ?_
  exact⟨k+1,[],(by omega),(by omega),fM⟩
 refine bi ?_
 refine zp1 ?_
 refine Wd rfl rfl (EH (lO tG rfl) rfl (lO tG rfl) rfl (lO tG rfl) rfl rfl rfl rfl (by simp;omega)) ?_
 refine zs1 ?_
 refine zR ?_
 exact congrArg str (ae6 (by simp only[decide_eq_false_iff_not]at *;omega))
def NU(a b:Str)(ha:a.length<=9223372036854775807)(hb:b.length<=9223372036854775807):ab prog 66 [str a,str b] (boo (YN a b)):=by
 refine zY func66 fun B=>?_
 refine zu1 ?_
 refine zp1 ?_
 refine zc rfl func96 ((Dm a ha) _) ?_
 refine z1 ?_
 refine zc rfl func96 ((Dm b hb) _) ?_
 refine z1 ?_
 refine zq 9 ?_
 refine zs1 ?_
 refine zR ?_
 rfl
end Go.Proofs.YtjcminooghmpeaaGreatDoor
namespace Go.Proofs.YtjcminooghmpeaaGreatDoor
open Go.RowKit (wrap64)
def yf(x q:Int):wrap64 (x+q*18446744073709551616)=wrap64 x:=by unfold wrap64;omega
def Da(x:Int):∃q,wrap64 x=x+q*18446744073709551616:=⟨-((x+9223372036854775808)/18446744073709551616),by unfold wrap64;omega⟩
def yH(x y:Int):wrap64 (wrap64 x+y)=wrap64 (x+y):=by
 obtain⟨q,h⟩:=Da x;rw[h,show x+q*18446744073709551616+y=(x+y)+q*18446744073709551616 from by omega,yf]
def wd(c:Int):Int:=if 48<=c/\c<=57 then c-48 else if 97<=c/\c<=122 then c-87 else if 65<=c/\c<=90 then c-55 else -1
def lZ(n:Int):Int:=if 0<=n/\n<=9 then 48+n else if 10<=n/\n<=35 then 55+n else 63
def isB(b:Int):Bool:=decide (2<=b)&&decide (b<=36)
def DL(b:Int):isB b=true↔2<=b/\b<=36:=by unfold isB;simp
def Zf(c:Int): -1<=wd c/\wd c<=35:=by unfold wd;split<;>(try split)<;>(try split)<;>omega
def S3(n:Int):48<=lZ n/\lZ n<=90:=by unfold lZ;split<;>(try split)<;>omega
def Ww(n:Int)(h:0<=n)(h1:n<=35):wd (lZ n)=n:=by
 unfold lZ
 by_cases c:n<=9
 ·rw[if_pos ⟨h,c⟩];unfold wd;rw[if_pos (by omega)];omega
 rw[if_neg (by omega),if_pos (by omega)];unfold wd;rw[if_neg (by omega),if_neg (by omega),if_pos (by omega)];omega
def chr(n:Nat):UInt8:=UInt8.ofNat (lZ n).toNat
def NX(n:Nat):((chr n).toNat:Int)=lZ n:=by
 have:=S3 n
 unfold chr
 rw[UInt8.toNat_ofNat']
 omega
def Sn(n:Nat)(h:n<=35):wd ((chr n).toNat:Int)=n:=by rw[NX];exact Ww n (by omega) (by omega)
def okD(b:Int)(c:UInt8):Bool:=decide (0<=wd c.toNat)&&decide (wd c.toNat<b)
def uf(b:Int)(c:UInt8):okD b c=true↔0<=wd c.toNat/\wd c.toNat<b:=by unfold okD;simp
def rK(b:Int):Int->List UInt8->Int
 | n,[]=>n
 | n,c::l=>rK b (n*b+wd c.toNat) l
def GU(b:Int)(l m:List UInt8):∀n,rK b n (l++m)=rK b (rK b n l) m:=by
 induction l with
 | nil=>intro n;rfl
 | cons c l ih=>intro n;exact ih _
def CC(b n:Int)(l:List UInt8)(c:UInt8):rK b n (l++[c])=rK b n l*b+wd c.toNat:=by rw[GU];rfl
def AW(b n:Int)(l:List UInt8)(c:UInt8):wrap64 (wrap64 (wrap64 (rK b n l)*b)+wd c.toNat)=wrap64 (rK b n (l++[c])):=by
 rw[CC,yH,wrap64_mul_left_add]
where
 wrap64_mul_left_add {x y z:Int}:wrap64 (wrap64 x*y+z)=wrap64 (x*y+z):=by
  obtain⟨q,h⟩:=Da x
  rw[h,Int.add_mul,show q*18446744073709551616*y=(q*y)*18446744073709551616 from by rw[Int.mul_right_comm],show x*y+q*y*18446744073709551616+z=(x*y+z)+(q*y)*18446744073709551616 from by omega,yf]
def oE:List UInt8->Option Int
 | [a,c,d]=>if a=39/\d=39/\33<=c.toNat/\c.toNat<=126 then some c.toNat else none
 | _=>none
def sZ(l:List UInt8)(b:Int):Int×List UInt8 :=
 match l with
 | []=>(b,[])
 | c::m=>if c=35 then(10,m)else if c=36 then(16,m)else if c=37 then(2,m)else(b,c::m)
def sJ(l:List UInt8):List UInt8×Bool :=
 match l with
 | []=>([],false)
 | c::m=>if c=45 then(m,true)else(c::m,false)
def oQ(l:List UInt8)(b:Int)(below:Bool):Int×Bool :=
 if l=[]\/isB b=false\/l.all (okD b)=false then(0,false)else(if below then wrap64 (-wrap64 (rK b 0 l))else wrap64 (rK b 0 l),true)
def dK(l:List UInt8)(b:Int):Int×Bool :=
 match oE l with
 | some n=>(n,true)
 | none=>oQ (sJ (sZ l b).2).1 (sZ l b).1 (sJ (sZ l b).2).2
def vD(c:UInt8)(l:List UInt8)(b:Int)(h1:c≠35)(h2:c≠36)(h3:c≠37)(h4:c≠39):
  dK (c::l) b=oQ (sJ (c::l)).1 b (sJ (c::l)).2:=by
 have hs:oE (c::l)=none:=by
  unfold oE
  split
  ·rename_i a d e heq
   rw[if_neg]
   rintro⟨ha,_⟩
   simp only[List.cons.injEq]at heq
   exact h4 (heq.1.trans ha)
  rfl
 have hp:sZ (c::l) b=(b,c::l):=by simp[sZ,h1,h2,h3]
 unfold dK
 rw[hs,hp]
def XZ(b:Int){c:UInt8}(h:okD b c=true):c≠35/\c≠36/\c≠37/\c≠39/\c≠45:=by
 rw[uf]at h
 refine⟨?_,?_,?_,?_,?_⟩<;>(rintro rfl;revert h;simp[wd])
def BY(l:List UInt8)(b:Int)(hb:isB b=true)(hl:l≠[])(hd:l.all (okD b)=true):dK l b=(wrap64 (rK b 0 l),true):=by
 match l,hl with
 | c::m,_ =>
  have hc:okD b c=true:=by simp at hd;exact hd.1
  obtain⟨h1,h2,h3,h4,h5⟩:=XZ b hc
  rw[vD c m b h1 h2 h3 h4]
  simp only[sJ,h5,if_false]
  unfold oQ
  rw[if_neg (by rw[hb,hd];simp)]
  simp
def Eq(l:List UInt8)(b:Int):dK (45::l) b=oQ l b true:=by
 rw[vD 45 l b (by decide) (by decide) (by decide) (by decide)]
 simp[sJ]
def Ix(l:List UInt8)(b:Int)(below:Bool)(hb:isB b=true)(hl:l≠[])(hd:l.all (okD b)=true):
  oQ l b below=(if below then wrap64 (-wrap64 (rK b 0 l))else wrap64 (rK b 0 l),true):=by
 unfold oQ;rw[if_neg (by rw[hb,hd];simp[hl])]
def T9(l:List UInt8)(b:Int)(below:Bool)(h:l.all (okD b)=false):oQ l b below=(0,false):=by
 unfold oQ;rw[if_pos (.inr (.inr h))]
def mV(b:Nat):Nat->Nat->List Nat
 | 0,_=>[]
 | k+1,u=>u%b::(if u/b=0 then []else mV b k (u/b))
def ef(u b:Nat):List UInt8:=((mV b 64 u).map chr).reverse
def dN(n b:Int):List UInt8×Int:=if isB b then(ef (U n) b.toNat,0)else([],-24)
def dh(n b:Int):List UInt8×Int:=if isB b then(if 0<=n then ef (U n) b.toNat else 45::ef (U (wrap64 (-n))) b.toNat,0)else([],-24)
def MR(b:Nat)(hb:0<b):∀k u,∀d∈mV b k u,d<b:=by
 intro k
 induction k with
 | zero=>intro u d hd;simp[mV]at hd
 | succ k ih =>
  intro u d hd
  simp only[mV,List.mem_cons]at hd
  rcases hd with rfl|hd
  ·exact Nat.mod_lt _ hb
  split at hd
  ·simp at hd
  exact ih _ _ hd
def Pk(b:Nat)(hb:2<=b)(hb1:b<=36):∀k u,u<b ^ k->rK b 0 (((mV b k u).map chr).reverse)=(u:Int):=by
 intro k
 induction k with
 | zero=>intro u h;simp at h;subst h;rfl
 | succ k ih =>
  intro u h
  have hlt:u%b<b:=Nat.mod_lt _ (by omega)
  have hw:wd ((chr (u%b)).toNat:Int)=((u%b:Nat):Int):=Sn _ (by omega)
  simp only[mV,List.map_cons,List.reverse_cons]
  rw[CC,hw]
  by_cases h0:u/b=0
  ·rw[if_pos h0]
   have:u%b=u:=Nat.mod_eq_of_lt ((Nat.div_eq_zero_iff_lt (by omega)).1 h0)
   simp[rK,this]
  rw[if_neg h0,ih (u/b) (by rw[Nat.pow_succ]at h;exact Nat.div_lt_of_lt_mul (by rw[Nat.mul_comm];exact h))]
  have:=Nat.div_add_mod u b
  have e:((u/b:Nat):Int)*(b:Int)=((b*(u/b):Nat):Int):=by rw[Nat.mul_comm];simp
  rw[e]
  omega
def aA0(b:Nat)(hb:2<=b){u:Nat}(h:u<18446744073709551616):u<b ^ 64 :=
 Nat.lt_of_lt_of_le h (by rw[show(18446744073709551616:Nat)=2 ^ 64 from by decide];exact Nat.pow_le_pow_left hb 64)
def ux(b:Nat)(hb:2<=b)(hb1:b<=36)(u:Nat):(ef u b).all (okD b)=true:=by
 unfold ef
 rw[List.all_reverse,List.all_eq_true]
 intro c hc
 obtain⟨d,hd,rfl⟩:=List.mem_map.1 hc
 have:=MR b (by omega) 64 u d hd
 rw[uf,Sn d (by omega)]
 omega
def tP(u b:Nat):ef u b≠[]:=by
 unfold ef;simp[mV]
def yl(u b:Nat)(hb:2<=b)(hb1:b<=36)(h:u<18446744073709551616):rK b 0 (ef u b)=(u:Int) :=
 Pk b hb hb1 64 u (aA0 b hb h)
def sH{b:Int}(h:isB b=true):∃B:Nat,b=(B:Int)/\2<=B/\B<=36:=by
 rw[DL]at h;exact⟨b.toNat,by omega,by omega,by omega⟩
def Ic(n b:Int)(hb:isB b=true)(hn : -9223372036854775808<=n/\n<=9223372036854775807):dK (ef (U n) b.toNat) b=(n,true):=by
 obtain⟨B,rfl,h2,h3⟩:=sH hb
 rw[Int.toNat_natCast,BY _ _ hb (tP _ _) (ux B h2 h3 _),yl _ _ h2 h3 (w8 n)]
 exact congrArg (·,true) (S_U n hn)
def ZQ(n b:Int)(hb:isB b=true)(hn : -9223372036854775808<=n/\n<=9223372036854775807):dK (dh n b).1 b=(n,true):=by
 unfold dh
 rw[if_pos hb]
 by_cases h:0<=n
 ·simp only[h,if_true];exact Ic n b hb hn
 simp only[h,if_false]
 obtain⟨B,rfl,h2,h3⟩:=sH hb
 rw[Int.toNat_natCast,Eq,Ix _ _ _ hb (tP _ _) (ux B h2 h3 _),yl _ _ h2 h3 (w8 _)]
 simp only[if_true]
 refine congrArg (·,true) ?_
 have:=S_U (wrap64 (-n)) (gS _)
 unfold S at this
 rw[this]
 unfold wrap64
 omega
open Go.RowKit
section
variable {P : Program}
def Sd(P:Program)(f:FuncId)(args:List PV)(n:Nat)(xs:List PV)(k:Nat):Prop:=∀H,HC P f args H (.seq n xs (.own H.length k)) (H++[.free (n*k)])
def Ph{f:FuncId}{args:List PV}{n k:Nat}{xs:List PV}(ha:aw args)(hxs:aw xs)
  (h:∀B σ w vs,Sim B [] σ w->au (cx B [] σ w) args vs->Calls P f vs.toArray w fun e w'=>∃v H' σ' t m,e=.returned v/\Rep (cx B H' σ' w') (.seq n xs (.own t k)) v/\H'[t]?=some (.free m)/\m<=n*k/\dR B [] σ w H' σ' w'):Sd P f args n xs k:=by
 intro H B σ w vs s hr
 have s0:=Lh s
 have hr0:au (cx (BoW B σ H) [] σ w) args vs:=dz (c:=cx B H σ w) (c':=cx (BoW B σ H) [] σ w) rfl (fun b off h=>by
  rcases h with h|⟨i,oi,h1,_⟩
  ·exact h
  simp at h1) ha hr
 refine Calls.mono (h (BoW B σ H) σ w vs s0 hr0) ?_
 rintro e w' ⟨v,H',σ',t,m,rfl,h1,ht,hm,h2⟩
 have g:ba w w':=⟨h2.os,h2.tape,h2.output,h2.size,fun b hb=>h2.block b hb (fun i oi h=>by simp at h)⟩
 obtain⟨ad,cap,ws,hv,hle,hnil,hrl,hlies,hqN,hl,hown⟩:=gQ h1
 have key:∀nb:Option Nat,(∀b,nb=some b->w.heap.size<=b)->Gt (cx B (H++[.free (n*k)]) (ext σ H.length nb) w') H.length (.free (n*k))->(∀b,nb=some b->σ' t=some b)->(cap=n\/∃b cs e,nb=some b/\ad=some ⟨b,0,none⟩/\w'.heap[b]?=some (Obj.cells cs e (0,0))/\cap*k<=cs.size) ->
   ∃v' σ2,Ending.returned v=Ending.returned v'/\Rep (cx B (H++[.free (n*k)]) σ2 w') (.seq n xs (.own H.length k)) v'/\Sim B (H++[.free (n*k)]) σ2 w'/\dR B H σ w (H++[.free (n*k)]) σ2 w':=by
  intro nb hnew hh hnb hk
  obtain⟨s',st⟩:=fq s g (.free (n*k)) nb hnew hh
  have wr:∀b off,(cx B (H++[.free (n*k)]) (ext σ H.length nb) w').Wr b off->(cx (BoW B σ H) H' σ' w').Wr b off:=by
   rintro b off (h|⟨j,oj,h3,h4,h5⟩)
   ·exact .inl (.inl h)
   rcases fL h3 with ⟨h6,h7⟩|⟨rfl,rfl⟩
   ·rw[bY h6]at h4;exact .inl (.inr ⟨j,oj,h7,h4,h5⟩)
   rw[bA]at h4;exact .inr ⟨t,_,ht,hnb _ h4,Nat.le_trans hm h5⟩
  refine⟨v,_,rfl,?_,s',st⟩
  unfold Rep
  refine⟨ad,cap,ws,hv,hle,hnil,dz (c:=cx (BoW B σ H) H' σ' w') (c':=cx B (H++[.free (n*k)]) (ext σ H.length nb) w') rfl wr hxs hrl,fun b hb=>(hlies b hb).imp (fun hL=>⟨hL.1,fun j u hj=>⟨(hL.2 j u hj).1,fun hw=>(hL.2 j u hj).2 (wr _ _ hw)⟩⟩) id,by simp[cx],hl,?_⟩
  rcases hk with hk|⟨b,cs,e,h3,h4,h5,h6⟩
  ·exact .inl hk
  exact .inr ⟨b,cs,e,by simp only[cx];rw[bA];exact h3,h4,h5,h6⟩
 rcases hown with hcap|⟨b,cs,e,h3,h4,h5,h6⟩
 ·exact key none (fun b hb=>by cases hb) (fun b hb=>by simp only[cx]at hb;rw[bA]at hb;cases hb) (fun b hb=>by cases hb) (.inl hcap)
 refine key (some b) (fun b' hb=>?_) (fun b' hb=>?_) (fun b' hb=>by cases hb;exact h3) (.inr ⟨b,cs,e,rfl,h4,h5,h6⟩)
 ·cases hb
  rcases h2.new t _ b ht rfl h3 with h7|⟨j,oj,h7,_⟩
  ·exact h7
  simp at h7
 simp only[cx]at hb;rw[bA]at hb;cases hb
 exact⟨cs,e,h5,Nat.le_trans (Nat.mul_le_mul_right _ hle) h6⟩
def aC4(G:List (Nat×TD))(rs:List ResultVar)(n:Nat)(xs:List PV)(k:Nat):Exit->(Nat->PV)->List Ob->Prop
 | .normal,T,H=>∃t m,qd G T H rs=some (.seq n xs (.own t k))/\H[t]?=some (.free m)/\m<=n*k
 | .ret,T,H=>∃t m,qd G T H rs=some (.seq n xs (.own t k))/\H[t]?=some (.free m)/\m<=n*k
 | _,_,_=>False
def OR{G:List (Nat×TD)}(hG:dt P G=true){f:FuncId}{fn:Func}{c:Code}{args:List PV}{n k:Nat}{xs:List PV}{rs:List ResultVar}(hf:P.funcs[f]?=some fn)(hb:fn.body=some c)(hr:fn.results=rs.toArray)(hn0:Nat.ble args.length fn.ntmps=true)(ha:aw args)(hres:aw xs)
  (h:∀B,W P B fn.ntmps c (BT args) [] (aC4 G rs n xs k)):Sd P f args n xs k:=by
 have hn:=Nat.le_of_ble_eq_true hn0
 refine Ph ha hres fun B σ w vs s hv=>?_
 have hl:=au.length hv
 refine calls_of_wp hf hb (wp_mono (h B σ w {tmps:=vs.toArray++Array.replicate (fn.ntmps-vs.toArray.size) undef,defers:=[]} ⟨s,ug hv _,by simp;omega,rfl⟩) ?_)
 rintro e a' w' ⟨T',H1,σ',h1,h2,h3⟩
 have fin:∀(h4:∃t m,qd G T' H1 rs=some (.seq n xs (.own t k))/\H1[t]?=some (.free m)/\m<=n*k),a'.defers=[]/\∃v,(results fn a'.tmps).run P w'=.ok v w'/\∃v' H' σ' t m,Ending.returned v=Ending.returned v'/\Rep (cx B H' σ' w') (.seq n xs (.own t k)) v'/\H'[t]?=some (.free m)/\m<=n*k/\dR B [] σ w H' σ' w':=by
  rintro⟨t,m,hx,h4,h7⟩
  obtain⟨v,h5,h6⟩:=vy hG hr h2 hx
  exact⟨h2.defers,v,h5,v,H1,σ',t,m,rfl,h6,h4,h7,h3⟩
 cases e<;>first|exact fin h1|exact False.elim h1
def YL{G:List (Nat×TD)}{rs:List ResultVar}{T:Nat->PV}{H:List Ob}{n n' k t m:Nat}{xs xs':List PV}(h:qd G T H rs=some (.seq n' xs' (.own t k)))(h1:n'=n)(h2:xs'=xs)(h3:H[t]?=some (.free m))(h4:m<=n*k):aC4 G rs n xs k .ret T H:=by
 subst h1 h2;exact⟨t,m,h,h3,h4⟩
def Sd.pure{f:FuncId}{args:List PV}{n k:Nat}{xs:List PV}(h:Sd P f args n xs k)(ha:aw args)(hxs:aw xs):ab P f args (.seq n xs .any):=by
 refine Jp ha (by unfold aU;exact⟨hxs,.inl rfl⟩) fun B σ w vs s hr=>?_
 refine Calls.mono (h [] B σ w vs s hr) ?_
 rintro e w' ⟨v,σ',rfl,h1,h2,h3⟩
 exact⟨v,_,σ',rfl,qM _ _ _ _ _ h1,h3⟩
def Un{B:Nat->Nat->Prop}{n:Nat}{ops:Array Oper}{cl:Nat->Nat}{o:Oper}{T:Nat->PV}{H E:List Ob}{x:PV}{i:Nat}{l:List Nat}{d:Option Tmp}{K:(Nat->PV)->List Ob->Prop}(h0:ops[i]?=some o)(hc:cl i=2)(hd:nfD n o.dst=some d)(hw:ar ops T o=some true)(h:js P B o T H x (H++E))(k:WU P B n ops cl l (bM d x T) (H++E) K):WU P B n ops cl (i::l) T H K :=
 ⟨o,h0,x,H++E,.inl ⟨hw,.inr h⟩,by rw[hc];exact⟨E,rfl⟩,(cU hd).1▸k⟩
section
variable {B : Nat -> Nat -> Prop} {o : Oper} {T : Nat -> PV} {H : List Ob}
end
end
def TM{b m:Nat}{s:List UInt8}{l:List Ob}(k:NLo b l):NLo b (.iter s m::l):=k
section
variable {P : Program} {B : Nat -> Nat -> Prop} {o : Oper} {T : Nat -> PV} {H : List Ob}
def Rv{σ:Nat->Option Nat}{w:World}(s:Sim B H σ w){i b:Nat}{l:List UInt8}{p q:Nat}(hi:H[i]?=some (.iter l p))(hb:σ i=some b)(hv:w.heap[b]?=some (Obj.stringIter ⟨l.toArray⟩ p)):
  Sim B (H.set i (.iter l q)) σ {w with heap:=w.heap.setIfInBounds b (.stringIter ⟨l.toArray⟩ q)}/\dR B H σ w (H.set i (.iter l q)) σ {w with heap:=w.heap.setIfInBounds b (.stringIter ⟨l.toArray⟩ q)}:=by
 have hlen:=cX hi
 have hbl:=(Array.getElem?_eq_some_iff.1 hv).1
 have other:∀x,x≠b->(w.heap.setIfInBounds b (.stringIter ⟨l.toArray⟩ q))[x]?=w.heap[x]?:=fun x hx=>Array.getElem?_setIfInBounds_ne (Ne.symm hx)
 have same:(w.heap.setIfInBounds b (.stringIter ⟨l.toArray⟩ q))[b]?=some (.stringIter ⟨l.toArray⟩ q):=by simp[hbl]
 have get:∀j o,(H.set i (.iter l q))[j]?=some o->(j=i/\o=.iter l q)\/(j≠i/\H[j]?=some o):=fun j o h=>y9 hlen h
 have own:∀x off,kE σ (H.set i (.iter l q)) x off->kE σ H x off:=by
  rintro x off ⟨j,o,h1,h2,h3⟩
  rcases get j o h1 with ⟨rfl,rfl⟩|⟨_,h4⟩
  ·exact⟨j,_,hi,h2,trivial⟩
  exact⟨j,o,h4,h2,h3⟩
 have wr:∀off,kE σ H b off:=fun off=>⟨i,_,hi,hb,trivial⟩
 have le:(cx B H σ w).Le (cx B (H.set i (.iter l q)) σ {w with heap:=w.heap.setIfInBounds b (.stringIter ⟨l.toArray⟩ q)}):=by
  refine⟨by simp[cx],fun _ _=>rfl,fun x off u h1 h2=>⟨?_,fun h=>h1 (h.imp id (own x off))⟩,fun x e2 c2 h1 h2=>⟨?_,fun h=>h1 (h.imp id (own x 0))⟩,fun x cs t fr h1=>⟨cs,?_,rfl⟩⟩
  ·have hx:x≠b:=fun hx=>h1 (.inr (hx▸wr off))
   exact(World.cell?_of_block (w:=w) (w':={w with heap:=w.heap.setIfInBounds b (.stringIter ⟨l.toArray⟩ q)}) (a:=⟨x,off,none⟩) (other x hx)).trans h2
  ·have hx:x≠b:=fun hx=>h1 (.inr (hx▸wr 0))
   exact(other x hx).trans h2
  have hx:x≠b:=by rintro rfl;simp only[cx]at h1;rw[hv]at h1;cases h1
  exact(other x hx).trans h1
 refine⟨⟨?_,?_,fun x off h=>by simpa using s.base x off h,?_⟩,⟨le,rfl,rfl,rfl,by simp,?_,?_⟩⟩
 ·intro j k x oj ok h1 h2 l1 l2 e1 e2
  rcases get j oj h1 with ⟨rfl,rfl⟩|⟨_,h3⟩<;>rcases get k ok h2 with ⟨rfl,rfl⟩|⟨_,h4⟩
  ·rfl
  ·exact s.inj _ _ x _ _ hi h4 rfl l2 e1 e2
  ·exact s.inj _ _ x _ _ h3 hi l1 rfl e1 e2
  exact s.inj _ _ x _ _ h3 h4 l1 l2 e1 e2
 ·intro j x oj h1 l1 e1 off
  rcases get j oj h1 with ⟨rfl,rfl⟩|⟨_,h3⟩
  ·exact s.sep _ x _ hi rfl e1 off
  exact s.sep _ x _ h3 l1 e1 off
 ·intro j oj h1
  rcases get j oj h1 with ⟨rfl,rfl⟩|⟨hj,h3⟩
  ·exact⟨b,hb,same⟩
  have k:=s.holds j oj h3
  cases oj with
  | cells zs t =>
   obtain⟨x,ws,fr',h5,h6,hf,h7⟩:=k
   have hx:x≠b:=fun hx=>hj (s.inj j i b _ _ h3 hi rfl rfl (hx▸h5) hb)
   exact⟨x,ws,fr',h5,(other x hx).trans h6,hf,h7.mono le⟩
  | smap ks2 ms =>
   obtain⟨x,e2,c2,h5,h6,h7,h8⟩:=k
   have hx:x≠b:=fun hx=>hj (s.inj j i b _ _ h3 hi rfl rfl (hx▸h5) hb)
   exact⟨x,e2,c2,h5,(other x hx).trans h6,h7,au.mono le h8⟩
  | iter l2 p2 =>
   obtain⟨x,h5,h6⟩:=k
   have hx:x≠b:=fun hx=>hj (s.inj j i b _ _ h3 hi rfl rfl (hx▸h5) hb)
   exact⟨x,h5,(other x hx).trans h6⟩
  | free m =>
   intro x hx
   obtain⟨cs,t,h5,h6⟩:=k x hx
   have hne:x≠b:=fun h=>hj (s.inj j i b _ _ h3 hi rfl rfl (h▸hx) hb)
   exact⟨cs,t,(other x hne).trans h5,h6⟩
  | dead=>trivial
  | glob g u=>obtain⟨q1,q2⟩:=k;exact le.cell g 0 u q2 q1
 ·intro j oj x h1 h2 h3
  rcases get j oj h1 with ⟨rfl,rfl⟩|⟨_,h4⟩
  ·exact .inr ⟨_,_,hi,rfl,h3⟩
  exact .inr ⟨j,oj,h4,h2,h3⟩
 intro x hx hn
 exact other x (fun h=>hn i _ hi rfl (h▸hb))
def po{t:TypeId}{d:TD}{x:Operand}{s:Str}(f:an P t d)(hd:d.sh=.str)(ho:o.op=.range t x)(hx:opv T x=str s):bK P B o T H (.ptr H.length 0) (H++[.iter s 0]):=by
 intro σ w a sm h
 have k1:=h x (by simp[ho,Op.operands])
 rw[hx]at k1
 unfold str Rep at k1
 obtain⟨s',st⟩:=fq sm (ba.alloc w (.stringIter ⟨s.toArray⟩ 0)) (.iter s 0) (some w.heap.size) (fun b hb=>by cases hb;exact Nat.le_refl _) ⟨w.heap.size,by simp only[cx];rw[bA],by show(w.heap.push _)[w.heap.size]?=_;simp⟩
 refine⟨.pointer (some ⟨w.heap.size,0,none⟩),_,_,.inl ?_,?_,s',st⟩
 ·simp only[execOp,ho,k1,Sem.run_bind,run_range_string w t _ (f.str hd),Result.andThen_ok,Sem.run_pure];rfl
 unfold Rep;exact⟨by simp[cx],w.heap.size,by simp only[cx];rw[bA],rfl⟩
def tV{x:Operand}{i:Nat}{s:Str}{pos:Nat}(ho:o.op=.next x true)(hx:opv T x=.ptr i 0)(hi:H[i]?=some (.iter s pos))(hp:pos<s.length)(ha:(s.getD pos 0).toNat<128):
  bK P B o T H (.tup [.val (.bool true),.val (.int .i64 (pos:Int)),.val (.int .i32 ((s.getD pos 0).toNat:Int))]) (H.set i (.iter s (pos+1))):=by
 intro σ w a sm h
 have k1:=h x (by simp[ho,Op.operands])
 rw[hx]at k1
 unfold Rep at k1
 obtain⟨_,b,hb,hv⟩:=k1
 obtain⟨b',hb',hg⟩:=sm.holds i _ hi
 simp only[cx]at hb hb' hg
 rw[hb]at hb'
 cases hb'
 obtain⟨s',st⟩:=Rv sm (q:=pos+1) hi hb hg
 have hsz:pos<(⟨s.toArray⟩:ByteArray).size:=by rw[ew];exact hp
 have hel:((⟨s.toArray⟩:ByteArray)[pos]'hsz)=s.getD pos 0:=by
  simp only[List.getD,List.getElem?_eq_getElem hp,Option.getD_some]
  rfl
 have hdec:Utf8.decode ⟨s.toArray⟩ pos=((s.getD pos 0).toNat,1):=by rw[decode_ascii _ pos hsz (by rw[hel];exact ha),hel]
 refine⟨.tuple #[.bool true,.int .i64 (pos:Int),.int .i32 ((s.getD pos 0).toNat:Int)],_,σ,.inl ?_,?_,s',st⟩
 ·have hr:(Instr.next (a.eval x) true o.type).run P w=.ok (.tuple #[.bool true,.int .i64 (pos:Int),.int .i32 ((s.getD pos 0).toNat:Int)]) {w with heap:=w.heap.setIfInBounds b (.stringIter ⟨s.toArray⟩ (pos+1))}:=by
   rw[hv]
   have hbl:=(Array.getElem?_eq_some_iff.1 hg).1
   simp only[Instr.next,getObj,setObj,Sem.run_bind,Sem.run,hg,Result.andThen,hsz,if_true,hdec]
   simp[goInt,Sem.run,hg,hbl]
  simp only[execOp,ho,Sem.run_bind,hr,Result.andThen_ok,Sem.run_pure]
 unfold Rep
 exact⟨_,rfl,aj.2 ⟨aq _ _,aj.2 ⟨aq _ _,aj.2 ⟨aq _ _,az.2 rfl⟩⟩⟩⟩
def pp{x:Operand}{i:Nat}{s:Str}{pos:Nat}(ho:o.op=.next x true)(hx:opv T x=.ptr i 0)(hi:H[i]?=some (.iter s pos))(hp:s.length<=pos):bK P B o T H (.tup [.val (.bool false)]) H :=
 aM fun σ w a sm h=>by
  have k1:=h x (by simp[ho,Op.operands])
  rw[hx]at k1
  unfold Rep at k1
  obtain⟨_,b,hb,hv⟩:=k1
  obtain⟨b',hb',hg⟩:=sm.holds i _ hi
  simp only[cx]at hb hb' hg
  rw[hb]at hb'
  cases hb'
  have hsz:¬pos<(⟨s.toArray⟩:ByteArray).size:=by rw[ew];omega
  refine⟨.tuple #[.bool false],?_,by unfold Rep;exact⟨_,rfl,aj.2 ⟨aq _ _,az.2 rfl⟩⟩⟩
  have hr:(Instr.next (a.eval x) true o.type).run P w=.ok (.tuple #[.bool false]) w:=by
   rw[hv]
   simp[Instr.next,getObj,Sem.run,hg,hsz]
  simp only[execOp,ho,Sem.run_bind,hr,Result.andThen_ok,Sem.run_pure]
end
open Go.RowKit
def fy(s:Str):Int:=if s.length=0 then -16 else if 31<s.length then -19 else if s.all (fun c=>decide (32<c.toNat))then 0 else -32
def Bu(w:aS):Bool:=decide (fy w.name=0/\0<=w.flags/\w.flags<=7)
def iC(l:List aS):Bool:=l.all Bu&&decide (l.length<=1024)
def af9(w:aS):Bool:=decide (w.flags/2%2=1)
def yN(w:aS)(name:Str):Bool:=!af9 w&&YN w.name name
def mv(l:List aS)(name:Str):Nat->aS×Int×Bool
 | 0=>(⟨[],0,0⟩,0,false)
 | k+1=>if yN (l.getD k default) name then(l.getD k default,(k:Int),true)else mv l name k
def dc(l:List aS)(name:Str):aS×Int×Bool:=mv l name l.length
def B9(r:aS×Int×Bool):PV:=kg (yB r.1) (i64 r.2.1) (boo r.2.2)
@[simp] theorem am2 (r : aS × Int × Bool) : aU (B9 r) := by simp [B9]
def sg{l:List aS}(h:∀w∈l,0<=w.flags/\w.flags<=7)(name:Str):∀k,k<=l.length->0<=(mv l name k).1.flags/\(mv l name k).1.flags<=7
 | 0,_=>by show(0:Int)<=0/\(0:Int)<=7;omega
 | k+1,hk=>by
  unfold mv
  split
  ·exact h _ (by rw[List.getD_eq_getElem?_getD,List.getElem?_eq_getElem (by omega)];exact List.getElem_mem _)
  exact sg h name k (by omega)
end Go.Proofs.YtjcminooghmpeaaGreatDoor
