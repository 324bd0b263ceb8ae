import Derived.BigQuiet
import Derived.ChangeKeysEq
import Derived.ChangeOld
import Derived.ChangeSlices
import Derived.Deep.CutBlock
import Derived.Deep.DeepCutAuto
import Derived.Deep.QuietTactic
import Derived.Handy
import Derived.Laws.BitsAllLaws
import Derived.Laws.CopyOwn
import Derived.Laws.RangeString
import Derived.Lib.AppendZerosOnto
import Derived.Lib.Hide
import Derived.Lib.ItoaNum
import Derived.Lib.SliceRun
import Derived.Lib.Walk
import Derived.OpenShut
import Derived.Outline
import Derived.ProofKit
import Derived.Shelf.Bytes.SlEqualAll
import Derived.ShutString
import Derived.Test.YtjcminooghmpeaaGreatDoorPk2
set_option linter.all false
set_option maxRecDepth 100000
set_option maxHeartbeats 40000000
open Go.Proofs.Tryz
namespace Go.Proofs.YtjcminooghmpeaaGreatDoor
open Go.RowKit (wrap64)
theorem xD(n:Int):wrap64 n=n.bmod 18446744073709551616:=by
 unfold wrap64;rw[Int.bmod_def];split<;>omega
theorem DF(x y:Int):wrap64 (wrap64 x+y)=wrap64 (x+y):=by simp[xD]
theorem rq(x y:Int):wrap64 (wrap64 x-y)=wrap64 (x-y):=by simp[xD]
theorem L7(a:Int)(ha : -9223372036854775808<=a/\a<=9223372036854775807):(U a:Int)=a+(if a<0 then 18446744073709551616 else 0):=by
 unfold U;split<;>omega
theorem GW(a b:Int)(ha : -9223372036854775808<=a/\a<=9223372036854775807)(hb : -9223372036854775808<=b/\b<=9223372036854775807):
  ((U a*U b:Nat):Int)=a*b+18446744073709551616*((if a<0 then b else 0)+(if b<0 then a else 0)+(if a<0/\b<0 then 18446744073709551616 else 0)):=by
 rw[Int.natCast_mul,L7 a ha,L7 b hb]
 by_cases h1:a<0<;>by_cases h2:b<0
 ·simp only[h1,h2,if_true,and_self];rw[Int.add_mul,Int.mul_add,Int.mul_add,Int.mul_comm a 18446744073709551616];omega
 ·simp only[h1,h2,if_true,if_false,and_false,Int.add_zero];rw[Int.add_mul]
 ·simp only[h1,h2,if_true,if_false,false_and];rw[Int.mul_add,Int.add_zero,Int.mul_comm a 18446744073709551616];omega
 simp only[h1,h2,if_false,and_self,Int.add_zero,Int.mul_zero]
theorem P2(a b:Int)(ha : -9223372036854775808<=a/\a<=9223372036854775807)(hb : -9223372036854775808<=b/\b<=9223372036854775807):
  -85070591730234615865843651857942052864<=a*b/\a*b<=85070591730234615865843651857942052864:=by
 have h:(a*b).natAbs<=9223372036854775808*9223372036854775808:=by
  rw[Int.natAbs_mul];exact Nat.mul_le_mul (by omega) (by omega)
 omega
theorem SN(a b:Int)(ha : -9223372036854775808<=a/\a<=9223372036854775807)(hb : -9223372036854775808<=b/\b<=9223372036854775807):
  (sG a b).1=(xe a b).1:=by
 have h:=GW a b ha hb
 simp only[sG,xe,S]
 generalize U a*U b=p at *
 generalize a*b=q at *
 unfold wrap64
 omega
theorem ab6(a b:Int)(ha : -9223372036854775808<=a/\a<=9223372036854775807)(hb : -9223372036854775808<=b/\b<=9223372036854775807):
  wrap64 ((sG a b).2-((if a<0 then b else 0)+(if b<0 then a else 0)))=(xe a b).2:=by
 have h:=GW a b ha hb
 have h2:=P2 a b ha hb
 simp only[sG,xe,S]
 generalize (if a<0 then b else 0)+(if b<0 then a else 0)=x at *
 have hz:(if a<0/\b<0 then(18446744073709551616:Int)else 0)=0\/(if a<0/\b<0 then(18446744073709551616:Int)else 0)=18446744073709551616:=by
  split<;>simp
 generalize (if a<0/\b<0 then(18446744073709551616:Int)else 0)=z at *
 generalize U a*U b=p at *
 generalize a*b=q at *
 have e:((p/18446744073709551616:Nat):Int)=q/18446744073709551616+(x+z):=by
  rw[Int.natCast_ediv,h]
  exact Int.add_mul_ediv_left _ _ (by decide)
 rw[rq,e,show q/18446744073709551616+(x+z)-x=q/18446744073709551616+z from by omega]
 have hq : -9223372036854775808<=q/18446744073709551616/\q/18446744073709551616<=9223372036854775807:=by omega
 generalize q/18446744073709551616=r at *
 unfold wrap64
 omega
theorem N6(a b:Int)(hb:b=0):m9 a b=(0,0,-10):=by simp[m9,hb]
theorem OG{a b:Int}(hb:b≠0)(h:a.tmod b=0):m9 a b=(wrap64 (a.tdiv b),a.tmod b,0):=by
 obtain⟨h1,h2⟩:=tL a b hb
 rw[if_neg (by simp[h])]at h1 h2
 simp[m9,hb,h1,h2]
theorem Cm(a b:Int)(h:a.tmod b≠0):decide (a.tmod b<0)=decide (a<0):=by
 by_cases hb:b=0
 ·subst hb;simp
 have:=(qL a b hb).2
 by_cases ha:a<0
 ·rw[if_pos ha]at this;simp[ha];omega
 rw[if_neg ha]at this;simp[ha];omega
theorem Xr(a b:Int)(hb:b≠0):(a.tmod b).natAbs<b.natAbs:=by
 rw[Int.natAbs_tmod];exact Nat.mod_lt _ (by omega)
theorem SM{a b:Int}(hb:b≠0)(hb2 : -9223372036854775808<=b/\b<=9223372036854775807)(h:a.tmod b≠0)(hs:(decide (a.tmod b<0)==decide (b<0))=false):
  m9 a b=(wrap64 (wrap64 (a.tdiv b)-1),wrap64 (a.tmod b+b),0):=by
 have ht:=Cm a b h
 have hl:=Xr a b hb
 obtain⟨h1,h2⟩:=tL a b hb
 rw[<-ht]at h1 h2
 have hs':(decide (a.tmod b<0) != decide (b<0))=true:=by simp[bne,hs]
 rw[if_pos ⟨h,hs'⟩]at h1 h2
 have hf:wrap64 (a.tmod b+b)=a.tmod b+b:=by
  apply dc
  simp at hs
  omega
 rw[rq,hf]
 simp only[m9,if_neg hb,h1,h2]
theorem LD{a b:Int}(hb:b≠0)(hs:a.tmod b=0\/(decide (a.tmod b<0)==decide (b<0))=true):
  m9 a b=(wrap64 (a.tdiv b),a.tmod b,0):=by
 by_cases h:a.tmod b=0
 ·exact OG hb h
 have ht:=Cm a b h
 obtain⟨h1,h2⟩:=tL a b hb
 rw[<-ht]at h1 h2
 have hs':(decide (a.tmod b<0) != decide (b<0))=false:=by
  rcases hs with hs|hs
  ·exact absurd hs h
  simp[bne,hs]
 rw[if_neg (by simp[hs'])]at h1 h2
 simp[m9,hb,h1,h2]
open Go.RowKit
theorem Xq{k:IntKind}{a b:Int}(h:a=b):Ending.returned (.int k a)=Ending.returned (.int k b):=by rw[h]
theorem JU{k l:IntKind}{a b c d:Int}(h1:a=c)(h2:b=d):Ending.returned (.tuple #[.int k a,.int l b])=Ending.returned (.tuple #[.int k c,.int l d]):=by rw[h1,h2]
theorem pk{k l m:IntKind}{a b c d e f:Int}(h1:a=d)(h2:b=e)(h3:c=f):Ending.returned (.tuple #[.int k a,.int l b,.int m c])=Ending.returned (.tuple #[.int k d,.int l e,.int m f]):=by rw[h1,h2,h3]
theorem xU(w:World):∃n,w=w.drewN n:=⟨0,rfl⟩
abbrev Fit(a:Int):Prop:=-9223372036854775808<=a/\a<=9223372036854775807
theorem uK(a b:Int)(w:World):
  Calls prog 359 #[.int .i64 a,.int .i64 b] w fun e w'=>e=.returned (.bool (decide (U a<U b)))/\w=w':=by
 go_enter func359,ntmps359
 go_wp2
 go_ret
 exact⟨by simp[go_sem,ly],rfl⟩
theorem qf(a b:Int)(w:World):
  Calls prog 284 #[.int .i64 a,.int .i64 b] w fun e w'=>e=.returned (.tuple #[.int .i64 (sG a b).1,.int .i64 (sG a b).2])/\w=w':=by
 have ha:=Bd a
 have hb:=Bd b
 go_enter func284,ntmps284
 go_wp2_with fail
 rw[ly a,ly b]
 refine(Tryz.bits_Mul64 (U a) (U b) ha hb _).mono ?_
 rintro e w' ⟨rfl,rfl⟩
 go_wp2
 go_ret2
 exact⟨JU (by simp only[sG,S,Int.natCast_emod,Int.natCast_mul];rfl) (by simp only[sG,S,Int.natCast_ediv,Int.natCast_mul];rfl),rfl⟩
theorem QB(a b:Int)(w:World)(ha:Fit a)(hb:Fit b):
  Calls prog 278 #[.int .i64 a,.int .i64 b] w fun e w'=>e=.returned (.tuple #[.int .i64 (xe a b).1,.int .i64 (xe a b).2])/\w=w':=by
 have e1:=SN a b ha hb
 have e2:=ab6 a b ha hb
 by_cases h1:a<0<;>by_cases h2:b<0
 ·rw[if_pos h1,if_pos h2]at e2
  have H1:=Lib.hid e1
  have H2:=Lib.hid e2
  clear e1 e2
  go_enter func278,ntmps278
  go_wp2_with (go_at_call 284;refine(qf _ _ _).mono ?_;rintro e w' ⟨rfl,rfl⟩)
  go_ret2
  exact⟨JU H1.out (by rw[<-H2.out,rq];congr 1;omega),rfl⟩
 ·rw[if_pos h1,if_neg h2]at e2
  have H1:=Lib.hid e1
  have H2:=Lib.hid e2
  clear e1 e2
  go_enter func278,ntmps278
  go_wp2_with (go_at_call 284;refine(qf _ _ _).mono ?_;rintro e w' ⟨rfl,rfl⟩)
  go_ret2
  exact⟨JU H1.out (by rw[<-H2.out,Int.add_zero]),rfl⟩
 ·rw[if_neg h1,if_pos h2]at e2
  have H1:=Lib.hid e1
  have H2:=Lib.hid e2
  clear e1 e2
  go_enter func278,ntmps278
  go_wp2_with (go_at_call 284;refine(qf _ _ _).mono ?_;rintro e w' ⟨rfl,rfl⟩)
  go_ret2
  exact⟨JU H1.out (by rw[<-H2.out,Int.zero_add]),rfl⟩
 rw[if_neg h1,if_neg h2]at e2
 have H1:=Lib.hid e1
 have H2:=Lib.hid e2
 clear e1 e2
 go_enter func278,ntmps278
 go_wp2_with (go_at_call 284;refine(qf _ _ _).mono ?_;rintro e w' ⟨rfl,rfl⟩)
 go_ret2
 exact⟨JU H1.out (by rw[<-H2.out,Int.add_zero,Int.sub_zero];exact(dc _ (XP _)).symm),rfl⟩
theorem O6(a b:Int)(w:World)(hb2:Fit b):
  Calls prog 272 #[.int .i64 a,.int .i64 b] w fun e w'=>e=.returned (.tuple #[.int .i64 (m9 a b).1,.int .i64 (m9 a b).2.1,.int .i64 (m9 a b).2.2])/\∃n,w'=w.drewN n:=by
 by_cases hb:b=0
 ·have HZ:=Lib.hid (N6 a b hb)
  have hb':(b==0)=true:=by simp[hb]
  clear hb
  go_enter func272,ntmps272
  go_wp2
  go_ret3
  exact⟨pk (by rw[HZ.out]) (by rw[HZ.out]) (by rw[HZ.out]),xU w⟩
 have hb':(b==0)=false:=by simp[hb]
 go_enter func272,ntmps272
 go_wp2
 go_quiet (fail)
 go_wp2
 all_goals go_ret3
 ·have h:a.tmod b=0:=by assumption
  have e:=LD hb (.inl h)
  exact⟨pk (by rw[e]) (by rw[e,h]) (by rw[e]),_,rfl⟩
 ·have h:(a.tmod b != 0)=true/\(!decide (a.tmod b<0)==decide (b<0))=true:=by assumption
  have e:=SM hb hb2 (by simpa using h.1) (by simpa using h.2)
  exact⟨pk (by rw[e]) (by rw[e]) (by rw[e]),_,rfl⟩
 have h:(a.tmod b != 0)=false\/(!decide (a.tmod b<0)==decide (b<0))=false:=by assumption
 have e:=LD (a:=a) hb (by rcases h with h|h<;>simp at h<;>simp[h])
 exact⟨pk (by rw[e]) (by rw[e]) (by rw[e]),_,rfl⟩
theorem pQ(n:Int)(w:World)(hn:Fit n):
  Calls prog 362 #[.int .i64 n] w fun e w'=>e=.returned (.int .u64 n.natAbs)/\w=w':=by
 by_cases h:n<0
 ·go_enter func362,ntmps362
  go_wp2
  go_ret
  exact⟨Xq (by rw[ly n,IntKind.wrap_u64];have:=XW n h hn.1;omega),rfl⟩
 go_enter func362,ntmps362
 go_wp2
 go_ret
 exact⟨Xq (by omega),rfl⟩
end Go.Proofs.YtjcminooghmpeaaGreatDoor
namespace Go.Proofs.YtjcminooghmpeaaGreatDoor
theorem Js(hi lo y s:Nat)(h0:hi<y)(s1:s<=63)(s2:9223372036854775808<=y*2 ^ s)(s3:y*2 ^ s<18446744073709551616)(hl:lo<18446744073709551616):
  ∃Y y1 y0 un ul u1 u0:Nat,
   ((y:Int)*2 ^ s=(Y:Int))/\((Y:Int)/4294967296=(y1:Int))/\(bits .and .u64 (Y:Int) 4294967295=(y0:Int)) /\
   (bits .or .u64 (IntKind.u64.wrap ((hi:Int)*2 ^ s)) ((lo:Int)/2 ^ (64-s))=(un:Int))/\(IntKind.u64.wrap ((lo:Int)*2 ^ s)=(ul:Int)) /\
   ((ul:Int)/4294967296=(u1:Int))/\(bits .and .u64 (ul:Int) 4294967295=(u0:Int)) /\
   Y=y1*4294967296+y0/\y0<4294967296/\2147483648<=y1/\y1<4294967296/\ul=u1*4294967296+u0/\u1<4294967296/\u0<4294967296/\un<Y /\
   Y=y*2 ^ s/\un*18446744073709551616+ul=(hi*18446744073709551616+lo)*2 ^ s:=by
 have hp:0<2 ^ s:=Nat.two_pow_pos _
 have hq:0<2 ^ (64-s):=Nat.two_pow_pos _
 have e64:2 ^ (64-s)*2 ^ s=18446744073709551616:=by rw[<-Nat.pow_add,show 64-s+s=64 from by omega]
 have hhi:hi*2 ^ s+2 ^ s<=y*2 ^ s:=by
  have:(hi+1)*2 ^ s<=y*2 ^ s:=Nat.mul_le_mul_right _ h0
  rwa [Nat.add_mul,Nat.one_mul]at this
 have hlo:lo/2 ^ (64-s)<2 ^ s:=by rw[Nat.div_lt_iff_lt_mul hq,Nat.mul_comm,e64];exact hl
 have hlo2:lo*2 ^ s/18446744073709551616=lo/2 ^ (64-s):=by
  rw[<-e64];exact Nat.mul_div_mul_right _ _ hp
 have hul:=Nat.div_add_mod (lo*2 ^ s) 18446744073709551616
 refine⟨y*2 ^ s,y*2 ^ s/4294967296,y*2 ^ s%4294967296,hi*2 ^ s+lo/2 ^ (64-s),lo*2 ^ s%18446744073709551616,
  lo*2 ^ s%18446744073709551616/4294967296,lo*2 ^ s%18446744073709551616%4294967296,?_⟩
 refine⟨by simp,by simp,?_,?_,?_,by simp,?_,?_⟩
 ·rw[show(4294967295:Int)=((4294967295:Nat):Int) from rfl,u64_and_nat _ _ s3 (by decide)]
  rw[show(4294967295:Nat)=2 ^ 32-1 from rfl,Nat.and_two_pow_sub_one_eq_mod]
 ·have e1:IntKind.u64.wrap ((hi:Int)*2 ^ s)=((hi*2 ^ s:Nat):Int):=by
   rw[show((hi:Int)*2 ^ s)=((hi*2 ^ s:Nat):Int) from by simp]
   exact IntWalk.u64_in _ (by omega)
  have e2:(lo:Int)/2 ^ (64-s)=((lo/2 ^ (64-s):Nat):Int):=by simp
  rw[e1,e2,u64_or_nat _ _ (by omega) (by omega)]
  congr 1
  have:=Nat.shiftLeft_add_eq_or_of_lt hlo hi
  rw[Nat.shiftLeft_eq]at this
  exact this.symm
 ·rw[show((lo:Int)*2 ^ s)=((lo*2 ^ s:Nat):Int) from by simp,IntKind.wrap_u64]
  rfl
 ·rw[show(4294967295:Int)=((4294967295:Nat):Int) from rfl,u64_and_nat _ _ (Nat.mod_lt _ (by decide)) (by decide)]
  rw[show(4294967295:Nat)=2 ^ 32-1 from rfl,Nat.and_two_pow_sub_one_eq_mod]
 refine⟨by omega,by omega,by omega,by omega,by omega,by omega,by omega,by omega,rfl,?_⟩
 rw[Nat.add_mul,Nat.add_mul,<-hlo2]
 rw[show hi*18446744073709551616*2 ^ s=hi*2 ^ s*18446744073709551616 from by rw[Nat.mul_right_comm]]
 omega
theorem Ms{hi lo y s Y un ul u1 u0 q1 q0 r1 r0:Nat}(hy:0<y)(eY:Y=y*2 ^ s)(eN:un*18446744073709551616+ul=(hi*18446744073709551616+lo)*2 ^ s)(eu:ul=u1*4294967296+u0)
  (e1:q1=(un*4294967296+u1)/Y) (f1:r1=(un*4294967296+u1)%Y) (e0:q0=(r1*4294967296+u0)/Y) (f0:r0=(r1*4294967296+u0)%Y) :
  q1*4294967296+q0=(hi*18446744073709551616+lo)/y/\r0/2 ^ s=(hi*18446744073709551616+lo)%y:=by
 have hp:0<2 ^ s:=Nat.two_pow_pos _
 have hY:0<Y:=by rw[eY];exact Nat.mul_pos hy hp
 obtain⟨a,b⟩:=JE (B:=4294967296) (un:=un) (u1:=u1) (u0:=u0) hY
 have e:un*(4294967296*4294967296)+u1*4294967296+u0=(hi*18446744073709551616+lo)*2 ^ s:=by
  have hB:4294967296*4294967296=18446744073709551616:=by decide
  rw[hB,<-eN,eu,Nat.add_assoc]
 rw[e,eY]at a b
 rw[Nat.mul_div_mul_right _ _ hp]at a
 rw[Nat.mul_mod_mul_right]at b
 subst e1 f1 e0 f0
 rw[eY]
 exact⟨a,by rw[b];exact Nat.mul_div_cancel _ hp⟩
theorem Ig{un y1 y0 u1 a b Q Y:Nat}(hY:Y=y1*4294967296+y0)(hQ:Q=(un*4294967296+u1)/Y)(h1:2147483648<=y1)(h0:y0<4294967296)(hu:u1<4294967296)(hlt:un<Y)
  (inv:a*y1+b=un/\Q<=a) (hc:4294967296<=a\/4294967296*b+u1<a*y0) :
  ∃a',a=a'+1/\(a'*y1+(b+y1)=un/\Q<=a')/\(4294967296<=b+y1->a'=Q):=by
 obtain⟨i1,i2⟩:=inv
 have hs:=P5 (B:=4294967296) (un:=un) (y1:=y1) (y0:=y0) (u1:=u1) (q:=a) (r:=b) (by omega) (by omega) hu i1 (by omega) (by rw[<-hY,<-hQ];exact i2) hc
 rw[<-hY,<-hQ]at hs
 obtain⟨a',rfl⟩:∃a',a=a'+1:=⟨a-1,by omega⟩
 have e:(a'+1)*y1=a'*y1+y1:=by rw[Nat.add_mul,Nat.one_mul]
 refine⟨a',rfl,⟨by omega,by omega⟩,fun hb=>?_⟩
 have ha:a'<=4294967296:=by
  apply Nat.le_of_not_lt
  intro hgt
  have:4294967297*y1<=a'*y1:=Nat.mul_le_mul_right _ hgt
  omega
 have hm:a'*y0<=4294967296*y0:=Nat.mul_le_mul_right _ ha
 have:=FE (B:=4294967296) (un:=un) (y1:=y1) (y0:=y0) (u1:=u1) (q:=a') (r:=b+y1) (by omega) (by omega) (by omega) (by rw[<-hY,<-hQ];omega) (by omega)
 rw[<-hY,<-hQ]at this
 exact this.symm
theorem Lh{un y1 y0 u1 a b Q Y:Nat}(hY:Y=y1*4294967296+y0)(hQ:Q=(un*4294967296+u1)/Y)(h1:2147483648<=y1)
  (inv:a*y1+b=un/\Q<=a) (hc:¬4294967296*b+u1<a*y0):a=Q:=by
 obtain⟨i1,i2⟩:=inv
 have:=FE (B:=4294967296) (un:=un) (y1:=y1) (y0:=y0) (u1:=u1) (q:=a) (r:=b) (by omega) (by omega) i1 (by rw[<-hY,<-hQ];exact i2) (by omega)
 rw[<-hY,<-hQ]at this
 exact this.symm
theorem B2{un y1 y0 u1 Q Y:Nat}(hY:Y=y1*4294967296+y0)(hQ:Q=(un*4294967296+u1)/Y)(h1:2147483648<=y1)(hu:u1<4294967296):
  ∃q r:Nat,((un:Int)/y1=(q:Int))/\((un:Int)-(q:Int)*y1=(r:Int))/\(q*y1+r=un/\Q<=q)/\r<y1/\q<=un/\0<=(q:Int)*y1/\(q:Int)*y1<=un:=by
 have hm:=Nat.div_add_mod un y1
 have hc:=Nat.mul_comm y1 (un/y1)
 have hs:=Mo (B:=4294967296) (un:=un) (y1:=y1) (y0:=y0) (u1:=u1) (by omega) (by omega) hu
 rw[<-hY,<-hQ]at hs
 have e:((un/y1*y1:Nat):Int)=((un/y1:Nat):Int)*y1:=by simp
 refine⟨un/y1,un%y1,by simp,by omega,⟨by omega,hs⟩,Nat.mod_lt _ (by omega),Nat.div_le_self _ _,by omega,by omega⟩
theorem Ca(a b:Nat)(ha:a<4294967296)(hb:b<4294967296):0<=(a:Int)*b/\(a:Int)*b<=18446744065119617025:=by
 have h:a*b<=4294967295*4294967295:=Nat.mul_le_mul (by omega) (by omega)
 have e:((a*b:Nat):Int)=(a:Int)*b:=by simp
 omega
theorem nE(a b:Nat):((a*b:Nat):Int)=(a:Int)*b:=by simp
theorem P9{hi lo y Q1 Q0:Nat}(h0:hi<y)(hl:lo<18446744073709551616)(x1:Q1*4294967296+Q0=(hi*18446744073709551616+lo)/y):
  IntKind.u64.wrap (IntKind.u64.wrap ((Q1:Int)*4294967296)+Q0)=(((hi*18446744073709551616+lo)/y:Nat):Int):=by
 have hlt:(hi*18446744073709551616+lo)/y<18446744073709551616:=by
  rw[Nat.div_lt_iff_lt_mul (by omega)]
  have:(hi+1)*18446744073709551616<=y*18446744073709551616:=Nat.mul_le_mul_right _ h0
  rw[Nat.add_mul]at this
  rw[Nat.mul_comm _ y]
  omega
 generalize (hi*18446744073709551616+lo)/y=z at *
 rw[IntKind.wrap_u64,IntKind.wrap_u64]
 omega
theorem Tu{r0 s z:Nat}(h:r0/2 ^ s=z):(r0:Int)/2 ^ s=(z:Int):=by rw[<-h];simp
theorem IF(lo y:Nat)(hl:lo<18446744073709551616):IntKind.u64.wrap ((lo:Int)/y)=(lo:Int)/y:=by
 have e:(lo:Int)/y=((lo/y:Nat):Int):=by simp
 have:=Nat.div_le_self lo y
 rw[e]
 generalize lo/y=z at *
 exact IntWalk.u64_in _ (by omega)
open Go.RowKit
theorem lz(y:Nat)(h0:0<y)(h1:y<18446744073709551616):∃s:Nat,s<=63/\9223372036854775808<=y*2 ^ s/\y*2 ^ s<18446744073709551616 /\
  ∀w:World,Calls prog 387 #[.int .u64 y] w fun e w'=>e=.returned (.int .i64 s)/\w=w':=by
 obtain⟨a,b,c⟩:=Lib.bitLenAux_bounds 64 y h1 (by omega)
 have hL:Lib.bitLenAux 64 y<=64:=Lib.bitLen_le y 64 (Nat.le_refl _) h1
 have hc:=fun w=>Tryz.bits_LeadingZeros64 y w (by omega) (by omega)
 simp only[Int.toNat_natCast,Lib.bitLen]at hc
 generalize Lib.bitLenAux 64 y=L at *
 have e:2 ^ (64-L)*2 ^ (L-1)=9223372036854775808:=by rw[<-Nat.pow_add,show 64-L+(L-1)=63 from by omega]
 have e2:2 ^ (64-L)*2 ^ L=18446744073709551616:=by rw[<-Nat.pow_add,show 64-L+L=64 from by omega]
 have hp:0<2 ^ (64-L):=Nat.two_pow_pos _
 refine⟨64-L,by omega,?_,?_,?_⟩
 ·rw[<-e,Nat.mul_comm y];exact Nat.mul_le_mul_left _ b
 ·rw[<-e2,Nat.mul_comm y];exact Nat.mul_lt_mul_of_pos_left c hp
 intro w
 have:=hc w
 rw[show(64:Int)-(L:Int)=((64-L:Nat):Int) from by omega]at this
 refine this.mono ?_
 rintro e w' ⟨h,h'⟩
 exact⟨h,h'.symm⟩
theorem Od(hi lo y:Nat)(w:World)(h0:hi<y)(hh:0<hi)(hy:y<18446744073709551616)(hl:lo<18446744073709551616):
  Calls prog 366 #[.int .u64 hi,.int .u64 lo,.int .u64 y] w fun e w'=>e=.returned (.tuple #[.int .u64 ((hi*18446744073709551616+lo)/y:Nat),.int .u64 ((hi*18446744073709551616+lo)%y:Nat)])/\∃n,w'=w.drewN n:=by
 have t0:((y:Int)==0)=false:=by simp;omega
 have t1:((hi:Int)==0)=false:=by simp;omega
 have hy2:0<y:=by omega
 obtain⟨s,s1,s2,s3,hc⟩:=lz y hy2 hy
 have Hc:=Lib.hid hc
 clear hc
 have ep:(y:Int)*2 ^ s=((y*2 ^ s:Nat):Int):=by simp
 have b1:(9223372036854775808:Int)<=(y:Int)*2 ^ s:=by rw[ep];omega
 have b2:(y:Int)*2 ^ s<=18446744073709551615:=by rw[ep];omega
 clear ep
 obtain⟨Y,y1,y0,un,ul,u1,u0,e1,e2,e3,e4,e5,e6,e7,f1,f2,f3,f3',f4,f5,f6,f7,f8,f9⟩:=Js hi lo y s h0 s1 s2 s3 hl
 have hYb:9223372036854775808<=Y/\Y<18446744073709551616:=by rw[f8];exact⟨s2,s3⟩
 have hend:=fun q1 q0 r1 r0=>@Ms hi lo y s Y un ul u1 u0 q1 q0 r1 r0 hy2 f8 f9 f4
 have Hend:=Lib.hid hend
 have Hs2:=Lib.hid s2
 have Hs3:=Lib.hid s3
 have F1:=Lib.hid f1
 have F4:=Lib.hid f4
 clear hend s2 s3 f1 f4 f8 f9
 obtain⟨Q1,hQ1⟩:∃Q1,Q1=(un*4294967296+u1)/Y:=⟨_,rfl⟩
 obtain⟨q,r,e8,e9,g1,g2,g3,g4,g5⟩:=B2 F1.out hQ1 f3 f5
 have hnext:=fun a b=>@Ig un y1 y0 u1 a b Q1 Y F1.out hQ1 f3 f2 f5 f7
 have hout:=fun a b=>@Lh un y1 y0 u1 a b Q1 Y F1.out hQ1 f3
 have Hnext:=Lib.hid hnext
 have Hout:=Lib.hid hout
 have G1:=Lib.hid g1
 have HQ1:=Lib.hid hQ1
 clear hQ1 g1 hnext hout
 go_enter func366,ntmps366
 go_upto_block 0 with (go_at_call 387;refine(Hc.out _).mono ?_;rintro e w' ⟨rfl,rfl⟩)
 go_cut [15] (fun x wx=>x=.int .u64 Q1/\wx=w)
 case first =>
  clear e1 e2 e3 e4 e5 e6 e7 e8 e9
  go_wp2_with fail
  go_loop [15,16] (fun x z=>∃a b:Nat,x=.int .u64 a/\z=.int .u64 b/\Hid (a*y1+b=un/\Q1<=a)/\b<4294967296/\a<=18446744073709551615) (fun x _=>(intOf x).toNat)
  case atStart=>exact⟨q,r,rfl,rfl,G1,by omega,by omega⟩
  case round =>
   obtain⟨a,b,rfl,rfl,hi1,hi2,hi3⟩:=hrel
   have F3:=Lib.hid f3
   have F3':=Lib.hid f3'
   have F2:=Lib.hid f2
   have F5:=Lib.hid f5
   have D4:=Lib.hid hi2
   have d0:(a:Int)<=18446744073709551615:=by omega
   have d3:(b:Int)<4294967296:=by omega
   have d4:(y1:Int)<4294967296:=by omega
   have d5:(2147483648:Int)<=y1:=by omega
   have d6:(u1:Int)<4294967296:=by omega
   clear hYb hl hy b1 b2 h0 hh t0 t1 hy2 g2 g3 g4 g5 f7 f3 f3' f2 f5 f6 hi2 hi3
   by_cases c1:(4294967296:Int)<=(a:Int)
   ·obtain⟨a',rfl,j1,j2⟩:=Hnext.out a b hi1.out (.inl (by omega))
    have J1:=Lib.hid j1
    have J2:=Lib.hid j2
    have C1:(4294967296:Int)<=(a':Int)+1:=by omega
    have D0:(a':Int)+1<=18446744073709551615:=by omega
    clear j1 j2 hi1 c1 d0
    by_cases c3:(4294967296:Int)<=(b:Int)+y1
    ·go_wp2_with fail
     go_meet
     exact⟨by rw[<-J2.out (by omega)],rfl⟩
    go_wp2_with fail
    go_round
    case rel=>exact⟨a',b+y1,rfl,by go_num,J1,by omega,by omega⟩
    case measure=>simp[intOf]
   obtain⟨p1,p2⟩:=Ca a y0 (by omega) F2.out
   by_cases c2:4294967296*(b:Int)+u1<(a:Int)*y0
   ·have C2:=Lib.hid c2
    obtain⟨a',ha',j1,j2⟩:=Hnext.out a b hi1.out (.inr (by have:=nE a y0;omega))
    have A:=Lib.hid ha'
    have J1:=Lib.hid j1
    have J2:=Lib.hid j2
    have d1:(1:Int)<=(a:Int):=by omega
    clear ha' j1 j2 hi1
    by_cases c3:(4294967296:Int)<=(b:Int)+y1
    ·go_wp2_with fail
     go_meet
     exact⟨by rw[<-J2.out (by omega)];have:=A.out;go_num,rfl⟩
    go_wp2_with fail
    go_round
    case rel=>exact⟨a',b+y1,by have:=A.out;go_num,by go_num,J1,by omega,by have:=A.out;omega⟩
    case measure=>have:=A.out;simp[intOf];omega
   have J:=Lib.hid (Hout.out a b hi1.out (by have:=nE a y0;omega))
   clear hi1
   go_wp2_with fail
   go_meet
   exact⟨by rw[<-J.out],rfl⟩
 case rest =>
  obtain⟨rfl,rfl⟩:=hcut
  clear e1 e2 e3 e4 e5 e6 e7 e8 e9 g2 g3 g4 g5
  obtain⟨r1,hr1⟩:∃r1,r1=(un*4294967296+u1)%Y:=⟨_,rfl⟩
  have hr1Y:r1<Y:=by rw[hr1];exact Nat.mod_lt _ (by omega)
  have ed:=Nat.div_add_mod (un*4294967296+u1) Y
  rw[<-HQ1.out,<-hr1]at ed
  have ep:=nE Q1 Y
  have ec:=Nat.mul_comm Y Q1
  have er:IntKind.u64.wrap (IntKind.u64.wrap (IntKind.u64.wrap ((un:Int)*4294967296)+u1)-IntKind.u64.wrap ((Q1:Int)*Y))=(r1:Int):=by
   rw[IntKind.wrap_u64,IntKind.wrap_u64,IntKind.wrap_u64,IntKind.wrap_u64];omega
  clear ed ep ec
  obtain⟨Q0,hQ0⟩:∃Q0,Q0=(r1*4294967296+u0)/Y:=⟨_,rfl⟩
  obtain⟨q',r',e8,e9,g1,g2,g3,g4,g5⟩:=B2 F1.out hQ0 f3 f6
  have hnext:=fun a b=>@Ig r1 y1 y0 u0 a b Q0 Y F1.out hQ0 f3 f2 f6 hr1Y
  have hout:=fun a b=>@Lh r1 y1 y0 u0 a b Q0 Y F1.out hQ0 f3
  have Hnext':=Lib.hid hnext
  have Hout':=Lib.hid hout
  have G1':=Lib.hid g1
  have HQ0:=Lib.hid hQ0
  have HR1:=Lib.hid hr1
  clear hQ0 g1 hnext hout hr1
  go_upto_block 2 with fail
  go_cut [18] (fun x wx=>x=.int .u64 Q0/\wx=wc)
  case first =>
   clear er e8 e9
   go_wp2_with fail
   go_loop [18,16] (fun x z=>∃a b:Nat,x=.int .u64 a/\z=.int .u64 b/\Hid (a*y1+b=r1/\Q0<=a)/\b<4294967296/\a<=18446744073709551615) (fun x _=>(intOf x).toNat)
   case atStart=>exact⟨q',r',rfl,rfl,G1',by omega,by omega⟩
   case round =>
    obtain⟨a,b,rfl,rfl,hi1,hi2,hi3⟩:=hrel
    have F3:=Lib.hid f3
    have F3':=Lib.hid f3'
    have F2:=Lib.hid f2
    have F5:=Lib.hid f6
    have D4:=Lib.hid hi2
    have d0:(a:Int)<=18446744073709551615:=by omega
    have d3:(b:Int)<4294967296:=by omega
    have d4:(y1:Int)<4294967296:=by omega
    have d5:(2147483648:Int)<=y1:=by omega
    have d6:(u0:Int)<4294967296:=by omega
    clear hYb hl hy b1 b2 h0 hh t0 t1 hy2 g2 g3 g4 g5 f7 hr1Y f3 f3' f2 f5 f6 hi2 hi3
    by_cases c1:(4294967296:Int)<=(a:Int)
    ·obtain⟨a',rfl,j1,j2⟩:=Hnext'.out a b hi1.out (.inl (by omega))
     have J1:=Lib.hid j1
     have J2:=Lib.hid j2
     have C1:(4294967296:Int)<=(a':Int)+1:=by omega
     have D0:(a':Int)+1<=18446744073709551615:=by omega
     clear j1 j2 hi1 c1 d0
     by_cases c3:(4294967296:Int)<=(b:Int)+y1
     ·go_wp2_with fail
      go_meet
      exact⟨by rw[<-J2.out (by omega)],rfl⟩
     go_wp2_with fail
     go_round
     case rel=>exact⟨a',b+y1,rfl,by go_num,J1,by omega,by omega⟩
     case measure=>simp[intOf]
    obtain⟨p1,p2⟩:=Ca a y0 (by omega) F2.out
    by_cases c2:4294967296*(b:Int)+u0<(a:Int)*y0
    ·have C2:=Lib.hid c2
     obtain⟨a',ha',j1,j2⟩:=Hnext'.out a b hi1.out (.inr (by have:=nE a y0;omega))
     have A:=Lib.hid ha'
     have J1:=Lib.hid j1
     have J2:=Lib.hid j2
     have d1:(1:Int)<=(a:Int):=by omega
     clear ha' j1 j2 hi1
     by_cases c3:(4294967296:Int)<=(b:Int)+y1
     ·go_wp2_with fail
      go_meet
      exact⟨by rw[<-J2.out (by omega)];have:=A.out;go_num,rfl⟩
     go_wp2_with fail
     go_round
     case rel=>exact⟨a',b+y1,by have:=A.out;go_num,by go_num,J1,by omega,by have:=A.out;omega⟩
     case measure=>have:=A.out;simp[intOf];omega
    have J:=Lib.hid (Hout'.out a b hi1.out (by have:=nE a y0;omega))
    clear hi1
    go_wp2_with fail
    go_meet
    exact⟨by rw[<-J.out],rfl⟩
  case rest =>
   obtain⟨rfl,rfl⟩:=hcut
   clear er e8 e9 g2 g3 g4 g5
   obtain⟨r0,hr0⟩:∃r0,r0=(r1*4294967296+u0)%Y:=⟨_,rfl⟩
   have hr0Y:r0<Y:=by rw[hr0];exact Nat.mod_lt _ (by omega)
   have ed:=Nat.div_add_mod (r1*4294967296+u0) Y
   rw[<-HQ0.out,<-hr0]at ed
   have ep:=nE Q0 Y
   have ec:=Nat.mul_comm Y Q0
   have er:IntKind.u64.wrap (IntKind.u64.wrap (IntKind.u64.wrap ((r1:Int)*4294967296)+u0)-IntKind.u64.wrap ((Q0:Int)*Y))=(r0:Int):=by
    rw[IntKind.wrap_u64,IntKind.wrap_u64,IntKind.wrap_u64,IntKind.wrap_u64];omega
   have HE:=Lib.hid (Hend.out Q1 Q0 r1 r0 HQ1.out HR1.out HQ0.out hr0)
   clear ed ep ec hr0
   go_wp2_with fail
   go_ret2
   refine⟨JU ?_ ?_,xU _⟩
   ·exact P9 h0 hl HE.out.1
   exact Tu HE.out.2
theorem Fv(hi lo y:Nat)(w:World)(h0:hi<y)(hh:hi=0)(hy:y<18446744073709551616)(hl:lo<18446744073709551616):
  Calls prog 366 #[.int .u64 hi,.int .u64 lo,.int .u64 y] w fun e w'=>e=.returned (.tuple #[.int .u64 ((hi*18446744073709551616+lo)/y:Nat),.int .u64 ((hi*18446744073709551616+lo)%y:Nat)])/\∃n,w'=w.drewN n:=by
 have H:=Lib.hid hh
 have t0:((y:Int)==0)=false:=by simp;omega
 have t1:((hi:Int)==0)=true:=by simp;omega
 have hy2:0<y:=by omega
 clear hh
 go_enter func366,ntmps366
 go_wp2
 go_quiet (fail)
 go_wp2
 go_ret2
 refine⟨JU ?_ ?_,_,rfl⟩
 ·rw[H.out];simp[IF lo y hl]
 rw[H.out];simp
theorem uZ(hi lo y:Nat)(w:World)(h0:hi<y)(hy:y<18446744073709551616)(hl:lo<18446744073709551616):
  Calls prog 366 #[.int .u64 hi,.int .u64 lo,.int .u64 y] w fun e w'=>e=.returned (.tuple #[.int .u64 ((hi*18446744073709551616+lo)/y:Nat),.int .u64 ((hi*18446744073709551616+lo)%y:Nat)])/\∃n,w'=w.drewN n:=by
 by_cases hh:hi=0
 ·exact Fv hi lo y w h0 hh hy hl
 exact Od hi lo y w h0 (by omega) hy hl
end Go.Proofs.YtjcminooghmpeaaGreatDoor
namespace Go.Proofs.YtjcminooghmpeaaGreatDoor
open Go.RowKit (wrap64)
theorem VO(lo hi:Int)(h:0<=hi):(PS lo hi).natAbs=hi.toNat*18446744073709551616+U lo:=by unfold PS;omega
theorem Di(lo hi:Int):PS lo hi<0↔hi<0:=by
 have:=Bd lo
 unfold PS;omega
theorem Rw(lo hi d:Int)(hd:d≠0)(q r:Nat)(hq:q=(PS lo hi).natAbs/d.natAbs)(hr:r=(PS lo hi).natAbs%d.natAbs):
  lc lo hi d=(if (decide (hi<0) != decide (d<0))=true then(if q<=9223372036854775808 then(-(q:Int),(if hi<0 then -(r:Int)else r),0)else(0,0,-11))
   else(if q<9223372036854775808 then((q:Int),(if hi<0 then -(r:Int)else r),0)else(0,0,-11))):=by
 obtain⟨h1,h2⟩:=qL (PS lo hi) d hd
 rw[<-hq]at h1
 rw[<-hr]at h2
 have hn:decide (PS lo hi<0)=decide (hi<0):=by simp[Di]
 rw[hn]at h1
 simp only[Di]at h2
 simp only[lc,if_neg hd,h1,h2]
 by_cases hb:(decide (hi<0) != decide (d<0))=true
 ·simp only[if_pos hb]
  by_cases hf:q<=9223372036854775808
  ·rw[if_pos hf,if_pos (by simp[gd];omega)]
  rw[if_neg hf,if_neg (by simp[gd];omega)]
 simp only[if_neg hb]
 by_cases hf:q<9223372036854775808
 ·rw[if_pos hf,if_pos (by simp[gd];omega)]
 rw[if_neg hf,if_neg (by simp[gd];omega)]
theorem P4(lo hi d:Int)(hd:d≠0)(q r:Nat)(hq:q=(PS lo hi).natAbs/d.natAbs)(hr:r=(PS lo hi).natAbs%d.natAbs):
    jv lo hi d=(if (decide (hi<0) != decide (d<0))=true then
        (if r=0 then(if q<=9223372036854775808 then(-(q:Int),0,0)else(0,0,-11))
         else(if q+1<=9223372036854775808 then(-((q:Int)+1),(if d<0 then -((d.natAbs-r:Nat):Int)else((d.natAbs-r:Nat):Int)),0)else(0,0,-11)))
      else(if q<9223372036854775808 then((q:Int),(if d<0 then -(r:Int)else r),0)else(0,0,-11))):=by
  obtain⟨h1,h2⟩:=qL (PS lo hi) d hd
  obtain⟨h3,h4⟩:=tL (PS lo hi) d hd
  have hlt:r<d.natAbs:=by rw[hr];exact Nat.mod_lt _ (by omega)
  rw[<-hq]at h1
  rw[<-hr]at h2
  have hn:decide (PS lo hi<0)=decide (hi<0):=by simp[Di]
  rw[hn]at h1 h3 h4
  simp only[Di]at h2
  have hz:(PS lo hi).tmod d≠0↔r≠0:=by rw[h2];split<;>omega
  simp only[hz]at h3 h4
  simp only[jv,if_neg hd]
  by_cases hb:(decide (hi<0) != decide (d<0))=true
  · simp only[if_pos hb]
    rw[if_pos hb]at h1
    by_cases hr0:r=0
    · rw[if_neg (by simp[hr0])]at h3 h4
      rw[if_pos hr0]
      have h5:(PS lo hi).tmod d=0:=by rw[h2,hr0];split<;>rfl
      rw[h3,h4,h1,h5]
      by_cases hf:q<=9223372036854775808
      · rw[if_pos hf,if_pos (by simp[gd];omega)]
      rw[if_neg hf,if_neg (by simp[gd];omega)]
    rw[if_pos ⟨hr0,hb⟩]at h3 h4
    rw[if_neg hr0]
    have h5:(PS lo hi).tmod d+d=(if d<0 then -((d.natAbs-r:Nat):Int)else((d.natAbs-r:Nat):Int)):=by
      rw[h2]
      by_cases a:hi<0<;>by_cases b:d<0<;>simp[a,b]at hb ⊢<;>omega
    rw[h3,h4,h1,h5]
    by_cases hf:q+1<=9223372036854775808
    · rw[if_pos hf,if_pos (by simp[gd];omega),show -(q:Int)-1 = -((q:Int)+1) from by omega]
    rw[if_neg hf,if_neg (by simp[gd];omega)]
  simp only[if_neg hb]
  rw[if_neg hb]at h1
  rw[if_neg (by simp[hb])]at h3 h4
  have h5:(PS lo hi).tmod d=(if d<0 then -(r:Int)else r):=by
    rw[h2]
    by_cases a:hi<0<;>by_cases b:d<0<;>simp[a,b]at hb ⊢
  rw[h3,h4,h1,h5]
  by_cases hf:q<9223372036854775808
  · rw[if_pos hf,if_pos (by simp[gd];omega)]
  rw[if_neg hf,if_neg (by simp[gd];omega)]
open Go.RowKit
theorem BX(lo hi d:Int)(w:World):
  Calls prog 287 #[.int .i64 lo,.int .i64 hi,.int .i64 d] w fun e w'=>e=.returned (.tuple #[.int .i64 (io lo hi d).1,.int .i64 (io lo hi d).2.1,.int .i64 (io lo hi d).2.2])/\∃n,w'=w.drewN n:=by
 have b1:=Bd lo
 have b2:=Bd d
 by_cases h:d=0
 ·have E:io lo hi d=(0,0,-10):=by simp[io,h]
  have H:=Lib.hid E
  have t:(d==0)=true:=by simp[h]
  clear E h b1 b2
  go_enter func287,ntmps287
  go_wp2
  go_ret3
  exact⟨pk (by rw[H.out]) (by rw[H.out]) (by rw[H.out]),xU w⟩
 have t:(d==0)=false:=by simp[h]
 by_cases h2:U d<=U hi
 ·have E:io lo hi d=(0,0,-11):=by simp[io,h,h2]
  have H:=Lib.hid E
  have t2:decide (U hi<U d)=false:=by simp;omega
  clear E b1 b2
  go_enter func287,ntmps287
  go_wp2_with (go_at_call 359;refine(uK _ _ _).mono ?_;rintro e w' ⟨rfl,rfl⟩)
  go_ret3
  exact⟨pk (by rw[H.out]) (by rw[H.out]) (by rw[H.out]),xU w⟩
 have E:io lo hi d=(S (PU lo hi/U d),S (PU lo hi%U d),0):=by simp[io,h,h2]
 have H:=Lib.hid E
 have t2:decide (U hi<U d)=true:=by simp;omega
 have HB:=Lib.hid b1
 have HB2:=Lib.hid b2
 have H2:=Lib.hid h2
 clear E b1 b2 h2
 go_enter func287,ntmps287
 go_wp2_with (go_at_call 359;refine(uK _ _ _).mono ?_;rintro e w' ⟨rfl,rfl⟩)
 rw[ly hi,ly lo,ly d]
 refine(uZ (U hi) (U lo) (U d) _ (by have:=H2.out;omega) HB2.out HB.out).mono ?_
 rintro e w' ⟨rfl,n,rfl⟩
 go_wp2
 go_ret3
 exact⟨pk (by rw[H.out];simp[S,PU]) (by rw[H.out];simp[S,PU]) (by rw[H.out]),_,rfl⟩
theorem A7(lo hi d:Int)(w:World)(hh:Fit hi)(hd:Fit d)(hp:0<=hi):
  Calls prog 361 #[.int .i64 lo,.int .i64 hi,.int .i64 d] w fun e w' =>
   e=(if (PS lo hi).natAbs/18446744073709551616<d.natAbs then .returned (.tuple #[.int .u64 ((PS lo hi).natAbs/d.natAbs:Nat),.int .u64 ((PS lo hi).natAbs%d.natAbs:Nat),.bool (!(decide (hi<0)==decide (d<0))),.bool true])
    else .returned (.tuple #[.int .u64 0,.int .u64 0,.bool false,.bool false]))/\∃n,w'=w.drewN n:=by
 have b1:=Bd lo
 have u1:=ly hi
 have u3:=ly lo
 have hs:=VO lo hi hp
 have hU:U hi=hi.toNat:=aB6 hi hp hh.2
 rw[<-hU]at hs
 by_cases h2:d.natAbs<=U hi
 ·have E:¬(PS lo hi).natAbs/18446744073709551616<d.natAbs:=by omega
  rw[if_neg E]
  clear E hs b1 hU
  go_enter func361,ntmps361
  go_wp2_with (go_at_call 362;refine(pQ d _ hd).mono ?_;rintro e w' ⟨rfl,rfl⟩)
  exact bodyPost_ret (v:=.tuple #[.int .u64 0,.int .u64 0,.bool false,.bool false]) (by simp[results,Tryz.results361,go_sem]) rfl ⟨rfl,xU _⟩
 have E:(PS lo hi).natAbs/18446744073709551616<d.natAbs:=by omega
 rw[if_pos E]
 have HS:=Lib.hid hs
 have HB:=Lib.hid b1
 clear E hs b1 hU
 go_enter func361,ntmps361
 go_wp2_with (go_at_call 362;refine(pQ d _ hd).mono ?_;rintro e w' ⟨rfl,rfl⟩)
 refine(uZ (U hi) (U lo) d.natAbs _ (by omega) (by omega) HB.out).mono ?_
 rintro e w' ⟨rfl,n,rfl⟩
 go_wp2
 exact bodyPost_ret (v:=.tuple #[.int .u64 ((PS lo hi).natAbs/d.natAbs:Nat),.int .u64 ((PS lo hi).natAbs%d.natAbs:Nat),.bool (!(decide (hi<0)==decide (d<0))),.bool true]) (by rw[HS.out];simp[results,Tryz.results361,go_sem]) rfl ⟨rfl,_,rfl⟩
theorem L5(n:Nat)(h:n<18446744073709551616):bits .xor .u64 IntKind.u64.max (n:Int)=((18446744073709551615-n:Nat):Int):=by
 show IntKind.u64.wrap ((BitVec.ofInt 64 IntKind.u64.max ^^^ BitVec.ofInt 64 (n:Int)).toNat:Int)=_
 have e:BitVec.ofInt 64 IntKind.u64.max=BitVec.allOnes 64:=by decide
 have h1:(BitVec.ofInt 64 (n:Int)).toNat=n:=by
  rw[BitVec.ofInt_natCast,BitVec.toNat_ofNat];exact Nat.mod_eq_of_lt (by omega)
 rw[e,BitVec.allOnes_xor,BitVec.toNat_not,h1]
 exact IntWalk.u64_in _ (by omega)
theorem Of(x:Nat)(w:World):
  (callFunc 386 #[.int .u64 (x:Int),.int .u64 1,.int .u64 0]).run prog w =
   .ok (.value (.tuple #[.int .u64 (((x+1)%18446744073709551616:Nat):Int),.int .u64 (((x+1)/18446744073709551616:Nat):Int)])) w:=by
 rw[run_callFunc_extern func386 (by kernel_rfl) (by kernel_rfl) (by kernel_rfl) (e:=add64Entry) (by kernel_rfl),run_add64 _ _ _ (by omega) (by omega) (by omega) (by omega)]
 simp only[Result.andThen]
 congr 5
theorem A6(lo hi d:Int)(w:World)(hh:Fit hi)(hd:Fit d)(hp:hi<0):
  Calls prog 361 #[.int .i64 lo,.int .i64 hi,.int .i64 d] w fun e w' =>
   e=(if (PS lo hi).natAbs/18446744073709551616<d.natAbs then .returned (.tuple #[.int .u64 ((PS lo hi).natAbs/d.natAbs:Nat),.int .u64 ((PS lo hi).natAbs%d.natAbs:Nat),.bool (!(decide (hi<0)==decide (d<0))),.bool true])
    else .returned (.tuple #[.int .u64 0,.int .u64 0,.bool false,.bool false]))/\∃n,w'=w.drewN n:=by
 have b1:=Bd lo
 have b2:=Bd hi
 have hneg:=XW hi hp hh.1
 have hA:((PS lo hi).natAbs:Int) = -(hi*18446744073709551616+U lo):=by unfold PS;omega
 have u1:=ly hi
 have u3:=ly lo
 have n1:=L5 (U lo) b1
 have n2:=L5 (U hi) b2
 have radd:=fun w=>Of (18446744073709551615-U lo) w
 generalize (PS lo hi).natAbs=A at *
 obtain⟨low,hlow⟩:∃l,l=A%18446744073709551616:=⟨_,rfl⟩
 obtain⟨high,hhigh⟩:∃l,l=A/18446744073709551616:=⟨_,rfl⟩
 obtain⟨c,hc⟩:∃c,c=(18446744073709551615-U lo+1)/18446744073709551616:=⟨_,rfl⟩
 obtain⟨nl,hnl⟩:∃c,c=18446744073709551615-U lo:=⟨_,rfl⟩
 obtain⟨nh,hnh⟩:∃c,c=18446744073709551615-U hi:=⟨_,rfl⟩
 have f1:(18446744073709551615-U lo+1)%18446744073709551616=low:=by omega
 have f2:IntKind.u64.wrap ((nh:Int)+(c:Int))=(high:Int):=by rw[IntKind.wrap_u64];omega
 have hAe:A=high*18446744073709551616+low:=by omega
 have hlt:low<18446744073709551616:=by omega
 rw[f1,<-hc,<-hnl]at radd
 rw[<-hnl]at n1
 rw[<-hnh]at n2
 rw[<-hhigh]
 clear hlow hhigh hc hnl hnh f1 hA hneg b1 b2
 by_cases h2:d.natAbs<=high
 ·rw[if_neg (by omega)]
  clear hAe hlt
  go_enter func361,ntmps361
  go_wp2_with (go_at_call 362;refine(pQ d _ hd).mono ?_;rintro e w' ⟨rfl,rfl⟩)
  exact bodyPost_ret (v:=.tuple #[.int .u64 0,.int .u64 0,.bool false,.bool false]) (by simp[results,Tryz.results361,go_sem]) rfl ⟨rfl,xU _⟩
 rw[if_pos (by omega)]
 have HS:=Lib.hid hAe
 have HB:=Lib.hid hlt
 clear hAe hlt
 go_enter func361,ntmps361
 go_wp2_with (go_at_call 362;refine(pQ d _ hd).mono ?_;rintro e w' ⟨rfl,rfl⟩)
 refine(uZ high low d.natAbs _ (by omega) (by omega) HB.out).mono ?_
 rintro e w' ⟨rfl,n,rfl⟩
 go_wp2
 exact bodyPost_ret (v:=.tuple #[.int .u64 (A/d.natAbs:Nat),.int .u64 (A%d.natAbs:Nat),.bool (!(decide (hi<0)==decide (d<0))),.bool true]) (by rw[HS.out];simp[results,Tryz.results361,go_sem,hp]) rfl ⟨rfl,_,rfl⟩
theorem C4(lo hi d:Int)(w:World)(hh:Fit hi)(hd:Fit d)(h:¬(PS lo hi).natAbs/18446744073709551616<d.natAbs):
  Calls prog 361 #[.int .i64 lo,.int .i64 hi,.int .i64 d] w fun e w' =>
   e=.returned (.tuple #[.int .u64 0,.int .u64 0,.bool false,.bool false])/\∃n,w'=w.drewN n:=by
 by_cases hp:hi<0
 ·have:=A6 lo hi d w hh hd hp
  rw[if_neg h]at this;exact this
 have:=A7 lo hi d w hh hd (by omega)
 rw[if_neg h]at this;exact this
theorem Ah(lo hi d:Int)(w:World)(hh:Fit hi)(hd:Fit d)(q r:Nat)(b:Bool)(h:(PS lo hi).natAbs/18446744073709551616<d.natAbs)
  (hq:q=(PS lo hi).natAbs/d.natAbs) (hr:r=(PS lo hi).natAbs%d.natAbs) (hb:(decide (hi<0) != decide (d<0))=b) :
  Calls prog 361 #[.int .i64 lo,.int .i64 hi,.int .i64 d] w fun e w' =>
   e=.returned (.tuple #[.int .u64 q,.int .u64 r,.bool b,.bool true])/\∃n,w'=w.drewN n:=by
 subst hq hr
 have hb':(!(decide (hi<0)==decide (d<0)))=b:=hb
 by_cases hp:hi<0
 ·have:=A6 lo hi d w hh hd hp
  rw[if_pos h,hb']at this;exact this
 have:=A7 lo hi d w hh hd (by omega)
 rw[if_pos h,hb']at this;exact this
theorem He(q:Nat)(f:Bool)(w:World)(hq:q<18446744073709551616)(hf:decide (q<=9223372036854775808)=f):
  Calls prog 363 #[.int .u64 q,.bool true] w fun e w'=>e=.returned (.tuple #[.int .i64 (wrap64 (-(q:Int))),.bool f])/\w=w':=by
 have e:IntKind.i64.wrap (IntKind.u64.wrap (-(q:Int)))=wrap64 (-(q:Int)):=by
  rw[IntWalk.i64_left,IntKind.wrap_u64];unfold wrap64;omega
 cases f
 ·have h:¬(q:Int)<=9223372036854775808:=by simp at hf;omega
  clear hf hq
  go_enter func363,ntmps363
  go_wp2
  go_ret2
  exact⟨by rw[<-e];simp[go_sem];done,rfl⟩
 have h:(q:Int)<=9223372036854775808:=by simp at hf;omega
 clear hf hq
 go_enter func363,ntmps363
 go_wp2
 go_ret2
 exact⟨by rw[<-e];simp[go_sem];done,rfl⟩
theorem FH(q:Nat)(f:Bool)(w:World)(hf:decide (q<9223372036854775808)=f):
  Calls prog 363 #[.int .u64 q,.bool false] w fun e w'=>e=.returned (.tuple #[.int .i64 (wrap64 q),.bool f])/\w=w':=by
 cases f
 ·have h:¬(q:Int)<9223372036854775808:=by simp at hf;omega
  clear hf
  go_enter func363,ntmps363
  go_wp2
  go_ret2
  exact⟨by simp[go_sem];done,rfl⟩
 have h:(q:Int)<9223372036854775808:=by simp at hf;omega
 clear hf
 go_enter func363,ntmps363
 go_wp2
 go_ret2
 exact⟨by rw[dc q (by omega)];rfl,rfl⟩
def tX(q:Nat)(b:Bool):Int:=wrap64 (if b then -(q:Int)else q)
def tS(q:Nat)(b:Bool):Bool:=if b then decide (q<=9223372036854775808)else decide (q<9223372036854775808)
def mL(r:Nat)(b:Bool):Int:=wrap64 (if b then -(r:Int)else r)
theorem lL(q:Nat)(b:Bool)(w:World)(hq:q<18446744073709551616):
  Calls prog 363 #[.int .u64 q,.bool b] w fun e w'=>e=.returned (.tuple #[.int .i64 (tX q b),.bool (tS q b)])/\w=w':=by
 cases b
 ·exact FH q _ w rfl
 exact He q _ w hq rfl
theorem tb(r:Nat)(b:Bool)(w:World):
  Calls prog 364 #[.int .u64 r,.bool b] w fun e w'=>e=.returned (.int .i64 (mL r b))/\w=w':=by
 have e:wrap64 (IntKind.u64.wrap (-(r:Int)))=wrap64 (-(r:Int)):=by
  rw[IntKind.wrap_u64];unfold wrap64;omega
 have H:=Lib.hid e
 clear e
 cases b
 ·go_enter func364,ntmps364
  go_wp2
  go_ret
  exact⟨Xq rfl,rfl⟩
 go_enter func364,ntmps364
 go_wp2
 go_ret
 exact⟨Xq H.out,rfl⟩
theorem QA(lo hi d:Int)(h:(PS lo hi).natAbs/18446744073709551616<d.natAbs):(PS lo hi).natAbs/d.natAbs<18446744073709551616:=by
 rw[Nat.div_lt_iff_lt_mul (by omega),Nat.mul_comm]
 exact(Nat.div_lt_iff_lt_mul (by decide)).1 h
theorem O1(lo hi d:Int)(hd:d≠0)(h:¬(PS lo hi).natAbs/18446744073709551616<d.natAbs):18446744073709551616<=(PS lo hi).natAbs/d.natAbs:=by
 rw[Nat.le_div_iff_mul_le (by omega),Nat.mul_comm]
 have:=Nat.div_mul_le_self (PS lo hi).natAbs 18446744073709551616
 exact Nat.le_trans (Nat.mul_le_mul_right _ (by omega)) this
theorem MP(lo hi d:Int)(w:World)(hh:Fit hi)(hd:Fit d):
  Calls prog 289 #[.int .i64 lo,.int .i64 hi,.int .i64 d] w fun e w'=>e=.returned (.tuple #[.int .i64 (lc lo hi d).1,.int .i64 (lc lo hi d).2.1,.int .i64 (lc lo hi d).2.2])/\∃n,w'=w.drewN n:=by
 by_cases hz:d=0
 ·have E:=Lib.hid (show lc lo hi d=(0,0,-10) by simp[lc,hz])
  have t:(d==0)=true:=by simp[hz]
  clear hz
  go_enter func289,ntmps289
  go_wp2
  go_ret3
  exact⟨pk (by rw[E.out]) (by rw[E.out]) (by rw[E.out]),xU w⟩
 have t:(d==0)=false:=by simp[hz]
 obtain⟨q,hq⟩:∃q,q=(PS lo hi).natAbs/d.natAbs:=⟨_,rfl⟩
 obtain⟨r,hr⟩:∃r,r=(PS lo hi).natAbs%d.natAbs:=⟨_,rfl⟩
 have hs:=Rw lo hi d hz q r hq hr
 have hrl:r<d.natAbs:=by rw[hr];exact Nat.mod_lt _ (by omega)
 by_cases hy:(PS lo hi).natAbs/18446744073709551616<d.natAbs
 ·obtain⟨b,hb⟩:∃b,(decide (hi<0) != decide (d<0))=b:=⟨_,rfl⟩
  have hql:q<18446744073709551616:=by rw[hq];exact QA lo hi d hy
  have hc:=fun w=>Ah lo hi d w hh hd q r b hy hq hr hb
  obtain⟨f,hf⟩:∃f,tS q b=f:=⟨_,rfl⟩
  have hl:=fun w=>lL q b w hql
  rw[hf]at hl
  have E:lc lo hi d=if f then(tX q b,mL r (decide (hi<0)),0)else(0,0,-11):=by
   rw[hs,hb,<-hf]
   have hw:mL r (decide (hi<0))=if hi<0 then -(r:Int)else r:=by
    by_cases hn:hi<0
    ·simp only[mL,hn,decide_true,if_true];exact dc _ (by omega)
    simp only[mL,hn,decide_false,if_false,Bool.false_eq_true]
    by_cases hx:r=9223372036854775808
    ·omega
    exact dc _ (by omega)
   cases b
   ·simp only[Bool.false_eq_true,if_false,tS,decide_eq_true_eq,tX]
    by_cases hx:q<9223372036854775808
    ·rw[if_pos hx,if_pos hx,dc _ (by omega),hw]
    rw[if_neg hx,if_neg hx]
   simp only[if_true,tS,decide_eq_true_eq,tX]
   by_cases hx:q<=9223372036854775808
   ·rw[if_pos hx,if_pos hx,dc _ (by omega),hw]
   rw[if_neg hx,if_neg hx]
  have HE:=Lib.hid E
  have HC:=Lib.hid hc
  have HL:=Lib.hid hl
  clear E hc hl hf hb hs hq hr hrl hql hy hz hh hd
  cases f
  ·go_enter func289,ntmps289
   go_wp2_with (first|(go_at_call 361;refine(HC.out _).mono ?_;rintro e w' ⟨rfl,n,rfl⟩)|(go_at_call 363;refine(HL.out _).mono ?_;rintro e w' ⟨rfl,rfl⟩))
   go_ret3
   exact⟨pk (by rw[HE.out];rfl) (by rw[HE.out];rfl) (by rw[HE.out];rfl),_,rfl⟩
  go_enter func289,ntmps289
  go_wp2_with (first|(go_at_call 361;refine(HC.out _).mono ?_;rintro e w' ⟨rfl,n,rfl⟩)|(go_at_call 363;refine(HL.out _).mono ?_;rintro e w' ⟨rfl,rfl⟩)|(go_at_call 364;refine(tb r _ _).mono ?_;rintro e w' ⟨rfl,rfl⟩))
  go_ret3
  exact⟨pk (by rw[HE.out];rfl) (by rw[HE.out];rfl) (by rw[HE.out];rfl),_,rfl⟩
 have hqg:18446744073709551616<=q:=by rw[hq];exact O1 lo hi d hz hy
 have hc:=fun w=>C4 lo hi d w hh hd hy
 have E:lc lo hi d=(0,0,-11):=by
  rw[hs]
  by_cases hb:(decide (hi<0) != decide (d<0))=true
  ·rw[if_pos hb,if_neg (show ¬q<=9223372036854775808 by omega)]
  rw[if_neg hb,if_neg (show ¬q<9223372036854775808 by omega)]
 have HE:=Lib.hid E
 have HC:=Lib.hid hc
 clear E hc hs hq hr hrl hqg hy hz hh hd
 go_enter func289,ntmps289
 go_wp2_with (first|(go_at_call 361;refine(HC.out _).mono ?_;rintro e w' ⟨rfl,n,rfl⟩)|(go_at_call 363;refine(lL 0 false _ (by decide)).mono ?_;rintro e w' ⟨rfl,rfl⟩))
 go_ret3
 exact⟨pk (by rw[HE.out]) (by rw[HE.out]) (by rw[HE.out]),_,rfl⟩
theorem Ny(lo hi d:Int)(w:World)(hh:Fit hi)(hd:Fit d):
  Calls prog 279 #[.int .i64 lo,.int .i64 hi,.int .i64 d] w fun e w'=>e=.returned (.tuple #[.int .i64 (jv lo hi d).1,.int .i64 (jv lo hi d).2.1,.int .i64 (jv lo hi d).2.2])/\∃n,w'=w.drewN n:=by
 by_cases hz:d=0
 ·have E:=Lib.hid (show jv lo hi d=(0,0,-10) by simp[jv,hz])
  have t:(d==0)=true:=by simp[hz]
  clear hz
  go_enter func279,ntmps279
  go_wp2
  go_ret3
  exact⟨pk (by rw[E.out]) (by rw[E.out]) (by rw[E.out]),xU w⟩
 have t:(d==0)=false:=by simp[hz]
 obtain⟨q,hq⟩:∃q,q=(PS lo hi).natAbs/d.natAbs:=⟨_,rfl⟩
 obtain⟨r,hr⟩:∃r,r=(PS lo hi).natAbs%d.natAbs:=⟨_,rfl⟩
 have hs:=P4 lo hi d hz q r hq hr
 have hrl:r<d.natAbs:=by rw[hr];exact Nat.mod_lt _ (by omega)
 by_cases hy:(PS lo hi).natAbs/18446744073709551616<d.natAbs
 ·obtain⟨b,hb⟩:∃b,(decide (hi<0) != decide (d<0))=b:=⟨_,rfl⟩
  have hql:q<18446744073709551616:=by rw[hq];exact QA lo hi d hy
  have hc:=fun w=>Ah lo hi d w hh hd q r b hy hq hr hb
  rw[hb]at hs
  have HC:=Lib.hid hc
  clear hc hb hq hr hy hz
  have hz1:=fun w=>pQ d w hd
  have HZ:=Lib.hid hz1
  clear hz1
  cases b
  ·simp only[Bool.false_eq_true,if_false]at hs
   obtain⟨f,hf⟩:∃f,tS q false=f:=⟨_,rfl⟩
   have hl:=fun w=>lL q false w hql
   rw[hf]at hl
   have hw:mL r (decide (d<0))=if d<0 then -((r:Nat):Int)else((r:Nat):Int):=by
    by_cases hn:d<0
    ·simp only[mL,hn,decide_true,if_true];exact dc _ (by omega)
    simp only[mL,hn,decide_false,if_false,Bool.false_eq_true];exact dc _ (by omega)
   have E:jv lo hi d=if f then(tX q false,mL r (decide (d<0)),0)else(0,0,-11):=by
    rw[hs,<-hf]
    simp only[tS,Bool.false_eq_true,if_false,decide_eq_true_eq,tX]
    by_cases hx:q<9223372036854775808
    ·rw[if_pos hx,if_pos hx,dc _ (by omega),hw]
    rw[if_neg hx,if_neg hx]
   have HE:=Lib.hid E
   have HL:=Lib.hid hl
   clear E hl hf hs hrl hql hh hd hw
   cases f
   ·go_enter func279,ntmps279
    go_wp2_with (first|(go_at_call 361;refine(HC.out _).mono ?_;rintro e w' ⟨rfl,n,rfl⟩)|(go_at_call 363;refine(HL.out _).mono ?_;rintro e w' ⟨rfl,rfl⟩))
    go_ret3
    exact⟨pk (by rw[HE.out];rfl) (by rw[HE.out];rfl) (by rw[HE.out];rfl),_,rfl⟩
   cases hq0:((q:Int)==0)
   all_goals
    go_enter func279,ntmps279
    go_wp2_with (first|(go_at_call 361;refine(HC.out _).mono ?_;rintro e w' ⟨rfl,n,rfl⟩)|(go_at_call 363;refine(HL.out _).mono ?_;rintro e w' ⟨rfl,rfl⟩)|(go_at_call 364;refine(tb r _ _).mono ?_;rintro e w' ⟨rfl,rfl⟩))
    go_ret3
    exact⟨pk (by rw[HE.out];rfl) (by rw[HE.out];rfl) (by rw[HE.out];rfl),_,rfl⟩
  simp only[if_true]at hs
  by_cases hr0:r=0
  ·subst hr0
   obtain⟨f,hf⟩:∃f,tS q true=f:=⟨_,rfl⟩
   have hl:=fun w=>lL q true w hql
   rw[hf]at hl
   have hw:mL 0 (decide (d<0))=0:=by
    unfold mL;cases decide (d<0)<;>simp<;>exact dc _ (by omega)
   have E:jv lo hi d=if f then(tX q true,mL 0 (decide (d<0)),0)else(0,0,-11):=by
    rw[hs,<-hf]
    simp only[tS,if_true,decide_eq_true_eq,tX]
    by_cases hx:q<=9223372036854775808
    ·rw[if_pos hx,if_pos hx,dc _ (by omega),hw]
    rw[if_neg hx,if_neg hx]
   have HE:=Lib.hid E
   have HL:=Lib.hid hl
   clear E hl hf hs hrl hql hh hd hw
   cases f
   ·go_enter func279,ntmps279
    go_wp2_with (first|(go_at_call 361;refine(HC.out _).mono ?_;rintro e w' ⟨rfl,n,rfl⟩)|(go_at_call 363;refine(HL.out _).mono ?_;rintro e w' ⟨rfl,rfl⟩))
    go_ret3
    exact⟨pk (by rw[HE.out];rfl) (by rw[HE.out];rfl) (by rw[HE.out];rfl),_,rfl⟩
   cases hq0:((q:Int)==0)
   all_goals
    go_enter func279,ntmps279
    go_wp2_with (first|(go_at_call 361;refine(HC.out _).mono ?_;rintro e w' ⟨rfl,n,rfl⟩)|(go_at_call 363;refine(HL.out _).mono ?_;rintro e w' ⟨rfl,rfl⟩)|(go_at_call 364;refine(tb 0 _ _).mono ?_;rintro e w' ⟨rfl,rfl⟩))
    go_ret3
    exact⟨pk (by rw[HE.out];rfl) (by rw[HE.out];rfl) (by rw[HE.out];rfl),_,rfl⟩
  rw[if_neg hr0]at hs
  have g1:((r:Int)==0)=false:=by simp;omega
  have g2:((r:Int) != 0)=true:=by simp;omega
  have hsub:((d.natAbs:Nat):Int)-r=((d.natAbs-r:Nat):Int):=by omega
  obtain⟨r',hr'⟩:∃r',r'=d.natAbs-r:=⟨_,rfl⟩
  rw[<-hr']at hs hsub
  have hrI:(r:Int)<(d.natAbs:Nat):=by omega
  have hdI:((d.natAbs:Nat):Int)<=9223372036854775808:=by omega
  have hr'l:r'<=d.natAbs/\0<r'/\r'<d.natAbs:=by omega
  have g3:((r':Int)==0)=false:=by simp;omega
  have g4:((r':Int) != 0)=true:=by simp;omega
  by_cases hq1:q+1<18446744073709551616
  ·obtain⟨q',hq'⟩:∃q',q'=q+1:=⟨_,rfl⟩
   have hqs:(q:Int)+1=(q':Int):=by omega
   have hqb:(q:Int)<=18446744073709551614:=by omega
   have g5:((q':Int)==0)=false:=by simp;omega
   obtain⟨f,hf⟩:∃f,tS q' true=f:=⟨_,rfl⟩
   have hl:=fun w=>lL q' true w (by omega)
   rw[hf]at hl
   have hw:mL r' (decide (d<0))=if d<0 then -((r':Nat):Int)else((r':Nat):Int):=by
    by_cases hn:d<0
    ·simp only[mL,hn,decide_true,if_true];exact dc _ (by omega)
    simp only[mL,hn,decide_false,if_false,Bool.false_eq_true];exact dc _ (by omega)
   have E:jv lo hi d=if f then(tX q' true,mL r' (decide (d<0)),0)else(0,0,-11):=by
    rw[hs,<-hf,hqs,<-hq']
    simp only[tS,if_true,decide_eq_true_eq,tX]
    by_cases hx:q'<=9223372036854775808
    ·rw[if_pos hx,if_pos hx,dc _ (by omega),hw]
    rw[if_neg hx,if_neg hx]
   have HE:=Lib.hid E
   have HL:=Lib.hid hl
   have HA:=Lib.hid hrl
   clear E hl hf hs hrl hql hh hd hw hr'l hr' hq' hq1 hr0
   cases f
   ·go_enter func279,ntmps279
    go_wp2_with (first|(go_at_call 361;refine(HC.out _).mono ?_;rintro e w' ⟨rfl,n,rfl⟩)|(go_at_call 363;refine(HL.out _).mono ?_;rintro e w' ⟨rfl,rfl⟩)|(go_at_call 362;refine(HZ.out _).mono ?_;rintro e w' ⟨rfl,rfl⟩))
    go_ret3
    exact⟨pk (by rw[HE.out];rfl) (by rw[HE.out];rfl) (by rw[HE.out];rfl),_,rfl⟩
   go_enter func279,ntmps279
   go_wp2_with (first|(go_at_call 361;refine(HC.out _).mono ?_;rintro e w' ⟨rfl,n,rfl⟩)|(go_at_call 363;refine(HL.out _).mono ?_;rintro e w' ⟨rfl,rfl⟩)|(go_at_call 362;refine(HZ.out _).mono ?_;rintro e w' ⟨rfl,rfl⟩)|(go_at_call 364;refine(tb r' _ _).mono ?_;rintro e w' ⟨rfl,rfl⟩))
   go_ret3
   exact⟨pk (by rw[HE.out];rfl) (by rw[HE.out];rfl) (by rw[HE.out];rfl),_,rfl⟩
  have hqs:IntKind.u64.wrap ((q:Int)+1)=0:=by rw[IntKind.wrap_u64];omega
  have hl:=fun w=>lL 0 true w (by decide)
  have E:jv lo hi d=(0,0,-11):=by
   rw[hs,if_neg (by omega)]
  have HE:=Lib.hid E
  have HL:=Lib.hid hl
  clear E hl hs hrl hql hh hd hr'l hr' hq1 hr0
  go_enter func279,ntmps279
  go_wp2_with (first|(go_at_call 361;refine(HC.out _).mono ?_;rintro e w' ⟨rfl,n,rfl⟩)|(go_at_call 363;refine(HL.out _).mono ?_;rintro e w' ⟨rfl,rfl⟩)|(go_at_call 362;refine(HZ.out _).mono ?_;rintro e w' ⟨rfl,rfl⟩))
  go_ret3
  exact⟨pk (by rw[HE.out]) (by rw[HE.out]) (by rw[HE.out]),_,rfl⟩
 have hqg:18446744073709551616<=q:=by rw[hq];exact O1 lo hi d hz hy
 have hc:=fun w=>C4 lo hi d w hh hd hy
 have E:jv lo hi d=(0,0,-11):=by
  rw[hs]
  by_cases hb:(decide (hi<0) != decide (d<0))=true
  ·rw[if_pos hb,if_neg (show ¬q<=9223372036854775808 by omega),if_neg (show ¬q+1<=9223372036854775808 by omega)];simp
  rw[if_neg hb,if_neg (show ¬q<9223372036854775808 by omega)]
 have HE:=Lib.hid E
 have HC:=Lib.hid hc
 clear E hc hs hq hr hrl hqg hy hz hh hd
 go_enter func279,ntmps279
 go_wp2_with (first|(go_at_call 361;refine(HC.out _).mono ?_;rintro e w' ⟨rfl,n,rfl⟩)|(go_at_call 363;refine(lL 0 false _ (by decide)).mono ?_;rintro e w' ⟨rfl,rfl⟩))
 go_ret3
 exact⟨pk (by rw[HE.out]) (by rw[HE.out]) (by rw[HE.out]),_,rfl⟩
def lD(u:Nat):List Int:=[(u:Int)%256,(u:Int)/256%256,(u:Int)/65536%256,(u:Int)/16777216%256,
  (u:Int)/4294967296%256,(u:Int)/1099511627776%256,(u:Int)/281474976710656%256,(u:Int)/72057594037927936%256]
theorem Jz(u:Nat):(lD u).length=8:=rfl
def Ul(w:World)(x:List Value):World :=
 ((w.alloc (.cells x.toArray 244)).alloc (.cells #[.int .u8 0,.int .u8 0,.int .u8 0,.int .u8 0,.int .u8 0,.int .u8 0,.int .u8 0,.int .u8 0] 5)).setRow (w.heap.size+1) x.toArray
theorem Mw(w:World)(x:List Value):(Ul w x).heap[w.heap.size+1]?=some (.cells x.toArray 5 (0,0)):=by
 unfold Ul
 exact setRow_heap _ (w.heap.size+1) #[.int .u8 0,.int .u8 0,.int .u8 0,.int .u8 0,.int .u8 0,.int .u8 0,.int .u8 0,.int .u8 0] _ _ _ (by simpa using heap_alloc_new (w.alloc (.cells x.toArray 244)) _)
theorem IS(w:World)(x:List Value):Below w.heap.size w (Ul w x) :=
 below_setRow (((Below.refl _ _).alloc (Nat.le_refl _) _).alloc (by simp) _) (by omega) _
theorem My(w:World)(x0 x1 x2 x3 x4 x5 x6 x7:Int):
  (Builtin.copy_ #[22,22] 3 #[.slice (some ⟨w.heap.size+1,0,none⟩) 8 8,.slice (some ⟨w.heap.size,0,none⟩) 8 8]).run prog
   ((w.alloc (.cells #[.int .u8 x0,.int .u8 x1,.int .u8 x2,.int .u8 x3,.int .u8 x4,.int .u8 x5,.int .u8 x6,.int .u8 x7] 244)).alloc (.cells #[.int .u8 0,.int .u8 0,.int .u8 0,.int .u8 0,.int .u8 0,.int .u8 0,.int .u8 0,.int .u8 0] 5)) =
   .ok (.int .i64 8) (Ul w [.int .u8 x0,.int .u8 x1,.int .u8 x2,.int .u8 x3,.int .u8 x4,.int .u8 x5,.int .u8 x6,.int .u8 x7]):=by
 have h:=run_copy_row (P:=prog) ((w.alloc (.cells #[.int .u8 x0,.int .u8 x1,.int .u8 x2,.int .u8 x3,.int .u8 x4,.int .u8 x5,.int .u8 x6,.int .u8 x7] 244)).alloc (.cells #[.int .u8 0,.int .u8 0,.int .u8 0,.int .u8 0,.int .u8 0,.int .u8 0,.int .u8 0,.int .u8 0] 5))
  22 22 3 5 (w.heap.size+1) 0 8 8 ⟨w.heap.size,0,none⟩ 8 8 #[.int .u8 0,.int .u8 0,.int .u8 0,.int .u8 0,.int .u8 0,.int .u8 0,.int .u8 0,.int .u8 0] 5
  [.int .u8 x0,.int .u8 x1,.int .u8 x2,.int .u8 x3,.int .u8 x4,.int .u8 x5,.int .u8 x6,.int .u8 x7]
  underlying22 (by kernel_rfl) (by simpa using heap_alloc_new (w.alloc _) _) rfl ?_ (by simp) (by simp[Value.oneCell'])
 ·exact h
 intro j v hj
 have hg:((w.alloc (.cells #[.int .u8 x0,.int .u8 x1,.int .u8 x2,.int .u8 x3,.int .u8 x4,.int .u8 x5,.int .u8 x6,.int .u8 x7] 244)).alloc (.cells #[.int .u8 0,.int .u8 0,.int .u8 0,.int .u8 0,.int .u8 0,.int .u8 0,.int .u8 0,.int .u8 0] 5)).heap[w.heap.size]? =
   some (.cells #[.int .u8 x0,.int .u8 x1,.int .u8 x2,.int .u8 x3,.int .u8 x4,.int .u8 x5,.int .u8 x6,.int .u8 x7] 244 (0,0)):=by
  rw[Below.heap_alloc _ _ _ (by simp)];exact heap_alloc_new w _
 rw[show(⟨w.heap.size,0,none⟩:Addr).add j=⟨w.heap.size,j,none⟩ from by unfold Addr.add;split<;>simp_all,cell_of_row _ _ _ _ _ _ hg]
 simpa using hj
def AA(xs:List Int)(w:World)(e:Ending)(w':World):Prop :=
 ∃b c,e=.returned (.slice (some ⟨b,0,none⟩) xs.length c)/\w.heap.size<=b/\xs.length<=c/\(∀i,i<xs.length->w'.cell? ⟨b,i,none⟩=some (.int .u8 (xs.getD i 0)))/\Below w.heap.size w w'
theorem Rz(n:Int)(w:World):
  Calls prog 124 #[.int .i64 n] w (AA (lD (U n)) w):=by
 have u:=ly n
 have hmk:∀w,(Instr.makeSlice 22 (.int .i64 8) (.int .i64 8)).run prog w=.ok (.slice (some ⟨w.heap.size,0,none⟩) 8 8) (w.alloc (.cells #[.int .u8 0,.int .u8 0,.int .u8 0,.int .u8 0,.int .u8 0,.int .u8 0,.int .u8 0,.int .u8 0] 5)):=fun _=>by kernel_rfl
 have hcp:=My w ((U n:Int)%256) ((U n:Int)/256%256) ((U n:Int)/65536%256) ((U n:Int)/16777216%256) ((U n:Int)/4294967296%256) ((U n:Int)/1099511627776%256) ((U n:Int)/281474976710656%256) ((U n:Int)/72057594037927936%256)
 go_enter func124,ntmps124
 go_wp2_with fail
 go_rounds 9
 go_ret
 refine⟨w.heap.size+1,8,rfl,by omega,by rw[Jz];exact Nat.le_refl _,fun i hi=>?_,IS _ _⟩
 rw[cell_of_row _ _ _ _ _ _ (Mw _ _)]
 have h8:i<8:=hi
 have:i=0\/i=1\/i=2\/i=3\/i=4\/i=5\/i=6\/i=7:=by omega
 rcases this with rfl|rfl|rfl|rfl|rfl|rfl|rfl|rfl<;>rfl
theorem Tryz.infoByte:(prog.info? 5).map (fun i=>(i.zero,i.size,i.bytes))=some (some (.int .u8 0),1,1):=by kernel_rfl
def pX:List Int->Nat
 | []=>0
 | x::t=>x.toNat+256*pX t
theorem Gu(xs ys:List Int):pX (xs++ys)=pX xs+256 ^ xs.length*pX ys:=by
 induction xs with
 | nil=>simp[pX]
 | cons x t ih =>
  simp only[List.cons_append,pX,ih,List.length_cons,Nat.pow_succ,Nat.mul_add,Nat.add_assoc]
  rw[<-Nat.mul_assoc 256,Nat.mul_comm 256 (256 ^ _)]
theorem Vd(xs:List Int)(h:∀x∈xs,0<=x/\x<256):pX xs<256 ^ xs.length:=by
 induction xs with
 | nil=>simp[pX]
 | cons x t ih =>
  have h1:=ih fun y hy=>h y (List.mem_cons_of_mem _ hy)
  have h2:=h x List.mem_cons_self
  simp only[pX,List.length_cons,Nat.pow_succ]
  omega
theorem Nn{xs:List Int}(h:∀x∈xs,0<=x/\x<256)(k:Nat)(hk:k<xs.length):0<=xs.getD k 0/\xs.getD k 0<256:=by
 have e:xs.getD k 0=xs[k]:=by simp[List.getD,hk]
 rw[e];exact h _ (List.getElem_mem hk)
theorem Ot(xs:List Int)(k:Nat)(hk:k<xs.length):xs.take (k+1)=xs.take k++[xs.getD k 0]:=by
 rw[List.take_add_one,List.getElem?_eq_getElem hk];simp[List.getD,hk]
theorem Vr(acc x k:Nat)(hacc:acc<256 ^ k)(hx:x<256)(hk:k<8):
  bits .or .u64 (acc:Int) (IntKind.u64.wrap ((x:Int)*2 ^ (8*k)))=((acc+256 ^ k*x:Nat):Int):=by
 have e0:(256:Nat) ^ k=2 ^ (8*k):=by rw[show(256:Nat)=2 ^ 8 from rfl,<-Nat.pow_mul]
 have e1:(x:Int)*2 ^ (8*k)=((x*2 ^ (8*k):Nat):Int):=by simp
 have hp:2 ^ (8*k)<=2 ^ 56:=Nat.pow_le_pow_right (by omega) (by omega)
 have hq:x*2 ^ (8*k)<=255*2 ^ 56:=Nat.mul_le_mul (by omega) hp
 have h56:(2:Nat) ^ 56=72057594037927936:=by decide
 rw[e0]at hacc
 rw[e1,IntWalk.u64_in _ (by omega),u64_or_nat _ _ (by omega) (by omega),e0]
 congr 1
 have:=Nat.shiftLeft_add_eq_or_of_lt hacc x
 rw[Nat.shiftLeft_eq]at this
 rw[Nat.or_comm,<-this,Nat.mul_comm,Nat.add_comm]
theorem Q5(b o c:Nat)(xs:List Int)(w:World)(hl:xs.length=8)(hb:∀x∈xs,0<=x/\x<256)(hc:∀i,i<8->w.cell? ⟨b,o+i,none⟩=some (.int .u8 (xs.getD i 0))):
  Calls prog 73 #[.slice (some ⟨b,o,none⟩) 8 c] w fun e w'=>e=.returned (.tuple #[.int .i64 (wrap64 (pX xs)),.int .i64 0])/\w=w':=by
 have HC:=Lib.hid hc
 have HL:=Lib.hid hl
 have HB:=Lib.hid hb
 clear hc hl hb
 go_enter func73,ntmps73
 go_wp2_with fail
 go_loop [4,12] (fun a i=>∃k m:Nat,k<=8/\i=.int .i64 k/\a=.int .u64 m/\Hid (m=pX (xs.take k))) (fun _ i=>8-(intOf i).toNat)
 case atStart=>exact⟨0,0,by omega,rfl,rfl,rfl⟩
 case round =>
  obtain⟨k,m,hk,rfl,rfl,hm⟩:=hrel
  by_cases hlt:k<8
  ·obtain⟨x,hx,hx2,hcell⟩:∃x:Nat,(xs.getD k 0=(x:Int))/\x<256/\w.cell? ⟨b,o+k,none⟩=some (.int .u8 (x:Int)):=by
    have h1:=Nn HB.out k (by have:=HL.out;omega)
    refine⟨(xs.getD k 0).toNat,by omega,by omega,?_⟩
    rw[HC.out k hlt]
    congr 2
    omega
   have hmlt:m<256 ^ k:=by
    have:=Vd (xs.take k) fun y hy=>HB.out y (List.mem_of_mem_take hy)
    rw[<-hm.out,List.length_take]at this
    rwa [Nat.min_eq_left (by have:=HL.out;omega)]at this
   have hor:=Vr m x k hmlt hx2 hlt
   have hm':Hid (m+256 ^ k*x=pX (xs.take (k+1))):=by
    show _=_
    rw[Ot _ _ (by have:=HL.out;omega),Gu,<-hm.out,hx,List.length_take,Nat.min_eq_left (by have:=HL.out;omega)]
    simp[pX]
   generalize m+256 ^ k*x=m' at *
   clear hm hmlt hx
   go_wp2
   go_round
   case rel=>exact⟨k+1,m',by omega,by go_num,rfl,hm'⟩
   case measure=>simp[intOf];omega
  have e:m=pX xs:=by rw[hm.out,List.take_of_length_le (by have:=HL.out;omega)]
  clear hm
  go_wp2
  go_ret2
  exact⟨rfl,rfl⟩
def ae(n:Int):Prop:=-9223372036854775808<=n/\n<=9223372036854775807
def bp(m:bj)(at_ n:Int):Bool:=decide (n=0\/(0<n/\0<=at_/\at_+n<=m.b.length))
def cU(m:bj)(at_:Int):Int:=if bp m at_ 8 then(if at_.tmod 8=0 then 0 else -23)else -9
def ID(l:List UInt8):Int:=wrap64 (pX (l.map fun b=>(b.toNat:Int)))
def am(m:bj)(at_:Int):Int×Int:=if cU m at_=0 then(ID ((m.b.drop at_.toNat).take 8),0)else(0,cU m at_)
theorem pr(m:bj)(at_ n:Int)(hm:m.b.length<=9223372036854775807)(ha:ae at_)(hn:ae n):ab prog 102 [jl m,i64 at_,i64 n] (boo (bp m at_ n)):=by
 unfold ae at ha hn
 refine zY func102 fun B=>?_
 refine zu2 ?_
 refine zp3 ?_
 refine Wb 9 rfl (fun hg1=>?_) (fun hg1=>?_)
 ·refine z6 ?_
  iterate 21 refine z6 ?_
  refine zs2 ?_
  refine zR ?_
  exact congrArg boo (by(simp only[bp,bS];rw[Bool.eq_iff_iff];simp only[dnL]at *;(try simp only[bS,wrap64]at *);omega))
 refine zy3 ?_
 refine Wb 12 rfl (fun hg2=>?_) (fun hg2=>?_)
 ·refine zy4 ?_
  refine Wb 16 rfl (fun hg3=>?_) (fun hg3=>?_)
  ·refine zy5 ?_
   refine zy2 ?_
   refine Wb 23 rfl (fun hg4=>?_) (fun hg4=>?_)
   ·refine zy5 ?_
    refine zs5 ?_
    refine zR ?_
    exact congrArg boo (by(simp only[bp,bS];rw[Bool.eq_iff_iff];simp only[dnL]at *;(try simp only[bS,wrap64]at *);omega))
   refine z6 ?_
   iterate 6 refine z6 ?_
   refine zs3 ?_
   refine zR ?_
   exact congrArg boo (by(simp only[bp,bS];rw[Bool.eq_iff_iff];simp only[dnL]at *;(try simp only[bS,wrap64]at *);omega))
  refine z6 ?_
  iterate 4 refine z6 ?_
  refine zy2 ?_
  iterate 7 refine z6 ?_
  refine zs3 ?_
  refine zR ?_
  exact congrArg boo (by(simp only[bp,bS];rw[Bool.eq_iff_iff];simp only[dnL]at *;(try simp only[bS,wrap64]at *);omega))
 refine z6 ?_
 refine z6 ?_
 refine zy2 ?_
 iterate 5 refine z6 ?_
 refine zy2 ?_
 iterate 7 refine z6 ?_
 refine zs3 ?_
 refine zR ?_
 exact congrArg boo (by(simp only[bp,bS];rw[Bool.eq_iff_iff];simp only[dnL]at *;(try simp only[bS,wrap64]at *);omega))
theorem ay0:ae 8:=by unfold ae;omega
theorem zz(m:bj)(at_:Int)(hm:m.b.length<=9223372036854775807)(ha:ae at_):ab prog 72 [jl m,i64 at_] (i64 (cU m at_)):=by
 refine zY func72 fun B=>?_
 refine zu2 ?_
 refine Ws<|Wl<|zp2 ?_
 refine zc rfl func102 ((pr m at_ 8 hm ha ay0) _) ?_
 refine zs2 ?_
 refine Wi rfl (fun hi1=>?_) (fun hi1=>?_)
 ·refine zu1 ?_
  refine zR ?_
  simp_all[cU,ic,jW,OB,i64,boo,str]
 refine zu4 ?_
 refine Wi rfl (fun hi2=>?_) (fun hi2=>?_)
 ·refine zu1 ?_
  refine zR ?_
  simp_all[cU,ic,jW,OB,i64,boo,str]
 refine Wj<|zu1 ?_
 refine zR ?_
 simp_all[cU,ic,jW,OB,i64,boo,str]
theorem Oi(m:bj)(at_:Int)(h:cU m at_=0)(ha:ae at_)(hm:m.b.length<=140737488355328):0<=at_/\at_+8<=m.b.length/\wrap64 (at_+8)=at_+8:=by
 unfold cU bp at h
 simp only[decide_eq_true_eq]at h
 split at h
 ·rename_i h0
  refine⟨by omega,by omega,?_⟩
  unfold wrap64 ae at *;omega
 omega
theorem IZ{c:Cx}{l:List UInt8}{b:Addr}{vs:List Value}(hrl:au c (l.flatMap aK) vs):vs=l.map (fun x=>Value.int .u8 (x.toNat:Int)):=by
 rw[j8]at hrl
 rw[qQ hrl,List.map_map]
 rfl
theorem Gd{f:FuncId}(l:List UInt8)(hl:l.length=8)(H0:∀(b o c:Nat) (xs:List Int) (w:World) (hl:xs.length=8) (hb:∀x∈xs,0<=x/\x<256) (hc:∀i,i<8->w.cell? ⟨b,o+i,none⟩=some (.int .u8 (xs.getD i 0))),Calls prog f #[.slice (some ⟨b,o,none⟩) 8 c] w fun e w'=>e=.returned (.tuple #[.int .i64 (wrap64 (pX xs)),.int .i64 0])/\w=w'):
  ab prog f [sq aK l] (ic (i64 (ID l)) (i64 0)):=by
 intro H B σ w vs s hv
 match vs,hv with
 | [],hv=>unfold au at hv;obtain⟨u,us,h1,_⟩:=hv;cases h1
 | v::vs,hv =>
  rw[aj,aG]at hv
  obtain⟨hv,rfl⟩:=hv
  unfold sq at hv
  obtain⟨ad,cap,ws,rfl,hle,hnil,hrl,hlies,_⟩:=gx hv
  have hws:=IZ (b:=default) hrl
  have hwl:ws.length=8:=by rw[hws];simpa using hl
  match ad,hnil,hlies with
  | none,hnil,_=>have:=(hnil rfl).1;omega
  | some b,_,hlies =>
   have hl2:=(hlies b rfl).resolve_right (by rintro⟨_,h3⟩;rw[h3]at hwl;simp at hwl)
   have hbe:=gI hl2
   rw[hbe,hl]
   refine Calls.mono (H0 b.block b.off cap (l.map fun x=>(x.toNat:Int)) w (by simpa using hl) (fun x hx=>?_) (fun i hi=>(hl2.2 i _ (by rw[hws,List.getElem?_map,List.getElem?_eq_getElem (by omega)];simp[List.getD,show i<l.length by omega])).1)) ?_
   ·obtain⟨y,_,rfl⟩:=List.mem_map.1 hx
    have:=y.toNat_lt;omega
   rintro e w' ⟨rfl,rfl⟩
   refine⟨_,σ,rfl,?_,s,dK.refl _ _ _ _⟩
   unfold ic Rep
   exact⟨[_,_],rfl,aj.2 ⟨ar _ _,aj.2 ⟨ar _ _,aG.2 rfl⟩⟩⟩
theorem NG(l:List UInt8)(hl:l.length=8):ab prog 73 [sq aK l] (ic (i64 (ID l)) (i64 0)):=Gd l hl Q5
theorem aD2{m:bj}{at_:Int}(h0:0<=at_)(h1:at_+8<=m.b.length)(h2:wrap64 (at_+8)=at_+8):((m.b.take (IntKind.i64.wrap (at_+8)).toNat).drop at_.toNat).length=8:=by
 rw[bS,h2];simp;omega
theorem aE0{m:bj}{at_:Int}(h0:0<=at_)(h1:at_+8<=m.b.length)(h2:wrap64 (at_+8)=at_+8):(m.b.take (IntKind.i64.wrap (at_+8)).toNat).drop at_.toNat=(m.b.drop at_.toNat).take 8:=by
 rw[bS,h2,List.drop_take];congr 1;omega
def qP(r:Int×Int):PV:=ic (i64 r.1) (i64 r.2)
@[simp] theorem Yl (r : Int × Int) : aS (qP r) := by simp [qP]
theorem gi(m:bj)(at_:Int)(hm:m.b.length<=140737488355328)(ha:ae at_):ab prog 39 [jl m,i64 at_] (qP (am m at_)):=by
 have hF:cU m at_=0->0<=at_/\at_+8<=m.b.length/\wrap64 (at_+8)=at_+8:=fun h=>Oi m at_ h ha hm
 refine zY func39 fun B=>?_
 refine zu3 ?_
 refine Ws<|zp2 ?_
 refine zc rfl func72 ((zz m at_ (by omega) ha) _) ?_
 refine zs1 ?_
 refine zu2 ?_
 refine Wi rfl (fun hi1=>?_) (fun hi1=>?_)
 ·refine zu3 ?_
  refine zR ?_
  simp_all[qP,am,ic,i64]
 have h0:cU m at_=0:=by simpa using hi1
 obtain⟨k0,k1,k2⟩:=hF h0
 refine Wj<|zp5 ?_
 refine z2 ?_ (q:=(by rw[bS,k2];omega))
 refine Wa 18 rfl (cK aK 1 (fun _=>rfl) (by rw[bS,k2];omega)) ?_
 refine zc rfl func73 ((NG _ (aD2 k0 k1 k2)) _) ?_
 refine zs4 ?_
 refine zR ?_
 (rw[aE0 k0 k1 k2];simp[qP,am,ic,i64,h0])
theorem nU:ab prog 98 [] (sq gy ao):=by
 refine zY func98 fun B=>?_
 refine zu1 ?_
 refine zp1 ?_
 refine Wa 1 rfl (bsL gy [_,_,_,_,_,_,_,_,_,_,_,_,_,_,_,_,_,_,_,_,_,_,_,_,_,_,_,_,_,_,_,_,_,_,_,_,_,_,_,_,_,_,_,_,_,_,_,_,_,_,_,_,_,_,_,_,_,_,_,_,_,_,_,_,_,_,_,_,_,_,_,_,_,_,_,_,_,_,_,_,_,_,_,_,_,_,_,_,_,_,_,_,_,_,_,_,_,_,_,_,_,_,_,_,_,_,_,_,_,_,_,_,_,_,_,_,_,_,_,_,_,_,_,_,_,_,_,_,_,_] rfl rfl) ?_
 refine zs1 ?_
 refine zR ?_
 exact rfl
@[simp] theorem Yk (l : List sW) : aS (sqc mF l) := kU xL l
@[simp] theorem ai2 (l : List vG) : aS (sqc vU l) := kU Cf l
@[simp] theorem ag9 (l : List UInt8) : aS (sqc aK l) := kU oy l
@[simp] theorem ai1 (l : List Int) : aS (sqc ap l) := kU Dc l
theorem xO(l:List UInt8)(hl:l.length<=140737488355328):ab prog 172 [sq aK l] (sq aK l):=by
 refine zY func172 fun B=>?_
 refine zu1 ?_
 refine Ws<|zp1 ?_
 refine wA (lO tG rfl) rfl rfl rfl rfl rfl (fun bn1 hn1=>?_)
 refine Wn<|Wi rfl (fun hi1=>?_) (fun hi1=>?_)
 ·refine zu1 ?_
  refine zR ?_
  exact aq4 (hn1 hi1)
 refine Wj<|zp2 ?_
 refine Wd rfl rfl (cb (lO tG rfl) rfl (lO tG rfl) (lO tG rfl) rfl rfl (by exact⟨_,rfl⟩) (by exact⟨rfl,rfl,al _ 1 (fun _=>rfl) _,bD _ (fun _=>rfl) _⟩) (by rfl) (by(dsimp only;omega)) (by(omega))) ?_
 refine Wa 7 rfl (yq aK) ?_
 refine zs1 ?_
 refine zR ?_
 rfl
theorem In(l:List Int)(hl:l.length<=1000000):ab prog 201 [sq ap l] (sq ap l):=by
 refine zY func201 fun B=>?_
 refine zu1 ?_
 refine Ws<|zp1 ?_
 refine wA (lO tG rfl) rfl rfl rfl rfl rfl (fun bn1 hn1=>?_)
 refine Wn<|Wi rfl (fun hi1=>?_) (fun hi1=>?_)
 ·refine zu1 ?_
  refine zR ?_
  exact aq4 (hn1 hi1)
 refine Wj<|zp2 ?_
 refine Wd rfl rfl (cb (lO tG rfl) rfl (lO tG rfl) (lO tG rfl) rfl rfl (by exact⟨_,rfl⟩) (by exact⟨rfl,rfl,al _ 1 (fun _=>rfl) _,bD _ (fun _=>rfl) _⟩) (by rfl) (by(dsimp only;omega)) (by(omega))) ?_
 refine Wa 7 rfl (yq ap) ?_
 refine zs1 ?_
 refine zR ?_
 rfl
theorem Et(l:List sW)(hl:l.length<=1000000):ab prog 171 [sq mF l] (sqc mF l):=by
 refine zY func171 fun B=>?_
 refine zu1 ?_
 refine zp5 ?_
 refine z2 ?_ (q:=(by(simp_all;done)))
 refine Wa 8 rfl (cK mF 2 (fun _=>rfl) (by omega)) ?_
 refine zs1 ?_
 refine Wq ?_
 exact nY rfl (by simp[sqc];rfl)
theorem wY(l:List vG)(hl:l.length<=1000000):ab prog 384 [sq vU l] (sqc vU l):=by
 refine zY func384 fun B=>?_
 refine zu1 ?_
 refine zp5 ?_
 refine z2 ?_ (q:=(by(simp_all;done)))
 refine Wa 8 rfl (cK vU 6 (fun _=>rfl) (by omega)) ?_
 refine zs1 ?_
 refine Wq ?_
 exact nY rfl (by simp[sqc];rfl)
theorem Ko(l:List UInt8)(hl:l.length<=140737488355328):ab prog 221 [sq aK l] (sqc aK l):=by
 refine zY func221 fun B=>?_
 refine zu1 ?_
 refine zp5 ?_
 refine z2 ?_ (q:=(by(simp_all;done)))
 refine Wa 8 rfl (cK aK 1 (fun _=>rfl) (by omega)) ?_
 refine zs1 ?_
 refine Wq ?_
 exact nY rfl (by simp[sqc];rfl)
def t2i(r:Int×Int):PV:=ic (i64 r.1) (i64 r.2)
def t3i(r:Int×Int×Int):PV:=jW (i64 r.1) (i64 r.2.1) (i64 r.2.2)
@[simp] theorem aq3 (r : Int × Int) : aS (t2i r) := by simp [t2i]
@[simp] theorem ao8 (r : Int × Int × Int) : aS (t3i r) := by simp [t3i]
theorem aX.drewN(w:World)(n:Nat):aX w (w.drewN n):=by
 have e:w.drewN n={w with drawn:=w.drawn+n}:=rfl
 exact⟨rfl,rfl,rfl,Nat.le_refl _,fun b hb=>rfl⟩
theorem XQ{P:Program}{f:FuncId}{args:List Value}{r:Int×Int}(h:∀w,Calls P f args.toArray w fun e w'=>e=.returned (.tuple #[.int .i64 r.1,.int .i64 r.2])/\aX w w'):ab P f (args.map .val) (t2i r) :=
 dT (v:=.tuple #[.int .i64 r.1,.int .i64 r.2]) (fun c=>by unfold t2i ic Rep;exact⟨[_,_],rfl,aj.2 ⟨ar _ _,aj.2 ⟨ar _ _,aG.2 rfl⟩⟩⟩) h
theorem Ln{P:Program}{f:FuncId}{args:List Value}{r:Int×Int×Int}(h:∀w,Calls P f args.toArray w fun e w'=>e=.returned (.tuple #[.int .i64 r.1,.int .i64 r.2.1,.int .i64 r.2.2])/\aX w w'):ab P f (args.map .val) (t3i r) :=
 dT (v:=.tuple #[.int .i64 r.1,.int .i64 r.2.1,.int .i64 r.2.2]) (fun c=>by unfold t3i jW Rep;exact⟨[_,_,_],rfl,aj.2 ⟨ar _ _,aj.2 ⟨ar _ _,aj.2 ⟨ar _ _,aG.2 rfl⟩⟩⟩⟩) h
theorem ZE{P:Program}{f:FuncId}{args:List Value}{r:Bool}(h:∀w,Calls P f args.toArray w fun e w'=>e=.returned (.bool r)/\aX w w'):ab P f (args.map .val) (boo r) :=
 dT (v:=.bool r) (fun c=>ar _ _) h
theorem L8{w:World}{v:Value}:∀{e:Ending} {w':World},(e=.returned v/\w=w')->(e=.returned v/\aX w w'):=by rintro e w' ⟨h,rfl⟩;exact⟨h,aX.refl _⟩
theorem LN{w:World}{v:Value}:∀{e:Ending} {w':World},(e=.returned v/\∃n,w'=w.drewN n)->(e=.returned v/\aX w w'):=by rintro e w' ⟨h,n,rfl⟩;exact⟨h,aX.drewN _ _⟩
theorem EM(a b:Int):ab prog 359 [i64 a,i64 b] (boo (decide (U a<U b))):=ZE (args:=[.int .i64 a,.int .i64 b]) fun w=>Calls.mono (uK a b w) fun _ _ h=>L8 h
theorem Zx(a b:Int):ab prog 284 [i64 a,i64 b] (t2i (sG a b)):=XQ (args:=[.int .i64 a,.int .i64 b]) fun w=>Calls.mono (qf a b w) fun _ _ h=>L8 h
theorem Yi(a b:Int)(ha:Fit a)(hb:Fit b):ab prog 278 [i64 a,i64 b] (t2i (xe a b)):=XQ (args:=[.int .i64 a,.int .i64 b]) fun w=>Calls.mono (QB a b w ha hb) fun _ _ h=>L8 h
theorem QX(a b:Int)(hb:Fit b):ab prog 272 [i64 a,i64 b] (t3i (m9 a b)):=Ln (args:=[.int .i64 a,.int .i64 b]) fun w=>Calls.mono (O6 a b w hb) fun _ _ h=>LN h
theorem I0(lo hi d:Int):ab prog 287 [i64 lo,i64 hi,i64 d] (t3i (io lo hi d)):=Ln (args:=[.int .i64 lo,.int .i64 hi,.int .i64 d]) fun w=>Calls.mono (BX lo hi d w) fun _ _ h=>LN h
theorem ZY(lo hi d:Int)(hh:Fit hi)(hd:Fit d):ab prog 289 [i64 lo,i64 hi,i64 d] (t3i (lc lo hi d)):=Ln (args:=[.int .i64 lo,.int .i64 hi,.int .i64 d]) fun w=>Calls.mono (MP lo hi d w hh hd) fun _ _ h=>LN h
theorem PM(lo hi d:Int)(hh:Fit hi)(hd:Fit d):ab prog 279 [i64 lo,i64 hi,i64 d] (t3i (jv lo hi d)):=Ln (args:=[.int .i64 lo,.int .i64 hi,.int .i64 d]) fun w=>Calls.mono (Ny lo hi d w hh hd) fun _ _ h=>LN h
end Go.Proofs.YtjcminooghmpeaaGreatDoor
namespace Go.Proofs.YtjcminooghmpeaaGreatDoor
open Go.ChangeShapes Go.WideShapes Go.ChangeAt Go.RowKit
open Go.ChangeMaps (open_string)
def Rd(w:World)(t:TypeId)(cs:List Value):Prop:=∃(H:Type) (enc:TypeId×Value->H) (fuel:Nat) (x:DataW H×List MemPlace),DataW.trod enc prog w 0 (fun _=>true) true fuel t cs=some x
def ar4(w:World)(t:TypeId)(v:Value):Prop:=∃(H:Type) (enc:TypeId×Value->H) (d:DataW H) (p:List MemPlace) (base:Nat),Value.okWide prog w .any base t v/\DataW.Trod enc prog w 0 (fun _=>true) true t v d p
theorem am2{w:World}{t:TypeId}{v:Value}(h:ar4 w t v):Rd w t v.cells.toList:=by
 obtain⟨H,enc,d,p,base,_,fuel,hf⟩:=h
 exact⟨H,enc,fuel,_,hf⟩
open Go.RowKit
def c0(w:World):Cx:=cx (fun _ _=>False) [] (fun _=>none) w
theorem Nt(n:Nat)(h0:0<n)(hn:n<=1000000)(w:World):Calls prog 252 #[.slice none 0 0,.int .i64 n] w fun e w' =>
  ∃cs:Array Value,e=.returned (.slice (some ⟨w.heap.size,0,none⟩) 0 (grownCap w n 0 3))/\w'=w.drew.alloc (.cells cs 3)/\grownCap w n 0 3<=cs.size:=by
 have h1:¬((n:Int)<0):=by omega
 have h3:wrap64 ((n:Int)-0)=(n:Int):=by unfold wrap64;omega
 have h4:(n:Int)>0:=by omega
 have fe:an prog 3 ⟨1,8,[.val (.int .i64 0)],.int .i64⟩:=lO (G:=tys) tG rfl
 have fs:an prog 29 ⟨1,24,[.seq 0 [] .clip],.slice 3⟩:=lO (G:=tys) tG rfl
 obtain⟨i,z,hi,hsz,hby,hz,hzr⟩:=fe.info
 have hr:=fun ty=>Lib.run_append_nil_zeros (P:=prog) w 29 3 ty 3 i z .i64 .i64 (fs.slice rfl) (by kernel_rfl) hi hz n h0 (by rw[hsz];exact Nat.one_pos) (by omega) (by rw[hby];show n*8<=_;omega)
 have hGn:n<=grownCap w n 0 3:=grownCap_ge w _ _ _
 have hzl:z.cells.size=1:=by have:=au.length (hzr (c0 w));rw[Array.length_toList]at this;rw[this];rfl
 have hG63:grownCap w n 0 3<=9223372036854775807:=by
  have:=grownCap_le_maxLen w n 0 3 (by unfold maxLen;omega)
  unfold maxLen at this
  omega
 obtain⟨G,hG⟩:∃G,G=grownCap w n 0 3:=⟨_,rfl⟩
 rw[<-hG]at hr hGn hG63 ⊢
 have hcs:∀q:Array Value,q.size=1->G<=(Builtin.zeroCells q n++Builtin.zeroCells q (G-n)).size:=by
  intro q hq
  rw[Array.size_append,size_zeroCells,size_zeroCells,hq];omega
 clear hG
 go_enter func252,ntmps252
 go_wp2_with (at_builtin;refine Lib.wpList_append_run _ rfl _ _ _ _ rfl _ _ rfl rfl _ _ (hr _) ?_)
 all_goals (go_ret;exact⟨rfl,_,rfl,hcs _ (by first|exact hzl|rfl)⟩)
theorem M6(w:World):Calls prog 252 #[.slice none 0 0,.int .i64 0] w fun e w'=>e=.returned (.slice none 0 0)/\w'=w:=by
 go_enter func252,ntmps252
 go_wp2
 go_ret
 exact⟨rfl,rfl⟩
theorem MA{B:Nat->Nat->Prop}{o:Oper}{T:Nat->PV}{H:List Ob}{x:Operand}{ats:Array TypeId}{n:Nat}(ho:o.op=.call {callee:=.value (.func 252),args:=#[.const (.slice none 0 0),x],argTypes:=ats})(hx:opv T x=.val (.int .i64 (n:Int)))(hn:n<=1000000):
  jb prog B o T H (.seq 0 [] (.own H.length 1)) (H++[.free 0]):=by
 intro σ w a s ha
 have k1:=ha x (by rw[ho];simp[Op.operands,Call.operands])
 rw[hx]at k1
 unfold Rep at k1
 refine⟨252,#[.slice none 0 0,.int .i64 n],?_,?_⟩
 ·unfold execOp
  simp only[ho,resolve,Act.eval,Deferred.ofValue,invoke,Sem.run_bind,Sem.run_pure,Result.andThen_ok]
  rw[mo func252 rfl rfl]
  have hev:a.eval x=.int .i64 n:=k1
  simp[Act.eval]at hev ⊢
  exact hev
 by_cases h0:n=0
 ·subst h0
  refine Calls.mono (M6 w) ?_
  rintro e w' ⟨rfl,rfl⟩
  obtain⟨s',st⟩:=eS s (aX.refl w') (.free 0) none (fun b hb=>by cases hb) (fun b hb=>by simp only[cx]at hb;rw[bx]at hb;cases hb)
  refine⟨_,_,rfl,?_,s',st⟩
  unfold Rep
  exact⟨none,0,[],rfl,Nat.le_refl _,fun _=>⟨rfl,rfl,rfl⟩,aG.2 rfl,(fun b h=>by cases h),by simp[cx],rfl,.inl rfl⟩
 refine Calls.mono (Nt n (by omega) hn w) ?_
 rintro e w' ⟨cs,rfl,rfl,hcs⟩
 have gr:aX w (w.drew.alloc (.cells cs 3)):=(aX.drew w).trans (aX.alloc _ _)
 have hheap:(w.drew.alloc (.cells cs 3)).heap[w.heap.size]?=some (Obj.cells cs 3 (0,0)):=by
  show(w.heap.push _)[w.heap.size]?=_;simp
 obtain⟨s',st⟩:=eS s gr (.free 0) (some w.heap.size) (fun b hb=>by cases hb;exact Nat.le_refl _) (fun b hb=>by
  simp only[cx]at hb;rw[bx]at hb;cases hb
  exact⟨_,3,hheap,Nat.zero_le _⟩)
 refine⟨_,_,rfl,rT (vs:=[]) (aG.2 rfl) (by simp) (bx _ _ _) hheap rfl (Nat.zero_le _) (by rw[Nat.mul_one];exact hcs) (fun j hj=>by simp at hj) (fun off hoff=>by simp at hoff),s',st⟩
def BH(l:List Int):List PV:=[sq ap l]
@[simp] theorem MX (x : List Int) : ay (BH x) := by simp [BH, ay]
@[simp] theorem aj5 (l : List (List Int)) : aS (sq BH l) := gB MX l
theorem aD3{a b:Nat}(ha:a<=500000)(hb:b<=500000):PV.val (.int .i64 (IntKind.i64.wrap (IntKind.i64.wrap (0+(a:Int))+(b:Int))))=.val (.int .i64 ((a+b:Nat):Int)) :=
 congrArg (fun z=>PV.val (Value.int .i64 z)) (by simp only[bS];unfold wrap64;omega)
theorem Lm(a b:List Int)(ha:a.length<=500000)(hb:b.length<=500000):ab prog 202 [sq BH [a,b]] (sq ap (a++b)):=by
 refine zY func202 fun B=>?_
 refine zu1 ?_
 refine zu1 ?_
 refine Ws<|zu3 ?_
 refine Wl<|jJ 3 ?_
 show W _ _ _ _ _ _ _
 refine zu1 ?_
 refine Ws<|Wt rfl (by rfl) ?_
 refine Wj<|Ws<|Wl<|z8 ?_
 refine Wv tG rfl rfl rfl (by(simp_all;done)) (iN BH 1 (fun _=>rfl) [] (by(simp_all;done))) ?_
 refine z1 ?_
 refine Wa 14 rfl (show _=sq ap a from rfl) ?_
 refine zs1 ?_
 refine zu5 ?_
 refine zu2 ?_
 refine Wf rfl (by(simp only[bS,decide_eq_false_iff_not];unfold wrap64;omega)) ?_
 refine Wj<|aa rfl ?_
 refine z1 ?_
 refine Wa 22 rfl (show _=PV.val (.int .i64 1) from rfl) ?_
 refine zs1 ?_
 show W _ _ _ _ _ _ _
 refine zu1 ?_
 refine Ws<|Wt rfl (by rfl) ?_
 refine Wj<|Ws<|Wl<|z8 ?_
 refine Wv tG rfl rfl rfl (by(simp_all;done)) (iN BH 1 (fun _=>rfl) [] (by(simp_all;done))) ?_
 refine z1 ?_
 refine Wa 14 rfl (show _=sq ap b from rfl) ?_
 refine zs1 ?_
 refine zu5 ?_
 refine zu2 ?_
 refine Wf rfl (by(simp only[bS,decide_eq_false_iff_not];unfold wrap64;omega)) ?_
 refine Wj<|aa rfl ?_
 refine z1 ?_
 refine Wa 22 rfl (show _=PV.val (.int .i64 2) from rfl) ?_
 refine zs1 ?_
 show W _ _ _ _ _ _ _
 refine zu1 ?_
 refine Ws<|Wf rfl (by rfl) ?_
 refine bf ?_
 refine zp1 ?_
 refine Wa 23 rfl (aD3 ha hb) ?_
 refine Wc rfl rfl (MA rfl rfl (by omega)) ?_
 refine zs1 ?_
 refine Ws<|zu3 ?_
 refine Wl<|jJ 3 ?_
 show W _ _ _ _ _ _ _
 refine zu1 ?_
 refine Ws<|Wt rfl (by rfl) ?_
 refine Wj<|Ws<|Wl<|z8 ?_
 refine Wv tG rfl rfl rfl (by(simp_all;done)) (iN BH 1 (fun _=>rfl) [] (by(simp_all;done))) ?_
 refine z1 ?_
 refine Wa 30 rfl (show _=sq ap a from rfl) ?_
 refine zs1 ?_
 refine aa rfl ?_
 refine zy2 ?_
 refine Wd rfl rfl (eV (lO tG rfl) rfl (lO tG rfl) (lO tG rfl) rfl rfl rfl rfl (by simp) (by exact⟨_,rfl⟩) (by exact⟨rfl,rfl,al _ 1 (fun _=>rfl) _,bD _ (fun _=>rfl) _⟩) (by(dsimp only;omega)) (by(omega))) ?_
 refine Wa 33 rfl (yq ap) ?_
 refine zs1 ?_
 refine aa rfl ?_
 refine z1 ?_
 refine Wa 34 rfl (show _=PV.val (.int .i64 1) from rfl) ?_
 refine zs1 ?_
 show W _ _ _ _ _ _ _
 refine zu1 ?_
 refine Ws<|Wt rfl (by rfl) ?_
 refine Wj<|Ws<|Wl<|z8 ?_
 refine Wv tG rfl rfl rfl (by(simp_all;done)) (iN BH 1 (fun _=>rfl) [] (by(simp_all;done))) ?_
 refine z1 ?_
 refine Wa 30 rfl (show _=sq ap b from rfl) ?_
 refine zs1 ?_
 refine aa rfl ?_
 refine zy2 ?_
 refine Wd rfl rfl (eV (lO tG rfl) rfl (lO tG rfl) (lO tG rfl) rfl rfl rfl rfl (by simp) (by exact⟨_,rfl⟩) (by exact⟨rfl,rfl,al _ 1 (fun _=>rfl) _,bD _ (fun _=>rfl) _⟩) (by(dsimp only;omega)) (by(omega))) ?_
 refine Wa 33 rfl (cw ap) ?_
 refine zs1 ?_
 refine aa rfl ?_
 refine z1 ?_
 refine Wa 34 rfl (show _=PV.val (.int .i64 2) from rfl) ?_
 refine zs1 ?_
 show W _ _ _ _ _ _ _
 refine zu1 ?_
 refine Ws<|Wf rfl (by rfl) ?_
 refine bf ?_
 refine zu2 ?_
 refine zR ?_
 rfl
theorem Nf{α:Type}{a b:List α}{k:Nat}(d:α)(hl:a.length=b.length)(hk:k<a.length)(h:a.take k=b.take k)(he:a.getD k d=b.getD k d):a.take (k+1)=b.take (k+1):=by
 rw[jY a k d hk,jY b k d (by omega),h,he]
theorem Sb{α:Type}{a b:List α}{k:Nat}(d:α)(he:a.getD k d≠b.getD k d):a≠b:=fun h=>he (by rw[h])
theorem M2(a b:List Int)(ha:a.length<=1000000)(hb:b.length<=1000000):ab prog 20 [sq ap a,sq ap b] (boo (decide (a=b))):=by
 refine zY func20 fun B=>?_
 refine zu1 ?_
 refine Ws<|zu5 ?_
 refine Wi rfl (fun hi1=>?_) (fun hi1=>?_)
 ·have hne:a≠b:=fun h=>by subst h;simp at hi1
  refine zu1 ?_
  refine zR ?_
  exact congrArg boo (decide_eq_false hne).symm
 have hl:a.length=b.length:=by(try simp only[dnL]at *);omega
 refine Wj<|Ws<|zu1 ?_
 refine Wl ?_
 show W _ _ _ _ _ _ _
 refine fX (fun(k:Nat)=>[(0,sq ap a),(1,sq ap b),(5,i64 k)]) (fun(k:Nat)=>[]) (fun(k:Nat)=>[]) (fun(k:Nat)=>k<=a.length/\a.take k=b.take k) (fun(k:Nat)=>a.length-k) (0) (by simp) [] ?_ ?_
 ·exact fc
 intro k hk
 refine Ws<|zu4 ?_
 refine Wi rfl (fun hi2=>?_) (fun hi2=>?_)
 ·have hlt:k<a.length:=by have:=oT hi2;omega
  refine Wj<|Ws<|Wl<|Ws<|az [0,0,0,1,0,0,0,1,0] [0,1,2,3,4,5,6,7,8] mG rfl (by kernel_rfl) ?_
  iterate 2 refine z3 ?_
  refine Xi tG rfl rfl rfl rfl (fun _=>rfl) (by omega) (iN ap 1 (fun _=>rfl) 0 (by omega)) ?_
  refine z5 ?_
  iterate 2 refine z3 ?_
  refine Xi tG rfl rfl rfl rfl (fun _=>rfl) (by omega) (iN ap 1 (fun _=>rfl) 0 (by omega)) ?_
  refine z5 ?_
  refine z3 ?_
  refine aP ?_
  refine Wi rfl (fun hi3=>?_) (fun hi3=>?_)
  ·have hne:a≠b:=Sb 0 (k:=k) (by simpa using hi3)
   refine zu1 ?_
   refine zR ?_
   exact congrArg boo (decide_eq_false hne).symm
  have he:a.getD k 0=b.getD k 0:=by simpa using hi3
  refine Wj<|aa rfl ?_
  refine zs3 ?_
  exact⟨k+1,[],(by exact⟨by omega,Nf 0 hl hlt hk.2 he⟩),(by omega),fc⟩
 have hge:a.length<=k:=by have:=oF hi2;omega
 refine bf ?_
 refine zu1 ?_
 refine zR ?_
 exact congrArg boo (decide_eq_true (by have h1:=hk.2;rw[pd a k hge,pd b k (by omega)]at h1;exact h1)).symm
def d9(c:nL):Prop:=2048<=c.mem/\c.mem<=65536/\c.mem.tmod 8=0/\1<=c.data/\c.data<=256/\1<=c.ret/\c.ret<=256/\200<=c.words/\c.words<=1024/\0<=c.out/\c.out<=65536
instance (c:nL):Decidable (d9 c):=by unfold d9;infer_instance
theorem Sx(c:nL):ab prog 46 [Kz c] (boo (decide (d9 c))):=by
 refine zY func46 fun B=>?_
 refine zu2 ?_
 refine zp4 ?_
 refine Wb 6 rfl (fun hg1=>?_) (fun hg1=>?_)
 ·refine zy5 ?_
  refine Wb 11 rfl (fun hg2=>?_) (fun hg2=>?_)
  ·refine zy5 ?_
   refine z1 ?_
   refine Wb 17 rfl (fun hg3=>?_) (fun hg3=>?_)
   ·refine zy5 ?_
    refine Wb 22 rfl (fun hg4=>?_) (fun hg4=>?_)
    ·refine zy5 ?_
     refine Wb 27 rfl (fun hg5=>?_) (fun hg5=>?_)
     ·refine zy5 ?_
      refine Wb 32 rfl (fun hg6=>?_) (fun hg6=>?_)
      ·refine zy5 ?_
       refine Wb 37 rfl (fun hg7=>?_) (fun hg7=>?_)
       ·refine zy5 ?_
        refine Wb 42 rfl (fun hg8=>?_) (fun hg8=>?_)
        ·refine zy5 ?_
         refine Wb 47 rfl (fun hg9=>?_) (fun hg9=>?_)
         ·refine zy5 ?_
          refine Wb 52 rfl (fun hg10=>?_) (fun hg10=>?_)
          ·refine zs5 ?_
           refine zR ?_
           (refine congrArg boo (decide_eq_decide.2 ?_);unfold d9;(try simp only[dnL]at *);omega)
          refine z6 ?_
          iterate 2 refine z6 ?_
          refine zs2 ?_
          refine zR ?_
          (refine congrArg boo (decide_eq_false ?_).symm;unfold d9;(try simp only[dnL]at *);omega)
         refine z6 ?_
         iterate 2 refine z6 ?_
         refine zy2 ?_
         iterate 3 refine z6 ?_
         refine zs2 ?_
         refine zR ?_
         (refine congrArg boo (decide_eq_false ?_).symm;unfold d9;(try simp only[dnL]at *);omega)
        refine z6 ?_
        iterate 2 refine z6 ?_
        refine zy2 ?_
        iterate 3 refine z6 ?_
        refine zy2 ?_
        iterate 3 refine z6 ?_
        refine zs2 ?_
        refine zR ?_
        (refine congrArg boo (decide_eq_false ?_).symm;unfold d9;(try simp only[dnL]at *);omega)
       refine z6 ?_
       iterate 2 refine z6 ?_
       refine zy2 ?_
       iterate 3 refine z6 ?_
       refine zy2 ?_
       iterate 3 refine z6 ?_
       refine zy2 ?_
       iterate 3 refine z6 ?_
       refine zs2 ?_
       refine zR ?_
       (refine congrArg boo (decide_eq_false ?_).symm;unfold d9;(try simp only[dnL]at *);omega)
      refine z6 ?_
      iterate 2 refine z6 ?_
      refine zy2 ?_
      iterate 3 refine z6 ?_
      refine zy2 ?_
      iterate 3 refine z6 ?_
      refine zy2 ?_
      iterate 3 refine z6 ?_
      refine zy2 ?_
      iterate 3 refine z6 ?_
      refine zs2 ?_
      refine zR ?_
      (refine congrArg boo (decide_eq_false ?_).symm;unfold d9;(try simp only[dnL]at *);omega)
     refine z6 ?_
     iterate 2 refine z6 ?_
     refine zy2 ?_
     iterate 3 refine z6 ?_
     refine zy2 ?_
     iterate 3 refine z6 ?_
     refine zy2 ?_
     iterate 3 refine z6 ?_
     refine zy2 ?_
     iterate 3 refine z6 ?_
     refine zy2 ?_
     iterate 3 refine z6 ?_
     refine zs2 ?_
     refine zR ?_
     (refine congrArg boo (decide_eq_false ?_).symm;unfold d9;(try simp only[dnL]at *);omega)
    refine z6 ?_
    iterate 2 refine z6 ?_
    refine zy2 ?_
    iterate 3 refine z6 ?_
    refine zy2 ?_
    iterate 3 refine z6 ?_
    refine zy2 ?_
    iterate 3 refine z6 ?_
    refine zy2 ?_
    iterate 3 refine z6 ?_
    refine zy2 ?_
    iterate 3 refine z6 ?_
    refine zy2 ?_
    iterate 3 refine z6 ?_
    refine zs2 ?_
    refine zR ?_
    (refine congrArg boo (decide_eq_false ?_).symm;unfold d9;(try simp only[dnL]at *);omega)
   refine z6 ?_
   iterate 2 refine z6 ?_
   refine zy2 ?_
   iterate 3 refine z6 ?_
   refine zy2 ?_
   iterate 3 refine z6 ?_
   refine zy2 ?_
   iterate 3 refine z6 ?_
   refine zy2 ?_
   iterate 3 refine z6 ?_
   refine zy2 ?_
   iterate 3 refine z6 ?_
   refine zy2 ?_
   iterate 3 refine z6 ?_
   refine zy2 ?_
   iterate 3 refine z6 ?_
   refine zs2 ?_
   refine zR ?_
   (refine congrArg boo (decide_eq_false ?_).symm;unfold d9;(try simp only[dnL]at *);omega)
  refine z6 ?_
  iterate 3 refine z6 ?_
  refine zy2 ?_
  iterate 3 refine z6 ?_
  refine zy2 ?_
  iterate 3 refine z6 ?_
  refine zy2 ?_
  iterate 3 refine z6 ?_
  refine zy2 ?_
  iterate 3 refine z6 ?_
  refine zy2 ?_
  iterate 3 refine z6 ?_
  refine zy2 ?_
  iterate 3 refine z6 ?_
  refine zy2 ?_
  iterate 3 refine z6 ?_
  refine zy2 ?_
  iterate 3 refine z6 ?_
  refine zs2 ?_
  refine zR ?_
  (refine congrArg boo (decide_eq_false ?_).symm;unfold d9;(try simp only[dnL]at *);omega)
 refine z6 ?_
 iterate 2 refine z6 ?_
 refine zy2 ?_
 iterate 4 refine z6 ?_
 refine zy2 ?_
 iterate 3 refine z6 ?_
 refine zy2 ?_
 iterate 3 refine z6 ?_
 refine zy2 ?_
 iterate 3 refine z6 ?_
 refine zy2 ?_
 iterate 3 refine z6 ?_
 refine zy2 ?_
 iterate 3 refine z6 ?_
 refine zy2 ?_
 iterate 3 refine z6 ?_
 refine zy2 ?_
 iterate 3 refine z6 ?_
 refine zy2 ?_
 iterate 3 refine z6 ?_
 refine zs2 ?_
 refine zR ?_
 (refine congrArg boo (decide_eq_false ?_).symm;unfold d9;(try simp only[dnL]at *);omega)
def d8(p:dS):Prop:=p.b.length<=130/\(p.on=true\/p.b.length=0)
instance (p:dS):Decidable (d8 p):=by unfold d8;infer_instance
def lV(m:bj):Bool:=m.old.all (fun p=>bp m p.place p.old.length)&&(decide (m.b.length<=65536)&&decide (m.b.length%8=0))
theorem Tm{α:Type}{f:α->Bool}{l:List α}{k:Nat}(d:α)(hk:k<l.length)(h:(l.take k).all f=true)(hf:f (l.getD k d)=true):(l.take (k+1)).all f=true:=by
 rw[jY l k d hk,List.all_append,h];simp only[List.all_cons,List.all_nil,hf];rfl
theorem Sf{α:Type}{l:List α}{k:Nat}(d:α)(hk:k<l.length):l.getD k d∈l:=by
 unfold List.getD
 rw[List.getElem?_eq_getElem hk]
 exact List.getElem_mem hk
theorem BO:ab prog 47 [] (sq gy ao):=by
 refine zY func47 fun B=>?_
 refine zu1 ?_
 refine zp1 ?_
 refine Wa 1 rfl (bsL gy [_,_,_,_,_,_,_,_,_,_,_,_,_,_,_,_,_,_,_,_,_,_,_,_,_,_,_,_,_,_,_,_,_,_,_,_,_,_,_,_,_,_,_,_,_,_,_,_,_,_,_,_,_,_,_,_,_,_,_,_,_,_,_,_,_,_,_,_,_,_,_,_,_,_,_,_,_,_,_,_,_,_,_,_,_,_,_,_,_,_,_,_,_,_,_,_,_,_,_,_,_,_,_,_,_,_,_,_,_,_,_,_,_,_,_,_,_,_,_,_,_,_,_,_,_,_,_,_,_,_] rfl rfl) ?_
 refine zs1 ?_
 refine zR ?_
 exact rfl
theorem eK:ab prog 71 [] (sq gy cq):=by
 refine zY func71 fun B=>?_
 refine zu1 ?_
 refine zp1 ?_
 refine Wa 1 rfl (bsL gy [_,_,_,_,_,_,_,_,_,_,_,_,_,_,_,_,_,_,_,_,_,_,_,_,_,_,_,_,_,_,_,_,_,_,_,_,_] rfl rfl) ?_
 refine zs1 ?_
 refine zR ?_
 exact rfl
theorem Dp:ab prog 48 [] (sq gy cq):=by
 refine zY func48 fun B=>?_
 refine zu1 ?_
 refine zp1 ?_
 refine Wa 1 rfl (bsL gy [_,_,_,_,_,_,_,_,_,_,_,_,_,_,_,_,_,_,_,_,_,_,_,_,_,_,_,_,_,_,_,_,_,_,_,_,_] rfl rfl) ?_
 refine zs1 ?_
 refine zR ?_
 exact rfl
theorem wQ(n lo hi:Int):ab prog 97 [i64 n,i64 lo,i64 hi] (boo (decide (lo<=n/\n<=hi))):=by
 refine zY func97 fun B=>?_
 refine zu1 ?_
 refine zp4 ?_
 refine Wb 10 rfl (fun hg1=>?_) (fun hg1=>?_)
 ·refine zs5 ?_
  refine zR ?_
  (refine congrArg boo (decide_eq_decide.2 ?_);(try simp only[dnL]at *);omega)
 refine z6 ?_
 iterate 2 refine z6 ?_
 refine zs2 ?_
 refine zR ?_
 (refine congrArg boo (decide_eq_false ?_).symm;(try simp only[dnL]at *);omega)
theorem zP:ab prog 218 [] (i64 1368):=by
 have h1:=lm
 have h2:=il
 refine zY func218 fun B=>?_
 refine zu1 ?_
 refine z8 ?_
 refine zc rfl func98 ((nU) _) ?_
 refine z1 ?_
 refine zc rfl func71 ((eK) _) ?_
 refine zs5 ?_
 refine zR ?_
 refine congrArg i64 ?_;rw[h1,h2];decide
def iI(v:VVm)(s:Str):VVm×Int:=if (s.length:Int)>v.conf.out-v.out.length then(v,-260)else({v with out:=v.out++s},0)
def tVm(r:VVm×Int):PV:=ic (eVm r.1) (i64 r.2)
@[simp] theorem am1 (r : VVm × Int) : aS (tVm r) := by simp [tVm]
theorem Bh{l m:Str}{k:SK}:PV.seq (l.length+(⟨m.toArray⟩:ByteArray).size) (l.flatMap aK++(⟨m.toArray⟩:ByteArray).data.toList.map fun b=>j5 b.toNat) k=.seq (l++m).length ((l++m).flatMap aK) k:=by
 have h:(⟨m.toArray⟩:ByteArray).data.toList.map (fun b=>j5 b.toNat)=m.flatMap aK:=by rw[j8,List.map_map];rfl
 rw[dX,h,<-List.flatMap_append,List.length_append]
theorem Hh(v:VVm)(s:Str)(hc:0<=v.conf.out/\v.conf.out<=1000000)(ho:v.out.length<=1000000)(hs:s.length<=140737488355328):ab prog 190 [eVm v,str s] (tVm (iI v s)):=by
 have w1:IntKind.i64.wrap (v.conf.out-v.out.length)=v.conf.out-v.out.length:=by((rw[bS];unfold wrap64;(try simp only[dnL]at *);omega))
 refine zY func190 fun B=>?_
 refine zu3 ?_
 refine Ws<|zp2 ?_
 refine Wa 7 rfl (gl _) ?_
 refine zy5 ?_
 refine zs3 ?_
 refine Wi rfl (fun hi1=>?_) (fun hi1=>?_)
 ·have h0:(s.length:Int)>v.conf.out-v.out.length:=by(try simp only[dnL]at *);omega
  refine zu3 ?_
  refine zR ?_
  rw[iI,if_pos h0];rfl
 have h0:¬(s.length:Int)>v.conf.out-v.out.length:=by(try simp only[dnL]at *);omega
 have h1:(⟨s.toArray⟩:ByteArray).size=s.length:=dX s
 refine Wj<|zp2 ?_
 refine zc rfl func221 ((Ko v.out (by omega)) _) ?_
 refine z1 ?_
 refine Wd rfl rfl (cb (lO tG rfl) rfl (lO tG rfl) (lO tG rfl) rfl rfl (by rfl) (by exact⟨rfl,rfl,rfl⟩) (by exact al _ 1 (fun _=>rfl) _) (by(dsimp only;omega)) (by(omega))) ?_
 refine Wa 21 rfl (Bh) ?_
 refine zs2 ?_
 refine zu3 ?_
 refine zR ?_
 rw[iI,if_neg h0];rfl
def eX(n:Int):Prop:=(0<=n/\n<=129)\/(256<=n/\n<=260)\/(300<=n/\n<=336)
instance (n:Int):Decidable (eX n):=by unfold eX;infer_instance
def av(v:VVm)(xt:Int):Int×Int:=if (am v.mem xt).2=0 then(if eX (am v.mem xt).1 then((am v.mem xt).1,0)else(0,-9))else(0,(am v.mem xt).2)
theorem qI(v:VVm)(xt:Int)(hm:v.mem.b.length<=140737488355328)(hx:ae xt):ab prog 67 [eVm v,i64 xt] (qP (av v xt)):=by
 have h1:=lm
 have h2:=il
 refine zY func67 fun B=>?_
 refine zu3 ?_
 refine zp3 ?_
 refine zc rfl func39 ((gi v.mem xt hm hx) _) ?_
 refine zs5 ?_
 refine Ws<|zu2 ?_
 refine Wi rfl (fun hi1=>?_) (fun hi1=>?_)
 ·have h0:¬(am v.mem xt).2=0:=by simpa using hi1
  refine zu3 ?_
  refine zR ?_
  rw[av,if_neg h0];rfl
 have h0:(am v.mem xt).2=0:=by simpa using hi1
 have w1:IntKind.i64.wrap (IntKind.i64.wrap (300+(cq.length:Int))-1)=336:=by rw[h2];decide
 have w2:IntKind.i64.wrap ((ao.length:Int)-1)=129:=by rw[h1];decide
 refine Wj<|Ws<|zp1 ?_
 refine zc rfl func98 ((nU) _) ?_
 refine zy2 ?_
 refine zc rfl func97 ((wQ _ _ _) _) ?_
 refine z1 ?_
 refine Wb 23 rfl (fun hg1=>?_) (fun hg1=>?_)
 ·refine z6 ?_
  refine z6 ?_
  refine zy2 ?_
  iterate 6 refine z6 ?_
  refine zs1 ?_
  refine Wt rfl rfl ?_
  refine zu3 ?_
  refine zR ?_
  (rw[av,if_pos h0,if_pos (by unfold eX;(try simp only[dnL]at *);omega)];rfl)
 refine z1 ?_
 refine zc rfl func97 ((wQ _ _ _) _) ?_
 refine zy2 ?_
 refine Wb 27 rfl (fun hg2=>?_) (fun hg2=>?_)
 ·refine z6 ?_
  iterate 5 refine z6 ?_
  refine zs1 ?_
  refine Wt rfl rfl ?_
  refine zu3 ?_
  refine zR ?_
  (rw[av,if_pos h0,if_pos (by unfold eX;(try simp only[dnL]at *);omega)];rfl)
 refine z1 ?_
 refine zc rfl func71 ((eK) _) ?_
 refine zy3 ?_
 refine zc rfl func97 ((wQ _ _ _) _) ?_
 refine zs1 ?_
 refine Wi rfl (fun hi2=>?_) (fun hi2=>?_)
 ·refine zu3 ?_
  refine zR ?_
  (rw[av,if_pos h0,if_pos (by unfold eX;(try simp only[dnL]at *);omega)];rfl)
 refine Wj<|zu2 ?_
 refine zR ?_
 (rw[av,if_pos h0,if_neg (by unfold eX;(try simp only[dnL]at *);omega)];rfl)
def upC(c:UInt8):UInt8:=if 97<=c.toNat/\c.toNat<=122 then c-32 else c
def Ll(l:Str):Str:=l.map upC
def X5(a b:Str):Bool:=decide (Ll a=Ll b)
theorem WA{c:UInt8}(h:97<=c.toNat/\c.toNat<=122):IntKind.u8.wrap ((c.toNat:Int)-32)=((upC c).toNat:Int):=by
 unfold upC
 rw[if_pos h,UInt8.toNat_sub]
 simp[IntKind.wrap,IntKind.bits,IntKind.signed]
 omega
theorem OW{c:UInt8}(h:¬(97<=c.toNat/\c.toNat<=122)):upC c=c:=by unfold upC;rw[if_neg h]
theorem RJ(l:List UInt8)(k:Nat)(hk:k<l.length)(H:List Ob)(i:Nat)(hi:H[i]?=some (.cells (l.flatMap aK) 5)):HC prog 126 [.ptr i k] H (.tup []) (H.set i (.cells ((l.set k (upC (l.getD k 0))).flatMap aK) 5)):=by
 revert hi
 revert i H
 refine jd (off:=k) tG (rs:=[]) func126 rfl rfl rfl (by simp) (by simp) (bt oy _) (bt oy _) (fun B=>?_)
 refine zp2 ?_
 refine Wd rfl rfl (bB (lO tG rfl) rfl rfl rfl (Ed rfl hk)) ?_
 refine zy2 ?_
 refine Wb 6 rfl (fun hg1=>?_) (fun hg1=>?_)
 ·refine zy2 ?_
  refine Wd rfl rfl (bB (lO tG rfl) rfl rfl rfl (Ed rfl hk)) ?_
  refine zs2 ?_
  refine Wi rfl (fun hi1=>?_) (fun hi1=>?_)
  ·refine aa rfl ?_
   refine zy2 ?_
   refine Wd rfl rfl (bB (lO tG rfl) rfl rfl rfl (Ed rfl hk)) ?_
   refine z1 ?_
   refine Wa 15 rfl (congrArg (fun z=>PV.val (Value.int .u8 z)) (WA (c:=l.getD k 0) (by simp only[decide_eq_true_eq]at *;omega))) ?_
   refine z1 ?_
   refine Wd rfl rfl (bL (lO tG rfl) rfl rfl rfl rfl rfl rfl (by rw[Nat.ble_eq,al aK 1 (fun _=>rfl)];simp;omega)) ?_
   refine jx (H':=[.cells ((l.set k (upC (l.getD k 0))).flatMap aK) 5]) (by rw[<-xN hk];rfl) ?_
   refine Wn<|bg rfl rfl ?_ ?_
   ·rfl
   rfl
  refine Wj<|bg rfl rfl ?_ ?_
  ·rfl
  (rw[OW (by simp only[decide_eq_true_eq,decide_eq_false_iff_not]at *;omega)];congr 1;simp[List.getD,hk])
 refine z6 ?_
 iterate 3 refine z6 ?_
 refine zs1 ?_
 refine Wf rfl rfl ?_
 refine Wj<|bg rfl rfl ?_ ?_
 ·rfl
 (rw[OW (by simp only[decide_eq_true_eq,decide_eq_false_iff_not]at *;omega)];congr 1;simp[List.getD,hk])
theorem au6{l:Str}{k:Nat}(h:k<l.length):((l.take k).map upC++l.drop k).getD k 0=l.getD k 0:=by
 have hl:((l.take k).map upC).length=k:=by simp;omega
 unfold List.getD
 rw[List.getElem?_append_right (by omega),hl,Nat.sub_self,List.getElem?_drop,Nat.add_zero]
theorem Xb{l:Str}{k:Nat}(h:k<l.length):((l.take k).map upC++l.drop k).set k (upC (((l.take k).map upC++l.drop k).getD k 0))=(l.take (k+1)).map upC++l.drop (k+1):=by
 have hl:((l.take k).map upC).length=k:=by simp;omega
 rw[au6 h,List.drop_eq_getElem_cons h,List.set_append_right _ _ (by omega),hl,Nat.sub_self,List.set_cons_zero,jY l k 0 h,List.map_append,List.append_assoc]
 rfl
theorem Z8{l:Str}{k:Nat}(h:l.length<=k):(l.take k).map upC++l.drop k=Ll l:=by
 rw[pd l k h,List.drop_eq_nil_of_le h,List.append_nil];rfl
theorem CO(l:Str)(hl:l.length<=9223372036854775807):ab prog 96 [str l] (str (Ll l)):=by
 refine zY func96 fun B=>?_
 refine zu1 ?_
 refine zp1 ?_
 refine Wd rfl rfl (uO (lO tG rfl) rfl (lO tG rfl) rfl (lO tG rfl) rfl rfl rfl) ?_
 refine Wa 7 rfl (show PV.arw 0 0 (⟨l.toArray⟩:ByteArray).size=.arw 0 0 l.length by rw[dX]) ?_
 refine jx (H':=[.cells (l.flatMap aK) 5]) (by rw[j8];simp[List.map_map]) ?_
 refine zs1 ?_
 refine zu1 ?_
 refine Ws<|zu3 ?_
 refine Wl ?_
 show W _ _ _ _ _ _ _
 refine fX (fun(k:Nat)=>[(3,.arw 0 0 l.length),(4,.fn (.func 126) [] []),(9,i64 l.length),(10,i64 k)]) (fun(k:Nat)=>[.cells (((l.take k).map upC++l.drop k).flatMap aK) 5]) (fun(k:Nat)=>[]) (fun(k:Nat)=>k<=l.length) (fun(k:Nat)=>l.length-k) (0) (by omega) [] ?_ ?_
 ·exact fc
 intro k hk
 refine zu1 ?_
 refine Ws<|Wi rfl (fun hi1=>?_) (fun hi1=>?_)
 ·have hk2:k<l.length:=by have:=oT hi1;omega
  refine Wj<|Ws<|Wl<|zu2 ?_
  refine aa rfl ?_
  refine zy3 ?_
  refine z2 ?_ (q:=(by omega))
  refine Wa 16 rfl ((by show PV.ptr 0 (0+((k:Int)).toNat*1)=.ptr 0 k;simp)) ?_
  refine Wc rfl rfl (dW rfl rfl func126 rfl rfl (RJ ((l.take k).map upC++l.drop k) k (by simp;omega) _ 0 rfl)) ?_
  refine jx (H':=[.cells (((l.take (k+1)).map upC++l.drop (k+1)).flatMap aK) 5]) (by rw[<-Xb hk2];rfl) ?_
  refine Wn<|aa rfl ?_
  refine zs2 ?_
  exact⟨k+1,[],(by omega),(by omega),fc⟩
 refine bf ?_
 refine zp1 ?_
 refine Wd rfl rfl (Ea (lO tG rfl) rfl (lO tG rfl) rfl (lO tG rfl) rfl rfl rfl rfl (by simp;omega)) ?_
 refine zs1 ?_
 refine zR ?_
 exact congrArg str (Z8 (by simp only[decide_eq_false_iff_not]at *;omega))
theorem Nb(a b:Str)(ha:a.length<=9223372036854775807)(hb:b.length<=9223372036854775807):ab prog 66 [str a,str b] (boo (X5 a b)):=by
 refine zY func66 fun B=>?_
 refine zu1 ?_
 refine zp1 ?_
 refine zc rfl func96 ((CO a ha) _) ?_
 refine z1 ?_
 refine zc rfl func96 ((CO b hb) _) ?_
 refine z1 ?_
 refine zq 9 ?_
 refine zs1 ?_
 refine zR ?_
 rfl
end Go.Proofs.YtjcminooghmpeaaGreatDoor
namespace Go.Proofs.YtjcminooghmpeaaGreatDoor
open Go.RowKit (wrap64)
theorem xJ(x q:Int):wrap64 (x+q*18446744073709551616)=wrap64 x:=by unfold wrap64;omega
theorem CA(x:Int):∃q,wrap64 x=x+q*18446744073709551616:=⟨-((x+9223372036854775808)/18446744073709551616),by unfold wrap64;omega⟩
theorem ye(x y:Int):wrap64 (wrap64 x+y)=wrap64 (x+y):=by
 obtain⟨q,h⟩:=CA x;rw[h,show x+q*18446744073709551616+y=(x+y)+q*18446744073709551616 from by omega,xJ]
def wd(c:Int):Int:=if 48<=c/\c<=57 then c-48 else if 97<=c/\c<=122 then c-87 else if 65<=c/\c<=90 then c-55 else -1
def wb(n:Int):Int:=if 0<=n/\n<=9 then 48+n else if 10<=n/\n<=35 then 55+n else 63
def isB(b:Int):Bool:=decide (2<=b)&&decide (b<=36)
theorem Kr(b:Int):isB b=true↔2<=b/\b<=36:=by unfold isB;simp
theorem Yv(c:Int): -1<=wd c/\wd c<=35:=by unfold wd;split<;>(try split)<;>(try split)<;>omega
def chr(n:Nat):UInt8:=UInt8.ofNat (wb n).toNat
def okD(b:Int)(c:UInt8):Bool:=decide (0<=wd c.toNat)&&decide (wd c.toNat<b)
theorem Fd(b:Int)(c:UInt8):okD b c=true↔0<=wd c.toNat/\wd c.toNat<b:=by unfold okD;simp
def uY(b:Int):Int->List UInt8->Int
 | n,[]=>n
 | n,c::l=>uY b (n*b+wd c.toNat) l
theorem Gn(b:Int)(l m:List UInt8):∀n,uY b n (l++m)=uY b (uY b n l) m:=by
 induction l with
 | nil=>intro n;rfl
 | cons c l ih=>intro n;exact ih _
theorem M0(b n:Int)(l:List UInt8)(c:UInt8):uY b n (l++[c])=uY b n l*b+wd c.toNat:=by rw[Gn];rfl
theorem Au(b n:Int)(l:List UInt8)(c:UInt8):wrap64 (wrap64 (wrap64 (uY b n l)*b)+wd c.toNat)=wrap64 (uY b n (l++[c])):=by
 rw[M0,ye,wrap64_mul_left_add]
where
 wrap64_mul_left_add {x y z:Int}:wrap64 (wrap64 x*y+z)=wrap64 (x*y+z):=by
  obtain⟨q,h⟩:=CA x
  rw[h,Int.add_mul,show q*18446744073709551616*y=(q*y)*18446744073709551616 from by rw[Int.mul_right_comm],show x*y+q*y*18446744073709551616+z=(x*y+z)+(q*y)*18446744073709551616 from by omega,xJ]
def pZ:List UInt8->Option Int
 | [a,c,d]=>if a=39/\d=39/\33<=c.toNat/\c.toNat<=126 then some c.toNat else none
 | _=>none
def vW(l:List UInt8)(b:Int):Int×List UInt8 :=
 match l with
 | []=>(b,[])
 | c::m=>if c=35 then(10,m)else if c=36 then(16,m)else if c=37 then(2,m)else(b,c::m)
def wT(l:List UInt8):List UInt8×Bool :=
 match l with
 | []=>([],false)
 | c::m=>if c=45 then(m,true)else(c::m,false)
def rM(l:List UInt8)(b:Int)(below:Bool):Int×Bool :=
 if l=[]\/isB b=false\/l.all (okD b)=false then(0,false)else(if below then wrap64 (-wrap64 (uY b 0 l))else wrap64 (uY b 0 l),true)
def ez(l:List UInt8)(b:Int):Int×Bool :=
 match pZ l with
 | some n=>(n,true)
 | none=>rM (wT (vW l b).2).1 (vW l b).1 (wT (vW l b).2).2
theorem Tn(l:List UInt8)(b:Int)(below:Bool)(hb:isB b=true)(hl:l≠[])(hd:l.all (okD b)=true):
  rM l b below=(if below then wrap64 (-wrap64 (uY b 0 l))else wrap64 (uY b 0 l),true):=by
 unfold rM;rw[if_neg (by rw[hb,hd];simp[hl])]
theorem Tr(l:List UInt8)(b:Int)(below:Bool)(h:l.all (okD b)=false):rM l b below=(0,false):=by
 unfold rM;rw[if_pos (.inr (.inr h))]
def tN(b:Nat):Nat->Nat->List Nat
 | 0,_=>[]
 | k+1,u=>u%b::(if u/b=0 then []else tN b k (u/b))
def nZ(u b:Nat):List UInt8:=((tN b 64 u).map chr).reverse
def gF(n b:Int):List UInt8×Int:=if isB b then(nZ (U n) b.toNat,0)else([],-24)
def iU(n b:Int):List UInt8×Int:=if isB b then(if 0<=n then nZ (U n) b.toNat else 45::nZ (U (wrap64 (-n))) b.toNat,0)else([],-24)
theorem Qq{b:Int}(h:isB b=true):∃B:Nat,b=(B:Int)/\2<=B/\B<=36:=by
 rw[Kr]at h;exact⟨b.toNat,by omega,by omega,by omega⟩
open Go.RowKit
section
variable {P : Program}
def Rv(P:Program)(f:FuncId)(args:List PV)(n:Nat)(xs:List PV)(k:Nat):Prop:=∀H,HC P f args H (.seq n xs (.own H.length k)) (H++[.free (n*k)])
theorem OC{f:FuncId}{args:List PV}{n k:Nat}{xs:List PV}(ha:ay args)(hxs:ay xs)
  (h:∀B σ w vs,Sim B [] σ w->au (cx B [] σ w) args vs->Calls P f vs.toArray w fun e w'=>∃v H' σ' t m,e=.returned v/\Rep (cx B H' σ' w') (.seq n xs (.own t k)) v/\H'[t]?=some (.free m)/\m<=n*k/\dK B [] σ w H' σ' w'):Rv P f args n xs k:=by
 intro H B σ w vs s hr
 have s0:=Kv s
 have hr0:au (cx (BoW B σ H) [] σ w) args vs:=dv (c:=cx B H σ w) (c':=cx (BoW B σ H) [] σ w) rfl (fun b off h=>by
  rcases h with h|⟨i,oi,h1,_⟩
  ·exact h
  simp at h1) ha hr
 refine Calls.mono (h (BoW B σ H) σ w vs s0 hr0) ?_
 rintro e w' ⟨v,H',σ',t,m,rfl,h1,ht,hm,h2⟩
 have g:aX w w':=⟨h2.os,h2.tape,h2.output,h2.size,fun b hb=>h2.block b hb (fun i oi h=>by simp at h)⟩
 obtain⟨ad,cap,ws,hv,hle,hnil,hrl,hlies,hqN,hl,hown⟩:=gx h1
 have key:∀nb:Option Nat,(∀b,nb=some b->w.heap.size<=b)->FQ (cx B (H++[.free (n*k)]) (ext σ H.length nb) w') H.length (.free (n*k))->(∀b,nb=some b->σ' t=some b)->(cap=n\/∃b cs e,nb=some b/\ad=some ⟨b,0,none⟩/\w'.heap[b]?=some (Obj.cells cs e (0,0))/\cap*k<=cs.size) ->
   ∃v' σ2,Ending.returned v=Ending.returned v'/\Rep (cx B (H++[.free (n*k)]) σ2 w') (.seq n xs (.own H.length k)) v'/\Sim B (H++[.free (n*k)]) σ2 w'/\dK B H σ w (H++[.free (n*k)]) σ2 w':=by
  intro nb hnew hh hnb hk
  obtain⟨s',st⟩:=eS s g (.free (n*k)) nb hnew hh
  have wr:∀b off,(cx B (H++[.free (n*k)]) (ext σ H.length nb) w').Wr b off->(cx (BoW B σ H) H' σ' w').Wr b off:=by
   rintro b off (h|⟨j,oj,h3,h4,h5⟩)
   ·exact .inl (.inl h)
   rcases fb h3 with ⟨h6,h7⟩|⟨rfl,rfl⟩
   ·rw[bV h6]at h4;exact .inl (.inr ⟨j,oj,h7,h4,h5⟩)
   rw[bx]at h4;exact .inr ⟨t,_,ht,hnb _ h4,Nat.le_trans hm h5⟩
  refine⟨v,_,rfl,?_,s',st⟩
  unfold Rep
  refine⟨ad,cap,ws,hv,hle,hnil,dv (c:=cx (BoW B σ H) H' σ' w') (c':=cx B (H++[.free (n*k)]) (ext σ H.length nb) w') rfl wr hxs hrl,fun b hb=>(hlies b hb).imp (fun hL=>⟨hL.1,fun j u hj=>⟨(hL.2 j u hj).1,fun hw=>(hL.2 j u hj).2 (wr _ _ hw)⟩⟩) id,by simp[cx],hl,?_⟩
  rcases hk with hk|⟨b,cs,e,h3,h4,h5,h6⟩
  ·exact .inl hk
  exact .inr ⟨b,cs,e,by simp only[cx];rw[bx];exact h3,h4,h5,h6⟩
 rcases hown with hcap|⟨b,cs,e,h3,h4,h5,h6⟩
 ·exact key none (fun b hb=>by cases hb) (fun b hb=>by simp only[cx]at hb;rw[bx]at hb;cases hb) (fun b hb=>by cases hb) (.inl hcap)
 refine key (some b) (fun b' hb=>?_) (fun b' hb=>?_) (fun b' hb=>by cases hb;exact h3) (.inr ⟨b,cs,e,rfl,h4,h5,h6⟩)
 ·cases hb
  rcases h2.new t _ b ht rfl h3 with h7|⟨j,oj,h7,_⟩
  ·exact h7
  simp at h7
 simp only[cx]at hb;rw[bx]at hb;cases hb
 exact⟨cs,e,h5,Nat.le_trans (Nat.mul_le_mul_right _ hle) h6⟩
def ax3(G:List (Nat×TD))(rs:List ResultVar)(n:Nat)(xs:List PV)(k:Nat):Exit->(Nat->PV)->List Ob->Prop
 | .normal,T,H=>∃t m,py G T H rs=some (.seq n xs (.own t k))/\H[t]?=some (.free m)/\m<=n*k
 | .ret,T,H=>∃t m,py G T H rs=some (.seq n xs (.own t k))/\H[t]?=some (.free m)/\m<=n*k
 | _,_,_=>False
theorem N8{G:List (Nat×TD)}(hG:dn P G=true){f:FuncId}{fn:Func}{c:Code}{args:List PV}{n k:Nat}{xs:List PV}{rs:List ResultVar}(hf:P.funcs[f]?=some fn)(hb:fn.body=some c)(hr:fn.results=rs.toArray)(hn0:Nat.ble args.length fn.ntmps=true)(ha:ay args)(hres:ay xs)
  (h:∀B,W P B fn.ntmps c (Br args) [] (ax3 G rs n xs k)):Rv P f args n xs k:=by
 have hn:=Nat.le_of_ble_eq_true hn0
 refine OC ha hres fun B σ w vs s hv=>?_
 have hl:=au.length hv
 refine calls_of_wp hf hb (wp_mono (h B σ w {tmps:=vs.toArray++Array.replicate (fn.ntmps-vs.toArray.size) undef,defers:=[]} ⟨s,tK hv _,by simp;omega,rfl⟩) ?_)
 rintro e a' w' ⟨T',H1,σ',h1,h2,h3⟩
 have fin:∀(h4:∃t m,py G T' H1 rs=some (.seq n xs (.own t k))/\H1[t]?=some (.free m)/\m<=n*k),a'.defers=[]/\∃v,(results fn a'.tmps).run P w'=.ok v w'/\∃v' H' σ' t m,Ending.returned v=Ending.returned v'/\Rep (cx B H' σ' w') (.seq n xs (.own t k)) v'/\H'[t]?=some (.free m)/\m<=n*k/\dK B [] σ w H' σ' w':=by
  rintro⟨t,m,hx,h4,h7⟩
  obtain⟨v,h5,h6⟩:=va hG hr h2 hx
  exact⟨h2.defers,v,h5,v,H1,σ',t,m,rfl,h6,h4,h7,h3⟩
 cases e<;>first|exact fin h1|exact False.elim h1
theorem X3{G:List (Nat×TD)}{rs:List ResultVar}{T:Nat->PV}{H:List Ob}{n n' k t m:Nat}{xs xs':List PV}(h:py G T H rs=some (.seq n' xs' (.own t k)))(h1:n'=n)(h2:xs'=xs)(h3:H[t]?=some (.free m))(h4:m<=n*k):ax3 G rs n xs k .ret T H:=by
 subst h1 h2;exact⟨t,m,h,h3,h4⟩
theorem Rv.pure{f:FuncId}{args:List PV}{n k:Nat}{xs:List PV}(h:Rv P f args n xs k)(ha:ay args)(hxs:ay xs):ab P f args (.seq n xs .any):=by
 refine II ha (by unfold aS;exact⟨hxs,.inl rfl⟩) fun B σ w vs s hr=>?_
 refine Calls.mono (h [] B σ w vs s hr) ?_
 rintro e w' ⟨v,σ',rfl,h1,h2,h3⟩
 exact⟨v,_,σ',rfl,qy _ _ _ _ _ h1,h3⟩
theorem TG{B:Nat->Nat->Prop}{n:Nat}{ops:Array Oper}{cl:Nat->Nat}{o:Oper}{T:Nat->PV}{H E:List Ob}{x:PV}{i:Nat}{l:List Nat}{d:Option Tmp}{K:(Nat->PV)->List Ob->Prop}(h0:ops[i]?=some o)(hc:cl i=2)(hd:nfD n o.dst=some d)(hw:aq ops T o=some true)(h:jb P B o T H x (H++E))(k:WU P B n ops cl l (bK d x T) (H++E) K):WU P B n ops cl (i::l) T H K :=
 ⟨o,h0,x,H++E,.inl ⟨hw,.inr h⟩,by rw[hc];exact⟨E,rfl⟩,(cT hd).1▸k⟩
section
variable {B : Nat -> Nat -> Prop} {o : Oper} {T : Nat -> PV} {H : List Ob}
end
end
theorem S7{b m:Nat}{s:List UInt8}{l:List Ob}(k:NLo b l):NLo b (.iter s m::l):=k
section
variable {P : Program} {B : Nat -> Nat -> Prop} {o : Oper} {T : Nat -> PV} {H : List Ob}
theorem QN{σ:Nat->Option Nat}{w:World}(s:Sim B H σ w){i b:Nat}{l:List UInt8}{p q:Nat}(hi:H[i]?=some (.iter l p))(hb:σ i=some b)(hv:w.heap[b]?=some (Obj.stringIter ⟨l.toArray⟩ p)):
  Sim B (H.set i (.iter l q)) σ {w with heap:=w.heap.setIfInBounds b (.stringIter ⟨l.toArray⟩ q)}/\dK B H σ w (H.set i (.iter l q)) σ {w with heap:=w.heap.setIfInBounds b (.stringIter ⟨l.toArray⟩ q)}:=by
 have hlen:=cV hi
 have hbl:=(Array.getElem?_eq_some_iff.1 hv).1
 have other:∀x,x≠b->(w.heap.setIfInBounds b (.stringIter ⟨l.toArray⟩ q))[x]?=w.heap[x]?:=fun x hx=>Array.getElem?_setIfInBounds_ne (Ne.symm hx)
 have same:(w.heap.setIfInBounds b (.stringIter ⟨l.toArray⟩ q))[b]?=some (.stringIter ⟨l.toArray⟩ q):=by simp[hbl]
 have get:∀j o,(H.set i (.iter l q))[j]?=some o->(j=i/\o=.iter l q)\/(j≠i/\H[j]?=some o):=fun j o h=>yH hlen h
 have own:∀x off,j9 σ (H.set i (.iter l q)) x off->j9 σ H x off:=by
  rintro x off ⟨j,o,h1,h2,h3⟩
  rcases get j o h1 with ⟨rfl,rfl⟩|⟨_,h4⟩
  ·exact⟨j,_,hi,h2,trivial⟩
  exact⟨j,o,h4,h2,h3⟩
 have wr:∀off,j9 σ H b off:=fun off=>⟨i,_,hi,hb,trivial⟩
 have le:(cx B H σ w).Le (cx B (H.set i (.iter l q)) σ {w with heap:=w.heap.setIfInBounds b (.stringIter ⟨l.toArray⟩ q)}):=by
  refine⟨by simp[cx],fun _ _=>rfl,fun x off u h1 h2=>⟨?_,fun h=>h1 (h.imp id (own x off))⟩,fun x e2 c2 h1 h2=>⟨?_,fun h=>h1 (h.imp id (own x 0))⟩,fun x cs t fr h1=>⟨cs,?_,rfl⟩⟩
  ·have hx:x≠b:=fun hx=>h1 (.inr (hx▸wr off))
   exact(World.cell?_of_block (w:=w) (w':={w with heap:=w.heap.setIfInBounds b (.stringIter ⟨l.toArray⟩ q)}) (a:=⟨x,off,none⟩) (other x hx)).trans h2
  ·have hx:x≠b:=fun hx=>h1 (.inr (hx▸wr 0))
   exact(other x hx).trans h2
  have hx:x≠b:=by rintro rfl;simp only[cx]at h1;rw[hv]at h1;cases h1
  exact(other x hx).trans h1
 refine⟨⟨?_,?_,fun x off h=>by simpa using s.base x off h,?_⟩,⟨le,rfl,rfl,rfl,by simp,?_,?_⟩⟩
 ·intro j k x oj ok h1 h2 l1 l2 e1 e2
  rcases get j oj h1 with ⟨rfl,rfl⟩|⟨_,h3⟩<;>rcases get k ok h2 with ⟨rfl,rfl⟩|⟨_,h4⟩
  ·rfl
  ·exact s.inj _ _ x _ _ hi h4 rfl l2 e1 e2
  ·exact s.inj _ _ x _ _ h3 hi l1 rfl e1 e2
  exact s.inj _ _ x _ _ h3 h4 l1 l2 e1 e2
 ·intro j x oj h1 l1 e1 off
  rcases get j oj h1 with ⟨rfl,rfl⟩|⟨_,h3⟩
  ·exact s.sep _ x _ hi rfl e1 off
  exact s.sep _ x _ h3 l1 e1 off
 ·intro j oj h1
  rcases get j oj h1 with ⟨rfl,rfl⟩|⟨hj,h3⟩
  ·exact⟨b,hb,same⟩
  have k:=s.holds j oj h3
  cases oj with
  | cells zs t =>
   obtain⟨x,ws,fr',h5,h6,hf,h7⟩:=k
   have hx:x≠b:=fun hx=>hj (s.inj j i b _ _ h3 hi rfl rfl (hx▸h5) hb)
   exact⟨x,ws,fr',h5,(other x hx).trans h6,hf,h7.mono le⟩
  | smap ks2 ms =>
   obtain⟨x,e2,c2,h5,h6,h7,h8⟩:=k
   have hx:x≠b:=fun hx=>hj (s.inj j i b _ _ h3 hi rfl rfl (hx▸h5) hb)
   exact⟨x,e2,c2,h5,(other x hx).trans h6,h7,au.mono le h8⟩
  | iter l2 p2 =>
   obtain⟨x,h5,h6⟩:=k
   have hx:x≠b:=fun hx=>hj (s.inj j i b _ _ h3 hi rfl rfl (hx▸h5) hb)
   exact⟨x,h5,(other x hx).trans h6⟩
  | free m =>
   intro x hx
   obtain⟨cs,t,h5,h6⟩:=k x hx
   have hne:x≠b:=fun h=>hj (s.inj j i b _ _ h3 hi rfl rfl (h▸hx) hb)
   exact⟨cs,t,(other x hne).trans h5,h6⟩
  | dead=>trivial
  | glob g u=>obtain⟨q1,q2⟩:=k;exact le.cell g 0 u q2 q1
 ·intro j oj x h1 h2 h3
  rcases get j oj h1 with ⟨rfl,rfl⟩|⟨_,h4⟩
  ·exact .inr ⟨_,_,hi,rfl,h3⟩
  exact .inr ⟨j,oj,h4,h2,h3⟩
 intro x hx hn
 exact other x (fun h=>hn i _ hi rfl (h▸hb))
theorem oZ{t:TypeId}{d:TD}{x:Operand}{s:Str}(f:an P t d)(hd:d.sh=.str)(ho:o.op=.range t x)(hx:opv T x=str s):bI P B o T H (.ptr H.length 0) (H++[.iter s 0]):=by
 intro σ w a sm h
 have k1:=h x (by simp[ho,Op.operands])
 rw[hx]at k1
 unfold str Rep at k1
 obtain⟨s',st⟩:=eS sm (aX.alloc w (.stringIter ⟨s.toArray⟩ 0)) (.iter s 0) (some w.heap.size) (fun b hb=>by cases hb;exact Nat.le_refl _) ⟨w.heap.size,by simp only[cx];rw[bx],by show(w.heap.push _)[w.heap.size]?=_;simp⟩
 refine⟨.pointer (some ⟨w.heap.size,0,none⟩),_,_,.inl ?_,?_,s',st⟩
 ·simp only[execOp,ho,k1,Sem.run_bind,run_range_string w t _ (f.str hd),Result.andThen_ok,Sem.run_pure];rfl
 unfold Rep;exact⟨by simp[cx],w.heap.size,by simp only[cx];rw[bx],rfl⟩
theorem tv{x:Operand}{i:Nat}{s:Str}{pos:Nat}(ho:o.op=.next x true)(hx:opv T x=.ptr i 0)(hi:H[i]?=some (.iter s pos))(hp:pos<s.length)(ha:(s.getD pos 0).toNat<128):
  bI P B o T H (.tup [.val (.bool true),.val (.int .i64 (pos:Int)),.val (.int .i32 ((s.getD pos 0).toNat:Int))]) (H.set i (.iter s (pos+1))):=by
 intro σ w a sm h
 have k1:=h x (by simp[ho,Op.operands])
 rw[hx]at k1
 unfold Rep at k1
 obtain⟨_,b,hb,hv⟩:=k1
 obtain⟨b',hb',hg⟩:=sm.holds i _ hi
 simp only[cx]at hb hb' hg
 rw[hb]at hb'
 cases hb'
 obtain⟨s',st⟩:=QN sm (q:=pos+1) hi hb hg
 have hsz:pos<(⟨s.toArray⟩:ByteArray).size:=by rw[dX];exact hp
 have hel:((⟨s.toArray⟩:ByteArray)[pos]'hsz)=s.getD pos 0:=by
  simp only[List.getD,List.getElem?_eq_getElem hp,Option.getD_some]
  rfl
 have hdec:Utf8.decode ⟨s.toArray⟩ pos=((s.getD pos 0).toNat,1):=by rw[decode_ascii _ pos hsz (by rw[hel];exact ha),hel]
 refine⟨.tuple #[.bool true,.int .i64 (pos:Int),.int .i32 ((s.getD pos 0).toNat:Int)],_,σ,.inl ?_,?_,s',st⟩
 ·have hr:(Instr.next (a.eval x) true o.type).run P w=.ok (.tuple #[.bool true,.int .i64 (pos:Int),.int .i32 ((s.getD pos 0).toNat:Int)]) {w with heap:=w.heap.setIfInBounds b (.stringIter ⟨s.toArray⟩ (pos+1))}:=by
   rw[hv]
   have hbl:=(Array.getElem?_eq_some_iff.1 hg).1
   simp only[Instr.next,getObj,setObj,Sem.run_bind,Sem.run,hg,Result.andThen,hsz,if_true,hdec]
   simp[goInt,Sem.run,hg,hbl]
  simp only[execOp,ho,Sem.run_bind,hr,Result.andThen_ok,Sem.run_pure]
 unfold Rep
 exact⟨_,rfl,aj.2 ⟨ar _ _,aj.2 ⟨ar _ _,aj.2 ⟨ar _ _,aG.2 rfl⟩⟩⟩⟩
theorem o6{x:Operand}{i:Nat}{s:Str}{pos:Nat}(ho:o.op=.next x true)(hx:opv T x=.ptr i 0)(hi:H[i]?=some (.iter s pos))(hp:s.length<=pos):bI P B o T H (.tup [.val (.bool false)]) H :=
 aL fun σ w a sm h=>by
  have k1:=h x (by simp[ho,Op.operands])
  rw[hx]at k1
  unfold Rep at k1
  obtain⟨_,b,hb,hv⟩:=k1
  obtain⟨b',hb',hg⟩:=sm.holds i _ hi
  simp only[cx]at hb hb' hg
  rw[hb]at hb'
  cases hb'
  have hsz:¬pos<(⟨s.toArray⟩:ByteArray).size:=by rw[dX];omega
  refine⟨.tuple #[.bool false],?_,by unfold Rep;exact⟨_,rfl,aj.2 ⟨ar _ _,aG.2 rfl⟩⟩⟩
  have hr:(Instr.next (a.eval x) true o.type).run P w=.ok (.tuple #[.bool false]) w:=by
   rw[hv]
   simp[Instr.next,getObj,Sem.run,hg,hsz]
  simp only[execOp,ho,Sem.run_bind,hr,Result.andThen_ok,Sem.run_pure]
end
open Go.RowKit
def eW(s:Str):Int:=if s.length=0 then -16 else if 31<s.length then -19 else if s.all (fun c=>decide (32<c.toNat))then 0 else -32
def AY(w:aR):Bool:=decide (eW w.name=0/\0<=w.flags/\w.flags<=7)
def ig(l:List aR):Bool:=l.all AY&&decide (l.length<=1024)
def NV(w:aR):Bool:=decide (w.flags/2%2=1)
def xk(w:aR)(name:Str):Bool:=!NV w&&X5 w.name name
def l9(l:List aR)(name:Str):Nat->aR×Int×Bool
 | 0=>(⟨[],0,0⟩,0,false)
 | k+1=>if xk (l.getD k default) name then(l.getD k default,(k:Int),true)else l9 l name k
def cN(l:List aR)(name:Str):aR×Int×Bool:=l9 l name l.length
def BI(r:aR×Int×Bool):PV:=jW (xZ r.1) (i64 r.2.1) (boo r.2.2)
@[simp] theorem ah3 (r : aR × Int × Bool) : aS (BI r) := by simp [BI]
theorem rP{l:List aR}(h:∀w∈l,0<=w.flags/\w.flags<=7)(name:Str):∀k,k<=l.length->0<=(l9 l name k).1.flags/\(l9 l name k).1.flags<=7
 | 0,_=>by show(0:Int)<=0/\(0:Int)<=7;omega
 | k+1,hk=>by
  unfold l9
  split
  ·exact h _ (by rw[List.getD_eq_getElem?_getD,List.getElem?_eq_getElem (by omega)];exact List.getElem_mem _)
  exact rP h name k (by omega)
theorem gE{n:Int}(h0 : -9223372036854775808<=n)(h1:n<=9223372036854775807):IntKind.i64.wrap n=n:=by rw[bS];unfold wrap64;omega
theorem qN{f:Int}(h0:0<=f)(h7:f<=7):f=0\/f=1\/f=2\/f=3\/f=4\/f=5\/f=6\/f=7:=by omega
theorem as6{f:Int}(h0:0<=f)(h7:f<=7):(IntKind.i64.wrap ↑(BitVec.ofInt IntKind.i64.bits f &&& BitVec.ofInt IntKind.i64.bits 2).toNat==0) = !decide (f/2%2=1):=by
 rcases qN h0 h7 with rfl|rfl|rfl|rfl|rfl|rfl|rfl|rfl<;>decide
theorem aq7(x:aR)(name:Str)(hx:x.name.length<=9223372036854775807)(hn:name.length<=9223372036854775807)(h0:0<=x.flags)(h7:x.flags<=7):ab prog 65 [xZ x,.row [str name]] (boo (xk x name)):=by
 have hl:=as6 h0 h7
 refine bw tG (rs:=[.tmp 3]) func65 rfl rfl rfl (by(simp[aS,ay];done)) (by(simp;done)) (fun B=>?_)
 refine zu2 ?_
 refine zp5 ?_
 refine Wb 8 rfl (fun hg1=>?_) (fun hg1=>?_)
 ·refine zy3 ?_
  refine zc rfl func66 ((Nb x.name name hx hn) _) ?_
  refine zs2 ?_
  refine zR ?_
  exact congrArg boo (by unfold xk NV;rw[hg1]at hl;rw[<-hl];simp)
 refine z6 ?_
 iterate 3 refine z6 ?_
 refine zs2 ?_
 refine zR ?_
 exact congrArg boo (by unfold xk NV;rw[hg1]at hl;rw[<-hl];simp)
theorem TR{α:Type}(enc:α->List PV)(n:Nat)(hk:∀x,(enc x).length=n)(d:α):∀(l:List α) (j k:Nat),j<l.length->k<n->(l.flatMap enc)[j*n+k]?=(enc (l.getD j d))[k]?
 | [],j,k,h,_=>by simp at h
 | x::l,0,k,_,h=>by
  rw[List.flatMap_cons,Nat.zero_mul,Nat.zero_add,List.getElem?_append_left (by rw[hk];exact h)];rfl
 | x::l,j+1,k,h,h2=>by
  rw[List.flatMap_cons,List.getElem?_append_right (by rw[hk,Nat.succ_mul];omega),hk,show(j+1)*n+k-n=j*n+k by rw[Nat.succ_mul];omega,TR enc n hk d l j k (by simpa using h) h2]
  rfl
def jX(l:List aR):Prop:=l.length<=1000000/\∀w∈l,w.name.length<=9223372036854775807/\0<=w.flags/\w.flags<=7
theorem jX.get{l:List aR}(h:jX l){j:Nat}(hj:j<l.length):(l.getD j default).name.length<=9223372036854775807/\0<=(l.getD j default).flags/\(l.getD j default).flags<=7 :=
 h.2 _ (by rw[List.getD_eq_getElem?_getD,List.getElem?_eq_getElem hj];exact List.getElem_mem _)
def zOf(l:List aR)(j:Nat):WX:=if h:(l.getD j default).name.length<=9223372036854775807/\0<=(l.getD j default).flags/\(l.getD j default).flags<=7 then
  ⟨(⟨(l.getD j default).name.toArray⟩,(l.getD j default).xt,(l.getD j default).flags),by simpa[ByteArray.size]using h.1,h.2⟩else⟨(⟨#[]⟩,0,0),by decide,by decide,by decide⟩
theorem zi{l:List aR}(h:jX l){j:Nat}(hj:j<l.length):(zOf l j).1=(⟨(l.getD j default).name.toArray⟩,(l.getD j default).xt,(l.getD j default).flags):=by
 unfold zOf;rw[dif_pos (h.get hj)]
def wOf(x:WX):aR:=⟨x.1.1.data.toList,x.1.2.1,x.1.2.2⟩
theorem Q4{l:List aR}(h:jX l){j:Nat}(hj:j<l.length):wOf (zOf l j)=l.getD j default:=by
 unfold wOf;rw[zi h hj]
theorem An{l:List aR}{name:Str}:∀k,(∀j,j<k->xk (l.getD j default) name=false)->l9 l name k=(⟨[],0,0⟩,0,false)
 | 0,_=>rfl
 | k+1,h=>by unfold l9;rw[h k (by omega)];simp;exact An k (fun j hj=>h j (by omega))
theorem AR{l:List aR}{name:Str}{m:Nat}(hm:xk (l.getD m default) name=true):∀k,m<k->(∀j,m<j->j<k->xk (l.getD j default) name=false)->l9 l name k=(l.getD m default,(m:Int),true)
 | 0,h,_=>by omega
 | k+1,h,h2=>by
  unfold l9
  by_cases e:m=k
  ·subst e;rw[hm];rfl
  rw[h2 k (by omega) (by omega)];simp;exact AR hm k (by omega) (fun j h3 h4=>h2 j h3 (by omega))
theorem xp(c:Cx)(x:aR):Rep c (xZ x) (.agg #[.string ⟨x.name.toArray⟩,.int .i64 x.xt,.int .i64 x.flags]):=by
 unfold xZ Rep
 exact⟨[_,_,_],rfl,aj.2 ⟨ar _ _,aj.2 ⟨ar _ _,aj.2 ⟨ar _ _,aG.2 rfl⟩⟩⟩⟩
theorem ND(l:List aR)(name:Str)(hl:jX l)(hn:name.length<=9223372036854775807):ab prog 64 [sq cS l,.fn (.func 65) [] [.row [str name]]] (BI (cN l name)):=by
 intro H B σ w vs s hr
 match vs,hr with
 | [v0,v1],hr =>
  obtain⟨h0,hr⟩:=aj.1 hr
  obtain⟨h1,_⟩:=aj.1 hr
  unfold sq Rep at h0
  obtain⟨a,cap,us,rfl,hle,hnil,hrep,hlies,_⟩:=h0
  unfold Rep at h1
  obtain⟨fs,cs,rfl,hf,hc⟩:=h1
  rw[aG]at hf;subst hf
  match cs,hc with
  | [u],hc =>
   obtain⟨hu,_⟩:=aj.1 hc
   unfold Rep at hu
   obtain⟨nb,us',rfl,hn',hln⟩:=hu
   have hcell:∀j k,j<l.length->k<3->∃u,us[j*3+k]?=some u/\∃x,(cS (l.getD j default))[k]?=some x/\Rep (cx B H σ w) x u:=fun j k hj hk=>by
    have e:=TR cS 3 (fun _=>rfl) default l j k hj hk
    have:∃x,(cS (l.getD j default))[k]?=some x:=by match k,hk with|0,_=>exact⟨_,rfl⟩|1,_=>exact⟨_,rfl⟩|2,_=>exact⟨_,rfl⟩
    obtain⟨x,hx⟩:=this
    rw[hx]at e
    obtain⟨u,h5,h6⟩:=au.get hrep e
    exact⟨u,h5,x,hx,h6⟩
   have hI:tE w.heap.size w (.slice a l.length cap) l.length (zOf l):=by
    by_cases hz:l.length=0
    ·rw[hz];exact .inl ⟨a,cap,rfl,rfl⟩
    match a,hnil,hlies with
    | none,hnil,_=>exact absurd (hnil rfl).1 hz
    | some b,_,hlies =>
     rcases hlies b rfl with hL|⟨h9,_⟩
     ·obtain⟨hs,hL⟩:=hL
      obtain⟨blk,off,spot⟩:=b
      simp only at hs hL
      subst hs
      obtain⟨u0,q0,x0,q1,q2⟩:=hcell 0 0 (by omega) (by omega)
      have hb:blk<w.heap.size:=by
       have:=(hL _ _ q0).1
       simp only[cx]at this
       unfold World.cell? at this
       by_cases hh:blk<w.heap.size
       ·exact hh
       simp[Array.getElem?_eq_none (Nat.le_of_not_lt hh)]at this
      refine .inr ⟨blk,off,cap,rfl,hb,fun j hj=>?_,fun j hj=>?_,fun j hj=>?_⟩
      ·obtain⟨u,g1,x,g2,g3⟩:=hcell j 0 hj (by omega)
       cases g2
       unfold str Rep at g3
       subst g3
       have:=(hL _ _ g1).1
       rw[zi hl hj];exact this
      ·obtain⟨u,g1,x,g2,g3⟩:=hcell j 1 hj (by omega)
       cases g2
       unfold i64 Rep at g3
       subst g3
       have:=(hL _ _ g1).1
       rw[zi hl hj];rw[<-Nat.add_assoc]at this;exact this
      obtain⟨u,g1,x,g2,g3⟩:=hcell j 2 hj (by omega)
      cases g2
      unfold i64 Rep at g3
      subst g3
      have:=(hL _ _ g1).1
      rw[zi hl hj];rw[<-Nat.add_assoc]at this;exact this
     omega
   have hname:∀W,Below w.heap.size w W->rK ⟨W,0,fun _=>none,fun _ _=>False⟩ nb us':=fun W hB=>by
    refine⟨hln.1,fun j u hj=>⟨?_,fun k=>k⟩⟩
    have:=(hln.2 j u hj).1
    exact(aX.of_below hB).cell this
   have key:=callsIn_wide.1 (Ww a l.length cap nb (zOf l) (fun x=>xk (wOf x) name) (by have:=hl.1;omega) w hI (fun W hB x=>by
    have f:=aq7 (wOf x) name (by show x.1.1.data.toList.length<=_;have q:=x.2.1;unfold ByteArray.size at q;rw[Array.length_toList];exact q) hn x.2.2.1 x.2.2.2 [] (fun _ _=>False) (fun _=>none) W [wv x,.pointer (some nb)] ⟨fun i j b oi oj h=>by simp at h,fun i b oi h=>by simp at h,fun b off h=>h.elim,fun i oi h=>by simp at h⟩
     (aj.2 ⟨by have:=xp (cx (fun _ _=>False) [] (fun _=>none) W) (wOf x);simpa[wOf]using this,aj.2 ⟨by
      unfold Rep
      refine⟨nb,us',rfl,?_,?_⟩
      ·exact dv (c:=cx B H σ w) (c':=⟨w,0,fun _=>none,fun b off=>(cx B H σ w).Wr b off⟩) rfl (fun _ _ k=>k) (by simp[ay]) hn' |> fun h=>by
        match us',h with
        | [u'],h=>obtain⟨h5,_⟩:=aj.1 h;unfold str Rep at h5;subst h5;exact aj.2 ⟨ar _ _,aG.2 rfl⟩
      refine⟨(hname W hB).1,fun j u hj=>⟨((hname W hB).2 j u hj).1,fun k=>?_⟩⟩
      rcases k with k|⟨i,oi,k,_⟩
      ·exact k
      simp at k,aG.2 rfl⟩⟩)
    refine Calls.mono f ?_
    rintro e W' ⟨v,σ',rfl,g1,_,g3⟩
    unfold boo Rep at g1
    subst g1
    exact⟨rfl,g3.os,g3.tape,g3.output,g3.size,fun b hb=>g3.block b hb (fun i oi h=>by simp at h)⟩))
   refine Calls.mono key ?_
   rintro e W' ⟨he,hB⟩
   obtain⟨s',st⟩:=fH s (aX.of_below hB)
   rcases he with ⟨rfl,hno⟩|⟨k,hk,rfl,hy,hno⟩
   ·refine⟨_,σ,rfl,?_,s',st⟩
    have:cN l name=(⟨[],0,0⟩,0,false):=An l.length (fun j hj=>by have:=hno j hj;rw[Q4 hl hj]at this;exact this)
    rw[this]
    unfold BI jW Rep
    exact⟨[_,_,_],rfl,aj.2 ⟨xp _ _,aj.2 ⟨ar _ _,aj.2 ⟨ar _ _,aG.2 rfl⟩⟩⟩⟩
   refine⟨_,σ,rfl,?_,s',st⟩
   have:cN l name=(l.getD k default,(k:Int),true):=AR (by rw[<-Q4 hl hk];exact hy) l.length hk (fun j h1 h2=>by have:=hno j h1 h2;rw[Q4 hl h2]at this;exact this)
   rw[this]
   unfold BI jW Rep
   refine⟨[_,_,_],rfl,aj.2 ⟨?_,aj.2 ⟨ar _ _,aj.2 ⟨ar _ _,aG.2 rfl⟩⟩⟩⟩
   have:=xp (cx B H σ W') (l.getD k default)
   show Rep _ _ (.agg #[.string (zOf l k).1.1,.int .i64 (zOf l k).1.2.1,.int .i64 (zOf l k).1.2.2])
   rw[zi hl hk];exact this
theorem wZ(l:List aR)(name:Str)(hl:jX l)(hn:name.length<=9223372036854775807):ab prog 37 [sq cS l,str name] (BI (cN l name)):=by
 refine zY func37 fun B=>?_
 refine zp1 ?_
 refine bP 3 _ rfl rfl rfl ?_
 refine zs3 ?_
 refine zp2 ?_
 refine zc rfl func64 ((ND l name hl hn) _) ?_
 refine zy5 ?_
 refine zs1 ?_
 refine zR ?_
 rfl
end Go.Proofs.YtjcminooghmpeaaGreatDoor
