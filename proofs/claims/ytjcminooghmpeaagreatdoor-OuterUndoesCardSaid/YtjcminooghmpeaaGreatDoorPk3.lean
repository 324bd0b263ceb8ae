import Derived.BigQuiet
import Derived.ChangeOld
import Derived.ChangeSlices
import Derived.Deep.CutBlock
import Derived.Deep.DeepCutAuto
import Derived.Deep.QuietTactic
import Derived.Handy
import Derived.Laws.BitsAllLaws
import Derived.Laws.CopyOwn
import Derived.Lib.AppendZerosOnto
import Derived.Lib.Hide
import Derived.Lib.ItoaNum
import Derived.Lib.SliceRun
import Derived.Lib.Walk
import Derived.OpenShut
import Derived.Outline
import Derived.ProofKit
import Derived.Shelf.Bytes.SlEqualAll
import Derived.ShutString
import Derived.Test.YtjcminooghmpeaaGreatDoorPk2
set_option linter.all false
set_option maxRecDepth 100000
set_option maxHeartbeats 40000000
open Go.Proofs.Tryz
namespace Go.Proofs.YtjcminooghmpeaaGreatDoor
open Go.RowKit (wrap64)
def U(x:Int):Nat:=(x%18446744073709551616).toNat
def PU(lo hi:Int):Nat:=U hi*18446744073709551616+U lo
def PS(lo hi:Int):Int:=hi*18446744073709551616+U lo
def fV(n:Int):Bool:=decide (-9223372036854775808<=n)&&decide (n<=9223372036854775807)
def S(n:Nat):Int:=wrap64 n
def mP(a b:Int):Int×Int×Int:=if b=0 then(0,0,-10)else(wrap64 (a.fdiv b),a.fmod b,0)
def r2(a b:Int):Int×Int:=(S (U a*U b%18446744073709551616),S (U a*U b/18446744073709551616))
def wB(a b:Int):Int×Int:=(wrap64 (a*b),(a*b)/18446744073709551616)
def il(lo hi d:Int):Int×Int×Int :=
 if d=0 then(0,0,-10)else if U d<=U hi then(0,0,-11)else(S (PU lo hi/U d),S (PU lo hi%U d),0)
def kY(lo hi d:Int):Int×Int×Int :=
 if d=0 then(0,0,-10)else if fV ((PS lo hi).tdiv d)then((PS lo hi).tdiv d,(PS lo hi).tmod d,0)else(0,0,-11)
def jt(lo hi d:Int):Int×Int×Int :=
 if d=0 then(0,0,-10)else if fV ((PS lo hi).fdiv d)then((PS lo hi).fdiv d,(PS lo hi).fmod d,0)else(0,0,-11)
def xM(x:Int):U x<18446744073709551616:=by unfold U;omega
def ki(x:Int):IntKind.u64.wrap x=((U x:Nat):Int):=by
 rw[show IntKind.u64.wrap x=x%18446744073709551616 from by simp[IntKind.wrap,IntKind.bits,IntKind.signed]];unfold U;omega
def aD5(x:Int)(h:0<=x)(h1:x<=9223372036854775807):U x=x.toNat:=by unfold U;omega
def X8(x:Int)(h:x<0)(h1 : -9223372036854775808<=x):((U x:Nat):Int)=x+18446744073709551616:=by unfold U;omega
def cT(n:Int)(h : -9223372036854775808<=n/\n<=9223372036854775807):wrap64 n=n:=by unfold wrap64;omega
def S_U(x:Int)(h : -9223372036854775808<=x/\x<=9223372036854775807):S (U x)=x:=by unfold S U wrap64;omega
def U_S(n:Nat)(h:n<18446744073709551616):U (S n)=n:=by unfold S U wrap64;omega
def X2(n:Nat): -9223372036854775808<=S n/\S n<=9223372036854775807:=by unfold S wrap64;omega
def ic(n:Int): -9223372036854775808<=wrap64 n/\wrap64 n<=9223372036854775807:=by unfold wrap64;omega
def m3{a d q r:Int}(h:d*q+r=a)(hr:(0<d/\0<=r/\r<d)\/(d<0/\d<r/\r<=0)):a.fdiv d=q/\a.fmod d=r:=by
 rcases hr with ⟨hd,h0,h1⟩|⟨hd,h0,h1⟩
 ·rw[Int.fdiv_eq_ediv_of_nonneg a (by omega),Int.fmod_eq_emod_of_nonneg a (by omega)]
  exact(Int.ediv_emod_unique hd).2 ⟨by rw[Int.add_comm];exact h,h0,h1⟩
 have e1:=Int.neg_fdiv_neg a d
 have e2:=Int.neg_fmod_neg a d
 rw[Int.fdiv_eq_ediv_of_nonneg (-a) (by omega)]at e1
 rw[Int.fmod_eq_emod_of_nonneg (-a) (by omega)]at e2
 have:=(Int.ediv_emod_unique (a:=-a) (b:=-d) (r:=-r) (q:=q) (by omega)).2 ⟨by rw[Int.neg_mul];omega,by omega,by omega⟩
 omega
def su{a d q r:Int}(h:d*q+r=a)(hr:r.natAbs<d.natAbs)(hs:(0<=a/\0<=r)\/(a<=0/\r<=0)):a.tdiv d=q/\a.tmod d=r:=by
 have key:∀(a d q r:Int),d*q+r=a->0<d->0<=a->0<=r->r<d->a.tdiv d=q/\a.tmod d=r:=by
  intro a d q r h hd ha h0 h1
  rw[Int.tdiv_eq_ediv_of_nonneg ha,Int.tmod_eq_emod_of_nonneg ha]
  exact(Int.ediv_emod_unique hd).2 ⟨by rw[Int.add_comm];exact h,h0,h1⟩
 rcases hs with ⟨ha,h0⟩|⟨ha,h0⟩
 ·by_cases hp:0<d
  ·exact key a d q r h hp ha h0 (by omega)
  have:=key a (-d) (-q) r (by rw[Int.neg_mul_neg];exact h) (by omega) ha h0 (by omega)
  rw[Int.tdiv_neg,Int.tmod_neg]at this
  omega
 by_cases hp:0<d
 ·have:=key (-a) d (-q) (-r) (by rw[Int.mul_neg];omega) hp (by omega) (by omega) (by omega)
  rw[Int.neg_tdiv,Int.neg_tmod]at this
  omega
 have:=key (-a) (-d) q (-r) (by rw[Int.neg_mul];omega) (by omega) (by omega) (by omega) (by omega)
 rw[Int.neg_tdiv,Int.neg_tmod,Int.tdiv_neg,Int.tmod_neg]at this
 omega
def ql(V d:Int)(hd:d≠0):
  V.tdiv d=(if decide (V<0) != decide (d<0)then -((V.natAbs/d.natAbs:Nat):Int)else((V.natAbs/d.natAbs:Nat):Int)) /\
  V.tmod d=(if V<0 then -((V.natAbs%d.natAbs:Nat):Int)else((V.natAbs%d.natAbs:Nat):Int)):=by
 have hD:0<d.natAbs:=by omega
 have hm:=Nat.mod_lt V.natAbs hD
 have he:=Nat.div_add_mod V.natAbs d.natAbs
 generalize V.natAbs/d.natAbs=q at *
 generalize V.natAbs%d.natAbs=r at *
 have he':((d.natAbs:Nat):Int)*(q:Int)+(r:Int)=(V.natAbs:Nat):=by exact_mod_cast he
 by_cases hV:V<0<;>by_cases hn:d<0
 ·simp only[hV,hn,decide_true,bne_self_eq_false,Bool.false_eq_true,if_false,if_true]
  have e:((d.natAbs:Nat):Int) = -d:=by omega
  rw[e,Int.neg_mul]at he'
  exact su (by omega) (by omega) (by omega)
 ·have hb:(decide (V<0) != decide (d<0))=true:=by simp[hV,hn]
  rw[if_pos hb,if_pos hV]
  have e:((d.natAbs:Nat):Int)=d:=by omega
  rw[e]at he'
  exact su (by rw[Int.mul_neg];omega) (by omega) (by omega)
 ·have hb:(decide (V<0) != decide (d<0))=true:=by simp[hV,hn]
  rw[if_pos hb,if_neg hV]
  have e:((d.natAbs:Nat):Int) = -d:=by omega
  rw[e,Int.neg_mul]at he'
  exact su (by rw[Int.mul_neg];omega) (by omega) (by omega)
 have hb:¬(decide (V<0) != decide (d<0))=true:=by simp[hV,hn]
 rw[if_neg hb,if_neg hV]
 have e:((d.natAbs:Nat):Int)=d:=by omega
 rw[e]at he'
 exact su (by omega) (by omega) (by omega)
def s9(V d:Int)(hd:d≠0):
  V.fdiv d=(if V.tmod d≠0/\(decide (V<0) != decide (d<0))=true then V.tdiv d-1 else V.tdiv d) /\
  V.fmod d=(if V.tmod d≠0/\(decide (V<0) != decide (d<0))=true then V.tmod d+d else V.tmod d):=by
 obtain⟨h1,h2⟩:=ql V d hd
 have hD:0<d.natAbs:=by omega
 have hm:=Nat.mod_lt V.natAbs hD
 have he:=Int.mul_tdiv_add_tmod V d
 generalize V.tdiv d=q at *
 generalize V.tmod d=r at *
 generalize V.natAbs%d.natAbs=s at *
 by_cases hV:V<0<;>by_cases hn:d<0
 ·rw[if_neg (by simp[hV,hn]),if_neg (by simp[hV,hn])]
  rw[if_pos hV]at h2
  exact m3 he (by omega)
 ·rw[if_pos hV]at h2
  by_cases hr:r=0
  ·rw[if_neg (by simp[hr]),if_neg (by simp[hr])]
   exact m3 he (by omega)
  rw[if_pos ⟨hr,by simp[hV,hn]⟩,if_pos ⟨hr,by simp[hV,hn]⟩]
  exact m3 (by rw[Int.mul_sub];omega) (by omega)
 ·rw[if_neg hV]at h2
  by_cases hr:r=0
  ·rw[if_neg (by simp[hr]),if_neg (by simp[hr])]
   exact m3 he (by omega)
  rw[if_pos ⟨hr,by simp[hV,hn]⟩,if_pos ⟨hr,by simp[hV,hn]⟩]
  exact m3 (by rw[Int.mul_sub];omega) (by omega)
 rw[if_neg (by simp[hV,hn]),if_neg (by simp[hV,hn])]
 rw[if_neg hV]at h2
 exact m3 he (by omega)
def P9{B un y1 y0 u1 q r:Nat}(hB:0<B)(hy1:0<y1)(h1:u1<B)
  (hq:q*y1+r=un) (hlt:un<y1*B+y0)
  (hQ:(un*B+u1)/(y1*B+y0)<=q)
  (hc:B<=q\/B*r+u1<q*y0):(un*B+u1)/(y1*B+y0)+1<=q:=by
 have hy:0<y1*B+y0:=by
  have:=Nat.mul_pos hy1 hB;omega
 rcases hc with hc|hc
 ·have:(un*B+u1)/(y1*B+y0)<B:=by
   rw[Nat.div_lt_iff_lt_mul hy]
   have h2:(un+1)*B<=(y1*B+y0)*B:=Nat.mul_le_mul_right B hlt
   have h3:(un+1)*B=un*B+B:=by rw[Nat.add_mul];omega
   rw[Nat.mul_comm B]
   omega
  omega
 have:(un*B+u1)/(y1*B+y0)<q:=by
  rw[Nat.div_lt_iff_lt_mul hy]
  have e1:q*(y1*B+y0)=(q*y1)*B+q*y0:=by
   rw[Nat.mul_add,Nat.mul_assoc]
  have e2:un*B=(q*y1)*B+B*r:=by
   rw[<-hq,Nat.add_mul,Nat.mul_comm r B]
  rw[e1,e2];omega
 omega
def Fj{B un y1 y0 u1 q r:Nat}(hB:0<B)(hy1:0<y1)
  (hq:q*y1+r=un)
  (hQ:(un*B+u1)/(y1*B+y0)<=q)
  (hc:q*y0<=B*r+u1):(un*B+u1)/(y1*B+y0)=q:=by
 have hy:0<y1*B+y0:=by
  have:=Nat.mul_pos hy1 hB;omega
 have:q<=(un*B+u1)/(y1*B+y0):=by
  rw[Nat.le_div_iff_mul_le hy]
  have e1:q*(y1*B+y0)=(q*y1)*B+q*y0:=by
   rw[Nat.mul_add,Nat.mul_assoc]
  have e2:un*B=(q*y1)*B+B*r:=by
   rw[<-hq,Nat.add_mul,Nat.mul_comm r B]
  rw[e1,e2];omega
 omega
def Me{B un y1 y0 u1:Nat}(hy1:0<y1)(hB:0<B)(h1:u1<B):
  (un*B+u1)/(y1*B+y0)<=un/y1:=by
 have a:(un*B+u1)/(y1*B+y0)<=(un*B+u1)/(y1*B) :=
  Nat.div_le_div_left (by omega) (Nat.mul_pos hy1 hB)
 have b:(un*B+u1)/(y1*B)=un/y1:=by
  rw[Nat.mul_comm y1 B,<-Nat.div_div_eq_div_mul]
  rw[Nat.mul_comm un B,Nat.mul_add_div hB,Nat.div_eq_of_lt h1,Nat.add_zero]
 omega
def Jn{B un u1 u0 y:Nat}(hy:0<y):
  ((un*B+u1)/y)*B+((un*B+u1)%y*B+u0)/y=(un*(B*B)+u1*B+u0)/y /\
  ((un*B+u1)%y*B+u0)%y=(un*(B*B)+u1*B+u0)%y:=by
 have e:un*(B*B)+u1*B+u0=((un*B+u1)/y*B)*y+((un*B+u1)%y*B+u0):=by
  have h:=Nat.div_add_mod (un*B+u1) y
  have h2:un*(B*B)+u1*B=(un*B+u1)*B:=by rw[Nat.add_mul,Nat.mul_assoc]
  rw[h2]
  have h3:(un*B+u1)*B=(y*((un*B+u1)/y)+(un*B+u1)%y)*B:=by rw[h]
  rw[h3,Nat.add_mul]
  have h4:y*((un*B+u1)/y)*B=(un*B+u1)/y*B*y:=by
   rw[Nat.mul_comm y,Nat.mul_assoc,Nat.mul_comm y B,<-Nat.mul_assoc]
  omega
 rw[e]
 constructor
 ·rw[Nat.mul_comm _ y,Nat.mul_add_div hy]
 rw[Nat.mul_comm _ y,Nat.mul_add_mod]
end Go.Proofs.YtjcminooghmpeaaGreatDoor
namespace Go.Proofs.YtjcminooghmpeaaGreatDoor
open Go.RowKit (wrap64)
def w6(n:Int):wrap64 n=n.bmod 18446744073709551616:=by
 unfold wrap64;rw[Int.bmod_def];split<;>omega
def Ds(x y:Int):wrap64 (wrap64 x+y)=wrap64 (x+y):=by simp[w6]
def qN(x y:Int):wrap64 (wrap64 x-y)=wrap64 (x-y):=by simp[w6]
def LW(a:Int)(ha : -9223372036854775808<=a/\a<=9223372036854775807):(U a:Int)=a+(if a<0 then 18446744073709551616 else 0):=by
 unfold U;split<;>omega
def GF(a b:Int)(ha : -9223372036854775808<=a/\a<=9223372036854775807)(hb : -9223372036854775808<=b/\b<=9223372036854775807):
  ((U a*U b:Nat):Int)=a*b+18446744073709551616*((if a<0 then b else 0)+(if b<0 then a else 0)+(if a<0/\b<0 then 18446744073709551616 else 0)):=by
 rw[Int.natCast_mul,LW a ha,LW b hb]
 by_cases h1:a<0<;>by_cases h2:b<0
 ·simp only[h1,h2,if_true,and_self];rw[Int.add_mul,Int.mul_add,Int.mul_add,Int.mul_comm a 18446744073709551616];omega
 ·simp only[h1,h2,if_true,if_false,and_false,Int.add_zero];rw[Int.add_mul]
 ·simp only[h1,h2,if_true,if_false,false_and];rw[Int.mul_add,Int.add_zero,Int.mul_comm a 18446744073709551616];omega
 simp only[h1,h2,if_false,and_self,Int.add_zero,Int.mul_zero]
def P6(a b:Int)(ha : -9223372036854775808<=a/\a<=9223372036854775807)(hb : -9223372036854775808<=b/\b<=9223372036854775807):
  -85070591730234615865843651857942052864<=a*b/\a*b<=85070591730234615865843651857942052864:=by
 have h:(a*b).natAbs<=9223372036854775808*9223372036854775808:=by
  rw[Int.natAbs_mul];exact Nat.mul_le_mul (by omega) (by omega)
 omega
def SX(a b:Int)(ha : -9223372036854775808<=a/\a<=9223372036854775807)(hb : -9223372036854775808<=b/\b<=9223372036854775807):
  (r2 a b).1=(wB a b).1:=by
 have h:=GF a b ha hb
 simp only[r2,wB,S]
 generalize U a*U b=p at *
 generalize a*b=q at *
 unfold wrap64
 omega
def ad5(a b:Int)(ha : -9223372036854775808<=a/\a<=9223372036854775807)(hb : -9223372036854775808<=b/\b<=9223372036854775807):
  wrap64 ((r2 a b).2-((if a<0 then b else 0)+(if b<0 then a else 0)))=(wB a b).2:=by
 have h:=GF a b ha hb
 have h2:=P6 a b ha hb
 simp only[r2,wB,S]
 generalize (if a<0 then b else 0)+(if b<0 then a else 0)=x at *
 have hz:(if a<0/\b<0 then(18446744073709551616:Int)else 0)=0\/(if a<0/\b<0 then(18446744073709551616:Int)else 0)=18446744073709551616:=by
  split<;>simp
 generalize (if a<0/\b<0 then(18446744073709551616:Int)else 0)=z at *
 generalize U a*U b=p at *
 generalize a*b=q at *
 have e:((p/18446744073709551616:Nat):Int)=q/18446744073709551616+(x+z):=by
  rw[Int.natCast_ediv,h]
  exact Int.add_mul_ediv_left _ _ (by decide)
 rw[qN,e,show q/18446744073709551616+(x+z)-x=q/18446744073709551616+z from by omega]
 have hq : -9223372036854775808<=q/18446744073709551616/\q/18446744073709551616<=9223372036854775807:=by omega
 generalize q/18446744073709551616=r at *
 unfold wrap64
 omega
def NZ(a b:Int)(hb:b=0):mP a b=(0,0,-10):=by simp[mP,hb]
def OB{a b:Int}(hb:b≠0)(h:a.tmod b=0):mP a b=(wrap64 (a.tdiv b),a.tmod b,0):=by
 obtain⟨h1,h2⟩:=s9 a b hb
 rw[if_neg (by simp[h])]at h1 h2
 simp[mP,hb,h1,h2]
def Cb(a b:Int)(h:a.tmod b≠0):decide (a.tmod b<0)=decide (a<0):=by
 by_cases hb:b=0
 ·subst hb;simp
 have:=(ql a b hb).2
 by_cases ha:a<0
 ·rw[if_pos ha]at this;simp[ha];omega
 rw[if_neg ha]at this;simp[ha];omega
def XC(a b:Int)(hb:b≠0):(a.tmod b).natAbs<b.natAbs:=by
 rw[Int.natAbs_tmod];exact Nat.mod_lt _ (by omega)
def SV{a b:Int}(hb:b≠0)(hb2 : -9223372036854775808<=b/\b<=9223372036854775807)(h:a.tmod b≠0)(hs:(decide (a.tmod b<0)==decide (b<0))=false):
  mP a b=(wrap64 (wrap64 (a.tdiv b)-1),wrap64 (a.tmod b+b),0):=by
 have ht:=Cb a b h
 have hl:=XC a b hb
 obtain⟨h1,h2⟩:=s9 a b hb
 rw[<-ht]at h1 h2
 have hs':(decide (a.tmod b<0) != decide (b<0))=true:=by simp[bne,hs]
 rw[if_pos ⟨h,hs'⟩]at h1 h2
 have hf:wrap64 (a.tmod b+b)=a.tmod b+b:=by
  apply cT
  simp at hs
  omega
 rw[qN,hf]
 simp only[mP,if_neg hb,h1,h2]
def Lr{a b:Int}(hb:b≠0)(hs:a.tmod b=0\/(decide (a.tmod b<0)==decide (b<0))=true):
  mP a b=(wrap64 (a.tdiv b),a.tmod b,0):=by
 by_cases h:a.tmod b=0
 ·exact OB hb h
 have ht:=Cb a b h
 obtain⟨h1,h2⟩:=s9 a b hb
 rw[<-ht]at h1 h2
 have hs':(decide (a.tmod b<0) != decide (b<0))=false:=by
  rcases hs with hs|hs
  ·exact absurd hs h
  simp[bne,hs]
 rw[if_neg (by simp[hs'])]at h1 h2
 simp[mP,hb,h1,h2]
open Go.RowKit
def XB{k:IntKind}{a b:Int}(h:a=b):Ending.returned (.int k a)=Ending.returned (.int k b):=by rw[h]
def JF{k l:IntKind}{a b c d:Int}(h1:a=c)(h2:b=d):Ending.returned (.tuple #[.int k a,.int l b])=Ending.returned (.tuple #[.int k c,.int l d]):=by rw[h1,h2]
def oV{k l m:IntKind}{a b c d e f:Int}(h1:a=d)(h2:b=e)(h3:c=f):Ending.returned (.tuple #[.int k a,.int l b,.int m c])=Ending.returned (.tuple #[.int k d,.int l e,.int m f]):=by rw[h1,h2,h3]
def xn(w:World):∃n,w=w.drewN n:=⟨0,rfl⟩
abbrev Fit(a:Int):Prop:=-9223372036854775808<=a/\a<=9223372036854775807
def t7(a b:Int)(w:World):
  Calls prog 359 #[.int .i64 a,.int .i64 b] w fun e w'=>e=.returned (.bool (decide (U a<U b)))/\w=w':=by
 go_enter func359,ntmps359
 go_wp2
 go_ret
 exact⟨by simp[go_sem,ki],rfl⟩
def px(a b:Int)(w:World):
  Calls prog 284 #[.int .i64 a,.int .i64 b] w fun e w'=>e=.returned (.tuple #[.int .i64 (r2 a b).1,.int .i64 (r2 a b).2])/\w=w':=by
 have ha:=xM a
 have hb:=xM b
 go_enter func284,ntmps284
 go_wp2_with fail
 rw[ki a,ki b]
 refine(Tryz.bits_Mul64 (U a) (U b) ha hb _).mono ?_
 rintro e w' ⟨rfl,rfl⟩
 go_wp2
 go_ret2
 exact⟨JF (by simp only[r2,S,Int.natCast_emod,Int.natCast_mul];rfl) (by simp only[r2,S,Int.natCast_ediv,Int.natCast_mul];rfl),rfl⟩
def QF(a b:Int)(w:World)(ha:Fit a)(hb:Fit b):
  Calls prog 278 #[.int .i64 a,.int .i64 b] w fun e w'=>e=.returned (.tuple #[.int .i64 (wB a b).1,.int .i64 (wB a b).2])/\w=w':=by
 have e1:=SX a b ha hb
 have e2:=ad5 a b ha hb
 by_cases h1:a<0<;>by_cases h2:b<0
 ·rw[if_pos h1,if_pos h2]at e2
  have H1:=Lib.hid e1
  have H2:=Lib.hid e2
  clear e1 e2
  go_enter func278,ntmps278
  go_wp2_with (go_at_call 284;refine(px _ _ _).mono ?_;rintro e w' ⟨rfl,rfl⟩)
  go_ret2
  exact⟨JF H1.out (by rw[<-H2.out,qN];congr 1;omega),rfl⟩
 ·rw[if_pos h1,if_neg h2]at e2
  have H1:=Lib.hid e1
  have H2:=Lib.hid e2
  clear e1 e2
  go_enter func278,ntmps278
  go_wp2_with (go_at_call 284;refine(px _ _ _).mono ?_;rintro e w' ⟨rfl,rfl⟩)
  go_ret2
  exact⟨JF H1.out (by rw[<-H2.out,Int.add_zero]),rfl⟩
 ·rw[if_neg h1,if_pos h2]at e2
  have H1:=Lib.hid e1
  have H2:=Lib.hid e2
  clear e1 e2
  go_enter func278,ntmps278
  go_wp2_with (go_at_call 284;refine(px _ _ _).mono ?_;rintro e w' ⟨rfl,rfl⟩)
  go_ret2
  exact⟨JF H1.out (by rw[<-H2.out,Int.zero_add]),rfl⟩
 rw[if_neg h1,if_neg h2]at e2
 have H1:=Lib.hid e1
 have H2:=Lib.hid e2
 clear e1 e2
 go_enter func278,ntmps278
 go_wp2_with (go_at_call 284;refine(px _ _ _).mono ?_;rintro e w' ⟨rfl,rfl⟩)
 go_ret2
 exact⟨JF H1.out (by rw[<-H2.out,Int.add_zero,Int.sub_zero];exact(cT _ (X2 _)).symm),rfl⟩
def O2(a b:Int)(w:World)(hb2:Fit b):
  Calls prog 272 #[.int .i64 a,.int .i64 b] w fun e w'=>e=.returned (.tuple #[.int .i64 (mP a b).1,.int .i64 (mP a b).2.1,.int .i64 (mP a b).2.2])/\∃n,w'=w.drewN n:=by
 by_cases hb:b=0
 ·have HZ:=Lib.hid (NZ a b hb)
  have hb':(b==0)=true:=by simp[hb]
  clear hb
  go_enter func272,ntmps272
  go_wp2
  go_ret3
  exact⟨oV (by rw[HZ.out]) (by rw[HZ.out]) (by rw[HZ.out]),xn w⟩
 have hb':(b==0)=false:=by simp[hb]
 go_enter func272,ntmps272
 go_wp2
 go_quiet (fail)
 go_wp2
 all_goals go_ret3
 ·have h:a.tmod b=0:=by assumption
  have e:=Lr hb (.inl h)
  exact⟨oV (by rw[e]) (by rw[e,h]) (by rw[e]),_,rfl⟩
 ·have h:(a.tmod b != 0)=true/\(!decide (a.tmod b<0)==decide (b<0))=true:=by assumption
  have e:=SV hb hb2 (by simpa using h.1) (by simpa using h.2)
  exact⟨oV (by rw[e]) (by rw[e]) (by rw[e]),_,rfl⟩
 have h:(a.tmod b != 0)=false\/(!decide (a.tmod b<0)==decide (b<0))=false:=by assumption
 have e:=Lr (a:=a) hb (by rcases h with h|h<;>simp at h<;>simp[h])
 exact⟨oV (by rw[e]) (by rw[e]) (by rw[e]),_,rfl⟩
def pg(n:Int)(w:World)(hn:Fit n):
  Calls prog 362 #[.int .i64 n] w fun e w'=>e=.returned (.int .u64 n.natAbs)/\w=w':=by
 by_cases h:n<0
 ·go_enter func362,ntmps362
  go_wp2
  go_ret
  exact⟨XB (by rw[ki n,IntKind.wrap_u64];have:=X8 n h hn.1;omega),rfl⟩
 go_enter func362,ntmps362
 go_wp2
 go_ret
 exact⟨XB (by omega),rfl⟩
end Go.Proofs.YtjcminooghmpeaaGreatDoor
namespace Go.Proofs.YtjcminooghmpeaaGreatDoor
def Jc(hi lo y s:Nat)(h0:hi<y)(s1:s<=63)(s2:9223372036854775808<=y*2 ^ s)(s3:y*2 ^ s<18446744073709551616)(hl:lo<18446744073709551616):
  ∃Y y1 y0 un ul u1 u0:Nat,
   ((y:Int)*2 ^ s=(Y:Int))/\((Y:Int)/4294967296=(y1:Int))/\(bits .and .u64 (Y:Int) 4294967295=(y0:Int)) /\
   (bits .or .u64 (IntKind.u64.wrap ((hi:Int)*2 ^ s)) ((lo:Int)/2 ^ (64-s))=(un:Int))/\(IntKind.u64.wrap ((lo:Int)*2 ^ s)=(ul:Int)) /\
   ((ul:Int)/4294967296=(u1:Int))/\(bits .and .u64 (ul:Int) 4294967295=(u0:Int)) /\
   Y=y1*4294967296+y0/\y0<4294967296/\2147483648<=y1/\y1<4294967296/\ul=u1*4294967296+u0/\u1<4294967296/\u0<4294967296/\un<Y /\
   Y=y*2 ^ s/\un*18446744073709551616+ul=(hi*18446744073709551616+lo)*2 ^ s:=by
 have hp:0<2 ^ s:=Nat.two_pow_pos _
 have hq:0<2 ^ (64-s):=Nat.two_pow_pos _
 have e64:2 ^ (64-s)*2 ^ s=18446744073709551616:=by rw[<-Nat.pow_add,show 64-s+s=64 from by omega]
 have hhi:hi*2 ^ s+2 ^ s<=y*2 ^ s:=by
  have:(hi+1)*2 ^ s<=y*2 ^ s:=Nat.mul_le_mul_right _ h0
  rwa [Nat.add_mul,Nat.one_mul]at this
 have hlo:lo/2 ^ (64-s)<2 ^ s:=by rw[Nat.div_lt_iff_lt_mul hq,Nat.mul_comm,e64];exact hl
 have hlo2:lo*2 ^ s/18446744073709551616=lo/2 ^ (64-s):=by
  rw[<-e64];exact Nat.mul_div_mul_right _ _ hp
 have hul:=Nat.div_add_mod (lo*2 ^ s) 18446744073709551616
 refine⟨y*2 ^ s,y*2 ^ s/4294967296,y*2 ^ s%4294967296,hi*2 ^ s+lo/2 ^ (64-s),lo*2 ^ s%18446744073709551616,
  lo*2 ^ s%18446744073709551616/4294967296,lo*2 ^ s%18446744073709551616%4294967296,?_⟩
 refine⟨by simp,by simp,?_,?_,?_,by simp,?_,?_⟩
 ·rw[show(4294967295:Int)=((4294967295:Nat):Int) from rfl,u64_and_nat _ _ s3 (by decide)]
  rw[show(4294967295:Nat)=2 ^ 32-1 from rfl,Nat.and_two_pow_sub_one_eq_mod]
 ·have e1:IntKind.u64.wrap ((hi:Int)*2 ^ s)=((hi*2 ^ s:Nat):Int):=by
   rw[show((hi:Int)*2 ^ s)=((hi*2 ^ s:Nat):Int) from by simp]
   exact IntWalk.u64_in _ (by omega)
  have e2:(lo:Int)/2 ^ (64-s)=((lo/2 ^ (64-s):Nat):Int):=by simp
  rw[e1,e2,u64_or_nat _ _ (by omega) (by omega)]
  congr 1
  have:=Nat.shiftLeft_add_eq_or_of_lt hlo hi
  rw[Nat.shiftLeft_eq]at this
  exact this.symm
 ·rw[show((lo:Int)*2 ^ s)=((lo*2 ^ s:Nat):Int) from by simp,IntKind.wrap_u64]
  rfl
 ·rw[show(4294967295:Int)=((4294967295:Nat):Int) from rfl,u64_and_nat _ _ (Nat.mod_lt _ (by decide)) (by decide)]
  rw[show(4294967295:Nat)=2 ^ 32-1 from rfl,Nat.and_two_pow_sub_one_eq_mod]
 refine⟨by omega,by omega,by omega,by omega,by omega,by omega,by omega,by omega,rfl,?_⟩
 rw[Nat.add_mul,Nat.add_mul,<-hlo2]
 rw[show hi*18446744073709551616*2 ^ s=hi*2 ^ s*18446744073709551616 from by rw[Nat.mul_right_comm]]
 omega
def Mi{hi lo y s Y un ul u1 u0 q1 q0 r1 r0:Nat}(hy:0<y)(eY:Y=y*2 ^ s)(eN:un*18446744073709551616+ul=(hi*18446744073709551616+lo)*2 ^ s)(eu:ul=u1*4294967296+u0)
  (e1:q1=(un*4294967296+u1)/Y) (f1:r1=(un*4294967296+u1)%Y) (e0:q0=(r1*4294967296+u0)/Y) (f0:r0=(r1*4294967296+u0)%Y) :
  q1*4294967296+q0=(hi*18446744073709551616+lo)/y/\r0/2 ^ s=(hi*18446744073709551616+lo)%y:=by
 have hp:0<2 ^ s:=Nat.two_pow_pos _
 have hY:0<Y:=by rw[eY];exact Nat.mul_pos hy hp
 obtain⟨a,b⟩:=Jn (B:=4294967296) (un:=un) (u1:=u1) (u0:=u0) hY
 have e:un*(4294967296*4294967296)+u1*4294967296+u0=(hi*18446744073709551616+lo)*2 ^ s:=by
  have hB:4294967296*4294967296=18446744073709551616:=by decide
  rw[hB,<-eN,eu,Nat.add_assoc]
 rw[e,eY]at a b
 rw[Nat.mul_div_mul_right _ _ hp]at a
 rw[Nat.mul_mod_mul_right]at b
 subst e1 f1 e0 f0
 rw[eY]
 exact⟨a,by rw[b];exact Nat.mul_div_cancel _ hp⟩
def HH{un y1 y0 u1 a b Q Y:Nat}(hY:Y=y1*4294967296+y0)(hQ:Q=(un*4294967296+u1)/Y)(h1:2147483648<=y1)(h0:y0<4294967296)(hu:u1<4294967296)(hlt:un<Y)
  (inv:a*y1+b=un/\Q<=a) (hc:4294967296<=a\/4294967296*b+u1<a*y0) :
  ∃a',a=a'+1/\(a'*y1+(b+y1)=un/\Q<=a')/\(4294967296<=b+y1->a'=Q):=by
 obtain⟨i1,i2⟩:=inv
 have hs:=P9 (B:=4294967296) (un:=un) (y1:=y1) (y0:=y0) (u1:=u1) (q:=a) (r:=b) (by omega) (by omega) hu i1 (by omega) (by rw[<-hY,<-hQ];exact i2) hc
 rw[<-hY,<-hQ]at hs
 obtain⟨a',rfl⟩:∃a',a=a'+1:=⟨a-1,by omega⟩
 have e:(a'+1)*y1=a'*y1+y1:=by rw[Nat.add_mul,Nat.one_mul]
 refine⟨a',rfl,⟨by omega,by omega⟩,fun hb=>?_⟩
 have ha:a'<=4294967296:=by
  apply Nat.le_of_not_lt
  intro hgt
  have:4294967297*y1<=a'*y1:=Nat.mul_le_mul_right _ hgt
  omega
 have hm:a'*y0<=4294967296*y0:=Nat.mul_le_mul_right _ ha
 have:=Fj (B:=4294967296) (un:=un) (y1:=y1) (y0:=y0) (u1:=u1) (q:=a') (r:=b+y1) (by omega) (by omega) (by omega) (by rw[<-hY,<-hQ];omega) (by omega)
 rw[<-hY,<-hQ]at this
 exact this.symm
def K4{un y1 y0 u1 a b Q Y:Nat}(hY:Y=y1*4294967296+y0)(hQ:Q=(un*4294967296+u1)/Y)(h1:2147483648<=y1)
  (inv:a*y1+b=un/\Q<=a) (hc:¬4294967296*b+u1<a*y0):a=Q:=by
 obtain⟨i1,i2⟩:=inv
 have:=Fj (B:=4294967296) (un:=un) (y1:=y1) (y0:=y0) (u1:=u1) (q:=a) (r:=b) (by omega) (by omega) i1 (by rw[<-hY,<-hQ];exact i2) (by omega)
 rw[<-hY,<-hQ]at this
 exact this.symm
def BP{un y1 y0 u1 Q Y:Nat}(hY:Y=y1*4294967296+y0)(hQ:Q=(un*4294967296+u1)/Y)(h1:2147483648<=y1)(hu:u1<4294967296):
  ∃q r:Nat,((un:Int)/y1=(q:Int))/\((un:Int)-(q:Int)*y1=(r:Int))/\(q*y1+r=un/\Q<=q)/\r<y1/\q<=un/\0<=(q:Int)*y1/\(q:Int)*y1<=un:=by
 have hm:=Nat.div_add_mod un y1
 have hc:=Nat.mul_comm y1 (un/y1)
 have hs:=Me (B:=4294967296) (un:=un) (y1:=y1) (y0:=y0) (u1:=u1) (by omega) (by omega) hu
 rw[<-hY,<-hQ]at hs
 have e:((un/y1*y1:Nat):Int)=((un/y1:Nat):Int)*y1:=by simp
 refine⟨un/y1,un%y1,by simp,by omega,⟨by omega,hs⟩,Nat.mod_lt _ (by omega),Nat.div_le_self _ _,by omega,by omega⟩
def BY(a b:Nat)(ha:a<4294967296)(hb:b<4294967296):0<=(a:Int)*b/\(a:Int)*b<=18446744065119617025:=by
 have h:a*b<=4294967295*4294967295:=Nat.mul_le_mul (by omega) (by omega)
 have e:((a*b:Nat):Int)=(a:Int)*b:=by simp
 omega
def m8(a b:Nat):((a*b:Nat):Int)=(a:Int)*b:=by simp
def Qd{hi lo y Q1 Q0:Nat}(h0:hi<y)(hl:lo<18446744073709551616)(x1:Q1*4294967296+Q0=(hi*18446744073709551616+lo)/y):
  IntKind.u64.wrap (IntKind.u64.wrap ((Q1:Int)*4294967296)+Q0)=(((hi*18446744073709551616+lo)/y:Nat):Int):=by
 have hlt:(hi*18446744073709551616+lo)/y<18446744073709551616:=by
  rw[Nat.div_lt_iff_lt_mul (by omega)]
  have:(hi+1)*18446744073709551616<=y*18446744073709551616:=Nat.mul_le_mul_right _ h0
  rw[Nat.add_mul]at this
  rw[Nat.mul_comm _ y]
  omega
 generalize (hi*18446744073709551616+lo)/y=z at *
 rw[IntKind.wrap_u64,IntKind.wrap_u64]
 omega
def TA{r0 s z:Nat}(h:r0/2 ^ s=z):(r0:Int)/2 ^ s=(z:Int):=by rw[<-h];simp
def Im(lo y:Nat)(hl:lo<18446744073709551616):IntKind.u64.wrap ((lo:Int)/y)=(lo:Int)/y:=by
 have e:(lo:Int)/y=((lo/y:Nat):Int):=by simp
 have:=Nat.div_le_self lo y
 rw[e]
 generalize lo/y=z at *
 exact IntWalk.u64_in _ (by omega)
open Go.RowKit
def lz(y:Nat)(h0:0<y)(h1:y<18446744073709551616):∃s:Nat,s<=63/\9223372036854775808<=y*2 ^ s/\y*2 ^ s<18446744073709551616 /\
  ∀w:World,Calls prog 387 #[.int .u64 y] w fun e w'=>e=.returned (.int .i64 s)/\w=w':=by
 obtain⟨a,b,c⟩:=Lib.bitLenAux_bounds 64 y h1 (by omega)
 have hL:Lib.bitLenAux 64 y<=64:=Lib.bitLen_le y 64 (Nat.le_refl _) h1
 have hc:=fun w=>Tryz.bits_LeadingZeros64 y w (by omega) (by omega)
 simp only[Int.toNat_natCast,Lib.bitLen]at hc
 generalize Lib.bitLenAux 64 y=L at *
 have e:2 ^ (64-L)*2 ^ (L-1)=9223372036854775808:=by rw[<-Nat.pow_add,show 64-L+(L-1)=63 from by omega]
 have e2:2 ^ (64-L)*2 ^ L=18446744073709551616:=by rw[<-Nat.pow_add,show 64-L+L=64 from by omega]
 have hp:0<2 ^ (64-L):=Nat.two_pow_pos _
 refine⟨64-L,by omega,?_,?_,?_⟩
 ·rw[<-e,Nat.mul_comm y];exact Nat.mul_le_mul_left _ b
 ·rw[<-e2,Nat.mul_comm y];exact Nat.mul_lt_mul_of_pos_left c hp
 intro w
 have:=hc w
 rw[show(64:Int)-(L:Int)=((64-L:Nat):Int) from by omega]at this
 refine this.mono ?_
 rintro e w' ⟨h,h'⟩
 exact⟨h,h'.symm⟩
def N4(hi lo y:Nat)(w:World)(h0:hi<y)(hh:0<hi)(hy:y<18446744073709551616)(hl:lo<18446744073709551616):
  Calls prog 366 #[.int .u64 hi,.int .u64 lo,.int .u64 y] w fun e w'=>e=.returned (.tuple #[.int .u64 ((hi*18446744073709551616+lo)/y:Nat),.int .u64 ((hi*18446744073709551616+lo)%y:Nat)])/\∃n,w'=w.drewN n:=by
 have t0:((y:Int)==0)=false:=by simp;omega
 have t1:((hi:Int)==0)=false:=by simp;omega
 have hy2:0<y:=by omega
 obtain⟨s,s1,s2,s3,hc⟩:=lz y hy2 hy
 have Hc:=Lib.hid hc
 clear hc
 have ep:(y:Int)*2 ^ s=((y*2 ^ s:Nat):Int):=by simp
 have b1:(9223372036854775808:Int)<=(y:Int)*2 ^ s:=by rw[ep];omega
 have b2:(y:Int)*2 ^ s<=18446744073709551615:=by rw[ep];omega
 clear ep
 obtain⟨Y,y1,y0,un,ul,u1,u0,e1,e2,e3,e4,e5,e6,e7,f1,f2,f3,f3',f4,f5,f6,f7,f8,f9⟩:=Jc hi lo y s h0 s1 s2 s3 hl
 have hYb:9223372036854775808<=Y/\Y<18446744073709551616:=by rw[f8];exact⟨s2,s3⟩
 have hend:=fun q1 q0 r1 r0=>@Mi hi lo y s Y un ul u1 u0 q1 q0 r1 r0 hy2 f8 f9 f4
 have Hend:=Lib.hid hend
 have Hs2:=Lib.hid s2
 have Hs3:=Lib.hid s3
 have F1:=Lib.hid f1
 have F4:=Lib.hid f4
 clear hend s2 s3 f1 f4 f8 f9
 obtain⟨Q1,hQ1⟩:∃Q1,Q1=(un*4294967296+u1)/Y:=⟨_,rfl⟩
 obtain⟨q,r,e8,e9,g1,g2,g3,g4,g5⟩:=BP F1.out hQ1 f3 f5
 have hnext:=fun a b=>@HH un y1 y0 u1 a b Q1 Y F1.out hQ1 f3 f2 f5 f7
 have hout:=fun a b=>@K4 un y1 y0 u1 a b Q1 Y F1.out hQ1 f3
 have Hnext:=Lib.hid hnext
 have Hout:=Lib.hid hout
 have G1:=Lib.hid g1
 have HQ1:=Lib.hid hQ1
 clear hQ1 g1 hnext hout
 go_enter func366,ntmps366
 go_upto_block 0 with (go_at_call 387;refine(Hc.out _).mono ?_;rintro e w' ⟨rfl,rfl⟩)
 go_cut [15] (fun x wx=>x=.int .u64 Q1/\wx=w)
 case first =>
  clear e1 e2 e3 e4 e5 e6 e7 e8 e9
  go_wp2_with fail
  go_loop [15,16] (fun x z=>∃a b:Nat,x=.int .u64 a/\z=.int .u64 b/\Hid (a*y1+b=un/\Q1<=a)/\b<4294967296/\a<=18446744073709551615) (fun x _=>(intOf x).toNat)
  case atStart=>exact⟨q,r,rfl,rfl,G1,by omega,by omega⟩
  case round =>
   obtain⟨a,b,rfl,rfl,hi1,hi2,hi3⟩:=hrel
   have F3:=Lib.hid f3
   have F3':=Lib.hid f3'
   have F2:=Lib.hid f2
   have F5:=Lib.hid f5
   have D4:=Lib.hid hi2
   have d0:(a:Int)<=18446744073709551615:=by omega
   have d3:(b:Int)<4294967296:=by omega
   have d4:(y1:Int)<4294967296:=by omega
   have d5:(2147483648:Int)<=y1:=by omega
   have d6:(u1:Int)<4294967296:=by omega
   clear hYb hl hy b1 b2 h0 hh t0 t1 hy2 g2 g3 g4 g5 f7 f3 f3' f2 f5 f6 hi2 hi3
   by_cases c1:(4294967296:Int)<=(a:Int)
   ·obtain⟨a',rfl,j1,j2⟩:=Hnext.out a b hi1.out (.inl (by omega))
    have J1:=Lib.hid j1
    have J2:=Lib.hid j2
    have C1:(4294967296:Int)<=(a':Int)+1:=by omega
    have D0:(a':Int)+1<=18446744073709551615:=by omega
    clear j1 j2 hi1 c1 d0
    by_cases c3:(4294967296:Int)<=(b:Int)+y1
    ·go_wp2_with fail
     go_meet
     exact⟨by rw[<-J2.out (by omega)],rfl⟩
    go_wp2_with fail
    go_round
    case rel=>exact⟨a',b+y1,rfl,by go_num,J1,by omega,by omega⟩
    case measure=>simp[intOf]
   obtain⟨p1,p2⟩:=BY a y0 (by omega) F2.out
   by_cases c2:4294967296*(b:Int)+u1<(a:Int)*y0
   ·have C2:=Lib.hid c2
    obtain⟨a',ha',j1,j2⟩:=Hnext.out a b hi1.out (.inr (by have:=m8 a y0;omega))
    have A:=Lib.hid ha'
    have J1:=Lib.hid j1
    have J2:=Lib.hid j2
    have d1:(1:Int)<=(a:Int):=by omega
    clear ha' j1 j2 hi1
    by_cases c3:(4294967296:Int)<=(b:Int)+y1
    ·go_wp2_with fail
     go_meet
     exact⟨by rw[<-J2.out (by omega)];have:=A.out;go_num,rfl⟩
    go_wp2_with fail
    go_round
    case rel=>exact⟨a',b+y1,by have:=A.out;go_num,by go_num,J1,by omega,by have:=A.out;omega⟩
    case measure=>have:=A.out;simp[intOf];omega
   have J:=Lib.hid (Hout.out a b hi1.out (by have:=m8 a y0;omega))
   clear hi1
   go_wp2_with fail
   go_meet
   exact⟨by rw[<-J.out],rfl⟩
 case rest =>
  obtain⟨rfl,rfl⟩:=hcut
  clear e1 e2 e3 e4 e5 e6 e7 e8 e9 g2 g3 g4 g5
  obtain⟨r1,hr1⟩:∃r1,r1=(un*4294967296+u1)%Y:=⟨_,rfl⟩
  have hr1Y:r1<Y:=by rw[hr1];exact Nat.mod_lt _ (by omega)
  have ed:=Nat.div_add_mod (un*4294967296+u1) Y
  rw[<-HQ1.out,<-hr1]at ed
  have ep:=m8 Q1 Y
  have ec:=Nat.mul_comm Y Q1
  have er:IntKind.u64.wrap (IntKind.u64.wrap (IntKind.u64.wrap ((un:Int)*4294967296)+u1)-IntKind.u64.wrap ((Q1:Int)*Y))=(r1:Int):=by
   rw[IntKind.wrap_u64,IntKind.wrap_u64,IntKind.wrap_u64,IntKind.wrap_u64];omega
  clear ed ep ec
  obtain⟨Q0,hQ0⟩:∃Q0,Q0=(r1*4294967296+u0)/Y:=⟨_,rfl⟩
  obtain⟨q',r',e8,e9,g1,g2,g3,g4,g5⟩:=BP F1.out hQ0 f3 f6
  have hnext:=fun a b=>@HH r1 y1 y0 u0 a b Q0 Y F1.out hQ0 f3 f2 f6 hr1Y
  have hout:=fun a b=>@K4 r1 y1 y0 u0 a b Q0 Y F1.out hQ0 f3
  have Hnext':=Lib.hid hnext
  have Hout':=Lib.hid hout
  have G1':=Lib.hid g1
  have HQ0:=Lib.hid hQ0
  have HR1:=Lib.hid hr1
  clear hQ0 g1 hnext hout hr1
  go_upto_block 2 with fail
  go_cut [18] (fun x wx=>x=.int .u64 Q0/\wx=wc)
  case first =>
   clear er e8 e9
   go_wp2_with fail
   go_loop [18,16] (fun x z=>∃a b:Nat,x=.int .u64 a/\z=.int .u64 b/\Hid (a*y1+b=r1/\Q0<=a)/\b<4294967296/\a<=18446744073709551615) (fun x _=>(intOf x).toNat)
   case atStart=>exact⟨q',r',rfl,rfl,G1',by omega,by omega⟩
   case round =>
    obtain⟨a,b,rfl,rfl,hi1,hi2,hi3⟩:=hrel
    have F3:=Lib.hid f3
    have F3':=Lib.hid f3'
    have F2:=Lib.hid f2
    have F5:=Lib.hid f6
    have D4:=Lib.hid hi2
    have d0:(a:Int)<=18446744073709551615:=by omega
    have d3:(b:Int)<4294967296:=by omega
    have d4:(y1:Int)<4294967296:=by omega
    have d5:(2147483648:Int)<=y1:=by omega
    have d6:(u0:Int)<4294967296:=by omega
    clear hYb hl hy b1 b2 h0 hh t0 t1 hy2 g2 g3 g4 g5 f7 hr1Y f3 f3' f2 f5 f6 hi2 hi3
    by_cases c1:(4294967296:Int)<=(a:Int)
    ·obtain⟨a',rfl,j1,j2⟩:=Hnext'.out a b hi1.out (.inl (by omega))
     have J1:=Lib.hid j1
     have J2:=Lib.hid j2
     have C1:(4294967296:Int)<=(a':Int)+1:=by omega
     have D0:(a':Int)+1<=18446744073709551615:=by omega
     clear j1 j2 hi1 c1 d0
     by_cases c3:(4294967296:Int)<=(b:Int)+y1
     ·go_wp2_with fail
      go_meet
      exact⟨by rw[<-J2.out (by omega)],rfl⟩
     go_wp2_with fail
     go_round
     case rel=>exact⟨a',b+y1,rfl,by go_num,J1,by omega,by omega⟩
     case measure=>simp[intOf]
    obtain⟨p1,p2⟩:=BY a y0 (by omega) F2.out
    by_cases c2:4294967296*(b:Int)+u0<(a:Int)*y0
    ·have C2:=Lib.hid c2
     obtain⟨a',ha',j1,j2⟩:=Hnext'.out a b hi1.out (.inr (by have:=m8 a y0;omega))
     have A:=Lib.hid ha'
     have J1:=Lib.hid j1
     have J2:=Lib.hid j2
     have d1:(1:Int)<=(a:Int):=by omega
     clear ha' j1 j2 hi1
     by_cases c3:(4294967296:Int)<=(b:Int)+y1
     ·go_wp2_with fail
      go_meet
      exact⟨by rw[<-J2.out (by omega)];have:=A.out;go_num,rfl⟩
     go_wp2_with fail
     go_round
     case rel=>exact⟨a',b+y1,by have:=A.out;go_num,by go_num,J1,by omega,by have:=A.out;omega⟩
     case measure=>have:=A.out;simp[intOf];omega
    have J:=Lib.hid (Hout'.out a b hi1.out (by have:=m8 a y0;omega))
    clear hi1
    go_wp2_with fail
    go_meet
    exact⟨by rw[<-J.out],rfl⟩
  case rest =>
   obtain⟨rfl,rfl⟩:=hcut
   clear er e8 e9 g2 g3 g4 g5
   obtain⟨r0,hr0⟩:∃r0,r0=(r1*4294967296+u0)%Y:=⟨_,rfl⟩
   have hr0Y:r0<Y:=by rw[hr0];exact Nat.mod_lt _ (by omega)
   have ed:=Nat.div_add_mod (r1*4294967296+u0) Y
   rw[<-HQ0.out,<-hr0]at ed
   have ep:=m8 Q0 Y
   have ec:=Nat.mul_comm Y Q0
   have er:IntKind.u64.wrap (IntKind.u64.wrap (IntKind.u64.wrap ((r1:Int)*4294967296)+u0)-IntKind.u64.wrap ((Q0:Int)*Y))=(r0:Int):=by
    rw[IntKind.wrap_u64,IntKind.wrap_u64,IntKind.wrap_u64,IntKind.wrap_u64];omega
   have HE:=Lib.hid (Hend.out Q1 Q0 r1 r0 HQ1.out HR1.out HQ0.out hr0)
   clear ed ep ec hr0
   go_wp2_with fail
   go_ret2
   refine⟨JF ?_ ?_,xn _⟩
   ·exact Qd h0 hl HE.out.1
   exact TA HE.out.2
def Fa(hi lo y:Nat)(w:World)(h0:hi<y)(hh:hi=0)(hy:y<18446744073709551616)(hl:lo<18446744073709551616):
  Calls prog 366 #[.int .u64 hi,.int .u64 lo,.int .u64 y] w fun e w'=>e=.returned (.tuple #[.int .u64 ((hi*18446744073709551616+lo)/y:Nat),.int .u64 ((hi*18446744073709551616+lo)%y:Nat)])/\∃n,w'=w.drewN n:=by
 have H:=Lib.hid hh
 have t0:((y:Int)==0)=false:=by simp;omega
 have t1:((hi:Int)==0)=true:=by simp;omega
 have hy2:0<y:=by omega
 clear hh
 go_enter func366,ntmps366
 go_wp2
 go_quiet (fail)
 go_wp2
 go_ret2
 refine⟨JF ?_ ?_,_,rfl⟩
 ·rw[H.out];simp[Im lo y hl]
 rw[H.out];simp
def um(hi lo y:Nat)(w:World)(h0:hi<y)(hy:y<18446744073709551616)(hl:lo<18446744073709551616):
  Calls prog 366 #[.int .u64 hi,.int .u64 lo,.int .u64 y] w fun e w'=>e=.returned (.tuple #[.int .u64 ((hi*18446744073709551616+lo)/y:Nat),.int .u64 ((hi*18446744073709551616+lo)%y:Nat)])/\∃n,w'=w.drewN n:=by
 by_cases hh:hi=0
 ·exact Fa hi lo y w h0 hh hy hl
 exact N4 hi lo y w h0 (by omega) hy hl
end Go.Proofs.YtjcminooghmpeaaGreatDoor
namespace Go.Proofs.YtjcminooghmpeaaGreatDoor
open Go.RowKit (wrap64)
def V0(lo hi:Int)(h:0<=hi):(PS lo hi).natAbs=hi.toNat*18446744073709551616+U lo:=by unfold PS;omega
def C8(lo hi:Int):PS lo hi<0↔hi<0:=by
 have:=xM lo
 unfold PS;omega
def RD(lo hi d:Int)(hd:d≠0)(q r:Nat)(hq:q=(PS lo hi).natAbs/d.natAbs)(hr:r=(PS lo hi).natAbs%d.natAbs):
  kY lo hi d=(if (decide (hi<0) != decide (d<0))=true then(if q<=9223372036854775808 then(-(q:Int),(if hi<0 then -(r:Int)else r),0)else(0,0,-11))
   else(if q<9223372036854775808 then((q:Int),(if hi<0 then -(r:Int)else r),0)else(0,0,-11))):=by
 obtain⟨h1,h2⟩:=ql (PS lo hi) d hd
 rw[<-hq]at h1
 rw[<-hr]at h2
 have hn:decide (PS lo hi<0)=decide (hi<0):=by simp[C8]
 rw[hn]at h1
 simp only[C8]at h2
 simp only[kY,if_neg hd,h1,h2]
 by_cases hb:(decide (hi<0) != decide (d<0))=true
 ·simp only[if_pos hb]
  by_cases hf:q<=9223372036854775808
  ·rw[if_pos hf,if_pos (by simp[fV];omega)]
  rw[if_neg hf,if_neg (by simp[fV];omega)]
 simp only[if_neg hb]
 by_cases hf:q<9223372036854775808
 ·rw[if_pos hf,if_pos (by simp[fV];omega)]
 rw[if_neg hf,if_neg (by simp[fV];omega)]
def P8(lo hi d:Int)(hd:d≠0)(q r:Nat)(hq:q=(PS lo hi).natAbs/d.natAbs)(hr:r=(PS lo hi).natAbs%d.natAbs):
    jt lo hi d=(if (decide (hi<0) != decide (d<0))=true then
        (if r=0 then(if q<=9223372036854775808 then(-(q:Int),0,0)else(0,0,-11))
         else(if q+1<=9223372036854775808 then(-((q:Int)+1),(if d<0 then -((d.natAbs-r:Nat):Int)else((d.natAbs-r:Nat):Int)),0)else(0,0,-11)))
      else(if q<9223372036854775808 then((q:Int),(if d<0 then -(r:Int)else r),0)else(0,0,-11))):=by
  obtain⟨h1,h2⟩:=ql (PS lo hi) d hd
  obtain⟨h3,h4⟩:=s9 (PS lo hi) d hd
  have hlt:r<d.natAbs:=by rw[hr];exact Nat.mod_lt _ (by omega)
  rw[<-hq]at h1
  rw[<-hr]at h2
  have hn:decide (PS lo hi<0)=decide (hi<0):=by simp[C8]
  rw[hn]at h1 h3 h4
  simp only[C8]at h2
  have hz:(PS lo hi).tmod d≠0↔r≠0:=by rw[h2];split<;>omega
  simp only[hz]at h3 h4
  simp only[jt,if_neg hd]
  by_cases hb:(decide (hi<0) != decide (d<0))=true
  · simp only[if_pos hb]
    rw[if_pos hb]at h1
    by_cases hr0:r=0
    · rw[if_neg (by simp[hr0])]at h3 h4
      rw[if_pos hr0]
      have h5:(PS lo hi).tmod d=0:=by rw[h2,hr0];split<;>rfl
      rw[h3,h4,h1,h5]
      by_cases hf:q<=9223372036854775808
      · rw[if_pos hf,if_pos (by simp[fV];omega)]
      rw[if_neg hf,if_neg (by simp[fV];omega)]
    rw[if_pos ⟨hr0,hb⟩]at h3 h4
    rw[if_neg hr0]
    have h5:(PS lo hi).tmod d+d=(if d<0 then -((d.natAbs-r:Nat):Int)else((d.natAbs-r:Nat):Int)):=by
      rw[h2]
      by_cases a:hi<0<;>by_cases b:d<0<;>simp[a,b]at hb ⊢<;>omega
    rw[h3,h4,h1,h5]
    by_cases hf:q+1<=9223372036854775808
    · rw[if_pos hf,if_pos (by simp[fV];omega),show -(q:Int)-1 = -((q:Int)+1) from by omega]
    rw[if_neg hf,if_neg (by simp[fV];omega)]
  simp only[if_neg hb]
  rw[if_neg hb]at h1
  rw[if_neg (by simp[hb])]at h3 h4
  have h5:(PS lo hi).tmod d=(if d<0 then -(r:Int)else r):=by
    rw[h2]
    by_cases a:hi<0<;>by_cases b:d<0<;>simp[a,b]at hb ⊢
  rw[h3,h4,h1,h5]
  by_cases hf:q<9223372036854775808
  · rw[if_pos hf,if_pos (by simp[fV];omega)]
  rw[if_neg hf,if_neg (by simp[fV];omega)]
open Go.RowKit
def BI(lo hi d:Int)(w:World):
  Calls prog 287 #[.int .i64 lo,.int .i64 hi,.int .i64 d] w fun e w'=>e=.returned (.tuple #[.int .i64 (il lo hi d).1,.int .i64 (il lo hi d).2.1,.int .i64 (il lo hi d).2.2])/\∃n,w'=w.drewN n:=by
 have b1:=xM lo
 have b2:=xM d
 by_cases h:d=0
 ·have E:il lo hi d=(0,0,-10):=by simp[il,h]
  have H:=Lib.hid E
  have t:(d==0)=true:=by simp[h]
  clear E h b1 b2
  go_enter func287,ntmps287
  go_wp2
  go_ret3
  exact⟨oV (by rw[H.out]) (by rw[H.out]) (by rw[H.out]),xn w⟩
 have t:(d==0)=false:=by simp[h]
 by_cases h2:U d<=U hi
 ·have E:il lo hi d=(0,0,-11):=by simp[il,h,h2]
  have H:=Lib.hid E
  have t2:decide (U hi<U d)=false:=by simp;omega
  clear E b1 b2
  go_enter func287,ntmps287
  go_wp2_with (go_at_call 359;refine(t7 _ _ _).mono ?_;rintro e w' ⟨rfl,rfl⟩)
  go_ret3
  exact⟨oV (by rw[H.out]) (by rw[H.out]) (by rw[H.out]),xn w⟩
 have E:il lo hi d=(S (PU lo hi/U d),S (PU lo hi%U d),0):=by simp[il,h,h2]
 have H:=Lib.hid E
 have t2:decide (U hi<U d)=true:=by simp;omega
 have HB:=Lib.hid b1
 have HB2:=Lib.hid b2
 have H2:=Lib.hid h2
 clear E b1 b2 h2
 go_enter func287,ntmps287
 go_wp2_with (go_at_call 359;refine(t7 _ _ _).mono ?_;rintro e w' ⟨rfl,rfl⟩)
 rw[ki hi,ki lo,ki d]
 refine(um (U hi) (U lo) (U d) _ (by have:=H2.out;omega) HB2.out HB.out).mono ?_
 rintro e w' ⟨rfl,n,rfl⟩
 go_wp2
 go_ret3
 exact⟨oV (by rw[H.out];simp[S,PU]) (by rw[H.out];simp[S,PU]) (by rw[H.out]),_,rfl⟩
def AK(lo hi d:Int)(w:World)(hh:Fit hi)(hd:Fit d)(hp:0<=hi):
  Calls prog 361 #[.int .i64 lo,.int .i64 hi,.int .i64 d] w fun e w' =>
   e=(if (PS lo hi).natAbs/18446744073709551616<d.natAbs then .returned (.tuple #[.int .u64 ((PS lo hi).natAbs/d.natAbs:Nat),.int .u64 ((PS lo hi).natAbs%d.natAbs:Nat),.bool (!(decide (hi<0)==decide (d<0))),.bool true])
    else .returned (.tuple #[.int .u64 0,.int .u64 0,.bool false,.bool false]))/\∃n,w'=w.drewN n:=by
 have b1:=xM lo
 have u1:=ki hi
 have u3:=ki lo
 have hs:=V0 lo hi hp
 have hU:U hi=hi.toNat:=aD5 hi hp hh.2
 rw[<-hU]at hs
 by_cases h2:d.natAbs<=U hi
 ·have E:¬(PS lo hi).natAbs/18446744073709551616<d.natAbs:=by omega
  rw[if_neg E]
  clear E hs b1 hU
  go_enter func361,ntmps361
  go_wp2_with (go_at_call 362;refine(pg d _ hd).mono ?_;rintro e w' ⟨rfl,rfl⟩)
  exact bodyPost_ret (v:=.tuple #[.int .u64 0,.int .u64 0,.bool false,.bool false]) (by simp[results,Tryz.results361,go_sem]) rfl ⟨rfl,xn _⟩
 have E:(PS lo hi).natAbs/18446744073709551616<d.natAbs:=by omega
 rw[if_pos E]
 have HS:=Lib.hid hs
 have HB:=Lib.hid b1
 clear E hs b1 hU
 go_enter func361,ntmps361
 go_wp2_with (go_at_call 362;refine(pg d _ hd).mono ?_;rintro e w' ⟨rfl,rfl⟩)
 refine(um (U hi) (U lo) d.natAbs _ (by omega) (by omega) HB.out).mono ?_
 rintro e w' ⟨rfl,n,rfl⟩
 go_wp2
 exact bodyPost_ret (v:=.tuple #[.int .u64 ((PS lo hi).natAbs/d.natAbs:Nat),.int .u64 ((PS lo hi).natAbs%d.natAbs:Nat),.bool (!(decide (hi<0)==decide (d<0))),.bool true]) (by rw[HS.out];simp[results,Tryz.results361,go_sem]) rfl ⟨rfl,_,rfl⟩
def LU(n:Nat)(h:n<18446744073709551616):bits .xor .u64 IntKind.u64.max (n:Int)=((18446744073709551615-n:Nat):Int):=by
 show IntKind.u64.wrap ((BitVec.ofInt 64 IntKind.u64.max ^^^ BitVec.ofInt 64 (n:Int)).toNat:Int)=_
 have e:BitVec.ofInt 64 IntKind.u64.max=BitVec.allOnes 64:=by decide
 have h1:(BitVec.ofInt 64 (n:Int)).toNat=n:=by
  rw[BitVec.ofInt_natCast,BitVec.toNat_ofNat];exact Nat.mod_eq_of_lt (by omega)
 rw[e,BitVec.allOnes_xor,BitVec.toNat_not,h1]
 exact IntWalk.u64_in _ (by omega)
def N6(x:Nat)(w:World):
  (callFunc 386 #[.int .u64 (x:Int),.int .u64 1,.int .u64 0]).run prog w =
   .ok (.value (.tuple #[.int .u64 (((x+1)%18446744073709551616:Nat):Int),.int .u64 (((x+1)/18446744073709551616:Nat):Int)])) w:=by
 rw[run_callFunc_extern func386 (by kernel_rfl) (by kernel_rfl) (by kernel_rfl) (e:=add64Entry) (by kernel_rfl),run_add64 _ _ _ (by omega) (by omega) (by omega) (by omega)]
 simp only[Result.andThen]
 congr 5
def AJ(lo hi d:Int)(w:World)(hh:Fit hi)(hd:Fit d)(hp:hi<0):
  Calls prog 361 #[.int .i64 lo,.int .i64 hi,.int .i64 d] w fun e w' =>
   e=(if (PS lo hi).natAbs/18446744073709551616<d.natAbs then .returned (.tuple #[.int .u64 ((PS lo hi).natAbs/d.natAbs:Nat),.int .u64 ((PS lo hi).natAbs%d.natAbs:Nat),.bool (!(decide (hi<0)==decide (d<0))),.bool true])
    else .returned (.tuple #[.int .u64 0,.int .u64 0,.bool false,.bool false]))/\∃n,w'=w.drewN n:=by
 have b1:=xM lo
 have b2:=xM hi
 have hneg:=X8 hi hp hh.1
 have hA:((PS lo hi).natAbs:Int) = -(hi*18446744073709551616+U lo):=by unfold PS;omega
 have u1:=ki hi
 have u3:=ki lo
 have n1:=LU (U lo) b1
 have n2:=LU (U hi) b2
 have radd:=fun w=>N6 (18446744073709551615-U lo) w
 generalize (PS lo hi).natAbs=A at *
 obtain⟨low,hlow⟩:∃l,l=A%18446744073709551616:=⟨_,rfl⟩
 obtain⟨high,hhigh⟩:∃l,l=A/18446744073709551616:=⟨_,rfl⟩
 obtain⟨c,hc⟩:∃c,c=(18446744073709551615-U lo+1)/18446744073709551616:=⟨_,rfl⟩
 obtain⟨nl,hnl⟩:∃c,c=18446744073709551615-U lo:=⟨_,rfl⟩
 obtain⟨nh,hnh⟩:∃c,c=18446744073709551615-U hi:=⟨_,rfl⟩
 have f1:(18446744073709551615-U lo+1)%18446744073709551616=low:=by omega
 have f2:IntKind.u64.wrap ((nh:Int)+(c:Int))=(high:Int):=by rw[IntKind.wrap_u64];omega
 have hAe:A=high*18446744073709551616+low:=by omega
 have hlt:low<18446744073709551616:=by omega
 rw[f1,<-hc,<-hnl]at radd
 rw[<-hnl]at n1
 rw[<-hnh]at n2
 rw[<-hhigh]
 clear hlow hhigh hc hnl hnh f1 hA hneg b1 b2
 by_cases h2:d.natAbs<=high
 ·rw[if_neg (by omega)]
  clear hAe hlt
  go_enter func361,ntmps361
  go_wp2_with (go_at_call 362;refine(pg d _ hd).mono ?_;rintro e w' ⟨rfl,rfl⟩)
  exact bodyPost_ret (v:=.tuple #[.int .u64 0,.int .u64 0,.bool false,.bool false]) (by simp[results,Tryz.results361,go_sem]) rfl ⟨rfl,xn _⟩
 rw[if_pos (by omega)]
 have HS:=Lib.hid hAe
 have HB:=Lib.hid hlt
 clear hAe hlt
 go_enter func361,ntmps361
 go_wp2_with (go_at_call 362;refine(pg d _ hd).mono ?_;rintro e w' ⟨rfl,rfl⟩)
 refine(um high low d.natAbs _ (by omega) (by omega) HB.out).mono ?_
 rintro e w' ⟨rfl,n,rfl⟩
 go_wp2
 exact bodyPost_ret (v:=.tuple #[.int .u64 (A/d.natAbs:Nat),.int .u64 (A%d.natAbs:Nat),.bool (!(decide (hi<0)==decide (d<0))),.bool true]) (by rw[HS.out];simp[results,Tryz.results361,go_sem,hp]) rfl ⟨rfl,_,rfl⟩
def CO(lo hi d:Int)(w:World)(hh:Fit hi)(hd:Fit d)(h:¬(PS lo hi).natAbs/18446744073709551616<d.natAbs):
  Calls prog 361 #[.int .i64 lo,.int .i64 hi,.int .i64 d] w fun e w' =>
   e=.returned (.tuple #[.int .u64 0,.int .u64 0,.bool false,.bool false])/\∃n,w'=w.drewN n:=by
 by_cases hp:hi<0
 ·have:=AJ lo hi d w hh hd hp
  rw[if_neg h]at this;exact this
 have:=AK lo hi d w hh hd (by omega)
 rw[if_neg h]at this;exact this
def zJ(lo hi d:Int)(w:World)(hh:Fit hi)(hd:Fit d)(q r:Nat)(b:Bool)(h:(PS lo hi).natAbs/18446744073709551616<d.natAbs)
  (hq:q=(PS lo hi).natAbs/d.natAbs) (hr:r=(PS lo hi).natAbs%d.natAbs) (hb:(decide (hi<0) != decide (d<0))=b) :
  Calls prog 361 #[.int .i64 lo,.int .i64 hi,.int .i64 d] w fun e w' =>
   e=.returned (.tuple #[.int .u64 q,.int .u64 r,.bool b,.bool true])/\∃n,w'=w.drewN n:=by
 subst hq hr
 have hb':(!(decide (hi<0)==decide (d<0)))=b:=hb
 by_cases hp:hi<0
 ·have:=AJ lo hi d w hh hd hp
  rw[if_pos h,hb']at this;exact this
 have:=AK lo hi d w hh hd (by omega)
 rw[if_pos h,hb']at this;exact this
def GT(q:Nat)(f:Bool)(w:World)(hq:q<18446744073709551616)(hf:decide (q<=9223372036854775808)=f):
  Calls prog 363 #[.int .u64 q,.bool true] w fun e w'=>e=.returned (.tuple #[.int .i64 (wrap64 (-(q:Int))),.bool f])/\w=w':=by
 have e:IntKind.i64.wrap (IntKind.u64.wrap (-(q:Int)))=wrap64 (-(q:Int)):=by
  rw[IntWalk.i64_left,IntKind.wrap_u64];unfold wrap64;omega
 cases f
 ·have h:¬(q:Int)<=9223372036854775808:=by simp at hf;omega
  clear hf hq
  go_enter func363,ntmps363
  go_wp2
  go_ret2
  exact⟨by rw[<-e];simp[go_sem];done,rfl⟩
 have h:(q:Int)<=9223372036854775808:=by simp at hf;omega
 clear hf hq
 go_enter func363,ntmps363
 go_wp2
 go_ret2
 exact⟨by rw[<-e];simp[go_sem];done,rfl⟩
def Fm(q:Nat)(f:Bool)(w:World)(hf:decide (q<9223372036854775808)=f):
  Calls prog 363 #[.int .u64 q,.bool false] w fun e w'=>e=.returned (.tuple #[.int .i64 (wrap64 q),.bool f])/\w=w':=by
 cases f
 ·have h:¬(q:Int)<9223372036854775808:=by simp at hf;omega
  clear hf
  go_enter func363,ntmps363
  go_wp2
  go_ret2
  exact⟨by simp[go_sem];done,rfl⟩
 have h:(q:Int)<9223372036854775808:=by simp at hf;omega
 clear hf
 go_enter func363,ntmps363
 go_wp2
 go_ret2
 exact⟨by rw[cT q (by omega)];rfl,rfl⟩
def tt(q:Nat)(b:Bool):Int:=wrap64 (if b then -(q:Int)else q)
def tj(q:Nat)(b:Bool):Bool:=if b then decide (q<=9223372036854775808)else decide (q<9223372036854775808)
def mo(r:Nat)(b:Bool):Int:=wrap64 (if b then -(r:Int)else r)
def lC(q:Nat)(b:Bool)(w:World)(hq:q<18446744073709551616):
  Calls prog 363 #[.int .u64 q,.bool b] w fun e w'=>e=.returned (.tuple #[.int .i64 (tt q b),.bool (tj q b)])/\w=w':=by
 cases b
 ·exact Fm q _ w rfl
 exact GT q _ w hq rfl
def sw(r:Nat)(b:Bool)(w:World):
  Calls prog 364 #[.int .u64 r,.bool b] w fun e w'=>e=.returned (.int .i64 (mo r b))/\w=w':=by
 have e:wrap64 (IntKind.u64.wrap (-(r:Int)))=wrap64 (-(r:Int)):=by
  rw[IntKind.wrap_u64];unfold wrap64;omega
 have H:=Lib.hid e
 clear e
 cases b
 ·go_enter func364,ntmps364
  go_wp2
  go_ret
  exact⟨XB rfl,rfl⟩
 go_enter func364,ntmps364
 go_wp2
 go_ret
 exact⟨XB H.out,rfl⟩
def QE(lo hi d:Int)(h:(PS lo hi).natAbs/18446744073709551616<d.natAbs):(PS lo hi).natAbs/d.natAbs<18446744073709551616:=by
 rw[Nat.div_lt_iff_lt_mul (by omega),Nat.mul_comm]
 exact(Nat.div_lt_iff_lt_mul (by decide)).1 h
def OX(lo hi d:Int)(hd:d≠0)(h:¬(PS lo hi).natAbs/18446744073709551616<d.natAbs):18446744073709551616<=(PS lo hi).natAbs/d.natAbs:=by
 rw[Nat.le_div_iff_mul_le (by omega),Nat.mul_comm]
 have:=Nat.div_mul_le_self (PS lo hi).natAbs 18446744073709551616
 exact Nat.le_trans (Nat.mul_le_mul_right _ (by omega)) this
def MK(lo hi d:Int)(w:World)(hh:Fit hi)(hd:Fit d):
  Calls prog 289 #[.int .i64 lo,.int .i64 hi,.int .i64 d] w fun e w'=>e=.returned (.tuple #[.int .i64 (kY lo hi d).1,.int .i64 (kY lo hi d).2.1,.int .i64 (kY lo hi d).2.2])/\∃n,w'=w.drewN n:=by
 by_cases hz:d=0
 ·have E:=Lib.hid (show kY lo hi d=(0,0,-10) by simp[kY,hz])
  have t:(d==0)=true:=by simp[hz]
  clear hz
  go_enter func289,ntmps289
  go_wp2
  go_ret3
  exact⟨oV (by rw[E.out]) (by rw[E.out]) (by rw[E.out]),xn w⟩
 have t:(d==0)=false:=by simp[hz]
 obtain⟨q,hq⟩:∃q,q=(PS lo hi).natAbs/d.natAbs:=⟨_,rfl⟩
 obtain⟨r,hr⟩:∃r,r=(PS lo hi).natAbs%d.natAbs:=⟨_,rfl⟩
 have hs:=RD lo hi d hz q r hq hr
 have hrl:r<d.natAbs:=by rw[hr];exact Nat.mod_lt _ (by omega)
 by_cases hy:(PS lo hi).natAbs/18446744073709551616<d.natAbs
 ·obtain⟨b,hb⟩:∃b,(decide (hi<0) != decide (d<0))=b:=⟨_,rfl⟩
  have hql:q<18446744073709551616:=by rw[hq];exact QE lo hi d hy
  have hc:=fun w=>zJ lo hi d w hh hd q r b hy hq hr hb
  obtain⟨f,hf⟩:∃f,tj q b=f:=⟨_,rfl⟩
  have hl:=fun w=>lC q b w hql
  rw[hf]at hl
  have E:kY lo hi d=if f then(tt q b,mo r (decide (hi<0)),0)else(0,0,-11):=by
   rw[hs,hb,<-hf]
   have hw:mo r (decide (hi<0))=if hi<0 then -(r:Int)else r:=by
    by_cases hn:hi<0
    ·simp only[mo,hn,decide_true,if_true];exact cT _ (by omega)
    simp only[mo,hn,decide_false,if_false,Bool.false_eq_true]
    by_cases hx:r=9223372036854775808
    ·omega
    exact cT _ (by omega)
   cases b
   ·simp only[Bool.false_eq_true,if_false,tj,decide_eq_true_eq,tt]
    by_cases hx:q<9223372036854775808
    ·rw[if_pos hx,if_pos hx,cT _ (by omega),hw]
    rw[if_neg hx,if_neg hx]
   simp only[if_true,tj,decide_eq_true_eq,tt]
   by_cases hx:q<=9223372036854775808
   ·rw[if_pos hx,if_pos hx,cT _ (by omega),hw]
   rw[if_neg hx,if_neg hx]
  have HE:=Lib.hid E
  have HC:=Lib.hid hc
  have HL:=Lib.hid hl
  clear E hc hl hf hb hs hq hr hrl hql hy hz hh hd
  cases f
  ·go_enter func289,ntmps289
   go_wp2_with (first|(go_at_call 361;refine(HC.out _).mono ?_;rintro e w' ⟨rfl,n,rfl⟩)|(go_at_call 363;refine(HL.out _).mono ?_;rintro e w' ⟨rfl,rfl⟩))
   go_ret3
   exact⟨oV (by rw[HE.out];rfl) (by rw[HE.out];rfl) (by rw[HE.out];rfl),_,rfl⟩
  go_enter func289,ntmps289
  go_wp2_with (first|(go_at_call 361;refine(HC.out _).mono ?_;rintro e w' ⟨rfl,n,rfl⟩)|(go_at_call 363;refine(HL.out _).mono ?_;rintro e w' ⟨rfl,rfl⟩)|(go_at_call 364;refine(sw r _ _).mono ?_;rintro e w' ⟨rfl,rfl⟩))
  go_ret3
  exact⟨oV (by rw[HE.out];rfl) (by rw[HE.out];rfl) (by rw[HE.out];rfl),_,rfl⟩
 have hqg:18446744073709551616<=q:=by rw[hq];exact OX lo hi d hz hy
 have hc:=fun w=>CO lo hi d w hh hd hy
 have E:kY lo hi d=(0,0,-11):=by
  rw[hs]
  by_cases hb:(decide (hi<0) != decide (d<0))=true
  ·rw[if_pos hb,if_neg (show ¬q<=9223372036854775808 by omega)]
  rw[if_neg hb,if_neg (show ¬q<9223372036854775808 by omega)]
 have HE:=Lib.hid E
 have HC:=Lib.hid hc
 clear E hc hs hq hr hrl hqg hy hz hh hd
 go_enter func289,ntmps289
 go_wp2_with (first|(go_at_call 361;refine(HC.out _).mono ?_;rintro e w' ⟨rfl,n,rfl⟩)|(go_at_call 363;refine(lC 0 false _ (by decide)).mono ?_;rintro e w' ⟨rfl,rfl⟩))
 go_ret3
 exact⟨oV (by rw[HE.out]) (by rw[HE.out]) (by rw[HE.out]),_,rfl⟩
def Nq(lo hi d:Int)(w:World)(hh:Fit hi)(hd:Fit d):
  Calls prog 279 #[.int .i64 lo,.int .i64 hi,.int .i64 d] w fun e w'=>e=.returned (.tuple #[.int .i64 (jt lo hi d).1,.int .i64 (jt lo hi d).2.1,.int .i64 (jt lo hi d).2.2])/\∃n,w'=w.drewN n:=by
 by_cases hz:d=0
 ·have E:=Lib.hid (show jt lo hi d=(0,0,-10) by simp[jt,hz])
  have t:(d==0)=true:=by simp[hz]
  clear hz
  go_enter func279,ntmps279
  go_wp2
  go_ret3
  exact⟨oV (by rw[E.out]) (by rw[E.out]) (by rw[E.out]),xn w⟩
 have t:(d==0)=false:=by simp[hz]
 obtain⟨q,hq⟩:∃q,q=(PS lo hi).natAbs/d.natAbs:=⟨_,rfl⟩
 obtain⟨r,hr⟩:∃r,r=(PS lo hi).natAbs%d.natAbs:=⟨_,rfl⟩
 have hs:=P8 lo hi d hz q r hq hr
 have hrl:r<d.natAbs:=by rw[hr];exact Nat.mod_lt _ (by omega)
 by_cases hy:(PS lo hi).natAbs/18446744073709551616<d.natAbs
 ·obtain⟨b,hb⟩:∃b,(decide (hi<0) != decide (d<0))=b:=⟨_,rfl⟩
  have hql:q<18446744073709551616:=by rw[hq];exact QE lo hi d hy
  have hc:=fun w=>zJ lo hi d w hh hd q r b hy hq hr hb
  rw[hb]at hs
  have HC:=Lib.hid hc
  clear hc hb hq hr hy hz
  have hz1:=fun w=>pg d w hd
  have HZ:=Lib.hid hz1
  clear hz1
  cases b
  ·simp only[Bool.false_eq_true,if_false]at hs
   obtain⟨f,hf⟩:∃f,tj q false=f:=⟨_,rfl⟩
   have hl:=fun w=>lC q false w hql
   rw[hf]at hl
   have hw:mo r (decide (d<0))=if d<0 then -((r:Nat):Int)else((r:Nat):Int):=by
    by_cases hn:d<0
    ·simp only[mo,hn,decide_true,if_true];exact cT _ (by omega)
    simp only[mo,hn,decide_false,if_false,Bool.false_eq_true];exact cT _ (by omega)
   have E:jt lo hi d=if f then(tt q false,mo r (decide (d<0)),0)else(0,0,-11):=by
    rw[hs,<-hf]
    simp only[tj,Bool.false_eq_true,if_false,decide_eq_true_eq,tt]
    by_cases hx:q<9223372036854775808
    ·rw[if_pos hx,if_pos hx,cT _ (by omega),hw]
    rw[if_neg hx,if_neg hx]
   have HE:=Lib.hid E
   have HL:=Lib.hid hl
   clear E hl hf hs hrl hql hh hd hw
   cases f
   ·go_enter func279,ntmps279
    go_wp2_with (first|(go_at_call 361;refine(HC.out _).mono ?_;rintro e w' ⟨rfl,n,rfl⟩)|(go_at_call 363;refine(HL.out _).mono ?_;rintro e w' ⟨rfl,rfl⟩))
    go_ret3
    exact⟨oV (by rw[HE.out];rfl) (by rw[HE.out];rfl) (by rw[HE.out];rfl),_,rfl⟩
   cases hq0:((q:Int)==0)
   all_goals
    go_enter func279,ntmps279
    go_wp2_with (first|(go_at_call 361;refine(HC.out _).mono ?_;rintro e w' ⟨rfl,n,rfl⟩)|(go_at_call 363;refine(HL.out _).mono ?_;rintro e w' ⟨rfl,rfl⟩)|(go_at_call 364;refine(sw r _ _).mono ?_;rintro e w' ⟨rfl,rfl⟩))
    go_ret3
    exact⟨oV (by rw[HE.out];rfl) (by rw[HE.out];rfl) (by rw[HE.out];rfl),_,rfl⟩
  simp only[if_true]at hs
  by_cases hr0:r=0
  ·subst hr0
   obtain⟨f,hf⟩:∃f,tj q true=f:=⟨_,rfl⟩
   have hl:=fun w=>lC q true w hql
   rw[hf]at hl
   have hw:mo 0 (decide (d<0))=0:=by
    unfold mo;cases decide (d<0)<;>simp<;>exact cT _ (by omega)
   have E:jt lo hi d=if f then(tt q true,mo 0 (decide (d<0)),0)else(0,0,-11):=by
    rw[hs,<-hf]
    simp only[tj,if_true,decide_eq_true_eq,tt]
    by_cases hx:q<=9223372036854775808
    ·rw[if_pos hx,if_pos hx,cT _ (by omega),hw]
    rw[if_neg hx,if_neg hx]
   have HE:=Lib.hid E
   have HL:=Lib.hid hl
   clear E hl hf hs hrl hql hh hd hw
   cases f
   ·go_enter func279,ntmps279
    go_wp2_with (first|(go_at_call 361;refine(HC.out _).mono ?_;rintro e w' ⟨rfl,n,rfl⟩)|(go_at_call 363;refine(HL.out _).mono ?_;rintro e w' ⟨rfl,rfl⟩))
    go_ret3
    exact⟨oV (by rw[HE.out];rfl) (by rw[HE.out];rfl) (by rw[HE.out];rfl),_,rfl⟩
   cases hq0:((q:Int)==0)
   all_goals
    go_enter func279,ntmps279
    go_wp2_with (first|(go_at_call 361;refine(HC.out _).mono ?_;rintro e w' ⟨rfl,n,rfl⟩)|(go_at_call 363;refine(HL.out _).mono ?_;rintro e w' ⟨rfl,rfl⟩)|(go_at_call 364;refine(sw 0 _ _).mono ?_;rintro e w' ⟨rfl,rfl⟩))
    go_ret3
    exact⟨oV (by rw[HE.out];rfl) (by rw[HE.out];rfl) (by rw[HE.out];rfl),_,rfl⟩
  rw[if_neg hr0]at hs
  have g1:((r:Int)==0)=false:=by simp;omega
  have g2:((r:Int) != 0)=true:=by simp;omega
  have hsub:((d.natAbs:Nat):Int)-r=((d.natAbs-r:Nat):Int):=by omega
  obtain⟨r',hr'⟩:∃r',r'=d.natAbs-r:=⟨_,rfl⟩
  rw[<-hr']at hs hsub
  have hrI:(r:Int)<(d.natAbs:Nat):=by omega
  have hdI:((d.natAbs:Nat):Int)<=9223372036854775808:=by omega
  have hr'l:r'<=d.natAbs/\0<r'/\r'<d.natAbs:=by omega
  have g3:((r':Int)==0)=false:=by simp;omega
  have g4:((r':Int) != 0)=true:=by simp;omega
  by_cases hq1:q+1<18446744073709551616
  ·obtain⟨q',hq'⟩:∃q',q'=q+1:=⟨_,rfl⟩
   have hqs:(q:Int)+1=(q':Int):=by omega
   have hqb:(q:Int)<=18446744073709551614:=by omega
   have g5:((q':Int)==0)=false:=by simp;omega
   obtain⟨f,hf⟩:∃f,tj q' true=f:=⟨_,rfl⟩
   have hl:=fun w=>lC q' true w (by omega)
   rw[hf]at hl
   have hw:mo r' (decide (d<0))=if d<0 then -((r':Nat):Int)else((r':Nat):Int):=by
    by_cases hn:d<0
    ·simp only[mo,hn,decide_true,if_true];exact cT _ (by omega)
    simp only[mo,hn,decide_false,if_false,Bool.false_eq_true];exact cT _ (by omega)
   have E:jt lo hi d=if f then(tt q' true,mo r' (decide (d<0)),0)else(0,0,-11):=by
    rw[hs,<-hf,hqs,<-hq']
    simp only[tj,if_true,decide_eq_true_eq,tt]
    by_cases hx:q'<=9223372036854775808
    ·rw[if_pos hx,if_pos hx,cT _ (by omega),hw]
    rw[if_neg hx,if_neg hx]
   have HE:=Lib.hid E
   have HL:=Lib.hid hl
   have HA:=Lib.hid hrl
   clear E hl hf hs hrl hql hh hd hw hr'l hr' hq' hq1 hr0
   cases f
   ·go_enter func279,ntmps279
    go_wp2_with (first|(go_at_call 361;refine(HC.out _).mono ?_;rintro e w' ⟨rfl,n,rfl⟩)|(go_at_call 363;refine(HL.out _).mono ?_;rintro e w' ⟨rfl,rfl⟩)|(go_at_call 362;refine(HZ.out _).mono ?_;rintro e w' ⟨rfl,rfl⟩))
    go_ret3
    exact⟨oV (by rw[HE.out];rfl) (by rw[HE.out];rfl) (by rw[HE.out];rfl),_,rfl⟩
   go_enter func279,ntmps279
   go_wp2_with (first|(go_at_call 361;refine(HC.out _).mono ?_;rintro e w' ⟨rfl,n,rfl⟩)|(go_at_call 363;refine(HL.out _).mono ?_;rintro e w' ⟨rfl,rfl⟩)|(go_at_call 362;refine(HZ.out _).mono ?_;rintro e w' ⟨rfl,rfl⟩)|(go_at_call 364;refine(sw r' _ _).mono ?_;rintro e w' ⟨rfl,rfl⟩))
   go_ret3
   exact⟨oV (by rw[HE.out];rfl) (by rw[HE.out];rfl) (by rw[HE.out];rfl),_,rfl⟩
  have hqs:IntKind.u64.wrap ((q:Int)+1)=0:=by rw[IntKind.wrap_u64];omega
  have hl:=fun w=>lC 0 true w (by decide)
  have E:jt lo hi d=(0,0,-11):=by
   rw[hs,if_neg (by omega)]
  have HE:=Lib.hid E
  have HL:=Lib.hid hl
  clear E hl hs hrl hql hh hd hr'l hr' hq1 hr0
  go_enter func279,ntmps279
  go_wp2_with (first|(go_at_call 361;refine(HC.out _).mono ?_;rintro e w' ⟨rfl,n,rfl⟩)|(go_at_call 363;refine(HL.out _).mono ?_;rintro e w' ⟨rfl,rfl⟩)|(go_at_call 362;refine(HZ.out _).mono ?_;rintro e w' ⟨rfl,rfl⟩))
  go_ret3
  exact⟨oV (by rw[HE.out]) (by rw[HE.out]) (by rw[HE.out]),_,rfl⟩
 have hqg:18446744073709551616<=q:=by rw[hq];exact OX lo hi d hz hy
 have hc:=fun w=>CO lo hi d w hh hd hy
 have E:jt lo hi d=(0,0,-11):=by
  rw[hs]
  by_cases hb:(decide (hi<0) != decide (d<0))=true
  ·rw[if_pos hb,if_neg (show ¬q<=9223372036854775808 by omega),if_neg (show ¬q+1<=9223372036854775808 by omega)];simp
  rw[if_neg hb,if_neg (show ¬q<9223372036854775808 by omega)]
 have HE:=Lib.hid E
 have HC:=Lib.hid hc
 clear E hc hs hq hr hrl hqg hy hz hh hd
 go_enter func279,ntmps279
 go_wp2_with (first|(go_at_call 361;refine(HC.out _).mono ?_;rintro e w' ⟨rfl,n,rfl⟩)|(go_at_call 363;refine(lC 0 false _ (by decide)).mono ?_;rintro e w' ⟨rfl,rfl⟩))
 go_ret3
 exact⟨oV (by rw[HE.out]) (by rw[HE.out]) (by rw[HE.out]),_,rfl⟩
def gI(u:Nat):List Int:=[(u:Int)%256,(u:Int)/256%256,(u:Int)/65536%256,(u:Int)/16777216%256,
  (u:Int)/4294967296%256,(u:Int)/1099511627776%256,(u:Int)/281474976710656%256,(u:Int)/72057594037927936%256]
def Ab(u:Nat):(gI u).length=8:=rfl
def Ut(w:World)(x:List Value):World :=
 ((w.alloc (.cells x.toArray 244)).alloc (.cells #[.int .u8 0,.int .u8 0,.int .u8 0,.int .u8 0,.int .u8 0,.int .u8 0,.int .u8 0,.int .u8 0] 5)).setRow (w.heap.size+1) x.toArray
def Ml(w:World)(x:List Value):(Ut w x).heap[w.heap.size+1]?=some (.cells x.toArray 5 (0,0)):=by
 unfold Ut
 exact setRow_heap _ (w.heap.size+1) #[.int .u8 0,.int .u8 0,.int .u8 0,.int .u8 0,.int .u8 0,.int .u8 0,.int .u8 0,.int .u8 0] _ _ _ (by simpa using heap_alloc_new (w.alloc (.cells x.toArray 244)) _)
def Iz(w:World)(x:List Value):Below w.heap.size w (Ut w x) :=
 below_setRow (((Below.refl _ _).alloc (Nat.le_refl _) _).alloc (by simp) _) (by omega) _
def Mo(w:World)(x0 x1 x2 x3 x4 x5 x6 x7:Int):
  (Builtin.copy_ #[22,22] 3 #[.slice (some ⟨w.heap.size+1,0,none⟩) 8 8,.slice (some ⟨w.heap.size,0,none⟩) 8 8]).run prog
   ((w.alloc (.cells #[.int .u8 x0,.int .u8 x1,.int .u8 x2,.int .u8 x3,.int .u8 x4,.int .u8 x5,.int .u8 x6,.int .u8 x7] 244)).alloc (.cells #[.int .u8 0,.int .u8 0,.int .u8 0,.int .u8 0,.int .u8 0,.int .u8 0,.int .u8 0,.int .u8 0] 5)) =
   .ok (.int .i64 8) (Ut w [.int .u8 x0,.int .u8 x1,.int .u8 x2,.int .u8 x3,.int .u8 x4,.int .u8 x5,.int .u8 x6,.int .u8 x7]):=by
 have h:=run_copy_row (P:=prog) ((w.alloc (.cells #[.int .u8 x0,.int .u8 x1,.int .u8 x2,.int .u8 x3,.int .u8 x4,.int .u8 x5,.int .u8 x6,.int .u8 x7] 244)).alloc (.cells #[.int .u8 0,.int .u8 0,.int .u8 0,.int .u8 0,.int .u8 0,.int .u8 0,.int .u8 0,.int .u8 0] 5))
  22 22 3 5 (w.heap.size+1) 0 8 8 ⟨w.heap.size,0,none⟩ 8 8 #[.int .u8 0,.int .u8 0,.int .u8 0,.int .u8 0,.int .u8 0,.int .u8 0,.int .u8 0,.int .u8 0] 5
  [.int .u8 x0,.int .u8 x1,.int .u8 x2,.int .u8 x3,.int .u8 x4,.int .u8 x5,.int .u8 x6,.int .u8 x7]
  underlying22 (by kernel_rfl) (by simpa using heap_alloc_new (w.alloc _) _) rfl ?_ (by simp) (by simp[Value.oneCell'])
 ·exact h
 intro j v hj
 have hg:((w.alloc (.cells #[.int .u8 x0,.int .u8 x1,.int .u8 x2,.int .u8 x3,.int .u8 x4,.int .u8 x5,.int .u8 x6,.int .u8 x7] 244)).alloc (.cells #[.int .u8 0,.int .u8 0,.int .u8 0,.int .u8 0,.int .u8 0,.int .u8 0,.int .u8 0,.int .u8 0] 5)).heap[w.heap.size]? =
   some (.cells #[.int .u8 x0,.int .u8 x1,.int .u8 x2,.int .u8 x3,.int .u8 x4,.int .u8 x5,.int .u8 x6,.int .u8 x7] 244 (0,0)):=by
  rw[Below.heap_alloc _ _ _ (by simp)];exact heap_alloc_new w _
 rw[show(⟨w.heap.size,0,none⟩:Addr).add j=⟨w.heap.size,j,none⟩ from by unfold Addr.add;split<;>simp_all,cell_of_row _ _ _ _ _ _ hg]
 simpa using hj
def qI(xs:List Int)(w:World)(e:Ending)(w':World):Prop :=
 ∃b c,e=.returned (.slice (some ⟨b,0,none⟩) xs.length c)/\w.heap.size<=b/\xs.length<=c/\(∀i,i<xs.length->w'.cell? ⟨b,i,none⟩=some (.int .u8 (xs.getD i 0)))/\Below w.heap.size w w'
def RG(n:Int)(w:World):
  Calls prog 124 #[.int .i64 n] w (qI (gI (U n)) w):=by
 have u:=ki n
 have hmk:∀w,(Instr.makeSlice 22 (.int .i64 8) (.int .i64 8)).run prog w=.ok (.slice (some ⟨w.heap.size,0,none⟩) 8 8) (w.alloc (.cells #[.int .u8 0,.int .u8 0,.int .u8 0,.int .u8 0,.int .u8 0,.int .u8 0,.int .u8 0,.int .u8 0] 5)):=fun _=>by kernel_rfl
 have hcp:=Mo w ((U n:Int)%256) ((U n:Int)/256%256) ((U n:Int)/65536%256) ((U n:Int)/16777216%256) ((U n:Int)/4294967296%256) ((U n:Int)/1099511627776%256) ((U n:Int)/281474976710656%256) ((U n:Int)/72057594037927936%256)
 go_enter func124,ntmps124
 go_wp2_with fail
 go_rounds 9
 go_ret
 refine⟨w.heap.size+1,8,rfl,by omega,by rw[Ab];exact Nat.le_refl _,fun i hi=>?_,Iz _ _⟩
 rw[cell_of_row _ _ _ _ _ _ (Ml _ _)]
 have h8:i<8:=hi
 have:i=0\/i=1\/i=2\/i=3\/i=4\/i=5\/i=6\/i=7:=by omega
 rcases this with rfl|rfl|rfl|rfl|rfl|rfl|rfl|rfl<;>rfl
def Tryz.infoByte:(prog.info? 5).map (fun i=>(i.zero,i.size,i.bytes))=some (some (.int .u8 0),1,1):=by kernel_rfl
def NW{w w':World}{v:Value}{L:List Int}(h:w'.ownsRow w.heap.size 5 1 v L.length (L.map (Value.int .u8)))(hn:0<L.length)(hb:Below w.heap.size w w'):
  qI L w (.returned v) w':=by
 rcases h.2 with ⟨_,h0⟩|⟨g,cap,cur,rfl,hg,hh,hle,_,_,htake⟩
 ·omega
 refine⟨g,cap,rfl,hg,hle,fun i hi=>?_,hb⟩
 rw[cell_of_row _ _ _ _ _ _ hh]
 have h1:(L.map (Value.int .u8))[i]?=some (.int .u8 (L.getD i 0)):=by simp[List.getD,hi]
 rw[<-htake,List.getElem?_take]at h1
 simpa[hi]using h1
def Je(u k:Nat)(h:k<8):(gI u).take (k+1)=(gI u).take k++[((u/256 ^ k:Nat):Int)%256]:=by
 have:k=0\/k=1\/k=2\/k=3\/k=4\/k=5\/k=6\/k=7:=by omega
 rcases this with rfl|rfl|rfl|rfl|rfl|rfl|rfl|rfl<;>simp[gI]
def QG{w wr w1:World}{v v':Value}{L:List Int}{x:Int}{o:Obj}(hb:Below w.heap.size w wr)
  (hown:wr.ownsRow w.heap.size 5 1 v L.length (L.map (Value.int .u8)))
  (hown':w1.ownsRow w.heap.size 5 1 v' (L.length+1) (L.map (Value.int .u8)++[.int .u8 x])) (hg:(wr.alloc o).grownBy w1 v.ownBlock) :
  w1.ownsRow w.heap.size 5 1 v' (L++[x]).length ((L++[x]).map (Value.int .u8))/\Below w.heap.size w w1:=by
 refine⟨by simpa using hown',(hb.alloc hb.size o).grown hg (by have:=hb.size;simp;omega) (fun j hj=>(hown.lt j hj).1)⟩
def VM(n:Int)(w:World):
  Calls prog 32 #[.int .i64 n] w (qI (gI (U n)) w):=by
 have u:=ki n
 obtain⟨i0,hi,hz0,hz1,hz2⟩:=info_parts Tryz.infoByte
 go_enter func32,ntmps32
 go_wp2_with fail
 go_loopw [3,4,5] (fun u v i wr=>∃(k m:Nat) (L:List Int),k<=8/\i=.int .i64 k/\u=.int .u64 m/\Hid (m=U n/256 ^ k/\L=(gI (U n)).take k/\L.length=k)/\Hid (m<18446744073709551616) /\
   wr.ownsRow w.heap.size 5 1 v L.length (L.map (Value.int .u8))/\Below w.heap.size w wr) (fun _ _ i _=>8-(intOf i).toNat)
 case atStart=>exact⟨0,U n,[],by omega,rfl,rfl,⟨by simp,by simp,rfl⟩,xM n,World.ownsRow_nil _ _ _ _,Below.refl _ _⟩
 case round =>
  obtain⟨k,m,L,hk,rfl,rfl,hL,hm,hown,hbel⟩:=hrel
  by_cases hlt:k<8
  ·have hm':(m:Int)<=18446744073709551615:=by have:=hm.out;omega
   go_wp2_with (at_builtin;refine wpList_append_own _ rfl _ _ 22 rfl w.heap.size 5 i0 (.int .u8 0) 1 1 underlying22 hi hz0 hz1 hz2 rfl (by decide) _ _ _ rfl (hown.alloc _) ⟨wr.heap.size,0,none⟩ 1 1 [.int .u8 ((m:Int)%256)] rfl rfl ?c1 ?c2 ?c3 ?c4 ?c5 ?_)
   case c1 =>
    intro j u hj
    match j,hj with
    | 0,hj=>simp at hj;subst hj;simp[Addr.add]
   case c2=>intro u hu;simp at hu;subst hu;rfl
   case c3=>have:=hL.out.2.2;unfold maxLen;omega
   case c4=>have:=hL.out.2.2;omega
   case c5=>have:=hbel.size;simp;omega
   intro v' w1 hown' hgrow _
   have R:=QG hbel hown hown' hgrow
   have hL':Hid (m/256=U n/256 ^ (k+1)/\L++[(m:Int)%256]=(gI (U n)).take (k+1)/\(L++[(m:Int)%256]).length=k+1):=by
    obtain⟨a,b,c⟩:=hL.out
    refine⟨by rw[a,Nat.div_div_eq_div_mul,Nat.pow_succ],by rw[Je _ _ hlt,<-b,<-a],by simp[c]⟩
   have hm2:Hid (m/256<18446744073709551616):=by have:=hm.out;show _<_;omega
   clear hL hm hown hbel hown' hgrow
   go_wp2
   go_roundw
   case rel=>exact⟨k+1,m/256,L++[(m:Int)%256],by omega,by go_num,by go_num,hL',hm2,R.1,R.2⟩
   case measure=>simp[intOf];omega
  go_wp2
  go_ret
  have e:L=gI (U n):=by
   rw[hL.out.2.1];exact List.take_of_length_le (by rw[Ab];omega)
  rw[<-e]
  exact NW hown (by have:=hL.out.2.2;omega) hbel
def pm:List Int->Nat
 | []=>0
 | x::t=>x.toNat+256*pm t
def Gc(xs ys:List Int):pm (xs++ys)=pm xs+256 ^ xs.length*pm ys:=by
 induction xs with
 | nil=>simp[pm]
 | cons x t ih =>
  simp only[List.cons_append,pm,ih,List.length_cons,Nat.pow_succ,Nat.mul_add,Nat.add_assoc]
  rw[<-Nat.mul_assoc 256,Nat.mul_comm 256 (256 ^ _)]
def Vm(xs:List Int)(h:∀x∈xs,0<=x/\x<256):pm xs<256 ^ xs.length:=by
 induction xs with
 | nil=>simp[pm]
 | cons x t ih =>
  have h1:=ih fun y hy=>h y (List.mem_cons_of_mem _ hy)
  have h2:=h x List.mem_cons_self
  simp only[pm,List.length_cons,Nat.pow_succ]
  omega
def Ng{xs:List Int}(h:∀x∈xs,0<=x/\x<256)(k:Nat)(hk:k<xs.length):0<=xs.getD k 0/\xs.getD k 0<256:=by
 have e:xs.getD k 0=xs[k]:=by simp[List.getD,hk]
 rw[e];exact h _ (List.getElem_mem hk)
def Ol(xs:List Int)(k:Nat)(hk:k<xs.length):xs.take (k+1)=xs.take k++[xs.getD k 0]:=by
 rw[List.take_add_one,List.getElem?_eq_getElem hk];simp[List.getD,hk]
def VA(acc x k:Nat)(hacc:acc<256 ^ k)(hx:x<256)(hk:k<8):
  bits .or .u64 (acc:Int) (IntKind.u64.wrap ((x:Int)*2 ^ (8*k)))=((acc+256 ^ k*x:Nat):Int):=by
 have e0:(256:Nat) ^ k=2 ^ (8*k):=by rw[show(256:Nat)=2 ^ 8 from rfl,<-Nat.pow_mul]
 have e1:(x:Int)*2 ^ (8*k)=((x*2 ^ (8*k):Nat):Int):=by simp
 have hp:2 ^ (8*k)<=2 ^ 56:=Nat.pow_le_pow_right (by omega) (by omega)
 have hq:x*2 ^ (8*k)<=255*2 ^ 56:=Nat.mul_le_mul (by omega) hp
 have h56:(2:Nat) ^ 56=72057594037927936:=by decide
 rw[e0]at hacc
 rw[e1,IntWalk.u64_in _ (by omega),u64_or_nat _ _ (by omega) (by omega),e0]
 congr 1
 have:=Nat.shiftLeft_add_eq_or_of_lt hacc x
 rw[Nat.shiftLeft_eq]at this
 rw[Nat.or_comm,<-this,Nat.mul_comm,Nat.add_comm]
def Rb(b o c:Nat)(xs:List Int)(w:World)(hl:xs.length=8)(hb:∀x∈xs,0<=x/\x<256)(hc:∀i,i<8->w.cell? ⟨b,o+i,none⟩=some (.int .u8 (xs.getD i 0))):
  Calls prog 73 #[.slice (some ⟨b,o,none⟩) 8 c] w fun e w'=>e=.returned (.tuple #[.int .i64 (wrap64 (pm xs)),.int .i64 0])/\w=w':=by
 have HC:=Lib.hid hc
 have HL:=Lib.hid hl
 have HB:=Lib.hid hb
 clear hc hl hb
 go_enter func73,ntmps73
 go_wp2_with fail
 go_loop [4,12] (fun a i=>∃k m:Nat,k<=8/\i=.int .i64 k/\a=.int .u64 m/\Hid (m=pm (xs.take k))) (fun _ i=>8-(intOf i).toNat)
 case atStart=>exact⟨0,0,by omega,rfl,rfl,rfl⟩
 case round =>
  obtain⟨k,m,hk,rfl,rfl,hm⟩:=hrel
  by_cases hlt:k<8
  ·obtain⟨x,hx,hx2,hcell⟩:∃x:Nat,(xs.getD k 0=(x:Int))/\x<256/\w.cell? ⟨b,o+k,none⟩=some (.int .u8 (x:Int)):=by
    have h1:=Ng HB.out k (by have:=HL.out;omega)
    refine⟨(xs.getD k 0).toNat,by omega,by omega,?_⟩
    rw[HC.out k hlt]
    congr 2
    omega
   have hmlt:m<256 ^ k:=by
    have:=Vm (xs.take k) fun y hy=>HB.out y (List.mem_of_mem_take hy)
    rw[<-hm.out,List.length_take]at this
    rwa [Nat.min_eq_left (by have:=HL.out;omega)]at this
   have hor:=VA m x k hmlt hx2 hlt
   have hm':Hid (m+256 ^ k*x=pm (xs.take (k+1))):=by
    show _=_
    rw[Ol _ _ (by have:=HL.out;omega),Gc,<-hm.out,hx,List.length_take,Nat.min_eq_left (by have:=HL.out;omega)]
    simp[pm]
   generalize m+256 ^ k*x=m' at *
   clear hm hmlt hx
   go_wp2
   go_round
   case rel=>exact⟨k+1,m',by omega,by go_num,rfl,hm'⟩
   case measure=>simp[intOf];omega
  have e:m=pm xs:=by rw[hm.out,List.take_of_length_le (by have:=HL.out;omega)]
  clear hm
  go_wp2
  go_ret2
  exact⟨rfl,rfl⟩
def ab(n:Int):Prop:=-9223372036854775808<=n/\n<=9223372036854775807
def aV(m:bf)(at_ n:Int):Bool:=decide (n=0\/(0<n/\0<=at_/\at_+n<=m.b.length))
def cP(m:bf)(at_:Int):Int:=if aV m at_ 8 then(if at_.tmod 8=0 then 0 else -23)else -9
def Ik(l:List UInt8):Int:=wrap64 (pm (l.map fun b=>(b.toNat:Int)))
def an(m:bf)(at_:Int):Int×Int:=if cP m at_=0 then(Ik ((m.b.drop at_.toNat).take 8),0)else(0,cP m at_)
def o6(m:bf)(at_ n:Int)(hm:m.b.length<=9223372036854775807)(ha:ab at_)(hn:ab n):af prog 102 [gH m,i64 at_,i64 n] (boo (aV m at_ n)):=by
 unfold ab at ha hn
 refine zY func102 fun B=>?_
 refine zu2 ?_
 refine zp3 ?_
 refine Wb 9 rfl (fun hg1=>?_) (fun hg1=>?_)
 ·refine z6 ?_
  iterate 21 refine z6 ?_
  refine zs2 ?_
  refine zR ?_
  exact congrArg boo (by(simp only[aV,bB];rw[Bool.eq_iff_iff];simp only[dnL]at *;(try simp only[bB,wrap64]at *);omega))
 refine zy3 ?_
 refine Wb 12 rfl (fun hg2=>?_) (fun hg2=>?_)
 ·refine zy4 ?_
  refine Wb 16 rfl (fun hg3=>?_) (fun hg3=>?_)
  ·refine zy5 ?_
   refine zy2 ?_
   refine Wb 23 rfl (fun hg4=>?_) (fun hg4=>?_)
   ·refine zy5 ?_
    refine zs5 ?_
    refine zR ?_
    exact congrArg boo (by(simp only[aV,bB];rw[Bool.eq_iff_iff];simp only[dnL]at *;(try simp only[bB,wrap64]at *);omega))
   refine z6 ?_
   iterate 6 refine z6 ?_
   refine zs3 ?_
   refine zR ?_
   exact congrArg boo (by(simp only[aV,bB];rw[Bool.eq_iff_iff];simp only[dnL]at *;(try simp only[bB,wrap64]at *);omega))
  refine z6 ?_
  iterate 4 refine z6 ?_
  refine zy2 ?_
  iterate 7 refine z6 ?_
  refine zs3 ?_
  refine zR ?_
  exact congrArg boo (by(simp only[aV,bB];rw[Bool.eq_iff_iff];simp only[dnL]at *;(try simp only[bB,wrap64]at *);omega))
 refine z6 ?_
 refine z6 ?_
 refine zy2 ?_
 iterate 5 refine z6 ?_
 refine zy2 ?_
 iterate 7 refine z6 ?_
 refine zs3 ?_
 refine zR ?_
 exact congrArg boo (by(simp only[aV,bB];rw[Bool.eq_iff_iff];simp only[dnL]at *;(try simp only[bB,wrap64]at *);omega))
def BN(m:bf)(at_ n:Int)(hm:m.b.length<=9223372036854775807)(ha:ab at_)(hn:ab n):af prog 59 [gH m,i64 at_,i64 n] (boo (aV m at_ n)):=by
 unfold ab at ha hn
 refine zY func59 fun B=>?_
 refine zu2 ?_
 refine Ws<|zu2 ?_
 refine Wi rfl (fun hi1=>?_) (fun hi1=>?_)
 ·refine zu1 ?_
  refine zR ?_
  exact congrArg boo (by(simp only[aV,bB];rw[Bool.eq_iff_iff];simp only[dnL]at *;(try simp only[bB,wrap64]at *);omega))
 refine Wj<|zp3 ?_
 refine Wb 11 rfl (fun hg1=>?_) (fun hg1=>?_)
 ·refine zy4 ?_
  refine Wb 15 rfl (fun hg2=>?_) (fun hg2=>?_)
  ·refine zy5 ?_
   refine zy2 ?_
   refine Wb 22 rfl (fun hg3=>?_) (fun hg3=>?_)
   ·refine zy5 ?_
    refine zs4 ?_
    refine zR ?_
    exact congrArg boo (by(simp only[aV,bB];rw[Bool.eq_iff_iff];simp only[dnL]at *;(try simp only[bB,wrap64]at *);omega))
   refine z6 ?_
   iterate 6 refine z6 ?_
   refine zs2 ?_
   refine zR ?_
   exact congrArg boo (by(simp only[aV,bB];rw[Bool.eq_iff_iff];simp only[dnL]at *;(try simp only[bB,wrap64]at *);omega))
  refine z6 ?_
  iterate 4 refine z6 ?_
  refine zy2 ?_
  iterate 7 refine z6 ?_
  refine zs2 ?_
  refine zR ?_
  exact congrArg boo (by(simp only[aV,bB];rw[Bool.eq_iff_iff];simp only[dnL]at *;(try simp only[bB,wrap64]at *);omega))
 refine z6 ?_
 refine z6 ?_
 refine zy2 ?_
 iterate 5 refine z6 ?_
 refine zy2 ?_
 iterate 7 refine z6 ?_
 refine zs2 ?_
 refine zR ?_
 exact congrArg boo (by(simp only[aV,bB];rw[Bool.eq_iff_iff];simp only[dnL]at *;(try simp only[bB,wrap64]at *);omega))
def az9:ab 8:=by unfold ab;omega
def y7(m:bf)(at_:Int)(hm:m.b.length<=9223372036854775807)(ha:ab at_):af prog 72 [gH m,i64 at_] (i64 (cP m at_)):=by
 refine zY func72 fun B=>?_
 refine zu2 ?_
 refine Ws<|Wl<|zp2 ?_
 refine zc rfl func102 ((o6 m at_ 8 hm ha az9) _) ?_
 refine zs2 ?_
 refine Wi rfl (fun hi1=>?_) (fun hi1=>?_)
 ·refine zu1 ?_
  refine zR ?_
  simp_all[cP,gY,jC,Ow,i64,boo,str]
 refine zu4 ?_
 refine Wi rfl (fun hi2=>?_) (fun hi2=>?_)
 ·refine zu1 ?_
  refine zR ?_
  simp_all[cP,gY,jC,Ow,i64,boo,str]
 refine Wj<|zu1 ?_
 refine zR ?_
 simp_all[cP,gY,jC,Ow,i64,boo,str]
def N9(m:bf)(at_:Int)(h:cP m at_=0)(ha:ab at_)(hm:m.b.length<=140737488355328):0<=at_/\at_+8<=m.b.length/\wrap64 (at_+8)=at_+8:=by
 unfold cP aV at h
 simp only[decide_eq_true_eq]at h
 split at h
 ·rename_i h0
  refine⟨by omega,by omega,?_⟩
  unfold wrap64 ab at *;omega
 omega
def II{c:Cx}{l:List UInt8}{b:Addr}{vs:List Value}(hrl:ay c (l.flatMap ar) vs):vs=l.map (fun x=>Value.int .u8 (x.toNat:Int)):=by
 rw[j7]at hrl
 rw[qr hrl,List.map_map]
 rfl
def FM{f:FuncId}(l:List UInt8)(hl:l.length=8)(H0:∀(b o c:Nat) (xs:List Int) (w:World) (hl:xs.length=8) (hb:∀x∈xs,0<=x/\x<256) (hc:∀i,i<8->w.cell? ⟨b,o+i,none⟩=some (.int .u8 (xs.getD i 0))),Calls prog f #[.slice (some ⟨b,o,none⟩) 8 c] w fun e w'=>e=.returned (.tuple #[.int .i64 (wrap64 (pm xs)),.int .i64 0])/\w=w'):
  af prog f [sq ar l] (gY (i64 (Ik l)) (i64 0)):=by
 intro H B σ w vs s hv
 match vs,hv with
 | [],hv=>unfold ay at hv;obtain⟨u,us,h1,_⟩:=hv;cases h1
 | v::vs,hv =>
  rw[ai,aF]at hv
  obtain⟨hv,rfl⟩:=hv
  unfold sq at hv
  obtain⟨ad,cap,ws,rfl,hle,hnil,hrl,hlies,_⟩:=gc hv
  have hws:=II (b:=default) hrl
  have hwl:ws.length=8:=by rw[hws];simpa using hl
  match ad,hnil,hlies with
  | none,hnil,_=>have:=(hnil rfl).1;omega
  | some b,_,hlies =>
   have hl2:=(hlies b rfl).resolve_right (by rintro⟨_,h3⟩;rw[h3]at hwl;simp at hwl)
   have hbe:=gC hl2
   rw[hbe,hl]
   refine Calls.mono (H0 b.block b.off cap (l.map fun x=>(x.toNat:Int)) w (by simpa using hl) (fun x hx=>?_) (fun i hi=>(hl2.2 i _ (by rw[hws,List.getElem?_map,List.getElem?_eq_getElem (by omega)];simp[List.getD,show i<l.length by omega])).1)) ?_
   ·obtain⟨y,_,rfl⟩:=List.mem_map.1 hx
    have:=y.toNat_lt;omega
   rintro e w' ⟨rfl,rfl⟩
   refine⟨_,σ,rfl,?_,s,dU.refl _ _ _ _⟩
   unfold gY Rep
   exact⟨[_,_],rfl,ai.2 ⟨av _ _,ai.2 ⟨av _ _,aF.2 rfl⟩⟩⟩
def NA(l:List UInt8)(hl:l.length=8):af prog 73 [sq ar l] (gY (i64 (Ik l)) (i64 0)):=FM l hl Rb
def aF0{m:bf}{at_:Int}(h0:0<=at_)(h1:at_+8<=m.b.length)(h2:wrap64 (at_+8)=at_+8):((m.b.take (IntKind.i64.wrap (at_+8)).toNat).drop at_.toNat).length=8:=by
 rw[bB,h2];simp;omega
def aF8{m:bf}{at_:Int}(h0:0<=at_)(h1:at_+8<=m.b.length)(h2:wrap64 (at_+8)=at_+8):(m.b.take (IntKind.i64.wrap (at_+8)).toNat).drop at_.toNat=(m.b.drop at_.toNat).take 8:=by
 rw[bB,h2,List.drop_take];congr 1;omega
def qq(r:Int×Int):PV:=gY (i64 r.1) (i64 r.2)
@[simp] theorem Yx (r : Int × Int) : aQ (qq r) := by simp [qq]
def fX(m:bf)(at_:Int)(hm:m.b.length<=140737488355328)(ha:ab at_):af prog 39 [gH m,i64 at_] (qq (an m at_)):=by
 have hF:cP m at_=0->0<=at_/\at_+8<=m.b.length/\wrap64 (at_+8)=at_+8:=fun h=>N9 m at_ h ha hm
 refine zY func39 fun B=>?_
 refine zu3 ?_
 refine Ws<|zp2 ?_
 refine zc rfl func72 ((y7 m at_ (by omega) ha) _) ?_
 refine zs1 ?_
 refine zu2 ?_
 refine Wi rfl (fun hi1=>?_) (fun hi1=>?_)
 ·refine zu3 ?_
  refine zR ?_
  simp_all[qq,an,gY,i64]
 have h0:cP m at_=0:=by simpa using hi1
 obtain⟨k0,k1,k2⟩:=hF h0
 refine Wj<|zp5 ?_
 refine z2 ?_ (q:=(by rw[bB,k2];omega))
 refine Wa 18 rfl (cF ar 1 (fun _=>rfl) (by rw[bB,k2];omega)) ?_
 refine zc rfl func73 ((NA _ (aF0 k0 k1 k2)) _) ?_
 refine zs4 ?_
 refine zR ?_
 (rw[aF8 k0 k1 k2];simp[qq,an,gY,i64,h0])
def ny:af prog 98 [] (sq fa aq):=by
 refine zY func98 fun B=>?_
 refine zu1 ?_
 refine zp1 ?_
 refine Wa 1 rfl (bsL fa [_,_,_,_,_,_,_,_,_,_,_,_,_,_,_,_,_,_,_,_,_,_,_,_,_,_,_,_,_,_,_,_,_,_,_,_,_,_,_,_,_,_,_,_,_,_,_,_,_,_,_,_,_,_,_,_,_,_,_,_,_,_,_,_,_,_,_,_,_,_,_,_,_,_,_,_,_,_,_,_,_,_,_,_,_,_,_,_,_,_,_,_,_,_,_,_,_,_,_,_,_,_,_,_,_,_,_,_,_,_,_,_,_,_,_,_,_,_,_,_,_,_,_,_,_,_,_,_,_,_] rfl rfl) ?_
 refine zs1 ?_
 refine zR ?_
 exact rfl
@[simp] theorem Yw (l : List oL) : aQ (sqc jX l) := kQ xd l
@[simp] theorem aj9 (l : List u4) : aQ (sqc vk l) := kQ B3 l
@[simp] theorem ai7 (l : List UInt8) : aQ (sqc ar l) := kQ nZ l
@[simp] theorem aj8 (l : List Int) : aQ (sqc au l) := kQ CY l
def xh(l:List UInt8)(hl:l.length<=140737488355328):af prog 172 [sq ar l] (sq ar l):=by
 refine zY func172 fun B=>?_
 refine zu1 ?_
 refine Ws<|zp1 ?_
 refine vJ (lO tG rfl) rfl rfl rfl rfl rfl (fun bn1 hn1=>?_)
 refine Wn<|Wi rfl (fun hi1=>?_) (fun hi1=>?_)
 ·refine zu1 ?_
  refine zR ?_
  exact as3 (hn1 hi1)
 refine Wj<|zp2 ?_
 refine Wd rfl rfl (bK (lO tG rfl) rfl (lO tG rfl) (lO tG rfl) rfl rfl (by exact⟨_,rfl⟩) (by exact⟨rfl,rfl,al _ 1 (fun _=>rfl) _,bi _ (fun _=>rfl) _⟩) (by rfl) (by(dsimp only;omega)) (by(omega))) ?_
 refine Wa 7 rfl (sr ar) ?_
 refine zs1 ?_
 refine zR ?_
 rfl
def HT(l:List Int)(hl:l.length<=1000000):af prog 201 [sq au l] (sq au l):=by
 refine zY func201 fun B=>?_
 refine zu1 ?_
 refine Ws<|zp1 ?_
 refine vJ (lO tG rfl) rfl rfl rfl rfl rfl (fun bn1 hn1=>?_)
 refine Wn<|Wi rfl (fun hi1=>?_) (fun hi1=>?_)
 ·refine zu1 ?_
  refine zR ?_
  exact as3 (hn1 hi1)
 refine Wj<|zp2 ?_
 refine Wd rfl rfl (bK (lO tG rfl) rfl (lO tG rfl) (lO tG rfl) rfl rfl (by exact⟨_,rfl⟩) (by exact⟨rfl,rfl,al _ 1 (fun _=>rfl) _,bi _ (fun _=>rfl) _⟩) (by rfl) (by(dsimp only;omega)) (by(omega))) ?_
 refine Wa 7 rfl (sr au) ?_
 refine zs1 ?_
 refine zR ?_
 rfl
def Ed(l:List oL)(hl:l.length<=1000000):af prog 171 [sq jX l] (sqc jX l):=by
 refine zY func171 fun B=>?_
 refine zu1 ?_
 refine zp5 ?_
 refine z2 ?_ (q:=(by(simp_all;done)))
 refine Wa 8 rfl (cF jX 2 (fun _=>rfl) (by omega)) ?_
 refine zs1 ?_
 refine Wq ?_
 exact nE rfl (by simp[sqc];rfl)
def wi(l:List u4)(hl:l.length<=1000000):af prog 384 [sq vk l] (sqc vk l):=by
 refine zY func384 fun B=>?_
 refine zu1 ?_
 refine zp5 ?_
 refine z2 ?_ (q:=(by(simp_all;done)))
 refine Wa 8 rfl (cF vk 6 (fun _=>rfl) (by omega)) ?_
 refine zs1 ?_
 refine Wq ?_
 exact nE rfl (by simp[sqc];rfl)
def J9(l:List UInt8)(hl:l.length<=140737488355328):af prog 221 [sq ar l] (sqc ar l):=by
 refine zY func221 fun B=>?_
 refine zu1 ?_
 refine zp5 ?_
 refine z2 ?_ (q:=(by(simp_all;done)))
 refine Wa 8 rfl (cF ar 1 (fun _=>rfl) (by omega)) ?_
 refine zs1 ?_
 refine Wq ?_
 exact nE rfl (by simp[sqc];rfl)
def t2i(r:Int×Int):PV:=gY (i64 r.1) (i64 r.2)
def t3i(r:Int×Int×Int):PV:=jC (i64 r.1) (i64 r.2.1) (i64 r.2.2)
@[simp] theorem as2 (r : Int × Int) : aQ (t2i r) := by simp [t2i]
@[simp] theorem aq6 (r : Int × Int × Int) : aQ (t3i r) := by simp [t3i]
def be.drewN(w:World)(n:Nat):be w (w.drewN n):=by
 have e:w.drewN n={w with drawn:=w.drawn+n}:=rfl
 exact⟨rfl,rfl,rfl,Nat.le_refl _,fun b hb=>rfl⟩
def X3{P:Program}{f:FuncId}{args:List Value}{r:Int×Int}(h:∀w,Calls P f args.toArray w fun e w'=>e=.returned (.tuple #[.int .i64 r.1,.int .i64 r.2])/\be w w'):af P f (args.map .val) (t2i r) :=
 dM (v:=.tuple #[.int .i64 r.1,.int .i64 r.2]) (fun c=>by unfold t2i gY Rep;exact⟨[_,_],rfl,ai.2 ⟨av _ _,ai.2 ⟨av _ _,aF.2 rfl⟩⟩⟩) h
def Lb{P:Program}{f:FuncId}{args:List Value}{r:Int×Int×Int}(h:∀w,Calls P f args.toArray w fun e w'=>e=.returned (.tuple #[.int .i64 r.1,.int .i64 r.2.1,.int .i64 r.2.2])/\be w w'):af P f (args.map .val) (t3i r) :=
 dM (v:=.tuple #[.int .i64 r.1,.int .i64 r.2.1,.int .i64 r.2.2]) (fun c=>by unfold t3i jC Rep;exact⟨[_,_,_],rfl,ai.2 ⟨av _ _,ai.2 ⟨av _ _,ai.2 ⟨av _ _,aF.2 rfl⟩⟩⟩⟩) h
def ZX{P:Program}{f:FuncId}{args:List Value}{r:Bool}(h:∀w,Calls P f args.toArray w fun e w'=>e=.returned (.bool r)/\be w w'):af P f (args.map .val) (boo r) :=
 dM (v:=.bool r) (fun c=>av _ _) h
def LX{w:World}{v:Value}:∀{e:Ending} {w':World},(e=.returned v/\w=w')->(e=.returned v/\be w w'):=by rintro e w' ⟨h,rfl⟩;exact⟨h,be.refl _⟩
def Ly{w:World}{v:Value}:∀{e:Ending} {w':World},(e=.returned v/\∃n,w'=w.drewN n)->(e=.returned v/\be w w'):=by rintro e w' ⟨h,n,rfl⟩;exact⟨h,be.drewN _ _⟩
def Et(a b:Int):af prog 359 [i64 a,i64 b] (boo (decide (U a<U b))):=ZX (args:=[.int .i64 a,.int .i64 b]) fun w=>Calls.mono (t7 a b w) fun _ _ h=>LX h
def ZR(a b:Int):af prog 284 [i64 a,i64 b] (t2i (r2 a b)):=X3 (args:=[.int .i64 a,.int .i64 b]) fun w=>Calls.mono (px a b w) fun _ _ h=>LX h
def Yu(a b:Int)(ha:Fit a)(hb:Fit b):af prog 278 [i64 a,i64 b] (t2i (wB a b)):=X3 (args:=[.int .i64 a,.int .i64 b]) fun w=>Calls.mono (QF a b w ha hb) fun _ _ h=>LX h
def Q6(a b:Int)(hb:Fit b):af prog 272 [i64 a,i64 b] (t3i (mP a b)):=Lb (args:=[.int .i64 a,.int .i64 b]) fun w=>Calls.mono (O2 a b w hb) fun _ _ h=>Ly h
def IJ(lo hi d:Int):af prog 287 [i64 lo,i64 hi,i64 d] (t3i (il lo hi d)):=Lb (args:=[.int .i64 lo,.int .i64 hi,.int .i64 d]) fun w=>Calls.mono (BI lo hi d w) fun _ _ h=>Ly h
def aa7(lo hi d:Int)(hh:Fit hi)(hd:Fit d):af prog 289 [i64 lo,i64 hi,i64 d] (t3i (kY lo hi d)):=Lb (args:=[.int .i64 lo,.int .i64 hi,.int .i64 d]) fun w=>Calls.mono (MK lo hi d w hh hd) fun _ _ h=>Ly h
def PO(lo hi d:Int)(hh:Fit hi)(hd:Fit d):af prog 279 [i64 lo,i64 hi,i64 d] (t3i (jt lo hi d)):=Lb (args:=[.int .i64 lo,.int .i64 hi,.int .i64 d]) fun w=>Calls.mono (Nq lo hi d w hh hd) fun _ _ h=>Ly h
end Go.Proofs.YtjcminooghmpeaaGreatDoor
namespace Go.Proofs.YtjcminooghmpeaaGreatDoor
open Go.ChangeShapes Go.WideShapes Go.ChangeAt Go.RowKit
open Go.ChangeMaps (open_string)
def Rd(w:World)(t:TypeId)(cs:List Value):Prop:=∃(H:Type) (enc:TypeId×Value->H) (fuel:Nat) (x:DataW H×List MemPlace),DataW.trod enc prog w 0 (fun _=>true) true fuel t cs=some x
def zL(w:World)(t:TypeId)(v:Value):Prop:=∃(H:Type) (enc:TypeId×Value->H) (d:DataW H) (p:List MemPlace) (base:Nat),Value.okWide prog w .any base t v/\DataW.Trod enc prog w 0 (fun _=>true) true t v d p
def Po{w:World}{t:TypeId}{v:Value}(h:zL w t v):Rd w t v.cells.toList:=by
 obtain⟨H,enc,d,p,base,_,fuel,hf⟩:=h
 exact⟨H,enc,fuel,_,hf⟩
def Om{w:World}{t:TypeId}{v:Value}{k:IntKind}(ht:prog.underlying t=some (.int k))(h:zL w t v):∃n,v=.int k n/\(Lit.int k n).wf=true:=by
 obtain⟨H,enc,d,p,base,hv,hd⟩:=h
 obtain⟨n,hn,_,_,hw⟩:=open_int ht hv hd
 exact⟨n,hn,hw⟩
def Fv{w:World}{t:TypeId}{v:Value}{e:TypeId}(ht:prog.underlying t=some (.slice e))(h:zL w t v):∃a len cap,v=.slice a len cap/\Rd w t [.slice a len cap]:=by
 have hr:=Po h
 obtain⟨H,enc,d,p,base,hv,hd⟩:=h
 obtain⟨a,len,cap,rfl⟩:=okWide_slice ht hv
 exact⟨a,len,cap,rfl,hr⟩
def Y8{w:World}{t:TypeId}{cs:List Value}{k:IntKind}(ht:prog.underlying t=some (.int k))(h:Rd w t cs):∃n,cs=[.int k n]/\(Lit.int k n).wf=true:=by
 obtain⟨H,enc,fuel,x,hf⟩:=h
 obtain⟨n,hc,_,hw⟩:=DataW.trod_int ht hf
 exact⟨n,hc,hw⟩
def T9{w:World}{t:TypeId}{cs:List Value}{e:TypeId}(ht:prog.underlying t=some (.slice e))(h:Rd w t cs):
  cs=[.slice none 0 0]\/∃(a:Addr) (len cap:Nat),cs=[.slice (some a) len cap]/\len<=cap/\cap<=maxLen /\
   ∀i,i<cap->∃es,w.cells? 0 (a.add (i*prog.cellsOf e)) (prog.cellsOf e)=some es/\Rd w e es:=by
 obtain⟨H,enc,fuel,x,hx⟩:=h
 rcases DataW.trod_slice ht hx with ⟨h0,_⟩|⟨a,len,cap,elems,rest,n,_,hc,_,_,hl,hm,hlen,hel,hsp,_⟩
 ·exact .inl h0
 refine .inr ⟨a,len,cap,hc,hl,hm,fun i hi=>?_⟩
 have key:∀(o:Option (List Value)) (y:Option (DataW H×List MemPlace)) (k:Nat) (l:List (DataW H×List MemPlace)),k<l.length->o.bind (DataW.trod enc prog w 0 (fun _=>true) true n e)=l[k]?->∃es,o=some es/\Rd w e es:=by
  intro o y k l hk ho
  rw[List.getElem?_eq_getElem hk]at ho
  cases o with
  | none=>cases ho
  | some es=>exact⟨es,rfl,H,enc,n,_,ho⟩
 by_cases h1:i<len
 ·exact key _ none i elems (by omega) (hel i h1)
 obtain⟨hr1,hr2⟩:=hsp rfl
 have:=hr2 (i-len) (by omega)
 rw[show len+(i-len)=i from by omega]at this
 exact key _ none (i-len) rest (by omega) this
def XK{n:Int}(h:(Lit.int .u8 n).wf=true):0<=n/\n<=255:=by
 have:=h;simp[Lit.wf,IntKind.min,IntKind.max,IntKind.bits,IntKind.signed]at this;omega
open Go.RowKit
def c0(w:World):Cx:=cx (fun _ _=>False) [] (fun _=>none) w
def wr0(w:World)(b off:Nat):¬(c0 w).Wr b off:=by
 rintro(h|⟨i,oi,h1,_⟩)
 ·exact h
 simp at h1
def ID{w:World}{t:TypeId}{cs:List Value}{k:IntKind}(ht:prog.underlying t=some (.int k))(h:Rd w t cs):∃n,(Lit.int k n).wf=true/\ay (c0 w) [.val (.int k n)] cs:=by
 obtain⟨n,rfl,hw⟩:=Y8 ht h
 exact⟨n,hw,ai.2 ⟨av _ _,aF.2 rfl⟩⟩
def Bh{α:Type}(enc:α->List PV)(Ok:α->Prop){w:World}{cs:List Value}(k:Nat)(hk0:0<k)(Q:List Value->Prop)(hel:∀es,Q es->∃x,Ok x/\ay (c0 w) (enc x) es)
  (h:cs=[.slice none 0 0]\/∃(a:Addr) (len cap:Nat),cs=[.slice (some a) len cap]/\len<=cap/\cap<=maxLen/\∀i,i<cap->∃es,w.cells? 0 (a.add (i*k)) k=some es/\Q es) :
  ∃l:List α,(∀x∈l,Ok x)/\l.length<=maxLen/\ay (c0 w) [.seq l.length (l.flatMap enc) .any] cs:=by
 rcases h with rfl|⟨a,len,cap,rfl,hlc,hcap,hc⟩
 ·refine⟨[],by simp,by simp,ai.2 ⟨?_,aF.2 rfl⟩⟩
  have:=yb (c0 w)
  exact og _ _ _ _ _ this
 have build:∀n,n<=len->a.spot=none->∃(l:List α) (vs:List Value),l.length=n/\(∀x∈l,Ok x)/\ay (c0 w) (l.flatMap enc) vs/\vs.length=n*k/\∀j,j<n*k->w.cell? ⟨a.block,a.off+j,none⟩=vs[j]?:=by
  intro n hn hs
  induction n with
  | zero=>exact⟨[],[],rfl,by simp,aF.2 rfl,by simp,fun j hj=>by simp at hj⟩
  | succ n ih =>
   obtain⟨l,vs,h1,h2,h3,h4,h5⟩:=ih (by omega)
   obtain⟨es,h6,h7⟩:=hc n (by omega)
   obtain⟨_,h8,h9⟩:=World.cells?_some h6
   obtain⟨x,hx,hr⟩:=hel es h7
   refine⟨l++[x],vs++es,by simp[h1],?_,?_,by rw[List.length_append,h4,h8,Nat.succ_mul],fun j hj=>?_⟩
   ·intro y hy;rcases List.mem_append.1 hy with hy|hy
    ·exact h2 y hy
    simp at hy;subst hy;exact hx
   ·rw[List.flatMap_append];refine ay.append h3 ?_;simpa using hr
   by_cases hj':j<n*k
   ·rw[List.getElem?_append_left (by omega)];exact h5 j hj'
   rw[List.getElem?_append_right (by omega),h4]
   rw[Nat.succ_mul]at hj
   rw[<-h9 (j-n*k) (by omega)]
   have e:(a.add (n*k)).add (j-n*k)=⟨a.block,a.off+j,none⟩:=by
    obtain⟨b,o,sp⟩:=a
    simp only at hs
    subst hs
    rw[Addr.add_lit,Addr.add_lit]
    have:o+n*k+(j-n*k)=o+j:=by omega
    rw[this]
   rw[e]
 by_cases h0:cap=0
 ·have hl0:len=0:=by omega
  subst hl0
  refine⟨[],by simp,by simp,ai.2 ⟨?_,aF.2 rfl⟩⟩
  unfold Rep
  exact⟨some a,cap,[],rfl,by simp,(fun h=>by cases h),aF.2 rfl,(fun b hb=>.inr ⟨h0,rfl⟩),trivial⟩
 have hs:a.spot=none:=by
  obtain⟨es,h6,_⟩:=hc 0 (by omega)
  obtain⟨_,h8,h9⟩:=World.cells?_some h6
  have h10:=h9 0 hk0
  simp only[Nat.zero_mul]at h10
  have e:(a.add 0).add 0=a:=by simp[Addr.add]
  rw[e,List.getElem?_eq_getElem (by omega)]at h10
  unfold World.cell? at h10
  cases hsp:a.spot with
  | none=>rfl
  | some q=>rw[hsp]at h10;split at h10<;>simp at h10
 obtain⟨l,vs,h1,h2,h3,h4,h5⟩:=build len (Nat.le_refl _) hs
 refine⟨l,h2,by omega,ai.2 ⟨?_,aF.2 rfl⟩⟩
 unfold Rep
 refine⟨some a,cap,vs,by rw[h1],by omega,(fun h=>by cases h),h3,fun b hb=>.inl ?_,trivial⟩
 cases hb
 refine⟨hs,fun j u hj=>⟨?_,wr0 w _ _⟩⟩
 have hjl:=cL hj
 have:=h5 j (by omega)
 rw[hj]at this
 exact this
def DD{α:Type}(enc:α->List PV)(Ok:α->Prop){w:World}{t e:TypeId}{cs:List Value}(k:Nat)(ht:prog.underlying t=some (.slice e))(hk:prog.cellsOf e=k)(hk0:0<k)(hel:∀es,Rd w e es->∃x,Ok x/\ay (c0 w) (enc x) es)(h:Rd w t cs):
  ∃l:List α,(∀x∈l,Ok x)/\l.length<=maxLen/\ay (c0 w) [.seq l.length (l.flatMap enc) .any] cs :=
 Bh enc Ok k hk0 (Rd w e) hel (by rw[<-hk];exact T9 ht h)
def Nk(n:Nat)(h0:0<n)(hn:n<=1000000)(w:World):Calls prog 252 #[.slice none 0 0,.int .i64 n] w fun e w' =>
  ∃cs:Array Value,e=.returned (.slice (some ⟨w.heap.size,0,none⟩) 0 (grownCap w n 0 3))/\w'=w.drew.alloc (.cells cs 3)/\grownCap w n 0 3<=cs.size:=by
 have h1:¬((n:Int)<0):=by omega
 have h3:wrap64 ((n:Int)-0)=(n:Int):=by unfold wrap64;omega
 have h4:(n:Int)>0:=by omega
 have fe:ao prog 3 ⟨1,8,[.val (.int .i64 0)],.int .i64⟩:=lO (G:=tys) tG rfl
 have fs:ao prog 29 ⟨1,24,[.seq 0 [] .clip],.slice 3⟩:=lO (G:=tys) tG rfl
 obtain⟨i,z,hi,hsz,hby,hz,hzr⟩:=fe.info
 have hr:=fun ty=>Lib.run_append_nil_zeros (P:=prog) w 29 3 ty 3 i z .i64 .i64 (fs.slice rfl) (by kernel_rfl) hi hz n h0 (by rw[hsz];exact Nat.one_pos) (by omega) (by rw[hby];show n*8<=_;omega)
 have hGn:n<=grownCap w n 0 3:=grownCap_ge w _ _ _
 have hzl:z.cells.size=1:=by have:=ay.length (hzr (c0 w));rw[Array.length_toList]at this;rw[this];rfl
 have hG63:grownCap w n 0 3<=9223372036854775807:=by
  have:=grownCap_le_maxLen w n 0 3 (by unfold maxLen;omega)
  unfold maxLen at this
  omega
 obtain⟨G,hG⟩:∃G,G=grownCap w n 0 3:=⟨_,rfl⟩
 rw[<-hG]at hr hGn hG63 ⊢
 have hcs:∀q:Array Value,q.size=1->G<=(Builtin.zeroCells q n++Builtin.zeroCells q (G-n)).size:=by
  intro q hq
  rw[Array.size_append,size_zeroCells,size_zeroCells,hq];omega
 clear hG
 go_enter func252,ntmps252
 go_wp2_with (at_builtin;refine Lib.wpList_append_run _ rfl _ _ _ _ rfl _ _ rfl rfl _ _ (hr _) ?_)
 all_goals (go_ret;exact⟨rfl,_,rfl,hcs _ (by first|exact hzl|rfl)⟩)
def MZ(w:World):Calls prog 252 #[.slice none 0 0,.int .i64 0] w fun e w'=>e=.returned (.slice none 0 0)/\w'=w:=by
 go_enter func252,ntmps252
 go_wp2
 go_ret
 exact⟨rfl,rfl⟩
def Mq{B:Nat->Nat->Prop}{o:Oper}{T:Nat->PV}{H:List Ob}{x:Operand}{ats:Array TypeId}{n:Nat}(ho:o.op=.call {callee:=.value (.func 252),args:=#[.const (.slice none 0 0),x],argTypes:=ats})(hx:opv T x=.val (.int .i64 (n:Int)))(hn:n<=1000000):
  lW prog B o T H (.seq 0 [] (.own H.length 1)) (H++[.free 0]):=by
 intro σ w a s ha
 have k1:=ha x (by rw[ho];simp[Op.operands,Call.operands])
 rw[hx]at k1
 unfold Rep at k1
 refine⟨252,#[.slice none 0 0,.int .i64 n],?_,?_⟩
 ·unfold execOp
  simp only[ho,resolve,Act.eval,Deferred.ofValue,invoke,Sem.run_bind,Sem.run_pure,Result.andThen_ok]
  rw[me func252 rfl rfl]
  have hev:a.eval x=.int .i64 n:=k1
  simp[Act.eval]at hev ⊢
  exact hev
 by_cases h0:n=0
 ·subst h0
  refine Calls.mono (MZ w) ?_
  rintro e w' ⟨rfl,rfl⟩
  obtain⟨s',st⟩:=eR s (be.refl w') (.free 0) none (fun b hb=>by cases hb) (fun b hb=>by simp only[cx]at hb;rw[bw]at hb;cases hb)
  refine⟨_,_,rfl,?_,s',st⟩
  unfold Rep
  exact⟨none,0,[],rfl,Nat.le_refl _,fun _=>⟨rfl,rfl,rfl⟩,aF.2 rfl,(fun b h=>by cases h),by simp[cx],rfl,.inl rfl⟩
 refine Calls.mono (Nk n (by omega) hn w) ?_
 rintro e w' ⟨cs,rfl,rfl,hcs⟩
 have gr:be w (w.drew.alloc (.cells cs 3)):=(be.drew w).trans (be.alloc _ _)
 have hheap:(w.drew.alloc (.cells cs 3)).heap[w.heap.size]?=some (Obj.cells cs 3 (0,0)):=by
  show(w.heap.push _)[w.heap.size]?=_;simp
 obtain⟨s',st⟩:=eR s gr (.free 0) (some w.heap.size) (fun b hb=>by cases hb;exact Nat.le_refl _) (fun b hb=>by
  simp only[cx]at hb;rw[bw]at hb;cases hb
  exact⟨_,3,hheap,Nat.zero_le _⟩)
 refine⟨_,_,rfl,rv (vs:=[]) (aF.2 rfl) (by simp) (bw _ _ _) hheap rfl (Nat.zero_le _) (by rw[Nat.mul_one];exact hcs) (fun j hj=>by simp at hj) (fun off hoff=>by simp at hoff),s',st⟩
def Br(l:List Int):List PV:=[sq au l]
@[simp] theorem MR (x : List Int) : aG (Br x) := by simp [Br, aG]
@[simp] theorem al2 (l : List (List Int)) : aQ (sq Br l) := gl MR l
def aF1{a b:Nat}(ha:a<=500000)(hb:b<=500000):PV.val (.int .i64 (IntKind.i64.wrap (IntKind.i64.wrap (0+(a:Int))+(b:Int))))=.val (.int .i64 ((a+b:Nat):Int)) :=
 zI9 (by simp only[bB];unfold wrap64;omega)
def La(a b:List Int)(ha:a.length<=500000)(hb:b.length<=500000):af prog 202 [sq Br [a,b]] (sq au (a++b)):=by
 refine zY func202 fun B=>?_
 refine zu1 ?_
 refine zu1 ?_
 refine Ws<|zu3 ?_
 refine Wl<|jF 3 ?_
 show W _ _ _ _ _ _ _
 refine zu1 ?_
 refine Ws<|Wt rfl (by rfl) ?_
 refine Wj<|Ws<|Wl<|z8 ?_
 refine Wv tG rfl rfl rfl (by(simp_all;done)) (iN Br 1 (fun _=>rfl) [] (by(simp_all;done))) ?_
 refine z1 ?_
 refine Wa 14 rfl (show _=sq au a from rfl) ?_
 refine zs1 ?_
 refine zu5 ?_
 refine zu2 ?_
 refine Wf rfl (by(simp only[bB,decide_eq_false_iff_not];unfold wrap64;omega)) ?_
 refine Wj<|aa rfl ?_
 refine z1 ?_
 refine Wa 22 rfl (show _=PV.val (.int .i64 1) from rfl) ?_
 refine zs1 ?_
 show W _ _ _ _ _ _ _
 refine zu1 ?_
 refine Ws<|Wt rfl (by rfl) ?_
 refine Wj<|Ws<|Wl<|z8 ?_
 refine Wv tG rfl rfl rfl (by(simp_all;done)) (iN Br 1 (fun _=>rfl) [] (by(simp_all;done))) ?_
 refine z1 ?_
 refine Wa 14 rfl (show _=sq au b from rfl) ?_
 refine zs1 ?_
 refine zu5 ?_
 refine zu2 ?_
 refine Wf rfl (by(simp only[bB,decide_eq_false_iff_not];unfold wrap64;omega)) ?_
 refine Wj<|aa rfl ?_
 refine z1 ?_
 refine Wa 22 rfl (show _=PV.val (.int .i64 2) from rfl) ?_
 refine zs1 ?_
 show W _ _ _ _ _ _ _
 refine zu1 ?_
 refine Ws<|Wf rfl (by rfl) ?_
 refine aU ?_
 refine zp1 ?_
 refine Wa 23 rfl (aF1 ha hb) ?_
 refine Wc rfl rfl (Mq rfl rfl (by omega)) ?_
 refine zs1 ?_
 refine Ws<|zu3 ?_
 refine Wl<|jF 3 ?_
 show W _ _ _ _ _ _ _
 refine zu1 ?_
 refine Ws<|Wt rfl (by rfl) ?_
 refine Wj<|Ws<|Wl<|z8 ?_
 refine Wv tG rfl rfl rfl (by(simp_all;done)) (iN Br 1 (fun _=>rfl) [] (by(simp_all;done))) ?_
 refine z1 ?_
 refine Wa 30 rfl (show _=sq au a from rfl) ?_
 refine zs1 ?_
 refine aa rfl ?_
 refine zy2 ?_
 refine Wd rfl rfl (cH (lO tG rfl) rfl (lO tG rfl) (lO tG rfl) rfl rfl rfl rfl (by simp) (by exact⟨_,rfl⟩) (by exact⟨rfl,rfl,al _ 1 (fun _=>rfl) _,bi _ (fun _=>rfl) _⟩) (by(dsimp only;omega)) (by(omega))) ?_
 refine Wa 33 rfl (sr au) ?_
 refine zs1 ?_
 refine aa rfl ?_
 refine z1 ?_
 refine Wa 34 rfl (show _=PV.val (.int .i64 1) from rfl) ?_
 refine zs1 ?_
 show W _ _ _ _ _ _ _
 refine zu1 ?_
 refine Ws<|Wt rfl (by rfl) ?_
 refine Wj<|Ws<|Wl<|z8 ?_
 refine Wv tG rfl rfl rfl (by(simp_all;done)) (iN Br 1 (fun _=>rfl) [] (by(simp_all;done))) ?_
 refine z1 ?_
 refine Wa 30 rfl (show _=sq au b from rfl) ?_
 refine zs1 ?_
 refine aa rfl ?_
 refine zy2 ?_
 refine Wd rfl rfl (cH (lO tG rfl) rfl (lO tG rfl) (lO tG rfl) rfl rfl rfl rfl (by simp) (by exact⟨_,rfl⟩) (by exact⟨rfl,rfl,al _ 1 (fun _=>rfl) _,bi _ (fun _=>rfl) _⟩) (by(dsimp only;omega)) (by(omega))) ?_
 refine Wa 33 rfl (bT au) ?_
 refine zs1 ?_
 refine aa rfl ?_
 refine z1 ?_
 refine Wa 34 rfl (show _=PV.val (.int .i64 2) from rfl) ?_
 refine zs1 ?_
 show W _ _ _ _ _ _ _
 refine zu1 ?_
 refine Ws<|Wf rfl (by rfl) ?_
 refine aU ?_
 refine zu2 ?_
 refine zR ?_
 rfl
def B7{α:Type}{a b:List α}{k:Nat}(d:α)(hl:a.length=b.length)(hk:k<a.length)(h:a.take k=b.take k)(he:a.getD k d=b.getD k d):a.take (k+1)=b.take (k+1):=by
 rw[fI a k d hk,fI b k d (by omega),h,he]
def Sj{α:Type}{a b:List α}{k:Nat}(d:α)(he:a.getD k d≠b.getD k d):a≠b:=fun h=>he (by rw[h])
def MW(a b:List Int)(ha:a.length<=1000000)(hb:b.length<=1000000):af prog 20 [sq au a,sq au b] (boo (decide (a=b))):=by
 refine zY func20 fun B=>?_
 refine zu1 ?_
 refine Ws<|zu5 ?_
 refine Wi rfl (fun hi1=>?_) (fun hi1=>?_)
 ·have hne:a≠b:=fun h=>by subst h;simp at hi1
  refine zu1 ?_
  refine zR ?_
  exact congrArg boo (decide_eq_false hne).symm
 have hl:a.length=b.length:=by(try simp only[dnL]at *);omega
 refine Wj<|Ws<|zu1 ?_
 refine Wl ?_
 show W _ _ _ _ _ _ _
 refine cQ (fun(k:Nat)=>[(0,sq au a),(1,sq au b),(5,i64 k)]) (fun(k:Nat)=>[]) (fun(k:Nat)=>[]) (fun(k:Nat)=>k<=a.length/\a.take k=b.take k) (fun(k:Nat)=>a.length-k) (0) (by simp) [] ?_ ?_
 ·exact cV
 intro k hk
 refine Ws<|zu4 ?_
 refine Wi rfl (fun hi2=>?_) (fun hi2=>?_)
 ·have hlt:k<a.length:=by have:=oT hi2;omega
  refine Wj<|Ws<|Wl<|Ws<|am [0,0,0,1,0,0,0,1,0] [0,1,2,3,4,5,6,7,8] mG rfl (by kernel_rfl) ?_
  iterate 2 refine z3 ?_
  refine Xi tG rfl rfl rfl rfl (fun _=>rfl) (by omega) (iN au 1 (fun _=>rfl) 0 (by omega)) ?_
  refine z5 ?_
  iterate 2 refine z3 ?_
  refine Xi tG rfl rfl rfl rfl (fun _=>rfl) (by omega) (iN au 1 (fun _=>rfl) 0 (by omega)) ?_
  refine z5 ?_
  refine z3 ?_
  refine ap ?_
  refine Wi rfl (fun hi3=>?_) (fun hi3=>?_)
  ·have hne:a≠b:=Sj 0 (k:=k) (by simpa using hi3)
   refine zu1 ?_
   refine zR ?_
   exact congrArg boo (decide_eq_false hne).symm
  have he:a.getD k 0=b.getD k 0:=by simpa using hi3
  refine Wj<|aa rfl ?_
  refine zs3 ?_
  exact⟨k+1,[],(by exact⟨by omega,B7 0 hl hlt hk.2 he⟩),(by omega),cV⟩
 have hge:a.length<=k:=by have:=oF hi2;omega
 refine aU ?_
 refine zu1 ?_
 refine zR ?_
 exact congrArg boo (decide_eq_true (by have h1:=hk.2;rw[lj a k hge,lj b k (by omega)]at h1;exact h1)).symm
def dW(c:nj):Prop:=2048<=c.mem/\c.mem<=65536/\c.mem.tmod 8=0/\1<=c.data/\c.data<=256/\1<=c.ret/\c.ret<=256/\200<=c.words/\c.words<=1024/\0<=c.out/\c.out<=65536
instance (c:nj):Decidable (dW c):=by unfold dW;infer_instance
def SE(c:nj):af prog 46 [Km c] (boo (decide (dW c))):=by
 refine zY func46 fun B=>?_
 refine zu2 ?_
 refine zp4 ?_
 refine Wb 6 rfl (fun hg1=>?_) (fun hg1=>?_)
 ·refine zy5 ?_
  refine Wb 11 rfl (fun hg2=>?_) (fun hg2=>?_)
  ·refine zy5 ?_
   refine z1 ?_
   refine Wb 17 rfl (fun hg3=>?_) (fun hg3=>?_)
   ·refine zy5 ?_
    refine Wb 22 rfl (fun hg4=>?_) (fun hg4=>?_)
    ·refine zy5 ?_
     refine Wb 27 rfl (fun hg5=>?_) (fun hg5=>?_)
     ·refine zy5 ?_
      refine Wb 32 rfl (fun hg6=>?_) (fun hg6=>?_)
      ·refine zy5 ?_
       refine Wb 37 rfl (fun hg7=>?_) (fun hg7=>?_)
       ·refine zy5 ?_
        refine Wb 42 rfl (fun hg8=>?_) (fun hg8=>?_)
        ·refine zy5 ?_
         refine Wb 47 rfl (fun hg9=>?_) (fun hg9=>?_)
         ·refine zy5 ?_
          refine Wb 52 rfl (fun hg10=>?_) (fun hg10=>?_)
          ·refine zs5 ?_
           refine zR ?_
           (refine congrArg boo (decide_eq_decide.2 ?_);unfold dW;(try simp only[dnL]at *);omega)
          refine z6 ?_
          iterate 2 refine z6 ?_
          refine zs2 ?_
          refine zR ?_
          (refine congrArg boo (decide_eq_false ?_).symm;unfold dW;(try simp only[dnL]at *);omega)
         refine z6 ?_
         iterate 2 refine z6 ?_
         refine zy2 ?_
         iterate 3 refine z6 ?_
         refine zs2 ?_
         refine zR ?_
         (refine congrArg boo (decide_eq_false ?_).symm;unfold dW;(try simp only[dnL]at *);omega)
        refine z6 ?_
        iterate 2 refine z6 ?_
        refine zy2 ?_
        iterate 3 refine z6 ?_
        refine zy2 ?_
        iterate 3 refine z6 ?_
        refine zs2 ?_
        refine zR ?_
        (refine congrArg boo (decide_eq_false ?_).symm;unfold dW;(try simp only[dnL]at *);omega)
       refine z6 ?_
       iterate 2 refine z6 ?_
       refine zy2 ?_
       iterate 3 refine z6 ?_
       refine zy2 ?_
       iterate 3 refine z6 ?_
       refine zy2 ?_
       iterate 3 refine z6 ?_
       refine zs2 ?_
       refine zR ?_
       (refine congrArg boo (decide_eq_false ?_).symm;unfold dW;(try simp only[dnL]at *);omega)
      refine z6 ?_
      iterate 2 refine z6 ?_
      refine zy2 ?_
      iterate 3 refine z6 ?_
      refine zy2 ?_
      iterate 3 refine z6 ?_
      refine zy2 ?_
      iterate 3 refine z6 ?_
      refine zy2 ?_
      iterate 3 refine z6 ?_
      refine zs2 ?_
      refine zR ?_
      (refine congrArg boo (decide_eq_false ?_).symm;unfold dW;(try simp only[dnL]at *);omega)
     refine z6 ?_
     iterate 2 refine z6 ?_
     refine zy2 ?_
     iterate 3 refine z6 ?_
     refine zy2 ?_
     iterate 3 refine z6 ?_
     refine zy2 ?_
     iterate 3 refine z6 ?_
     refine zy2 ?_
     iterate 3 refine z6 ?_
     refine zy2 ?_
     iterate 3 refine z6 ?_
     refine zs2 ?_
     refine zR ?_
     (refine congrArg boo (decide_eq_false ?_).symm;unfold dW;(try simp only[dnL]at *);omega)
    refine z6 ?_
    iterate 2 refine z6 ?_
    refine zy2 ?_
    iterate 3 refine z6 ?_
    refine zy2 ?_
    iterate 3 refine z6 ?_
    refine zy2 ?_
    iterate 3 refine z6 ?_
    refine zy2 ?_
    iterate 3 refine z6 ?_
    refine zy2 ?_
    iterate 3 refine z6 ?_
    refine zy2 ?_
    iterate 3 refine z6 ?_
    refine zs2 ?_
    refine zR ?_
    (refine congrArg boo (decide_eq_false ?_).symm;unfold dW;(try simp only[dnL]at *);omega)
   refine z6 ?_
   iterate 2 refine z6 ?_
   refine zy2 ?_
   iterate 3 refine z6 ?_
   refine zy2 ?_
   iterate 3 refine z6 ?_
   refine zy2 ?_
   iterate 3 refine z6 ?_
   refine zy2 ?_
   iterate 3 refine z6 ?_
   refine zy2 ?_
   iterate 3 refine z6 ?_
   refine zy2 ?_
   iterate 3 refine z6 ?_
   refine zy2 ?_
   iterate 3 refine z6 ?_
   refine zs2 ?_
   refine zR ?_
   (refine congrArg boo (decide_eq_false ?_).symm;unfold dW;(try simp only[dnL]at *);omega)
  refine z6 ?_
  iterate 3 refine z6 ?_
  refine zy2 ?_
  iterate 3 refine z6 ?_
  refine zy2 ?_
  iterate 3 refine z6 ?_
  refine zy2 ?_
  iterate 3 refine z6 ?_
  refine zy2 ?_
  iterate 3 refine z6 ?_
  refine zy2 ?_
  iterate 3 refine z6 ?_
  refine zy2 ?_
  iterate 3 refine z6 ?_
  refine zy2 ?_
  iterate 3 refine z6 ?_
  refine zy2 ?_
  iterate 3 refine z6 ?_
  refine zs2 ?_
  refine zR ?_
  (refine congrArg boo (decide_eq_false ?_).symm;unfold dW;(try simp only[dnL]at *);omega)
 refine z6 ?_
 iterate 2 refine z6 ?_
 refine zy2 ?_
 iterate 4 refine z6 ?_
 refine zy2 ?_
 iterate 3 refine z6 ?_
 refine zy2 ?_
 iterate 3 refine z6 ?_
 refine zy2 ?_
 iterate 3 refine z6 ?_
 refine zy2 ?_
 iterate 3 refine z6 ?_
 refine zy2 ?_
 iterate 3 refine z6 ?_
 refine zy2 ?_
 iterate 3 refine z6 ?_
 refine zy2 ?_
 iterate 3 refine z6 ?_
 refine zy2 ?_
 iterate 3 refine z6 ?_
 refine zs2 ?_
 refine zR ?_
 (refine congrArg boo (decide_eq_false ?_).symm;unfold dW;(try simp only[dnL]at *);omega)
def dV(p:dL):Prop:=p.b.length<=130/\(p.on=true\/p.b.length=0)
instance (p:dL):Decidable (dV p):=by unfold dV;infer_instance
def lK(m:bf):Bool:=m.old.all (fun p=>aV m p.place p.old.length)&&(decide (m.b.length<=65536)&&decide (m.b.length%8=0))
def Ts{α:Type}{f:α->Bool}{l:List α}{k:Nat}(d:α)(hk:k<l.length)(h:(l.take k).all f=true)(hf:f (l.getD k d)=true):(l.take (k+1)).all f=true:=by
 rw[fI l k d hk,List.all_append,h];simp only[List.all_cons,List.all_nil,hf];rfl
def So{α:Type}{l:List α}{k:Nat}(d:α)(hk:k<l.length):l.getD k d∈l:=by
 unfold List.getD
 rw[List.getElem?_eq_getElem hk]
 exact List.getElem_mem hk
def BA:af prog 47 [] (sq fa aq):=by
 refine zY func47 fun B=>?_
 refine zu1 ?_
 refine zp1 ?_
 refine Wa 1 rfl (bsL fa [_,_,_,_,_,_,_,_,_,_,_,_,_,_,_,_,_,_,_,_,_,_,_,_,_,_,_,_,_,_,_,_,_,_,_,_,_,_,_,_,_,_,_,_,_,_,_,_,_,_,_,_,_,_,_,_,_,_,_,_,_,_,_,_,_,_,_,_,_,_,_,_,_,_,_,_,_,_,_,_,_,_,_,_,_,_,_,_,_,_,_,_,_,_,_,_,_,_,_,_,_,_,_,_,_,_,_,_,_,_,_,_,_,_,_,_,_,_,_,_,_,_,_,_,_,_,_,_,_,_] rfl rfl) ?_
 refine zs1 ?_
 refine zR ?_
 exact rfl
def eG:af prog 71 [] (sq fa bG):=by
 refine zY func71 fun B=>?_
 refine zu1 ?_
 refine zp1 ?_
 refine Wa 1 rfl (bsL fa [_,_,_,_,_,_,_,_,_,_,_,_,_,_,_,_,_,_,_,_,_,_,_,_,_,_,_,_,_,_,_,_,_,_,_,_,_] rfl rfl) ?_
 refine zs1 ?_
 refine zR ?_
 exact rfl
def De:af prog 48 [] (sq fa bG):=by
 refine zY func48 fun B=>?_
 refine zu1 ?_
 refine zp1 ?_
 refine Wa 1 rfl (bsL fa [_,_,_,_,_,_,_,_,_,_,_,_,_,_,_,_,_,_,_,_,_,_,_,_,_,_,_,_,_,_,_,_,_,_,_,_,_] rfl rfl) ?_
 refine zs1 ?_
 refine zR ?_
 exact rfl
def vZ(n lo hi:Int):af prog 97 [i64 n,i64 lo,i64 hi] (boo (decide (lo<=n/\n<=hi))):=by
 refine zY func97 fun B=>?_
 refine zu1 ?_
 refine zp4 ?_
 refine Wb 10 rfl (fun hg1=>?_) (fun hg1=>?_)
 ·refine zs5 ?_
  refine zR ?_
  (refine congrArg boo (decide_eq_decide.2 ?_);(try simp only[dnL]at *);omega)
 refine z6 ?_
 iterate 2 refine z6 ?_
 refine zs2 ?_
 refine zR ?_
 (refine congrArg boo (decide_eq_false ?_).symm;(try simp only[dnL]at *);omega)
def zn:af prog 218 [] (i64 1368):=by
 have h1:=lf
 have h2:=ij
 refine zY func218 fun B=>?_
 refine zu1 ?_
 refine z8 ?_
 refine zc rfl func98 ((ny) _) ?_
 refine z1 ?_
 refine zc rfl func71 ((eG) _) ?_
 refine zs5 ?_
 refine zR ?_
 refine congrArg i64 ?_;rw[h1,h2];decide
def iJ(v:VVm)(s:Str):VVm×Int:=if (s.length:Int)>v.conf.out-v.out.length then(v,-260)else({v with out:=v.out++s},0)
def tVm(r:VVm×Int):PV:=gY (eVm r.1) (i64 r.2)
@[simp] theorem ao0 (r : VVm × Int) : aQ (tVm r) := by simp [tVm]
def AY{l m:Str}{k:SK}:PV.seq (l.length+(⟨m.toArray⟩:ByteArray).size) (l.flatMap ar++(⟨m.toArray⟩:ByteArray).data.toList.map fun b=>j0 b.toNat) k=.seq (l++m).length ((l++m).flatMap ar) k:=by
 have h:(⟨m.toArray⟩:ByteArray).data.toList.map (fun b=>j0 b.toNat)=m.flatMap ar:=by rw[j7,List.map_map];rfl
 rw[cE,h,<-List.flatMap_append,List.length_append]
def GW(v:VVm)(s:Str)(hc:0<=v.conf.out/\v.conf.out<=1000000)(ho:v.out.length<=1000000)(hs:s.length<=140737488355328):af prog 190 [eVm v,str s] (tVm (iJ v s)):=by
 have w1:IntKind.i64.wrap (v.conf.out-v.out.length)=v.conf.out-v.out.length:=by((rw[bB];unfold wrap64;(try simp only[dnL]at *);omega))
 refine zY func190 fun B=>?_
 refine zu3 ?_
 refine Ws<|zp2 ?_
 refine Wa 7 rfl (eM _) ?_
 refine zy5 ?_
 refine zs3 ?_
 refine Wi rfl (fun hi1=>?_) (fun hi1=>?_)
 ·have h0:(s.length:Int)>v.conf.out-v.out.length:=by(try simp only[dnL]at *);omega
  refine zu3 ?_
  refine zR ?_
  rw[iJ,if_pos h0];rfl
 have h0:¬(s.length:Int)>v.conf.out-v.out.length:=by(try simp only[dnL]at *);omega
 have h1:(⟨s.toArray⟩:ByteArray).size=s.length:=cE s
 refine Wj<|zp2 ?_
 refine zc rfl func221 ((J9 v.out (by omega)) _) ?_
 refine z1 ?_
 refine Wd rfl rfl (bK (lO tG rfl) rfl (lO tG rfl) (lO tG rfl) rfl rfl (by rfl) (by exact⟨rfl,rfl,rfl⟩) (by exact al _ 1 (fun _=>rfl) _) (by(dsimp only;omega)) (by(omega))) ?_
 refine Wa 21 rfl (AY) ?_
 refine zs2 ?_
 refine zu3 ?_
 refine zR ?_
 rw[iJ,if_neg h0];rfl
def eU(n:Int):Prop:=(0<=n/\n<=129)\/(256<=n/\n<=260)\/(300<=n/\n<=336)
instance (n:Int):Decidable (eU n):=by unfold eU;infer_instance
def az(v:VVm)(xt:Int):Int×Int:=if (an v.mem xt).2=0 then(if eU (an v.mem xt).1 then((an v.mem xt).1,0)else(0,-9))else(0,(an v.mem xt).2)
def qh(v:VVm)(xt:Int)(hm:v.mem.b.length<=140737488355328)(hx:ab xt):af prog 67 [eVm v,i64 xt] (qq (az v xt)):=by
 have h1:=lf
 have h2:=ij
 refine zY func67 fun B=>?_
 refine zu3 ?_
 refine zp3 ?_
 refine zc rfl func39 ((fX v.mem xt hm hx) _) ?_
 refine zs5 ?_
 refine Ws<|zu2 ?_
 refine Wi rfl (fun hi1=>?_) (fun hi1=>?_)
 ·have h0:¬(an v.mem xt).2=0:=by simpa using hi1
  refine zu3 ?_
  refine zR ?_
  rw[az,if_neg h0];rfl
 have h0:(an v.mem xt).2=0:=by simpa using hi1
 have w1:IntKind.i64.wrap (IntKind.i64.wrap (300+(bG.length:Int))-1)=336:=by rw[h2];decide
 have w2:IntKind.i64.wrap ((aq.length:Int)-1)=129:=by rw[h1];decide
 refine Wj<|Ws<|zp1 ?_
 refine zc rfl func98 ((ny) _) ?_
 refine zy2 ?_
 refine zc rfl func97 ((vZ _ _ _) _) ?_
 refine z1 ?_
 refine Wb 23 rfl (fun hg1=>?_) (fun hg1=>?_)
 ·refine z6 ?_
  refine z6 ?_
  refine zy2 ?_
  iterate 6 refine z6 ?_
  refine zs1 ?_
  refine Wt rfl rfl ?_
  refine zu3 ?_
  refine zR ?_
  (rw[az,if_pos h0,if_pos (by unfold eU;(try simp only[dnL]at *);omega)];rfl)
 refine z1 ?_
 refine zc rfl func97 ((vZ _ _ _) _) ?_
 refine zy2 ?_
 refine Wb 27 rfl (fun hg2=>?_) (fun hg2=>?_)
 ·refine z6 ?_
  iterate 5 refine z6 ?_
  refine zs1 ?_
  refine Wt rfl rfl ?_
  refine zu3 ?_
  refine zR ?_
  (rw[az,if_pos h0,if_pos (by unfold eU;(try simp only[dnL]at *);omega)];rfl)
 refine z1 ?_
 refine zc rfl func71 ((eG) _) ?_
 refine zy3 ?_
 refine zc rfl func97 ((vZ _ _ _) _) ?_
 refine zs1 ?_
 refine Wi rfl (fun hi2=>?_) (fun hi2=>?_)
 ·refine zu3 ?_
  refine zR ?_
  (rw[az,if_pos h0,if_pos (by unfold eU;(try simp only[dnL]at *);omega)];rfl)
 refine Wj<|zu2 ?_
 refine zR ?_
 (rw[az,if_pos h0,if_neg (by unfold eU;(try simp only[dnL]at *);omega)];rfl)
def upC(c:UInt8):UInt8:=if 97<=c.toNat/\c.toNat<=122 then c-32 else c
def K8(l:Str):Str:=l.map upC
def FV(a b:Str):Bool:=decide (K8 a=K8 b)
def WM{c:UInt8}(h:97<=c.toNat/\c.toNat<=122):IntKind.u8.wrap ((c.toNat:Int)-32)=((upC c).toNat:Int):=by
 unfold upC
 rw[if_pos h,UInt8.toNat_sub]
 simp[IntKind.wrap,IntKind.bits,IntKind.signed]
 omega
def OT{c:UInt8}(h:¬(97<=c.toNat/\c.toNat<=122)):upC c=c:=by unfold upC;rw[if_neg h]
def RR(l:List UInt8)(k:Nat)(hk:k<l.length)(H:List Ob)(i:Nat)(hi:H[i]?=some (.cells (l.flatMap ar) 5)):HC prog 126 [.ptr i k] H (.tup []) (H.set i (.cells ((l.set k (upC (l.getD k 0))).flatMap ar) 5)):=by
 revert hi
 revert i H
 refine jb (off:=k) tG (rs:=[]) func126 rfl rfl rfl (by simp) (by simp) (bo nZ _) (bo nZ _) (fun B=>?_)
 refine zp2 ?_
 refine Wd rfl rfl (co (lO tG rfl) rfl rfl rfl (DT rfl hk)) ?_
 refine zy2 ?_
 refine Wb 6 rfl (fun hg1=>?_) (fun hg1=>?_)
 ·refine zy2 ?_
  refine Wd rfl rfl (co (lO tG rfl) rfl rfl rfl (DT rfl hk)) ?_
  refine zs2 ?_
  refine Wi rfl (fun hi1=>?_) (fun hi1=>?_)
  ·refine aa rfl ?_
   refine zy2 ?_
   refine Wd rfl rfl (co (lO tG rfl) rfl rfl rfl (DT rfl hk)) ?_
   refine z1 ?_
   refine Wa 15 rfl (congrArg (fun z=>PV.val (Value.int .u8 z)) (WM (c:=l.getD k 0) (by simp only[decide_eq_true_eq]at *;omega))) ?_
   refine z1 ?_
   refine Wd rfl rfl (bH (lO tG rfl) rfl rfl rfl rfl rfl rfl (by rw[Nat.ble_eq,al ar 1 (fun _=>rfl)];simp;omega)) ?_
   refine iS (H':=[.cells ((l.set k (upC (l.getD k 0))).flatMap ar) 5]) (by rw[<-rR hk];rfl) ?_
   refine Wn<|bg rfl rfl ?_ ?_
   ·rfl
   rfl
  refine Wj<|bg rfl rfl ?_ ?_
  ·rfl
  (rw[OT (by simp only[decide_eq_true_eq,decide_eq_false_iff_not]at *;omega)];congr 1;simp[List.getD,hk])
 refine z6 ?_
 iterate 3 refine z6 ?_
 refine zs1 ?_
 refine Wf rfl rfl ?_
 refine Wj<|bg rfl rfl ?_ ?_
 ·rfl
 (rw[OT (by simp only[decide_eq_true_eq,decide_eq_false_iff_not]at *;omega)];congr 1;simp[List.getD,hk])
def aw3{l:Str}{k:Nat}(h:k<l.length):((l.take k).map upC++l.drop k).getD k 0=l.getD k 0:=by
 have hl:((l.take k).map upC).length=k:=by simp;omega
 unfold List.getD
 rw[List.getElem?_append_right (by omega),hl,Nat.sub_self,List.getElem?_drop,Nat.add_zero]
def Xp{l:Str}{k:Nat}(h:k<l.length):((l.take k).map upC++l.drop k).set k (upC (((l.take k).map upC++l.drop k).getD k 0))=(l.take (k+1)).map upC++l.drop (k+1):=by
 have hl:((l.take k).map upC).length=k:=by simp;omega
 rw[aw3 h,List.drop_eq_getElem_cons h,List.set_append_right _ _ (by omega),hl,Nat.sub_self,List.set_cons_zero,fI l k 0 h,List.map_append,List.append_assoc]
 rfl
def ab7{l:Str}{k:Nat}(h:l.length<=k):(l.take k).map upC++l.drop k=K8 l:=by
 rw[lj l k h,List.drop_eq_nil_of_le h,List.append_nil];rfl
def Cz(l:Str)(hl:l.length<=9223372036854775807):af prog 96 [str l] (str (K8 l)):=by
 refine zY func96 fun B=>?_
 refine zu1 ?_
 refine zp1 ?_
 refine Wd rfl rfl (uc (lO tG rfl) rfl (lO tG rfl) rfl (lO tG rfl) rfl rfl rfl) ?_
 refine Wa 7 rfl (show PV.arw 0 0 (⟨l.toArray⟩:ByteArray).size=.arw 0 0 l.length by rw[cE]) ?_
 refine iS (H':=[.cells (l.flatMap ar) 5]) (by rw[j7];simp[List.map_map]) ?_
 refine zs1 ?_
 refine zu1 ?_
 refine Ws<|zu3 ?_
 refine Wl ?_
 show W _ _ _ _ _ _ _
 refine cQ (fun(k:Nat)=>[(3,.arw 0 0 l.length),(4,.fn (.func 126) [] []),(9,i64 l.length),(10,i64 k)]) (fun(k:Nat)=>[.cells (((l.take k).map upC++l.drop k).flatMap ar) 5]) (fun(k:Nat)=>[]) (fun(k:Nat)=>k<=l.length) (fun(k:Nat)=>l.length-k) (0) (by omega) [] ?_ ?_
 ·exact cV
 intro k hk
 refine zu1 ?_
 refine Ws<|Wi rfl (fun hi1=>?_) (fun hi1=>?_)
 ·have hk2:k<l.length:=by have:=oT hi1;omega
  refine Wj<|Ws<|Wl<|zu2 ?_
  refine aa rfl ?_
  refine zy3 ?_
  refine z2 ?_ (q:=(by omega))
  refine Wa 16 rfl ((by show PV.ptr 0 (0+((k:Int)).toNat*1)=.ptr 0 k;simp)) ?_
  refine Wc rfl rfl (dQ rfl rfl func126 rfl rfl (RR ((l.take k).map upC++l.drop k) k (by simp;omega) _ 0 rfl)) ?_
  refine iS (H':=[.cells (((l.take (k+1)).map upC++l.drop (k+1)).flatMap ar) 5]) (by rw[<-Xp hk2];rfl) ?_
  refine Wn<|aa rfl ?_
  refine zs2 ?_
  exact⟨k+1,[],(by omega),(by omega),cV⟩
 refine aU ?_
 refine zp1 ?_
 refine Wd rfl rfl (DQ (lO tG rfl) rfl (lO tG rfl) rfl (lO tG rfl) rfl rfl rfl rfl (by simp;omega)) ?_
 refine zs1 ?_
 refine zR ?_
 exact congrArg str (ab7 (by simp only[decide_eq_false_iff_not]at *;omega))
def M5(a b:Str)(ha:a.length<=9223372036854775807)(hb:b.length<=9223372036854775807):af prog 66 [str a,str b] (boo (FV a b)):=by
 refine zY func66 fun B=>?_
 refine zu1 ?_
 refine zp1 ?_
 refine zc rfl func96 ((Cz a ha) _) ?_
 refine z1 ?_
 refine zc rfl func96 ((Cz b hb) _) ?_
 refine z1 ?_
 refine zq 9 ?_
 refine zs1 ?_
 refine zR ?_
 rfl
end Go.Proofs.YtjcminooghmpeaaGreatDoor
namespace Go.Proofs.YtjcminooghmpeaaGreatDoor
open Go.RowKit (wrap64)
def xb(x q:Int):wrap64 (x+q*18446744073709551616)=wrap64 x:=by unfold wrap64;omega
def Cn(x:Int):∃q,wrap64 x=x+q*18446744073709551616:=⟨-((x+9223372036854775808)/18446744073709551616),by unfold wrap64;omega⟩
def xB(x y:Int):wrap64 (wrap64 x+y)=wrap64 (x+y):=by
 obtain⟨q,h⟩:=Cn x;rw[h,show x+q*18446744073709551616+y=(x+y)+q*18446744073709551616 from by omega,xb]
def wd(c:Int):Int:=if 48<=c/\c<=57 then c-48 else if 97<=c/\c<=122 then c-87 else if 65<=c/\c<=90 then c-55 else -1
def vx(n:Int):Int:=if 0<=n/\n<=9 then 48+n else if 10<=n/\n<=35 then 55+n else 63
def isB(b:Int):Bool:=decide (2<=b)&&decide (b<=36)
def Kd(b:Int):isB b=true↔2<=b/\b<=36:=by unfold isB;simp
def YI(c:Int): -1<=wd c/\wd c<=35:=by unfold wd;split<;>(try split)<;>(try split)<;>omega
def chr(n:Nat):UInt8:=UInt8.ofNat (vx n).toNat
def okD(b:Int)(c:UInt8):Bool:=decide (0<=wd c.toNat)&&decide (wd c.toNat<b)
def ET(b:Int)(c:UInt8):okD b c=true↔0<=wd c.toNat/\wd c.toNat<b:=by unfold okD;simp
def uk(b:Int):Int->List UInt8->Int
 | n,[]=>n
 | n,c::l=>uk b (n*b+wd c.toNat) l
def F6(b:Int)(l m:List UInt8):∀n,uk b n (l++m)=uk b (uk b n l) m:=by
 induction l with
 | nil=>intro n;rfl
 | cons c l ih=>intro n;exact ih _
def MU(b n:Int)(l:List UInt8)(c:UInt8):uk b n (l++[c])=uk b n l*b+wd c.toNat:=by rw[F6];rfl
def Aa(b n:Int)(l:List UInt8)(c:UInt8):wrap64 (wrap64 (wrap64 (uk b n l)*b)+wd c.toNat)=wrap64 (uk b n (l++[c])):=by
 rw[MU,xB,wrap64_mul_left_add]
where
 wrap64_mul_left_add {x y z:Int}:wrap64 (wrap64 x*y+z)=wrap64 (x*y+z):=by
  obtain⟨q,h⟩:=Cn x
  rw[h,Int.add_mul,show q*18446744073709551616*y=(q*y)*18446744073709551616 from by rw[Int.mul_right_comm],show x*y+q*y*18446744073709551616+z=(x*y+z)+(q*y)*18446744073709551616 from by omega,xb]
def po:List UInt8->Option Int
 | [a,c,d]=>if a=39/\d=39/\33<=c.toNat/\c.toNat<=126 then some c.toNat else none
 | _=>none
def vn(l:List UInt8)(b:Int):Int×List UInt8 :=
 match l with
 | []=>(b,[])
 | c::m=>if c=35 then(10,m)else if c=36 then(16,m)else if c=37 then(2,m)else(b,c::m)
def v8(l:List UInt8):List UInt8×Bool :=
 match l with
 | []=>([],false)
 | c::m=>if c=45 then(m,true)else(c::m,false)
def rm(l:List UInt8)(b:Int)(below:Bool):Int×Bool :=
 if l=[]\/isB b=false\/l.all (okD b)=false then(0,false)else(if below then wrap64 (-wrap64 (uk b 0 l))else wrap64 (uk b 0 l),true)
def dR(l:List UInt8)(b:Int):Int×Bool :=
 match po l with
 | some n=>(n,true)
 | none=>rm (v8 (vn l b).2).1 (vn l b).1 (v8 (vn l b).2).2
def Tt(l:List UInt8)(b:Int)(below:Bool)(hb:isB b=true)(hl:l≠[])(hd:l.all (okD b)=true):
  rm l b below=(if below then wrap64 (-wrap64 (uk b 0 l))else wrap64 (uk b 0 l),true):=by
 unfold rm;rw[if_neg (by rw[hb,hd];simp[hl])]
def Tw(l:List UInt8)(b:Int)(below:Bool)(h:l.all (okD b)=false):rm l b below=(0,false):=by
 unfold rm;rw[if_pos (.inr (.inr h))]
def tc(b:Nat):Nat->Nat->List Nat
 | 0,_=>[]
 | k+1,u=>u%b::(if u/b=0 then []else tc b k (u/b))
def nG(u b:Nat):List UInt8:=((tc b 64 u).map chr).reverse
def gy(n b:Int):List UInt8×Int:=if isB b then(nG (U n) b.toNat,0)else([],-24)
def iV(n b:Int):List UInt8×Int:=if isB b then(if 0<=n then nG (U n) b.toNat else 45::nG (U (wrap64 (-n))) b.toNat,0)else([],-24)
def Qv{b:Int}(h:isB b=true):∃B:Nat,b=(B:Int)/\2<=B/\B<=36:=by
 rw[Kd]at h;exact⟨b.toNat,by omega,by omega,by omega⟩
end Go.Proofs.YtjcminooghmpeaaGreatDoor
