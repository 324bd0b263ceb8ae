import Derived.BigQuiet
import Derived.ChangeOld
import Derived.ChangeSlices
import Derived.Deep.CutBlock
import Derived.Deep.DeepCutAuto
import Derived.Deep.QuietTactic
import Derived.Ground.Names2Prog
import Derived.Ground.SlbCloneProg
import Derived.Ground.SlgnProg
import Derived.Handy
import Derived.Laws.BitsAllLaws
import Derived.Laws.CopyOwn
import Derived.Lib.AppendZerosOnto
import Derived.Lib.Hide
import Derived.Lib.ItoaNum
import Derived.Lib.SliceRun
import Derived.Lib.Walk
import Derived.OpenShut
import Derived.Outline
import Derived.ProofKit
import Derived.Shelf.Bits.Mul64
import Derived.Shelf.Bytes.SlClone
import Derived.Shelf.Bytes.SlEqualAll
import Derived.Shelf.Slices.Clone
import Derived.Shelf.Slices.Turned
import Derived.Shelf.SlicesE.Clone
import Derived.Shelf.Small.Bits
import Derived.Shelf.Small.Strs
import Derived.Shelf.Small.Wraps
import Derived.Shelf.Strconv.Itoa0
import Derived.Shelf.Strings.Builder1
import Derived.Shelf.Strings.Builder2
import Derived.Shelf.Strings.Builder2Cap
import Derived.Shelf.Strings.BuilderCap
import Derived.Shelf.Strings.BuilderF
import Derived.Shelf.Strings.BuilderK
import Derived.Shelf.Strings.Prefix
import Derived.Shelf.Strings.Repeat
import Derived.Shelf.Strings.Search1
import Derived.ShutString
import Derived.Test.YtjcminooghmpeaaGreatDoorPk2
set_option linter.all false
set_option maxRecDepth 100000
set_option maxHeartbeats 40000000
open Go.Proofs.Tryz
namespace Go.Proofs
open Go.Shelf
def Tryz.lays134_ren:Go.Shelf.Ren:=⟨fun|134=>387|129=>392|n=>n,fun|53=>121|3=>3|4=>4|46=>322|5=>5|9=>9|n=>n,fun|n=>n⟩
def Tryz.lays134:Go.Proofs.Lays.n134 prog Tryz.lays134_ren:={
 mixed:=by kernel_rfl
 f129:=func392.trans (congrArg some (by kernel_rfl))
 f134:=func387.trans (congrArg some (by kernel_rfl))
 t3:=underlying3
 a3:=Tryz.isAgg3
 z3:=Tryz.sizeOf3
 v3:=Tryz.zeroValue3
 t4:=underlying4
 a4:=Tryz.isAgg4
 z4:=Tryz.sizeOf4
 v4:=Tryz.zeroValue4
 t5:=underlying5
 a5:=Tryz.isAgg5
 z5:=Tryz.sizeOf5
 v5:=Tryz.zeroValue5
 t9:=underlying9
 a9:=Tryz.isAgg9
 z9:=Tryz.sizeOf9
 v9:=Tryz.zeroValue9
 t46:=underlying322
 a46:=Tryz.isAgg322
 z46:=Tryz.sizeOf322
 v46:=Tryz.zeroValue322
 t53:=underlying121
 a53:=Tryz.isAgg121
 z53:=Tryz.sizeOf121
 v53:=Tryz.zeroValue121}
def Tryz.bits_LeadingZeros64(x:Int)(w:World)(h0:0<=x)(h1:x<=18446744073709551615):
  Calls prog 387 #[.int .u64 x] w fun e w'=>e=.returned (.int .i64 (64-(Lib.bitLen x.toNat:Int)))/\w'=w:=Any.bits_LeadingZeros64 Tryz.lays134 x w h0 h1
def Tryz.lays137_ren:Go.Shelf.Ren:=⟨fun|137=>262|217=>355|266=>385|n=>n,fun|9=>9|5=>5|3=>3|n=>n,fun|n=>n⟩
def Tryz.lays137:Go.Proofs.Lays.n137 prog Tryz.lays137_ren:={
 mixed:=by kernel_rfl
 f137:=func262.trans (congrArg some (by kernel_rfl))
 f217:=func355.trans (congrArg some (by kernel_rfl))
 f266:=func385.trans (congrArg some (by kernel_rfl))
 t3:=underlying3
 a3:=Tryz.isAgg3
 z3:=Tryz.sizeOf3
 v3:=Tryz.zeroValue3
 t5:=underlying5
 a5:=Tryz.isAgg5
 z5:=Tryz.sizeOf5
 v5:=Tryz.zeroValue5
 t9:=underlying9
 a9:=Tryz.isAgg9
 z9:=Tryz.sizeOf9
 v9:=Tryz.zeroValue9}
open Go.RowKit in
def Tryz.strings_IndexByte(s:ByteArray)(c:Int)(w:World):
  Calls prog 262 #[.string s,.int .u8 c] w fun e w'=>e=.returned (.int .i64 (Lib.indexByte s.data.toList c.toNat.toUInt8))/\w'=w:=Any.strings_IndexByte Tryz.lays137 s c w
def Tryz.lays103_ren:Go.Shelf.Ren:=⟨fun|103=>76|210=>103|206=>152|n=>n,fun|9=>9|4=>4|24=>133|3=>3|n=>n,fun|n=>n⟩
def Tryz.lays103:Go.Proofs.Lays.n103 prog Tryz.lays103_ren:={
 mixed:=by kernel_rfl
 f103:=func76.trans (congrArg some (by kernel_rfl))
 f206:=func152.trans (congrArg some (by kernel_rfl))
 f210:=func103.trans (congrArg some (by kernel_rfl))
 t3:=underlying3
 a3:=Tryz.isAgg3
 z3:=Tryz.sizeOf3
 v3:=Tryz.zeroValue3
 t4:=underlying4
 a4:=Tryz.isAgg4
 z4:=Tryz.sizeOf4
 v4:=Tryz.zeroValue4
 t9:=underlying9
 a9:=Tryz.isAgg9
 z9:=Tryz.sizeOf9
 v9:=Tryz.zeroValue9
 t24:=underlying133
 a24:=Tryz.isAgg133
 z24:=Tryz.sizeOf133
 v24:=Tryz.zeroValue133}
open Go.RowKit in
def Tryz.strings_CutPrefix(s p:ByteArray)(w:World):
  Calls prog 76 #[.string s,.string p] w fun e w'=>e=.returned (.tuple #[.string ⟨(Lib.trimPrefix s.data.toList p.data.toList).toArray⟩,.bool (Lib.hasPrefix s.data.toList p.data.toList)])/\w'=w:=Any.strings_CutPrefix Tryz.lays103 s p w
def Tryz.lays264_ren:Go.Shelf.Ren:=⟨fun|264=>365|n=>n,fun|53=>121|46=>322|n=>n,fun|n=>n⟩
def Tryz.lays264:Go.Proofs.Lays.n264 prog Tryz.lays264_ren:={
 mixed:=by kernel_rfl
 f264:=func365.trans (congrArg some (by kernel_rfl))
 t46:=underlying322
 a46:=Tryz.isAgg322
 z46:=Tryz.sizeOf322
 v46:=Tryz.zeroValue322
 t53:=underlying121
 a53:=Tryz.isAgg121
 z53:=Tryz.sizeOf121
 v53:=Tryz.zeroValue121}
open Go.RowKit Go.Lib in
def Tryz.bits_Mul64(x y:Nat)(hx:x<18446744073709551616)(hy:y<18446744073709551616)(w:World):
  Calls prog 365 #[.int .u64 x,.int .u64 y] w fun e w'=>e=.returned (.tuple #[.int .u64 ((x*y/18446744073709551616:Nat):Int),.int .u64 ((x*y%18446744073709551616:Nat):Int)])/\w'=w:=Any.bits_Mul64 Tryz.lays264 x y hx hy w
def Tryz.lays212_ren:Go.Shelf.Ren:=⟨fun|212=>373|263=>389|264=>365|n=>n,fun|46=>322|51=>379|146=>380|53=>121|148=>363|n=>n,fun|n=>n⟩
def Tryz.lays212:Go.Proofs.Lays.n212 prog Tryz.lays212_ren:={
 mixed:=by kernel_rfl
 f212:=func373.trans (congrArg some (by kernel_rfl))
 f263:=func389.trans (congrArg some (by kernel_rfl))
 f264:=func365.trans (congrArg some (by kernel_rfl))
 t46:=underlying322
 a46:=Tryz.isAgg322
 z46:=Tryz.sizeOf322
 v46:=Tryz.zeroValue322
 t51:=underlying379
 a51:=Tryz.isAgg379
 z51:=Tryz.sizeOf379
 v51:=Tryz.zeroValue379
 t53:=underlying121
 a53:=Tryz.isAgg121
 z53:=Tryz.sizeOf121
 v53:=Tryz.zeroValue121
 t146:=underlying380
 a146:=Tryz.isAgg380
 z146:=Tryz.sizeOf380
 v146:=Tryz.zeroValue380
 t148:=underlying363
 a148:=Tryz.isAgg363
 z148:=Tryz.sizeOf363
 v148:=Tryz.zeroValue363}
open Go.RowKit Go.Lib in
def Tryz.bits_Mul(x y:Nat)(hx:x<18446744073709551616)(hy:y<18446744073709551616)(w:World):
  Calls prog 373 #[.int .u64 x,.int .u64 y] w fun e w'=>e=.returned (.tuple #[.int .u64 ((x*y/18446744073709551616:Nat):Int),.int .u64 ((x*y%18446744073709551616:Nat):Int)])/\w'=w:=Any.bits_Mul Tryz.lays212 x y hx hy w
def Tryz.lays105_ren:Go.Shelf.Ren:=⟨fun|105=>330|212=>373|99=>374|165=>375|166=>376|170=>377|169=>378|263=>389|264=>365|206=>152|240=>390|241=>391|276=>393|277=>388|n=>n,fun|9=>9|3=>3|4=>4|20=>20|0=>0|46=>322|109=>367|5=>5|72=>371|76=>372|51=>379|146=>380|53=>121|148=>363|70=>369|37=>22|75=>87|127=>212|164=>181|80=>261|n=>n,fun|n=>n⟩
def Tryz.lays105:Go.Proofs.Lays.n105 prog Tryz.lays105_ren:={
 mixed:=by kernel_rfl
 f99:=func374.trans (congrArg some (by kernel_rfl))
 f105:=func330.trans (congrArg some (by kernel_rfl))
 f165:=func375.trans (congrArg some (by kernel_rfl))
 f166:=func376.trans (congrArg some (by kernel_rfl))
 f169:=func378.trans (congrArg some (by kernel_rfl))
 f170:=func377.trans (congrArg some (by kernel_rfl))
 f206:=func152.trans (congrArg some (by kernel_rfl))
 f212:=func373.trans (congrArg some (by kernel_rfl))
 f240:=func390.trans (congrArg some (by kernel_rfl))
 f241:=func391.trans (congrArg some (by kernel_rfl))
 f263:=func389.trans (congrArg some (by kernel_rfl))
 f264:=func365.trans (congrArg some (by kernel_rfl))
 f276:=func393.trans (congrArg some (by kernel_rfl))
 f277:=func388.trans (congrArg some (by kernel_rfl))
 t0:=underlying0
 a0:=Tryz.isAgg0
 z0:=Tryz.sizeOf0
 v0:=Tryz.zeroValue0
 t3:=underlying3
 a3:=Tryz.isAgg3
 z3:=Tryz.sizeOf3
 v3:=Tryz.zeroValue3
 t4:=underlying4
 a4:=Tryz.isAgg4
 z4:=Tryz.sizeOf4
 v4:=Tryz.zeroValue4
 t5:=underlying5
 a5:=Tryz.isAgg5
 z5:=Tryz.sizeOf5
 v5:=Tryz.zeroValue5
 t9:=underlying9
 a9:=Tryz.isAgg9
 z9:=Tryz.sizeOf9
 v9:=Tryz.zeroValue9
 t20:=underlying20
 a20:=Tryz.isAgg20
 z20:=Tryz.sizeOf20
 v20:=Tryz.zeroValue20
 t37:=underlying22
 a37:=Tryz.isAgg22
 z37:=Tryz.sizeOf22
 v37:=Tryz.zeroValue22
 t46:=underlying322
 a46:=Tryz.isAgg322
 z46:=Tryz.sizeOf322
 v46:=Tryz.zeroValue322
 t51:=underlying379
 a51:=Tryz.isAgg379
 z51:=Tryz.sizeOf379
 v51:=Tryz.zeroValue379
 t53:=underlying121
 a53:=Tryz.isAgg121
 z53:=Tryz.sizeOf121
 v53:=Tryz.zeroValue121
 t70:=underlying369
 a70:=Tryz.isAgg369
 z70:=Tryz.sizeOf369
 v70:=Tryz.zeroValue369
 t72:=underlying371
 a72:=Tryz.isAgg371
 z72:=Tryz.sizeOf371
 v72:=Tryz.zeroValue371
 t75:=underlying87
 a75:=Tryz.isAgg87
 z75:=Tryz.sizeOf87
 v75:=Tryz.zeroValue87
 t76:=underlying372
 a76:=Tryz.isAgg372
 z76:=Tryz.sizeOf372
 v76:=Tryz.zeroValue372
 t109:=underlying367
 a109:=Tryz.isAgg367
 z109:=Tryz.sizeOf367
 v109:=Tryz.zeroValue367
 t127:=underlying212
 a127:=Tryz.isAgg212
 z127:=Tryz.sizeOf212
 v127:=Tryz.zeroValue212
 t146:=underlying380
 a146:=Tryz.isAgg380
 z146:=Tryz.sizeOf380
 v146:=Tryz.zeroValue380
 t148:=underlying363
 a148:=Tryz.isAgg363
 z148:=Tryz.sizeOf363
 v148:=Tryz.zeroValue363
 t164:=underlying181
 a164:=Tryz.isAgg181
 z164:=Tryz.sizeOf181
 v164:=Tryz.zeroValue181}
def Tryz.Builder_Extra_105:Builder.Extra prog Tryz.lays105_ren:={
 sizeBuilder:=by kernel_rfl
 liesBuilder:=by kernel_rfl
 t5:=underlying5
 a5:=Tryz.isAgg5
 z5:=Tryz.sizeOf5
 v5:=Tryz.zeroValue5
 infoByte:=by kernel_rfl
 cellsByte:=by kernel_rfl
 sizeByte:=by kernel_rfl
 neB5:=by decide}
open Go.RowKit Go.Lib in
def Tryz.strings_Repeat(s:ByteArray)(c:Nat)(w:World)(hc:c<=9223372036854775807)(hlen:s.size*c<=140737488355328):
  Calls prog 330 #[.string s,.int .i64 c] w fun e w'=>e=.returned (.string ⟨(Lib.repeatL s.data.toList c).toArray⟩)/\Below w.heap.size w w':=Any.strings_Repeat Tryz.lays105 Tryz.Builder_Extra_105 s c w hc hlen
def Tryz.laysSlE041_f201_ren:Go.Shelf.Ren:=⟨fun|41=>201|n=>n,fun|22=>29|23=>3|4=>4|n=>n,fun|n=>n⟩
def Tryz.laysSlE041_f201:Go.Proofs.SlLaysE0.n41 prog Tryz.laysSlE041_f201_ren:={
 mixed:=by kernel_rfl
 f41:=⟨Tryz.f201.name,by decide,func201.trans (congrArg some (by kernel_rfl))⟩
 t4:=underlying4
 a4:=Tryz.isAgg4
 z4:=Tryz.sizeOf4
 v4:=Tryz.zeroValue4
 t22:=underlying29
 a22:=Tryz.isAgg29
 z22:=Tryz.sizeOf29
 v22:=Tryz.zeroValue29}
open Go.RowKit Go.Lib in
def Tryz.slices_Clone_nil(n c:Nat)(w:World):
  Calls prog 201 #[.slice none n c] w fun e w'=>e=.returned (.slice none 0 0)/\w'=w:=AnyE.slices_Clone_nil Tryz.laysSlE041_f201 n c w
end Go.Proofs
namespace Go.Proofs.YtjcminooghmpeaaGreatDoor
open Go.RowKit (wrap64)
def U(x:Int):Nat:=(x%18446744073709551616).toNat
def PU(lo hi:Int):Nat:=U hi*18446744073709551616+U lo
def PS(lo hi:Int):Int:=hi*18446744073709551616+U lo
def gl(n:Int):Bool:=decide (-9223372036854775808<=n)&&decide (n<=9223372036854775807)
def S(n:Nat):Int:=wrap64 n
def nC(a b:Int):Int×Int×Int:=if b=0 then(0,0,-10)else(wrap64 (a.fdiv b),a.fmod b,0)
def sH(a b:Int):Int×Int:=(S (U a*U b%18446744073709551616),S (U a*U b/18446744073709551616))
def xq(a b:Int):Int×Int:=(wrap64 (a*b),(a*b)/18446744073709551616)
def iH(lo hi d:Int):Int×Int×Int :=
 if d=0 then(0,0,-10)else if U d<=U hi then(0,0,-11)else(S (PU lo hi/U d),S (PU lo hi%U d),0)
def lL(lo hi d:Int):Int×Int×Int :=
 if d=0 then(0,0,-10)else if gl ((PS lo hi).tdiv d)then((PS lo hi).tdiv d,(PS lo hi).tmod d,0)else(0,0,-11)
def jL(lo hi d:Int):Int×Int×Int :=
 if d=0 then(0,0,-10)else if gl ((PS lo hi).fdiv d)then((PS lo hi).fdiv d,(PS lo hi).fmod d,0)else(0,0,-11)
def B1(x:Int):U x<18446744073709551616:=by unfold U;omega
def lZ(x:Int):IntKind.u64.wrap x=((U x:Nat):Int):=by
 rw[show IntKind.u64.wrap x=x%18446744073709551616 from by simp[IntKind.wrap,IntKind.bits,IntKind.signed]];unfold U;omega
def aS7(x:Int)(h:0<=x)(h1:x<=9223372036854775807):U x=x.toNat:=by unfold U;omega
def aa6(x:Int)(h:x<0)(h1 : -9223372036854775808<=x):((U x:Nat):Int)=x+18446744073709551616:=by unfold U;omega
def da(n:Int)(h : -9223372036854775808<=n/\n<=9223372036854775807):wrap64 n=n:=by unfold wrap64;omega
def S_U(x:Int)(h : -9223372036854775808<=x/\x<=9223372036854775807):S (U x)=x:=by unfold S U wrap64;omega
def U_S(n:Nat)(h:n<18446744073709551616):U (S n)=n:=by unfold S U wrap64;omega
def aa0(n:Nat): -9223372036854775808<=S n/\S n<=9223372036854775807:=by unfold S wrap64;omega
def iB(n:Int): -9223372036854775808<=wrap64 n/\wrap64 n<=9223372036854775807:=by unfold wrap64;omega
def nM{a d q r:Int}(h:d*q+r=a)(hr:(0<d/\0<=r/\r<d)\/(d<0/\d<r/\r<=0)):a.fdiv d=q/\a.fmod d=r:=by
 rcases hr with ⟨hd,h0,h1⟩|⟨hd,h0,h1⟩
 ·rw[Int.fdiv_eq_ediv_of_nonneg a (by omega),Int.fmod_eq_emod_of_nonneg a (by omega)]
  exact(Int.ediv_emod_unique hd).2 ⟨by rw[Int.add_comm];exact h,h0,h1⟩
 have e1:=Int.neg_fdiv_neg a d
 have e2:=Int.neg_fmod_neg a d
 rw[Int.fdiv_eq_ediv_of_nonneg (-a) (by omega)]at e1
 rw[Int.fmod_eq_emod_of_nonneg (-a) (by omega)]at e2
 have:=(Int.ediv_emod_unique (a:=-a) (b:=-d) (r:=-r) (q:=q) (by omega)).2 ⟨by rw[Int.neg_mul];omega,by omega,by omega⟩
 omega
def s6{a d q r:Int}(h:d*q+r=a)(hr:r.natAbs<d.natAbs)(hs:(0<=a/\0<=r)\/(a<=0/\r<=0)):a.tdiv d=q/\a.tmod d=r:=by
 have key:∀(a d q r:Int),d*q+r=a->0<d->0<=a->0<=r->r<d->a.tdiv d=q/\a.tmod d=r:=by
  intro a d q r h hd ha h0 h1
  rw[Int.tdiv_eq_ediv_of_nonneg ha,Int.tmod_eq_emod_of_nonneg ha]
  exact(Int.ediv_emod_unique hd).2 ⟨by rw[Int.add_comm];exact h,h0,h1⟩
 rcases hs with ⟨ha,h0⟩|⟨ha,h0⟩
 ·by_cases hp:0<d
  ·exact key a d q r h hp ha h0 (by omega)
  have:=key a (-d) (-q) r (by rw[Int.neg_mul_neg];exact h) (by omega) ha h0 (by omega)
  rw[Int.tdiv_neg,Int.tmod_neg]at this
  omega
 by_cases hp:0<d
 ·have:=key (-a) d (-q) (-r) (by rw[Int.mul_neg];omega) hp (by omega) (by omega) (by omega)
  rw[Int.neg_tdiv,Int.neg_tmod]at this
  omega
 have:=key (-a) (-d) q (-r) (by rw[Int.neg_mul];omega) (by omega) (by omega) (by omega) (by omega)
 rw[Int.neg_tdiv,Int.neg_tmod,Int.tdiv_neg,Int.tmod_neg]at this
 omega
def qN(V d:Int)(hd:d≠0):
  V.tdiv d=(if decide (V<0) != decide (d<0)then -((V.natAbs/d.natAbs:Nat):Int)else((V.natAbs/d.natAbs:Nat):Int)) /\
  V.tmod d=(if V<0 then -((V.natAbs%d.natAbs:Nat):Int)else((V.natAbs%d.natAbs:Nat):Int)):=by
 have hD:0<d.natAbs:=by omega
 have hm:=Nat.mod_lt V.natAbs hD
 have he:=Nat.div_add_mod V.natAbs d.natAbs
 generalize V.natAbs/d.natAbs=q at *
 generalize V.natAbs%d.natAbs=r at *
 have he':((d.natAbs:Nat):Int)*(q:Int)+(r:Int)=(V.natAbs:Nat):=by exact_mod_cast he
 by_cases hV:V<0<;>by_cases hn:d<0
 ·simp only[hV,hn,decide_true,bne_self_eq_false,Bool.false_eq_true,if_false,if_true]
  have e:((d.natAbs:Nat):Int) = -d:=by omega
  rw[e,Int.neg_mul]at he'
  exact s6 (by omega) (by omega) (by omega)
 ·have hb:(decide (V<0) != decide (d<0))=true:=by simp[hV,hn]
  rw[if_pos hb,if_pos hV]
  have e:((d.natAbs:Nat):Int)=d:=by omega
  rw[e]at he'
  exact s6 (by rw[Int.mul_neg];omega) (by omega) (by omega)
 ·have hb:(decide (V<0) != decide (d<0))=true:=by simp[hV,hn]
  rw[if_pos hb,if_neg hV]
  have e:((d.natAbs:Nat):Int) = -d:=by omega
  rw[e,Int.neg_mul]at he'
  exact s6 (by rw[Int.mul_neg];omega) (by omega) (by omega)
 have hb:¬(decide (V<0) != decide (d<0))=true:=by simp[hV,hn]
 rw[if_neg hb,if_neg hV]
 have e:((d.natAbs:Nat):Int)=d:=by omega
 rw[e]at he'
 exact s6 (by omega) (by omega) (by omega)
def tN(V d:Int)(hd:d≠0):
  V.fdiv d=(if V.tmod d≠0/\(decide (V<0) != decide (d<0))=true then V.tdiv d-1 else V.tdiv d) /\
  V.fmod d=(if V.tmod d≠0/\(decide (V<0) != decide (d<0))=true then V.tmod d+d else V.tmod d):=by
 obtain⟨h1,h2⟩:=qN V d hd
 have hD:0<d.natAbs:=by omega
 have hm:=Nat.mod_lt V.natAbs hD
 have he:=Int.mul_tdiv_add_tmod V d
 generalize V.tdiv d=q at *
 generalize V.tmod d=r at *
 generalize V.natAbs%d.natAbs=s at *
 by_cases hV:V<0<;>by_cases hn:d<0
 ·rw[if_neg (by simp[hV,hn]),if_neg (by simp[hV,hn])]
  rw[if_pos hV]at h2
  exact nM he (by omega)
 ·rw[if_pos hV]at h2
  by_cases hr:r=0
  ·rw[if_neg (by simp[hr]),if_neg (by simp[hr])]
   exact nM he (by omega)
  rw[if_pos ⟨hr,by simp[hV,hn]⟩,if_pos ⟨hr,by simp[hV,hn]⟩]
  exact nM (by rw[Int.mul_sub];omega) (by omega)
 ·rw[if_neg hV]at h2
  by_cases hr:r=0
  ·rw[if_neg (by simp[hr]),if_neg (by simp[hr])]
   exact nM he (by omega)
  rw[if_pos ⟨hr,by simp[hV,hn]⟩,if_pos ⟨hr,by simp[hV,hn]⟩]
  exact nM (by rw[Int.mul_sub];omega) (by omega)
 rw[if_neg (by simp[hV,hn]),if_neg (by simp[hV,hn])]
 rw[if_neg hV]at h2
 exact nM he (by omega)
def RT{B un y1 y0 u1 q r:Nat}(hB:0<B)(hy1:0<y1)(h1:u1<B)
  (hq:q*y1+r=un) (hlt:un<y1*B+y0)
  (hQ:(un*B+u1)/(y1*B+y0)<=q)
  (hc:B<=q\/B*r+u1<q*y0):(un*B+u1)/(y1*B+y0)+1<=q:=by
 have hy:0<y1*B+y0:=by
  have:=Nat.mul_pos hy1 hB;omega
 rcases hc with hc|hc
 ·have:(un*B+u1)/(y1*B+y0)<B:=by
   rw[Nat.div_lt_iff_lt_mul hy]
   have h2:(un+1)*B<=(y1*B+y0)*B:=Nat.mul_le_mul_right B hlt
   have h3:(un+1)*B=un*B+B:=by rw[Nat.add_mul];omega
   rw[Nat.mul_comm B]
   omega
  omega
 have:(un*B+u1)/(y1*B+y0)<q:=by
  rw[Nat.div_lt_iff_lt_mul hy]
  have e1:q*(y1*B+y0)=(q*y1)*B+q*y0:=by
   rw[Nat.mul_add,Nat.mul_assoc]
  have e2:un*B=(q*y1)*B+B*r:=by
   rw[<-hq,Nat.add_mul,Nat.mul_comm r B]
  rw[e1,e2];omega
 omega
def GP{B un y1 y0 u1 q r:Nat}(hB:0<B)(hy1:0<y1)
  (hq:q*y1+r=un)
  (hQ:(un*B+u1)/(y1*B+y0)<=q)
  (hc:q*y0<=B*r+u1):(un*B+u1)/(y1*B+y0)=q:=by
 have hy:0<y1*B+y0:=by
  have:=Nat.mul_pos hy1 hB;omega
 have:q<=(un*B+u1)/(y1*B+y0):=by
  rw[Nat.le_div_iff_mul_le hy]
  have e1:q*(y1*B+y0)=(q*y1)*B+q*y0:=by
   rw[Nat.mul_add,Nat.mul_assoc]
  have e2:un*B=(q*y1)*B+B*r:=by
   rw[<-hq,Nat.add_mul,Nat.mul_comm r B]
  rw[e1,e2];omega
 omega
def NZ{B un y1 y0 u1:Nat}(hy1:0<y1)(hB:0<B)(h1:u1<B):
  (un*B+u1)/(y1*B+y0)<=un/y1:=by
 have a:(un*B+u1)/(y1*B+y0)<=(un*B+u1)/(y1*B) :=
  Nat.div_le_div_left (by omega) (Nat.mul_pos hy1 hB)
 have b:(un*B+u1)/(y1*B)=un/y1:=by
  rw[Nat.mul_comm y1 B,<-Nat.div_div_eq_div_mul]
  rw[Nat.mul_comm un B,Nat.mul_add_div hB,Nat.div_eq_of_lt h1,Nat.add_zero]
 omega
def K9{B un u1 u0 y:Nat}(hy:0<y):
  ((un*B+u1)/y)*B+((un*B+u1)%y*B+u0)/y=(un*(B*B)+u1*B+u0)/y /\
  ((un*B+u1)%y*B+u0)%y=(un*(B*B)+u1*B+u0)%y:=by
 have e:un*(B*B)+u1*B+u0=((un*B+u1)/y*B)*y+((un*B+u1)%y*B+u0):=by
  have h:=Nat.div_add_mod (un*B+u1) y
  have h2:un*(B*B)+u1*B=(un*B+u1)*B:=by rw[Nat.add_mul,Nat.mul_assoc]
  rw[h2]
  have h3:(un*B+u1)*B=(y*((un*B+u1)/y)+(un*B+u1)%y)*B:=by rw[h]
  rw[h3,Nat.add_mul]
  have h4:y*((un*B+u1)/y)*B=(un*B+u1)/y*B*y:=by
   rw[Nat.mul_comm y,Nat.mul_assoc,Nat.mul_comm y B,<-Nat.mul_assoc]
  omega
 rw[e]
 constructor
 ·rw[Nat.mul_comm _ y,Nat.mul_add_div hy]
 rw[Nat.mul_comm _ y,Nat.mul_add_mod]
end Go.Proofs.YtjcminooghmpeaaGreatDoor
namespace Go.Proofs.YtjcminooghmpeaaGreatDoor
open Go.RowKit (wrap64)
def xV(n:Int):wrap64 n=n.bmod 18446744073709551616:=by
 unfold wrap64;rw[Int.bmod_def];split<;>omega
def EH(x y:Int):wrap64 (wrap64 x+y)=wrap64 (x+y):=by simp[xV]
def rz(x y:Int):wrap64 (wrap64 x-y)=wrap64 (x-y):=by simp[xV]
def NH(a:Int)(ha : -9223372036854775808<=a/\a<=9223372036854775807):(U a:Int)=a+(if a<0 then 18446744073709551616 else 0):=by
 unfold U;split<;>omega
def Iw(a b:Int)(ha : -9223372036854775808<=a/\a<=9223372036854775807)(hb : -9223372036854775808<=b/\b<=9223372036854775807):
  ((U a*U b:Nat):Int)=a*b+18446744073709551616*((if a<0 then b else 0)+(if b<0 then a else 0)+(if a<0/\b<0 then 18446744073709551616 else 0)):=by
 rw[Int.natCast_mul,NH a ha,NH b hb]
 by_cases h1:a<0<;>by_cases h2:b<0
 ·simp only[h1,h2,if_true,and_self];rw[Int.add_mul,Int.mul_add,Int.mul_add,Int.mul_comm a 18446744073709551616];omega
 ·simp only[h1,h2,if_true,if_false,and_false,Int.add_zero];rw[Int.add_mul]
 ·simp only[h1,h2,if_true,if_false,false_and];rw[Int.mul_add,Int.add_zero,Int.mul_comm a 18446744073709551616];omega
 simp only[h1,h2,if_false,and_self,Int.add_zero,Int.mul_zero]
def RQ(a b:Int)(ha : -9223372036854775808<=a/\a<=9223372036854775807)(hb : -9223372036854775808<=b/\b<=9223372036854775807):
  -85070591730234615865843651857942052864<=a*b/\a*b<=85070591730234615865843651857942052864:=by
 have h:(a*b).natAbs<=9223372036854775808*9223372036854775808:=by
  rw[Int.natAbs_mul];exact Nat.mul_le_mul (by omega) (by omega)
 omega
def UV(a b:Int)(ha : -9223372036854775808<=a/\a<=9223372036854775807)(hb : -9223372036854775808<=b/\b<=9223372036854775807):
  (sH a b).1=(xq a b).1:=by
 have h:=Iw a b ha hb
 simp only[sH,xq,S]
 generalize U a*U b=p at *
 generalize a*b=q at *
 unfold wrap64
 omega
def ar4(a b:Int)(ha : -9223372036854775808<=a/\a<=9223372036854775807)(hb : -9223372036854775808<=b/\b<=9223372036854775807):
  wrap64 ((sH a b).2-((if a<0 then b else 0)+(if b<0 then a else 0)))=(xq a b).2:=by
 have h:=Iw a b ha hb
 have h2:=RQ a b ha hb
 simp only[sH,xq,S]
 generalize (if a<0 then b else 0)+(if b<0 then a else 0)=x at *
 have hz:(if a<0/\b<0 then(18446744073709551616:Int)else 0)=0\/(if a<0/\b<0 then(18446744073709551616:Int)else 0)=18446744073709551616:=by
  split<;>simp
 generalize (if a<0/\b<0 then(18446744073709551616:Int)else 0)=z at *
 generalize U a*U b=p at *
 generalize a*b=q at *
 have e:((p/18446744073709551616:Nat):Int)=q/18446744073709551616+(x+z):=by
  rw[Int.natCast_ediv,h]
  exact Int.add_mul_ediv_left _ _ (by decide)
 rw[rz,e,show q/18446744073709551616+(x+z)-x=q/18446744073709551616+z from by omega]
 have hq : -9223372036854775808<=q/18446744073709551616/\q/18446744073709551616<=9223372036854775807:=by omega
 generalize q/18446744073709551616=r at *
 unfold wrap64
 omega
def PM(a b:Int)(hb:b=0):nC a b=(0,0,-10):=by simp[nC,hb]
def Qn{a b:Int}(hb:b≠0)(h:a.tmod b=0):nC a b=(wrap64 (a.tdiv b),a.tmod b,0):=by
 obtain⟨h1,h2⟩:=tN a b hb
 rw[if_neg (by simp[h])]at h1 h2
 simp[nC,hb,h1,h2]
def De(a b:Int)(h:a.tmod b≠0):decide (a.tmod b<0)=decide (a<0):=by
 by_cases hb:b=0
 ·subst hb;simp
 have:=(qN a b hb).2
 by_cases ha:a<0
 ·rw[if_pos ha]at this;simp[ha];omega
 rw[if_neg ha]at this;simp[ha];omega
def ZO(a b:Int)(hb:b≠0):(a.tmod b).natAbs<b.natAbs:=by
 rw[Int.natAbs_tmod];exact Nat.mod_lt _ (by omega)
def UU{a b:Int}(hb:b≠0)(hb2 : -9223372036854775808<=b/\b<=9223372036854775807)(h:a.tmod b≠0)(hs:(decide (a.tmod b<0)==decide (b<0))=false):
  nC a b=(wrap64 (wrap64 (a.tdiv b)-1),wrap64 (a.tmod b+b),0):=by
 have ht:=De a b h
 have hl:=ZO a b hb
 obtain⟨h1,h2⟩:=tN a b hb
 rw[<-ht]at h1 h2
 have hs':(decide (a.tmod b<0) != decide (b<0))=true:=by simp[bne,hs]
 rw[if_pos ⟨h,hs'⟩]at h1 h2
 have hf:wrap64 (a.tmod b+b)=a.tmod b+b:=by
  apply da
  simp at hs
  omega
 rw[rz,hf]
 simp only[nC,if_neg hb,h1,h2]
def Nc{a b:Int}(hb:b≠0)(hs:a.tmod b=0\/(decide (a.tmod b<0)==decide (b<0))=true):
  nC a b=(wrap64 (a.tdiv b),a.tmod b,0):=by
 by_cases h:a.tmod b=0
 ·exact Qn hb h
 have ht:=De a b h
 obtain⟨h1,h2⟩:=tN a b hb
 rw[<-ht]at h1 h2
 have hs':(decide (a.tmod b<0) != decide (b<0))=false:=by
  rcases hs with hs|hs
  ·exact absurd hs h
  simp[bne,hs]
 rw[if_neg (by simp[hs'])]at h1 h2
 simp[nC,hb,h1,h2]
open Go.RowKit
def ZN{k:IntKind}{a b:Int}(h:a=b):Ending.returned (.int k a)=Ending.returned (.int k b):=by rw[h]
def Lr{k l:IntKind}{a b c d:Int}(h1:a=c)(h2:b=d):Ending.returned (.tuple #[.int k a,.int l b])=Ending.returned (.tuple #[.int k c,.int l d]):=by rw[h1,h2]
def pw{k l m:IntKind}{a b c d e f:Int}(h1:a=d)(h2:b=e)(h3:c=f):Ending.returned (.tuple #[.int k a,.int l b,.int m c])=Ending.returned (.tuple #[.int k d,.int l e,.int m f]):=by rw[h1,h2,h3]
def yl(w:World):∃n,w=w.drewN n:=⟨0,rfl⟩
abbrev Fit(a:Int):Prop:=-9223372036854775808<=a/\a<=9223372036854775807
def uC(a b:Int)(w:World):
  Calls prog 359 #[.int .i64 a,.int .i64 b] w fun e w'=>e=.returned (.bool (decide (U a<U b)))/\w=w':=by
 go_enter func359,ntmps359
 go_wp2
 go_ret
 exact⟨by simp[go_sem,lZ],rfl⟩
def qh(a b:Int)(w:World):
  Calls prog 284 #[.int .i64 a,.int .i64 b] w fun e w'=>e=.returned (.tuple #[.int .i64 (sH a b).1,.int .i64 (sH a b).2])/\w=w':=by
 have ha:=B1 a
 have hb:=B1 b
 go_enter func284,ntmps284
 go_wp2_with fail
 rw[lZ a,lZ b]
 refine(Tryz.bits_Mul64 (U a) (U b) ha hb _).mono ?_
 rintro e w' ⟨rfl,rfl⟩
 go_wp2
 go_ret2
 exact⟨Lr (by simp only[sH,S,Int.natCast_emod,Int.natCast_mul];rfl) (by simp only[sH,S,Int.natCast_ediv,Int.natCast_mul];rfl),rfl⟩
def SC(a b:Int)(w:World)(ha:Fit a)(hb:Fit b):
  Calls prog 278 #[.int .i64 a,.int .i64 b] w fun e w'=>e=.returned (.tuple #[.int .i64 (xq a b).1,.int .i64 (xq a b).2])/\w=w':=by
 have e1:=UV a b ha hb
 have e2:=ar4 a b ha hb
 by_cases h1:a<0<;>by_cases h2:b<0
 ·rw[if_pos h1,if_pos h2]at e2
  have H1:=Lib.hid e1
  have H2:=Lib.hid e2
  clear e1 e2
  go_enter func278,ntmps278
  go_wp2_with (go_at_call 284;refine(qh _ _ _).mono ?_;rintro e w' ⟨rfl,rfl⟩)
  go_ret2
  exact⟨Lr H1.out (by rw[<-H2.out,rz];congr 1;omega),rfl⟩
 ·rw[if_pos h1,if_neg h2]at e2
  have H1:=Lib.hid e1
  have H2:=Lib.hid e2
  clear e1 e2
  go_enter func278,ntmps278
  go_wp2_with (go_at_call 284;refine(qh _ _ _).mono ?_;rintro e w' ⟨rfl,rfl⟩)
  go_ret2
  exact⟨Lr H1.out (by rw[<-H2.out,Int.add_zero]),rfl⟩
 ·rw[if_neg h1,if_pos h2]at e2
  have H1:=Lib.hid e1
  have H2:=Lib.hid e2
  clear e1 e2
  go_enter func278,ntmps278
  go_wp2_with (go_at_call 284;refine(qh _ _ _).mono ?_;rintro e w' ⟨rfl,rfl⟩)
  go_ret2
  exact⟨Lr H1.out (by rw[<-H2.out,Int.zero_add]),rfl⟩
 rw[if_neg h1,if_neg h2]at e2
 have H1:=Lib.hid e1
 have H2:=Lib.hid e2
 clear e1 e2
 go_enter func278,ntmps278
 go_wp2_with (go_at_call 284;refine(qh _ _ _).mono ?_;rintro e w' ⟨rfl,rfl⟩)
 go_ret2
 exact⟨Lr H1.out (by rw[<-H2.out,Int.add_zero,Int.sub_zero];exact(da _ (aa0 _)).symm),rfl⟩
def QP(a b:Int)(w:World)(hb2:Fit b):
  Calls prog 272 #[.int .i64 a,.int .i64 b] w fun e w'=>e=.returned (.tuple #[.int .i64 (nC a b).1,.int .i64 (nC a b).2.1,.int .i64 (nC a b).2.2])/\∃n,w'=w.drewN n:=by
 by_cases hb:b=0
 ·have HZ:=Lib.hid (PM a b hb)
  have hb':(b==0)=true:=by simp[hb]
  clear hb
  go_enter func272,ntmps272
  go_wp2
  go_ret3
  exact⟨pw (by rw[HZ.out]) (by rw[HZ.out]) (by rw[HZ.out]),yl w⟩
 have hb':(b==0)=false:=by simp[hb]
 go_enter func272,ntmps272
 go_wp2
 go_quiet (fail)
 go_wp2
 all_goals go_ret3
 ·have h:a.tmod b=0:=by assumption
  have e:=Nc hb (.inl h)
  exact⟨pw (by rw[e]) (by rw[e,h]) (by rw[e]),_,rfl⟩
 ·have h:(a.tmod b != 0)=true/\(!decide (a.tmod b<0)==decide (b<0))=true:=by assumption
  have e:=UU hb hb2 (by simpa using h.1) (by simpa using h.2)
  exact⟨pw (by rw[e]) (by rw[e]) (by rw[e]),_,rfl⟩
 have h:(a.tmod b != 0)=false\/(!decide (a.tmod b<0)==decide (b<0))=false:=by assumption
 have e:=Nc (a:=a) hb (by rcases h with h|h<;>simp at h<;>simp[h])
 exact⟨pw (by rw[e]) (by rw[e]) (by rw[e]),_,rfl⟩
def pZ(n:Int)(w:World)(hn:Fit n):
  Calls prog 362 #[.int .i64 n] w fun e w'=>e=.returned (.int .u64 n.natAbs)/\w=w':=by
 by_cases h:n<0
 ·go_enter func362,ntmps362
  go_wp2
  go_ret
  exact⟨ZN (by rw[lZ n,IntKind.wrap_u64];have:=aa6 n h hn.1;omega),rfl⟩
 go_enter func362,ntmps362
 go_wp2
 go_ret
 exact⟨ZN (by omega),rfl⟩
end Go.Proofs.YtjcminooghmpeaaGreatDoor
namespace Go.Proofs.YtjcminooghmpeaaGreatDoor
def KT(hi lo y s:Nat)(h0:hi<y)(s1:s<=63)(s2:9223372036854775808<=y*2 ^ s)(s3:y*2 ^ s<18446744073709551616)(hl:lo<18446744073709551616):
  ∃Y y1 y0 un ul u1 u0:Nat,
   ((y:Int)*2 ^ s=(Y:Int))/\((Y:Int)/4294967296=(y1:Int))/\(bits .and .u64 (Y:Int) 4294967295=(y0:Int)) /\
   (bits .or .u64 (IntKind.u64.wrap ((hi:Int)*2 ^ s)) ((lo:Int)/2 ^ (64-s))=(un:Int))/\(IntKind.u64.wrap ((lo:Int)*2 ^ s)=(ul:Int)) /\
   ((ul:Int)/4294967296=(u1:Int))/\(bits .and .u64 (ul:Int) 4294967295=(u0:Int)) /\
   Y=y1*4294967296+y0/\y0<4294967296/\2147483648<=y1/\y1<4294967296/\ul=u1*4294967296+u0/\u1<4294967296/\u0<4294967296/\un<Y /\
   Y=y*2 ^ s/\un*18446744073709551616+ul=(hi*18446744073709551616+lo)*2 ^ s:=by
 have hp:0<2 ^ s:=Nat.two_pow_pos _
 have hq:0<2 ^ (64-s):=Nat.two_pow_pos _
 have e64:2 ^ (64-s)*2 ^ s=18446744073709551616:=by rw[<-Nat.pow_add,show 64-s+s=64 from by omega]
 have hhi:hi*2 ^ s+2 ^ s<=y*2 ^ s:=by
  have:(hi+1)*2 ^ s<=y*2 ^ s:=Nat.mul_le_mul_right _ h0
  rwa [Nat.add_mul,Nat.one_mul]at this
 have hlo:lo/2 ^ (64-s)<2 ^ s:=by rw[Nat.div_lt_iff_lt_mul hq,Nat.mul_comm,e64];exact hl
 have hlo2:lo*2 ^ s/18446744073709551616=lo/2 ^ (64-s):=by
  rw[<-e64];exact Nat.mul_div_mul_right _ _ hp
 have hul:=Nat.div_add_mod (lo*2 ^ s) 18446744073709551616
 refine⟨y*2 ^ s,y*2 ^ s/4294967296,y*2 ^ s%4294967296,hi*2 ^ s+lo/2 ^ (64-s),lo*2 ^ s%18446744073709551616,
  lo*2 ^ s%18446744073709551616/4294967296,lo*2 ^ s%18446744073709551616%4294967296,?_⟩
 refine⟨by simp,by simp,?_,?_,?_,by simp,?_,?_⟩
 ·rw[show(4294967295:Int)=((4294967295:Nat):Int) from rfl,u64_and_nat _ _ s3 (by decide)]
  rw[show(4294967295:Nat)=2 ^ 32-1 from rfl,Nat.and_two_pow_sub_one_eq_mod]
 ·have e1:IntKind.u64.wrap ((hi:Int)*2 ^ s)=((hi*2 ^ s:Nat):Int):=by
   rw[show((hi:Int)*2 ^ s)=((hi*2 ^ s:Nat):Int) from by simp]
   exact IntWalk.u64_in _ (by omega)
  have e2:(lo:Int)/2 ^ (64-s)=((lo/2 ^ (64-s):Nat):Int):=by simp
  rw[e1,e2,u64_or_nat _ _ (by omega) (by omega)]
  congr 1
  have:=Nat.shiftLeft_add_eq_or_of_lt hlo hi
  rw[Nat.shiftLeft_eq]at this
  exact this.symm
 ·rw[show((lo:Int)*2 ^ s)=((lo*2 ^ s:Nat):Int) from by simp,IntKind.wrap_u64]
  rfl
 ·rw[show(4294967295:Int)=((4294967295:Nat):Int) from rfl,u64_and_nat _ _ (Nat.mod_lt _ (by decide)) (by decide)]
  rw[show(4294967295:Nat)=2 ^ 32-1 from rfl,Nat.and_two_pow_sub_one_eq_mod]
 refine⟨by omega,by omega,by omega,by omega,by omega,by omega,by omega,by omega,rfl,?_⟩
 rw[Nat.add_mul,Nat.add_mul,<-hlo2]
 rw[show hi*18446744073709551616*2 ^ s=hi*2 ^ s*18446744073709551616 from by rw[Nat.mul_right_comm]]
 omega
def N4{hi lo y s Y un ul u1 u0 q1 q0 r1 r0:Nat}(hy:0<y)(eY:Y=y*2 ^ s)(eN:un*18446744073709551616+ul=(hi*18446744073709551616+lo)*2 ^ s)(eu:ul=u1*4294967296+u0)
  (e1:q1=(un*4294967296+u1)/Y) (f1:r1=(un*4294967296+u1)%Y) (e0:q0=(r1*4294967296+u0)/Y) (f0:r0=(r1*4294967296+u0)%Y) :
  q1*4294967296+q0=(hi*18446744073709551616+lo)/y/\r0/2 ^ s=(hi*18446744073709551616+lo)%y:=by
 have hp:0<2 ^ s:=Nat.two_pow_pos _
 have hY:0<Y:=by rw[eY];exact Nat.mul_pos hy hp
 obtain⟨a,b⟩:=K9 (B:=4294967296) (un:=un) (u1:=u1) (u0:=u0) hY
 have e:un*(4294967296*4294967296)+u1*4294967296+u0=(hi*18446744073709551616+lo)*2 ^ s:=by
  have hB:4294967296*4294967296=18446744073709551616:=by decide
  rw[hB,<-eN,eu,Nat.add_assoc]
 rw[e,eY]at a b
 rw[Nat.mul_div_mul_right _ _ hp]at a
 rw[Nat.mul_mod_mul_right]at b
 subst e1 f1 e0 f0
 rw[eY]
 exact⟨a,by rw[b];exact Nat.mul_div_cancel _ hp⟩
def Jy{un y1 y0 u1 a b Q Y:Nat}(hY:Y=y1*4294967296+y0)(hQ:Q=(un*4294967296+u1)/Y)(h1:2147483648<=y1)(h0:y0<4294967296)(hu:u1<4294967296)(hlt:un<Y)
  (inv:a*y1+b=un/\Q<=a) (hc:4294967296<=a\/4294967296*b+u1<a*y0) :
  ∃a',a=a'+1/\(a'*y1+(b+y1)=un/\Q<=a')/\(4294967296<=b+y1->a'=Q):=by
 obtain⟨i1,i2⟩:=inv
 have hs:=RT (B:=4294967296) (un:=un) (y1:=y1) (y0:=y0) (u1:=u1) (q:=a) (r:=b) (by omega) (by omega) hu i1 (by omega) (by rw[<-hY,<-hQ];exact i2) hc
 rw[<-hY,<-hQ]at hs
 obtain⟨a',rfl⟩:∃a',a=a'+1:=⟨a-1,by omega⟩
 have e:(a'+1)*y1=a'*y1+y1:=by rw[Nat.add_mul,Nat.one_mul]
 refine⟨a',rfl,⟨by omega,by omega⟩,fun hb=>?_⟩
 have ha:a'<=4294967296:=by
  apply Nat.le_of_not_lt
  intro hgt
  have:4294967297*y1<=a'*y1:=Nat.mul_le_mul_right _ hgt
  omega
 have hm:a'*y0<=4294967296*y0:=Nat.mul_le_mul_right _ ha
 have:=GP (B:=4294967296) (un:=un) (y1:=y1) (y0:=y0) (u1:=u1) (q:=a') (r:=b+y1) (by omega) (by omega) (by omega) (by rw[<-hY,<-hQ];omega) (by omega)
 rw[<-hY,<-hQ]at this
 exact this.symm
def MR{un y1 y0 u1 a b Q Y:Nat}(hY:Y=y1*4294967296+y0)(hQ:Q=(un*4294967296+u1)/Y)(h1:2147483648<=y1)
  (inv:a*y1+b=un/\Q<=a) (hc:¬4294967296*b+u1<a*y0):a=Q:=by
 obtain⟨i1,i2⟩:=inv
 have:=GP (B:=4294967296) (un:=un) (y1:=y1) (y0:=y0) (u1:=u1) (q:=a) (r:=b) (by omega) (by omega) i1 (by rw[<-hY,<-hQ];exact i2) (by omega)
 rw[<-hY,<-hQ]at this
 exact this.symm
def CQ{un y1 y0 u1 Q Y:Nat}(hY:Y=y1*4294967296+y0)(hQ:Q=(un*4294967296+u1)/Y)(h1:2147483648<=y1)(hu:u1<4294967296):
  ∃q r:Nat,((un:Int)/y1=(q:Int))/\((un:Int)-(q:Int)*y1=(r:Int))/\(q*y1+r=un/\Q<=q)/\r<y1/\q<=un/\0<=(q:Int)*y1/\(q:Int)*y1<=un:=by
 have hm:=Nat.div_add_mod un y1
 have hc:=Nat.mul_comm y1 (un/y1)
 have hs:=NZ (B:=4294967296) (un:=un) (y1:=y1) (y0:=y0) (u1:=u1) (by omega) (by omega) hu
 rw[<-hY,<-hQ]at hs
 have e:((un/y1*y1:Nat):Int)=((un/y1:Nat):Int)*y1:=by simp
 refine⟨un/y1,un%y1,by simp,by omega,⟨by omega,hs⟩,Nat.mod_lt _ (by omega),Nat.div_le_self _ _,by omega,by omega⟩
def C3(a b:Nat)(ha:a<4294967296)(hb:b<4294967296):0<=(a:Int)*b/\(a:Int)*b<=18446744065119617025:=by
 have h:a*b<=4294967295*4294967295:=Nat.mul_le_mul (by omega) (by omega)
 have e:((a*b:Nat):Int)=(a:Int)*b:=by simp
 omega
def nS(a b:Nat):((a*b:Nat):Int)=(a:Int)*b:=by simp
def R6{hi lo y Q1 Q0:Nat}(h0:hi<y)(hl:lo<18446744073709551616)(x1:Q1*4294967296+Q0=(hi*18446744073709551616+lo)/y):
  IntKind.u64.wrap (IntKind.u64.wrap ((Q1:Int)*4294967296)+Q0)=(((hi*18446744073709551616+lo)/y:Nat):Int):=by
 have hlt:(hi*18446744073709551616+lo)/y<18446744073709551616:=by
  rw[Nat.div_lt_iff_lt_mul (by omega)]
  have:(hi+1)*18446744073709551616<=y*18446744073709551616:=Nat.mul_le_mul_right _ h0
  rw[Nat.add_mul]at this
  rw[Nat.mul_comm _ y]
  omega
 generalize (hi*18446744073709551616+lo)/y=z at *
 rw[IntKind.wrap_u64,IntKind.wrap_u64]
 omega
def VC{r0 s z:Nat}(h:r0/2 ^ s=z):(r0:Int)/2 ^ s=(z:Int):=by rw[<-h];simp
def JX(lo y:Nat)(hl:lo<18446744073709551616):IntKind.u64.wrap ((lo:Int)/y)=(lo:Int)/y:=by
 have e:(lo:Int)/y=((lo/y:Nat):Int):=by simp
 have:=Nat.div_le_self lo y
 rw[e]
 generalize lo/y=z at *
 exact IntWalk.u64_in _ (by omega)
open Go.RowKit
def lz(y:Nat)(h0:0<y)(h1:y<18446744073709551616):∃s:Nat,s<=63/\9223372036854775808<=y*2 ^ s/\y*2 ^ s<18446744073709551616 /\
  ∀w:World,Calls prog 387 #[.int .u64 y] w fun e w'=>e=.returned (.int .i64 s)/\w=w':=by
 obtain⟨a,b,c⟩:=Lib.bitLenAux_bounds 64 y h1 (by omega)
 have hL:Lib.bitLenAux 64 y<=64:=Lib.bitLen_le y 64 (Nat.le_refl _) h1
 have hc:=fun w=>Tryz.bits_LeadingZeros64 y w (by omega) (by omega)
 simp only[Int.toNat_natCast,Lib.bitLen]at hc
 generalize Lib.bitLenAux 64 y=L at *
 have e:2 ^ (64-L)*2 ^ (L-1)=9223372036854775808:=by rw[<-Nat.pow_add,show 64-L+(L-1)=63 from by omega]
 have e2:2 ^ (64-L)*2 ^ L=18446744073709551616:=by rw[<-Nat.pow_add,show 64-L+L=64 from by omega]
 have hp:0<2 ^ (64-L):=Nat.two_pow_pos _
 refine⟨64-L,by omega,?_,?_,?_⟩
 ·rw[<-e,Nat.mul_comm y];exact Nat.mul_le_mul_left _ b
 ·rw[<-e2,Nat.mul_comm y];exact Nat.mul_lt_mul_of_pos_left c hp
 intro w
 have:=hc w
 rw[show(64:Int)-(L:Int)=((64-L:Nat):Int) from by omega]at this
 refine this.mono ?_
 rintro e w' ⟨h,h'⟩
 exact⟨h,h'.symm⟩
def PQ(hi lo y:Nat)(w:World)(h0:hi<y)(hh:0<hi)(hy:y<18446744073709551616)(hl:lo<18446744073709551616):
  Calls prog 366 #[.int .u64 hi,.int .u64 lo,.int .u64 y] w fun e w'=>e=.returned (.tuple #[.int .u64 ((hi*18446744073709551616+lo)/y:Nat),.int .u64 ((hi*18446744073709551616+lo)%y:Nat)])/\∃n,w'=w.drewN n:=by
 have t0:((y:Int)==0)=false:=by simp;omega
 have t1:((hi:Int)==0)=false:=by simp;omega
 have hy2:0<y:=by omega
 obtain⟨s,s1,s2,s3,hc⟩:=lz y hy2 hy
 have Hc:=Lib.hid hc
 clear hc
 have ep:(y:Int)*2 ^ s=((y*2 ^ s:Nat):Int):=by simp
 have b1:(9223372036854775808:Int)<=(y:Int)*2 ^ s:=by rw[ep];omega
 have b2:(y:Int)*2 ^ s<=18446744073709551615:=by rw[ep];omega
 clear ep
 obtain⟨Y,y1,y0,un,ul,u1,u0,e1,e2,e3,e4,e5,e6,e7,f1,f2,f3,f3',f4,f5,f6,f7,f8,f9⟩:=KT hi lo y s h0 s1 s2 s3 hl
 have hYb:9223372036854775808<=Y/\Y<18446744073709551616:=by rw[f8];exact⟨s2,s3⟩
 have hend:=fun q1 q0 r1 r0=>@N4 hi lo y s Y un ul u1 u0 q1 q0 r1 r0 hy2 f8 f9 f4
 have Hend:=Lib.hid hend
 have Hs2:=Lib.hid s2
 have Hs3:=Lib.hid s3
 have F1:=Lib.hid f1
 have F4:=Lib.hid f4
 clear hend s2 s3 f1 f4 f8 f9
 obtain⟨Q1,hQ1⟩:∃Q1,Q1=(un*4294967296+u1)/Y:=⟨_,rfl⟩
 obtain⟨q,r,e8,e9,g1,g2,g3,g4,g5⟩:=CQ F1.out hQ1 f3 f5
 have hnext:=fun a b=>@Jy un y1 y0 u1 a b Q1 Y F1.out hQ1 f3 f2 f5 f7
 have hout:=fun a b=>@MR un y1 y0 u1 a b Q1 Y F1.out hQ1 f3
 have Hnext:=Lib.hid hnext
 have Hout:=Lib.hid hout
 have G1:=Lib.hid g1
 have HQ1:=Lib.hid hQ1
 clear hQ1 g1 hnext hout
 go_enter func366,ntmps366
 go_upto_block 0 with (go_at_call 387;refine(Hc.out _).mono ?_;rintro e w' ⟨rfl,rfl⟩)
 go_cut [15] (fun x wx=>x=.int .u64 Q1/\wx=w)
 case first =>
  clear e1 e2 e3 e4 e5 e6 e7 e8 e9
  go_wp2_with fail
  go_loop [15,16] (fun x z=>∃a b:Nat,x=.int .u64 a/\z=.int .u64 b/\Hid (a*y1+b=un/\Q1<=a)/\b<4294967296/\a<=18446744073709551615) (fun x _=>(intOf x).toNat)
  case atStart=>exact⟨q,r,rfl,rfl,G1,by omega,by omega⟩
  case round =>
   obtain⟨a,b,rfl,rfl,hi1,hi2,hi3⟩:=hrel
   have F3:=Lib.hid f3
   have F3':=Lib.hid f3'
   have F2:=Lib.hid f2
   have F5:=Lib.hid f5
   have D4:=Lib.hid hi2
   have d0:(a:Int)<=18446744073709551615:=by omega
   have d3:(b:Int)<4294967296:=by omega
   have d4:(y1:Int)<4294967296:=by omega
   have d5:(2147483648:Int)<=y1:=by omega
   have d6:(u1:Int)<4294967296:=by omega
   clear hYb hl hy b1 b2 h0 hh t0 t1 hy2 g2 g3 g4 g5 f7 f3 f3' f2 f5 f6 hi2 hi3
   by_cases c1:(4294967296:Int)<=(a:Int)
   ·obtain⟨a',rfl,j1,j2⟩:=Hnext.out a b hi1.out (.inl (by omega))
    have J1:=Lib.hid j1
    have J2:=Lib.hid j2
    have C1:(4294967296:Int)<=(a':Int)+1:=by omega
    have D0:(a':Int)+1<=18446744073709551615:=by omega
    clear j1 j2 hi1 c1 d0
    by_cases c3:(4294967296:Int)<=(b:Int)+y1
    ·go_wp2_with fail
     go_meet
     exact⟨by rw[<-J2.out (by omega)],rfl⟩
    go_wp2_with fail
    go_round
    case rel=>exact⟨a',b+y1,rfl,by go_num,J1,by omega,by omega⟩
    case measure=>simp[intOf]
   obtain⟨p1,p2⟩:=C3 a y0 (by omega) F2.out
   by_cases c2:4294967296*(b:Int)+u1<(a:Int)*y0
   ·have C2:=Lib.hid c2
    obtain⟨a',ha',j1,j2⟩:=Hnext.out a b hi1.out (.inr (by have:=nS a y0;omega))
    have A:=Lib.hid ha'
    have J1:=Lib.hid j1
    have J2:=Lib.hid j2
    have d1:(1:Int)<=(a:Int):=by omega
    clear ha' j1 j2 hi1
    by_cases c3:(4294967296:Int)<=(b:Int)+y1
    ·go_wp2_with fail
     go_meet
     exact⟨by rw[<-J2.out (by omega)];have:=A.out;go_num,rfl⟩
    go_wp2_with fail
    go_round
    case rel=>exact⟨a',b+y1,by have:=A.out;go_num,by go_num,J1,by omega,by have:=A.out;omega⟩
    case measure=>have:=A.out;simp[intOf];omega
   have J:=Lib.hid (Hout.out a b hi1.out (by have:=nS a y0;omega))
   clear hi1
   go_wp2_with fail
   go_meet
   exact⟨by rw[<-J.out],rfl⟩
 case rest =>
  obtain⟨rfl,rfl⟩:=hcut
  clear e1 e2 e3 e4 e5 e6 e7 e8 e9 g2 g3 g4 g5
  obtain⟨r1,hr1⟩:∃r1,r1=(un*4294967296+u1)%Y:=⟨_,rfl⟩
  have hr1Y:r1<Y:=by rw[hr1];exact Nat.mod_lt _ (by omega)
  have ed:=Nat.div_add_mod (un*4294967296+u1) Y
  rw[<-HQ1.out,<-hr1]at ed
  have ep:=nS Q1 Y
  have ec:=Nat.mul_comm Y Q1
  have er:IntKind.u64.wrap (IntKind.u64.wrap (IntKind.u64.wrap ((un:Int)*4294967296)+u1)-IntKind.u64.wrap ((Q1:Int)*Y))=(r1:Int):=by
   rw[IntKind.wrap_u64,IntKind.wrap_u64,IntKind.wrap_u64,IntKind.wrap_u64];omega
  clear ed ep ec
  obtain⟨Q0,hQ0⟩:∃Q0,Q0=(r1*4294967296+u0)/Y:=⟨_,rfl⟩
  obtain⟨q',r',e8,e9,g1,g2,g3,g4,g5⟩:=CQ F1.out hQ0 f3 f6
  have hnext:=fun a b=>@Jy r1 y1 y0 u0 a b Q0 Y F1.out hQ0 f3 f2 f6 hr1Y
  have hout:=fun a b=>@MR r1 y1 y0 u0 a b Q0 Y F1.out hQ0 f3
  have Hnext':=Lib.hid hnext
  have Hout':=Lib.hid hout
  have G1':=Lib.hid g1
  have HQ0:=Lib.hid hQ0
  have HR1:=Lib.hid hr1
  clear hQ0 g1 hnext hout hr1
  go_upto_block 2 with fail
  go_cut [18] (fun x wx=>x=.int .u64 Q0/\wx=wc)
  case first =>
   clear er e8 e9
   go_wp2_with fail
   go_loop [18,16] (fun x z=>∃a b:Nat,x=.int .u64 a/\z=.int .u64 b/\Hid (a*y1+b=r1/\Q0<=a)/\b<4294967296/\a<=18446744073709551615) (fun x _=>(intOf x).toNat)
   case atStart=>exact⟨q',r',rfl,rfl,G1',by omega,by omega⟩
   case round =>
    obtain⟨a,b,rfl,rfl,hi1,hi2,hi3⟩:=hrel
    have F3:=Lib.hid f3
    have F3':=Lib.hid f3'
    have F2:=Lib.hid f2
    have F5:=Lib.hid f6
    have D4:=Lib.hid hi2
    have d0:(a:Int)<=18446744073709551615:=by omega
    have d3:(b:Int)<4294967296:=by omega
    have d4:(y1:Int)<4294967296:=by omega
    have d5:(2147483648:Int)<=y1:=by omega
    have d6:(u0:Int)<4294967296:=by omega
    clear hYb hl hy b1 b2 h0 hh t0 t1 hy2 g2 g3 g4 g5 f7 hr1Y f3 f3' f2 f5 f6 hi2 hi3
    by_cases c1:(4294967296:Int)<=(a:Int)
    ·obtain⟨a',rfl,j1,j2⟩:=Hnext'.out a b hi1.out (.inl (by omega))
     have J1:=Lib.hid j1
     have J2:=Lib.hid j2
     have C1:(4294967296:Int)<=(a':Int)+1:=by omega
     have D0:(a':Int)+1<=18446744073709551615:=by omega
     clear j1 j2 hi1 c1 d0
     by_cases c3:(4294967296:Int)<=(b:Int)+y1
     ·go_wp2_with fail
      go_meet
      exact⟨by rw[<-J2.out (by omega)],rfl⟩
     go_wp2_with fail
     go_round
     case rel=>exact⟨a',b+y1,rfl,by go_num,J1,by omega,by omega⟩
     case measure=>simp[intOf]
    obtain⟨p1,p2⟩:=C3 a y0 (by omega) F2.out
    by_cases c2:4294967296*(b:Int)+u0<(a:Int)*y0
    ·have C2:=Lib.hid c2
     obtain⟨a',ha',j1,j2⟩:=Hnext'.out a b hi1.out (.inr (by have:=nS a y0;omega))
     have A:=Lib.hid ha'
     have J1:=Lib.hid j1
     have J2:=Lib.hid j2
     have d1:(1:Int)<=(a:Int):=by omega
     clear ha' j1 j2 hi1
     by_cases c3:(4294967296:Int)<=(b:Int)+y1
     ·go_wp2_with fail
      go_meet
      exact⟨by rw[<-J2.out (by omega)];have:=A.out;go_num,rfl⟩
     go_wp2_with fail
     go_round
     case rel=>exact⟨a',b+y1,by have:=A.out;go_num,by go_num,J1,by omega,by have:=A.out;omega⟩
     case measure=>have:=A.out;simp[intOf];omega
    have J:=Lib.hid (Hout'.out a b hi1.out (by have:=nS a y0;omega))
    clear hi1
    go_wp2_with fail
    go_meet
    exact⟨by rw[<-J.out],rfl⟩
  case rest =>
   obtain⟨rfl,rfl⟩:=hcut
   clear er e8 e9 g2 g3 g4 g5
   obtain⟨r0,hr0⟩:∃r0,r0=(r1*4294967296+u0)%Y:=⟨_,rfl⟩
   have hr0Y:r0<Y:=by rw[hr0];exact Nat.mod_lt _ (by omega)
   have ed:=Nat.div_add_mod (r1*4294967296+u0) Y
   rw[<-HQ0.out,<-hr0]at ed
   have ep:=nS Q0 Y
   have ec:=Nat.mul_comm Y Q0
   have er:IntKind.u64.wrap (IntKind.u64.wrap (IntKind.u64.wrap ((r1:Int)*4294967296)+u0)-IntKind.u64.wrap ((Q0:Int)*Y))=(r0:Int):=by
    rw[IntKind.wrap_u64,IntKind.wrap_u64,IntKind.wrap_u64,IntKind.wrap_u64];omega
   have HE:=Lib.hid (Hend.out Q1 Q0 r1 r0 HQ1.out HR1.out HQ0.out hr0)
   clear ed ep ec hr0
   go_wp2_with fail
   go_ret2
   refine⟨Lr ?_ ?_,yl _⟩
   ·exact R6 h0 hl HE.out.1
   exact VC HE.out.2
def GH(hi lo y:Nat)(w:World)(h0:hi<y)(hh:hi=0)(hy:y<18446744073709551616)(hl:lo<18446744073709551616):
  Calls prog 366 #[.int .u64 hi,.int .u64 lo,.int .u64 y] w fun e w'=>e=.returned (.tuple #[.int .u64 ((hi*18446744073709551616+lo)/y:Nat),.int .u64 ((hi*18446744073709551616+lo)%y:Nat)])/\∃n,w'=w.drewN n:=by
 have H:=Lib.hid hh
 have t0:((y:Int)==0)=false:=by simp;omega
 have t1:((hi:Int)==0)=true:=by simp;omega
 have hy2:0<y:=by omega
 clear hh
 go_enter func366,ntmps366
 go_wp2
 go_quiet (fail)
 go_wp2
 go_ret2
 refine⟨Lr ?_ ?_,_,rfl⟩
 ·rw[H.out];simp[JX lo y hl]
 rw[H.out];simp
def uV(hi lo y:Nat)(w:World)(h0:hi<y)(hy:y<18446744073709551616)(hl:lo<18446744073709551616):
  Calls prog 366 #[.int .u64 hi,.int .u64 lo,.int .u64 y] w fun e w'=>e=.returned (.tuple #[.int .u64 ((hi*18446744073709551616+lo)/y:Nat),.int .u64 ((hi*18446744073709551616+lo)%y:Nat)])/\∃n,w'=w.drewN n:=by
 by_cases hh:hi=0
 ·exact GH hi lo y w h0 hh hy hl
 exact PQ hi lo y w h0 (by omega) hy hl
end Go.Proofs.YtjcminooghmpeaaGreatDoor
namespace Go.Proofs.YtjcminooghmpeaaGreatDoor
open Go.RowKit (wrap64)
def Yz(lo hi:Int)(h:0<=hi):(PS lo hi).natAbs=hi.toNat*18446744073709551616+U lo:=by unfold PS;omega
def Ed(lo hi:Int):PS lo hi<0↔hi<0:=by
 have:=B1 lo
 unfold PS;omega
def TB(lo hi d:Int)(hd:d≠0)(q r:Nat)(hq:q=(PS lo hi).natAbs/d.natAbs)(hr:r=(PS lo hi).natAbs%d.natAbs):
  lL lo hi d=(if (decide (hi<0) != decide (d<0))=true then(if q<=9223372036854775808 then(-(q:Int),(if hi<0 then -(r:Int)else r),0)else(0,0,-11))
   else(if q<9223372036854775808 then((q:Int),(if hi<0 then -(r:Int)else r),0)else(0,0,-11))):=by
 obtain⟨h1,h2⟩:=qN (PS lo hi) d hd
 rw[<-hq]at h1
 rw[<-hr]at h2
 have hn:decide (PS lo hi<0)=decide (hi<0):=by simp[Ed]
 rw[hn]at h1
 simp only[Ed]at h2
 simp only[lL,if_neg hd,h1,h2]
 by_cases hb:(decide (hi<0) != decide (d<0))=true
 ·simp only[if_pos hb]
  by_cases hf:q<=9223372036854775808
  ·rw[if_pos hf,if_pos (by simp[gl];omega)]
  rw[if_neg hf,if_neg (by simp[gl];omega)]
 simp only[if_neg hb]
 by_cases hf:q<9223372036854775808
 ·rw[if_pos hf,if_pos (by simp[gl];omega)]
 rw[if_neg hf,if_neg (by simp[gl];omega)]
def RS(lo hi d:Int)(hd:d≠0)(q r:Nat)(hq:q=(PS lo hi).natAbs/d.natAbs)(hr:r=(PS lo hi).natAbs%d.natAbs):
    jL lo hi d=(if (decide (hi<0) != decide (d<0))=true then
        (if r=0 then(if q<=9223372036854775808 then(-(q:Int),0,0)else(0,0,-11))
         else(if q+1<=9223372036854775808 then(-((q:Int)+1),(if d<0 then -((d.natAbs-r:Nat):Int)else((d.natAbs-r:Nat):Int)),0)else(0,0,-11)))
      else(if q<9223372036854775808 then((q:Int),(if d<0 then -(r:Int)else r),0)else(0,0,-11))):=by
  obtain⟨h1,h2⟩:=qN (PS lo hi) d hd
  obtain⟨h3,h4⟩:=tN (PS lo hi) d hd
  have hlt:r<d.natAbs:=by rw[hr];exact Nat.mod_lt _ (by omega)
  rw[<-hq]at h1
  rw[<-hr]at h2
  have hn:decide (PS lo hi<0)=decide (hi<0):=by simp[Ed]
  rw[hn]at h1 h3 h4
  simp only[Ed]at h2
  have hz:(PS lo hi).tmod d≠0↔r≠0:=by rw[h2];split<;>omega
  simp only[hz]at h3 h4
  simp only[jL,if_neg hd]
  by_cases hb:(decide (hi<0) != decide (d<0))=true
  · simp only[if_pos hb]
    rw[if_pos hb]at h1
    by_cases hr0:r=0
    · rw[if_neg (by simp[hr0])]at h3 h4
      rw[if_pos hr0]
      have h5:(PS lo hi).tmod d=0:=by rw[h2,hr0];split<;>rfl
      rw[h3,h4,h1,h5]
      by_cases hf:q<=9223372036854775808
      · rw[if_pos hf,if_pos (by simp[gl];omega)]
      rw[if_neg hf,if_neg (by simp[gl];omega)]
    rw[if_pos ⟨hr0,hb⟩]at h3 h4
    rw[if_neg hr0]
    have h5:(PS lo hi).tmod d+d=(if d<0 then -((d.natAbs-r:Nat):Int)else((d.natAbs-r:Nat):Int)):=by
      rw[h2]
      by_cases a:hi<0<;>by_cases b:d<0<;>simp[a,b]at hb ⊢<;>omega
    rw[h3,h4,h1,h5]
    by_cases hf:q+1<=9223372036854775808
    · rw[if_pos hf,if_pos (by simp[gl];omega),show -(q:Int)-1 = -((q:Int)+1) from by omega]
    rw[if_neg hf,if_neg (by simp[gl];omega)]
  simp only[if_neg hb]
  rw[if_neg hb]at h1
  rw[if_neg (by simp[hb])]at h3 h4
  have h5:(PS lo hi).tmod d=(if d<0 then -(r:Int)else r):=by
    rw[h2]
    by_cases a:hi<0<;>by_cases b:d<0<;>simp[a,b]at hb ⊢
  rw[h3,h4,h1,h5]
  by_cases hf:q<9223372036854775808
  · rw[if_pos hf,if_pos (by simp[gl];omega)]
  rw[if_neg hf,if_neg (by simp[gl];omega)]
open Go.RowKit
def CJ(lo hi d:Int)(w:World):
  Calls prog 287 #[.int .i64 lo,.int .i64 hi,.int .i64 d] w fun e w'=>e=.returned (.tuple #[.int .i64 (iH lo hi d).1,.int .i64 (iH lo hi d).2.1,.int .i64 (iH lo hi d).2.2])/\∃n,w'=w.drewN n:=by
 have b1:=B1 lo
 have b2:=B1 d
 by_cases h:d=0
 ·have E:iH lo hi d=(0,0,-10):=by simp[iH,h]
  have H:=Lib.hid E
  have t:(d==0)=true:=by simp[h]
  clear E h b1 b2
  go_enter func287,ntmps287
  go_wp2
  go_ret3
  exact⟨pw (by rw[H.out]) (by rw[H.out]) (by rw[H.out]),yl w⟩
 have t:(d==0)=false:=by simp[h]
 by_cases h2:U d<=U hi
 ·have E:iH lo hi d=(0,0,-11):=by simp[iH,h,h2]
  have H:=Lib.hid E
  have t2:decide (U hi<U d)=false:=by simp;omega
  clear E b1 b2
  go_enter func287,ntmps287
  go_wp2_with (go_at_call 359;refine(uC _ _ _).mono ?_;rintro e w' ⟨rfl,rfl⟩)
  go_ret3
  exact⟨pw (by rw[H.out]) (by rw[H.out]) (by rw[H.out]),yl w⟩
 have E:iH lo hi d=(S (PU lo hi/U d),S (PU lo hi%U d),0):=by simp[iH,h,h2]
 have H:=Lib.hid E
 have t2:decide (U hi<U d)=true:=by simp;omega
 have HB:=Lib.hid b1
 have HB2:=Lib.hid b2
 have H2:=Lib.hid h2
 clear E b1 b2 h2
 go_enter func287,ntmps287
 go_wp2_with (go_at_call 359;refine(uC _ _ _).mono ?_;rintro e w' ⟨rfl,rfl⟩)
 rw[lZ hi,lZ lo,lZ d]
 refine(uV (U hi) (U lo) (U d) _ (by have:=H2.out;omega) HB2.out HB.out).mono ?_
 rintro e w' ⟨rfl,n,rfl⟩
 go_wp2
 go_ret3
 exact⟨pw (by rw[H.out];simp[S,PU]) (by rw[H.out];simp[S,PU]) (by rw[H.out]),_,rfl⟩
def BT(lo hi d:Int)(w:World)(hh:Fit hi)(hd:Fit d)(hp:0<=hi):
  Calls prog 361 #[.int .i64 lo,.int .i64 hi,.int .i64 d] w fun e w' =>
   e=(if (PS lo hi).natAbs/18446744073709551616<d.natAbs then .returned (.tuple #[.int .u64 ((PS lo hi).natAbs/d.natAbs:Nat),.int .u64 ((PS lo hi).natAbs%d.natAbs:Nat),.bool (!(decide (hi<0)==decide (d<0))),.bool true])
    else .returned (.tuple #[.int .u64 0,.int .u64 0,.bool false,.bool false]))/\∃n,w'=w.drewN n:=by
 have b1:=B1 lo
 have u1:=lZ hi
 have u3:=lZ lo
 have hs:=Yz lo hi hp
 have hU:U hi=hi.toNat:=aS7 hi hp hh.2
 rw[<-hU]at hs
 by_cases h2:d.natAbs<=U hi
 ·have E:¬(PS lo hi).natAbs/18446744073709551616<d.natAbs:=by omega
  rw[if_neg E]
  clear E hs b1 hU
  go_enter func361,ntmps361
  go_wp2_with (go_at_call 362;refine(pZ d _ hd).mono ?_;rintro e w' ⟨rfl,rfl⟩)
  exact bodyPost_ret (v:=.tuple #[.int .u64 0,.int .u64 0,.bool false,.bool false]) (by simp[results,Tryz.results361,go_sem]) rfl ⟨rfl,yl _⟩
 have E:(PS lo hi).natAbs/18446744073709551616<d.natAbs:=by omega
 rw[if_pos E]
 have HS:=Lib.hid hs
 have HB:=Lib.hid b1
 clear E hs b1 hU
 go_enter func361,ntmps361
 go_wp2_with (go_at_call 362;refine(pZ d _ hd).mono ?_;rintro e w' ⟨rfl,rfl⟩)
 refine(uV (U hi) (U lo) d.natAbs _ (by omega) (by omega) HB.out).mono ?_
 rintro e w' ⟨rfl,n,rfl⟩
 go_wp2
 exact bodyPost_ret (v:=.tuple #[.int .u64 ((PS lo hi).natAbs/d.natAbs:Nat),.int .u64 ((PS lo hi).natAbs%d.natAbs:Nat),.bool (!(decide (hi<0)==decide (d<0))),.bool true]) (by rw[HS.out];simp[results,Tryz.results361,go_sem]) rfl ⟨rfl,_,rfl⟩
def NF(n:Nat)(h:n<18446744073709551616):bits .xor .u64 IntKind.u64.max (n:Int)=((18446744073709551615-n:Nat):Int):=by
 show IntKind.u64.wrap ((BitVec.ofInt 64 IntKind.u64.max ^^^ BitVec.ofInt 64 (n:Int)).toNat:Int)=_
 have e:BitVec.ofInt 64 IntKind.u64.max=BitVec.allOnes 64:=by decide
 have h1:(BitVec.ofInt 64 (n:Int)).toNat=n:=by
  rw[BitVec.ofInt_natCast,BitVec.toNat_ofNat];exact Nat.mod_eq_of_lt (by omega)
 rw[e,BitVec.allOnes_xor,BitVec.toNat_not,h1]
 exact IntWalk.u64_in _ (by omega)
def PT(x:Nat)(w:World):
  (callFunc 386 #[.int .u64 (x:Int),.int .u64 1,.int .u64 0]).run prog w =
   .ok (.value (.tuple #[.int .u64 (((x+1)%18446744073709551616:Nat):Int),.int .u64 (((x+1)/18446744073709551616:Nat):Int)])) w:=by
 rw[run_callFunc_extern func386 (by kernel_rfl) (by kernel_rfl) (by kernel_rfl) (e:=add64Entry) (by kernel_rfl),run_add64 _ _ _ (by omega) (by omega) (by omega) (by omega)]
 simp only[Result.andThen]
 congr 5
def BS(lo hi d:Int)(w:World)(hh:Fit hi)(hd:Fit d)(hp:hi<0):
  Calls prog 361 #[.int .i64 lo,.int .i64 hi,.int .i64 d] w fun e w' =>
   e=(if (PS lo hi).natAbs/18446744073709551616<d.natAbs then .returned (.tuple #[.int .u64 ((PS lo hi).natAbs/d.natAbs:Nat),.int .u64 ((PS lo hi).natAbs%d.natAbs:Nat),.bool (!(decide (hi<0)==decide (d<0))),.bool true])
    else .returned (.tuple #[.int .u64 0,.int .u64 0,.bool false,.bool false]))/\∃n,w'=w.drewN n:=by
 have b1:=B1 lo
 have b2:=B1 hi
 have hneg:=aa6 hi hp hh.1
 have hA:((PS lo hi).natAbs:Int) = -(hi*18446744073709551616+U lo):=by unfold PS;omega
 have u1:=lZ hi
 have u3:=lZ lo
 have n1:=NF (U lo) b1
 have n2:=NF (U hi) b2
 have radd:=fun w=>PT (18446744073709551615-U lo) w
 generalize (PS lo hi).natAbs=A at *
 obtain⟨low,hlow⟩:∃l,l=A%18446744073709551616:=⟨_,rfl⟩
 obtain⟨high,hhigh⟩:∃l,l=A/18446744073709551616:=⟨_,rfl⟩
 obtain⟨c,hc⟩:∃c,c=(18446744073709551615-U lo+1)/18446744073709551616:=⟨_,rfl⟩
 obtain⟨nl,hnl⟩:∃c,c=18446744073709551615-U lo:=⟨_,rfl⟩
 obtain⟨nh,hnh⟩:∃c,c=18446744073709551615-U hi:=⟨_,rfl⟩
 have f1:(18446744073709551615-U lo+1)%18446744073709551616=low:=by omega
 have f2:IntKind.u64.wrap ((nh:Int)+(c:Int))=(high:Int):=by rw[IntKind.wrap_u64];omega
 have hAe:A=high*18446744073709551616+low:=by omega
 have hlt:low<18446744073709551616:=by omega
 rw[f1,<-hc,<-hnl]at radd
 rw[<-hnl]at n1
 rw[<-hnh]at n2
 rw[<-hhigh]
 clear hlow hhigh hc hnl hnh f1 hA hneg b1 b2
 by_cases h2:d.natAbs<=high
 ·rw[if_neg (by omega)]
  clear hAe hlt
  go_enter func361,ntmps361
  go_wp2_with (go_at_call 362;refine(pZ d _ hd).mono ?_;rintro e w' ⟨rfl,rfl⟩)
  exact bodyPost_ret (v:=.tuple #[.int .u64 0,.int .u64 0,.bool false,.bool false]) (by simp[results,Tryz.results361,go_sem]) rfl ⟨rfl,yl _⟩
 rw[if_pos (by omega)]
 have HS:=Lib.hid hAe
 have HB:=Lib.hid hlt
 clear hAe hlt
 go_enter func361,ntmps361
 go_wp2_with (go_at_call 362;refine(pZ d _ hd).mono ?_;rintro e w' ⟨rfl,rfl⟩)
 refine(uV high low d.natAbs _ (by omega) (by omega) HB.out).mono ?_
 rintro e w' ⟨rfl,n,rfl⟩
 go_wp2
 exact bodyPost_ret (v:=.tuple #[.int .u64 (A/d.natAbs:Nat),.int .u64 (A%d.natAbs:Nat),.bool (!(decide (hi<0)==decide (d<0))),.bool true]) (by rw[HS.out];simp[results,Tryz.results361,go_sem,hp]) rfl ⟨rfl,_,rfl⟩
def DU(lo hi d:Int)(w:World)(hh:Fit hi)(hd:Fit d)(h:¬(PS lo hi).natAbs/18446744073709551616<d.natAbs):
  Calls prog 361 #[.int .i64 lo,.int .i64 hi,.int .i64 d] w fun e w' =>
   e=.returned (.tuple #[.int .u64 0,.int .u64 0,.bool false,.bool false])/\∃n,w'=w.drewN n:=by
 by_cases hp:hi<0
 ·have:=BS lo hi d w hh hd hp
  rw[if_neg h]at this;exact this
 have:=BT lo hi d w hh hd (by omega)
 rw[if_neg h]at this;exact this
def AY(lo hi d:Int)(w:World)(hh:Fit hi)(hd:Fit d)(q r:Nat)(b:Bool)(h:(PS lo hi).natAbs/18446744073709551616<d.natAbs)
  (hq:q=(PS lo hi).natAbs/d.natAbs) (hr:r=(PS lo hi).natAbs%d.natAbs) (hb:(decide (hi<0) != decide (d<0))=b) :
  Calls prog 361 #[.int .i64 lo,.int .i64 hi,.int .i64 d] w fun e w' =>
   e=.returned (.tuple #[.int .u64 q,.int .u64 r,.bool b,.bool true])/\∃n,w'=w.drewN n:=by
 subst hq hr
 have hb':(!(decide (hi<0)==decide (d<0)))=b:=hb
 by_cases hp:hi<0
 ·have:=BS lo hi d w hh hd hp
  rw[if_pos h,hb']at this;exact this
 have:=BT lo hi d w hh hd (by omega)
 rw[if_pos h,hb']at this;exact this
def IL(q:Nat)(f:Bool)(w:World)(hq:q<18446744073709551616)(hf:decide (q<=9223372036854775808)=f):
  Calls prog 363 #[.int .u64 q,.bool true] w fun e w'=>e=.returned (.tuple #[.int .i64 (wrap64 (-(q:Int))),.bool f])/\w=w':=by
 have e:IntKind.i64.wrap (IntKind.u64.wrap (-(q:Int)))=wrap64 (-(q:Int)):=by
  rw[IntWalk.i64_left,IntKind.wrap_u64];unfold wrap64;omega
 cases f
 ·have h:¬(q:Int)<=9223372036854775808:=by simp at hf;omega
  clear hf hq
  go_enter func363,ntmps363
  go_wp2
  go_ret2
  exact⟨by rw[<-e];simp[go_sem];done,rfl⟩
 have h:(q:Int)<=9223372036854775808:=by simp at hf;omega
 clear hf hq
 go_enter func363,ntmps363
 go_wp2
 go_ret2
 exact⟨by rw[<-e];simp[go_sem];done,rfl⟩
def GS(q:Nat)(f:Bool)(w:World)(hf:decide (q<9223372036854775808)=f):
  Calls prog 363 #[.int .u64 q,.bool false] w fun e w'=>e=.returned (.tuple #[.int .i64 (wrap64 q),.bool f])/\w=w':=by
 cases f
 ·have h:¬(q:Int)<9223372036854775808:=by simp at hf;omega
  clear hf
  go_enter func363,ntmps363
  go_wp2
  go_ret2
  exact⟨by simp[go_sem];done,rfl⟩
 have h:(q:Int)<9223372036854775808:=by simp at hf;omega
 clear hf
 go_enter func363,ntmps363
 go_wp2
 go_ret2
 exact⟨by rw[da q (by omega)];rfl,rfl⟩
def t6(q:Nat)(b:Bool):Int:=wrap64 (if b then -(q:Int)else q)
def tS(q:Nat)(b:Bool):Bool:=if b then decide (q<=9223372036854775808)else decide (q<9223372036854775808)
def m8(r:Nat)(b:Bool):Int:=wrap64 (if b then -(r:Int)else r)
def mi(q:Nat)(b:Bool)(w:World)(hq:q<18446744073709551616):
  Calls prog 363 #[.int .u64 q,.bool b] w fun e w'=>e=.returned (.tuple #[.int .i64 (t6 q b),.bool (tS q b)])/\w=w':=by
 cases b
 ·exact GS q _ w rfl
 exact IL q _ w hq rfl
def s7(r:Nat)(b:Bool)(w:World):
  Calls prog 364 #[.int .u64 r,.bool b] w fun e w'=>e=.returned (.int .i64 (m8 r b))/\w=w':=by
 have e:wrap64 (IntKind.u64.wrap (-(r:Int)))=wrap64 (-(r:Int)):=by
  rw[IntKind.wrap_u64];unfold wrap64;omega
 have H:=Lib.hid e
 clear e
 cases b
 ·go_enter func364,ntmps364
  go_wp2
  go_ret
  exact⟨ZN rfl,rfl⟩
 go_enter func364,ntmps364
 go_wp2
 go_ret
 exact⟨ZN H.out,rfl⟩
def SB(lo hi d:Int)(h:(PS lo hi).natAbs/18446744073709551616<d.natAbs):(PS lo hi).natAbs/d.natAbs<18446744073709551616:=by
 rw[Nat.div_lt_iff_lt_mul (by omega),Nat.mul_comm]
 exact(Nat.div_lt_iff_lt_mul (by decide)).1 h
def QK(lo hi d:Int)(hd:d≠0)(h:¬(PS lo hi).natAbs/18446744073709551616<d.natAbs):18446744073709551616<=(PS lo hi).natAbs/d.natAbs:=by
 rw[Nat.le_div_iff_mul_le (by omega),Nat.mul_comm]
 have:=Nat.div_mul_le_self (PS lo hi).natAbs 18446744073709551616
 exact Nat.le_trans (Nat.mul_le_mul_right _ (by omega)) this
def Oy(lo hi d:Int)(w:World)(hh:Fit hi)(hd:Fit d):
  Calls prog 289 #[.int .i64 lo,.int .i64 hi,.int .i64 d] w fun e w'=>e=.returned (.tuple #[.int .i64 (lL lo hi d).1,.int .i64 (lL lo hi d).2.1,.int .i64 (lL lo hi d).2.2])/\∃n,w'=w.drewN n:=by
 by_cases hz:d=0
 ·have E:=Lib.hid (show lL lo hi d=(0,0,-10) by simp[lL,hz])
  have t:(d==0)=true:=by simp[hz]
  clear hz
  go_enter func289,ntmps289
  go_wp2
  go_ret3
  exact⟨pw (by rw[E.out]) (by rw[E.out]) (by rw[E.out]),yl w⟩
 have t:(d==0)=false:=by simp[hz]
 obtain⟨q,hq⟩:∃q,q=(PS lo hi).natAbs/d.natAbs:=⟨_,rfl⟩
 obtain⟨r,hr⟩:∃r,r=(PS lo hi).natAbs%d.natAbs:=⟨_,rfl⟩
 have hs:=TB lo hi d hz q r hq hr
 have hrl:r<d.natAbs:=by rw[hr];exact Nat.mod_lt _ (by omega)
 by_cases hy:(PS lo hi).natAbs/18446744073709551616<d.natAbs
 ·obtain⟨b,hb⟩:∃b,(decide (hi<0) != decide (d<0))=b:=⟨_,rfl⟩
  have hql:q<18446744073709551616:=by rw[hq];exact SB lo hi d hy
  have hc:=fun w=>AY lo hi d w hh hd q r b hy hq hr hb
  obtain⟨f,hf⟩:∃f,tS q b=f:=⟨_,rfl⟩
  have hl:=fun w=>mi q b w hql
  rw[hf]at hl
  have E:lL lo hi d=if f then(t6 q b,m8 r (decide (hi<0)),0)else(0,0,-11):=by
   rw[hs,hb,<-hf]
   have hw:m8 r (decide (hi<0))=if hi<0 then -(r:Int)else r:=by
    by_cases hn:hi<0
    ·simp only[m8,hn,decide_true,if_true];exact da _ (by omega)
    simp only[m8,hn,decide_false,if_false,Bool.false_eq_true]
    by_cases hx:r=9223372036854775808
    ·omega
    exact da _ (by omega)
   cases b
   ·simp only[Bool.false_eq_true,if_false,tS,decide_eq_true_eq,t6]
    by_cases hx:q<9223372036854775808
    ·rw[if_pos hx,if_pos hx,da _ (by omega),hw]
    rw[if_neg hx,if_neg hx]
   simp only[if_true,tS,decide_eq_true_eq,t6]
   by_cases hx:q<=9223372036854775808
   ·rw[if_pos hx,if_pos hx,da _ (by omega),hw]
   rw[if_neg hx,if_neg hx]
  have HE:=Lib.hid E
  have HC:=Lib.hid hc
  have HL:=Lib.hid hl
  clear E hc hl hf hb hs hq hr hrl hql hy hz hh hd
  cases f
  ·go_enter func289,ntmps289
   go_wp2_with (first|(go_at_call 361;refine(HC.out _).mono ?_;rintro e w' ⟨rfl,n,rfl⟩)|(go_at_call 363;refine(HL.out _).mono ?_;rintro e w' ⟨rfl,rfl⟩))
   go_ret3
   exact⟨pw (by rw[HE.out];rfl) (by rw[HE.out];rfl) (by rw[HE.out];rfl),_,rfl⟩
  go_enter func289,ntmps289
  go_wp2_with (first|(go_at_call 361;refine(HC.out _).mono ?_;rintro e w' ⟨rfl,n,rfl⟩)|(go_at_call 363;refine(HL.out _).mono ?_;rintro e w' ⟨rfl,rfl⟩)|(go_at_call 364;refine(s7 r _ _).mono ?_;rintro e w' ⟨rfl,rfl⟩))
  go_ret3
  exact⟨pw (by rw[HE.out];rfl) (by rw[HE.out];rfl) (by rw[HE.out];rfl),_,rfl⟩
 have hqg:18446744073709551616<=q:=by rw[hq];exact QK lo hi d hz hy
 have hc:=fun w=>DU lo hi d w hh hd hy
 have E:lL lo hi d=(0,0,-11):=by
  rw[hs]
  by_cases hb:(decide (hi<0) != decide (d<0))=true
  ·rw[if_pos hb,if_neg (show ¬q<=9223372036854775808 by omega)]
  rw[if_neg hb,if_neg (show ¬q<9223372036854775808 by omega)]
 have HE:=Lib.hid E
 have HC:=Lib.hid hc
 clear E hc hs hq hr hrl hqg hy hz hh hd
 go_enter func289,ntmps289
 go_wp2_with (first|(go_at_call 361;refine(HC.out _).mono ?_;rintro e w' ⟨rfl,n,rfl⟩)|(go_at_call 363;refine(mi 0 false _ (by decide)).mono ?_;rintro e w' ⟨rfl,rfl⟩))
 go_ret3
 exact⟨pw (by rw[HE.out]) (by rw[HE.out]) (by rw[HE.out]),_,rfl⟩
def Pf(lo hi d:Int)(w:World)(hh:Fit hi)(hd:Fit d):
  Calls prog 279 #[.int .i64 lo,.int .i64 hi,.int .i64 d] w fun e w'=>e=.returned (.tuple #[.int .i64 (jL lo hi d).1,.int .i64 (jL lo hi d).2.1,.int .i64 (jL lo hi d).2.2])/\∃n,w'=w.drewN n:=by
 by_cases hz:d=0
 ·have E:=Lib.hid (show jL lo hi d=(0,0,-10) by simp[jL,hz])
  have t:(d==0)=true:=by simp[hz]
  clear hz
  go_enter func279,ntmps279
  go_wp2
  go_ret3
  exact⟨pw (by rw[E.out]) (by rw[E.out]) (by rw[E.out]),yl w⟩
 have t:(d==0)=false:=by simp[hz]
 obtain⟨q,hq⟩:∃q,q=(PS lo hi).natAbs/d.natAbs:=⟨_,rfl⟩
 obtain⟨r,hr⟩:∃r,r=(PS lo hi).natAbs%d.natAbs:=⟨_,rfl⟩
 have hs:=RS lo hi d hz q r hq hr
 have hrl:r<d.natAbs:=by rw[hr];exact Nat.mod_lt _ (by omega)
 by_cases hy:(PS lo hi).natAbs/18446744073709551616<d.natAbs
 ·obtain⟨b,hb⟩:∃b,(decide (hi<0) != decide (d<0))=b:=⟨_,rfl⟩
  have hql:q<18446744073709551616:=by rw[hq];exact SB lo hi d hy
  have hc:=fun w=>AY lo hi d w hh hd q r b hy hq hr hb
  rw[hb]at hs
  have HC:=Lib.hid hc
  clear hc hb hq hr hy hz
  have hz1:=fun w=>pZ d w hd
  have HZ:=Lib.hid hz1
  clear hz1
  cases b
  ·simp only[Bool.false_eq_true,if_false]at hs
   obtain⟨f,hf⟩:∃f,tS q false=f:=⟨_,rfl⟩
   have hl:=fun w=>mi q false w hql
   rw[hf]at hl
   have hw:m8 r (decide (d<0))=if d<0 then -((r:Nat):Int)else((r:Nat):Int):=by
    by_cases hn:d<0
    ·simp only[m8,hn,decide_true,if_true];exact da _ (by omega)
    simp only[m8,hn,decide_false,if_false,Bool.false_eq_true];exact da _ (by omega)
   have E:jL lo hi d=if f then(t6 q false,m8 r (decide (d<0)),0)else(0,0,-11):=by
    rw[hs,<-hf]
    simp only[tS,Bool.false_eq_true,if_false,decide_eq_true_eq,t6]
    by_cases hx:q<9223372036854775808
    ·rw[if_pos hx,if_pos hx,da _ (by omega),hw]
    rw[if_neg hx,if_neg hx]
   have HE:=Lib.hid E
   have HL:=Lib.hid hl
   clear E hl hf hs hrl hql hh hd hw
   cases f
   ·go_enter func279,ntmps279
    go_wp2_with (first|(go_at_call 361;refine(HC.out _).mono ?_;rintro e w' ⟨rfl,n,rfl⟩)|(go_at_call 363;refine(HL.out _).mono ?_;rintro e w' ⟨rfl,rfl⟩))
    go_ret3
    exact⟨pw (by rw[HE.out];rfl) (by rw[HE.out];rfl) (by rw[HE.out];rfl),_,rfl⟩
   cases hq0:((q:Int)==0)
   all_goals
    go_enter func279,ntmps279
    go_wp2_with (first|(go_at_call 361;refine(HC.out _).mono ?_;rintro e w' ⟨rfl,n,rfl⟩)|(go_at_call 363;refine(HL.out _).mono ?_;rintro e w' ⟨rfl,rfl⟩)|(go_at_call 364;refine(s7 r _ _).mono ?_;rintro e w' ⟨rfl,rfl⟩))
    go_ret3
    exact⟨pw (by rw[HE.out];rfl) (by rw[HE.out];rfl) (by rw[HE.out];rfl),_,rfl⟩
  simp only[if_true]at hs
  by_cases hr0:r=0
  ·subst hr0
   obtain⟨f,hf⟩:∃f,tS q true=f:=⟨_,rfl⟩
   have hl:=fun w=>mi q true w hql
   rw[hf]at hl
   have hw:m8 0 (decide (d<0))=0:=by
    unfold m8;cases decide (d<0)<;>simp<;>exact da _ (by omega)
   have E:jL lo hi d=if f then(t6 q true,m8 0 (decide (d<0)),0)else(0,0,-11):=by
    rw[hs,<-hf]
    simp only[tS,if_true,decide_eq_true_eq,t6]
    by_cases hx:q<=9223372036854775808
    ·rw[if_pos hx,if_pos hx,da _ (by omega),hw]
    rw[if_neg hx,if_neg hx]
   have HE:=Lib.hid E
   have HL:=Lib.hid hl
   clear E hl hf hs hrl hql hh hd hw
   cases f
   ·go_enter func279,ntmps279
    go_wp2_with (first|(go_at_call 361;refine(HC.out _).mono ?_;rintro e w' ⟨rfl,n,rfl⟩)|(go_at_call 363;refine(HL.out _).mono ?_;rintro e w' ⟨rfl,rfl⟩))
    go_ret3
    exact⟨pw (by rw[HE.out];rfl) (by rw[HE.out];rfl) (by rw[HE.out];rfl),_,rfl⟩
   cases hq0:((q:Int)==0)
   all_goals
    go_enter func279,ntmps279
    go_wp2_with (first|(go_at_call 361;refine(HC.out _).mono ?_;rintro e w' ⟨rfl,n,rfl⟩)|(go_at_call 363;refine(HL.out _).mono ?_;rintro e w' ⟨rfl,rfl⟩)|(go_at_call 364;refine(s7 0 _ _).mono ?_;rintro e w' ⟨rfl,rfl⟩))
    go_ret3
    exact⟨pw (by rw[HE.out];rfl) (by rw[HE.out];rfl) (by rw[HE.out];rfl),_,rfl⟩
  rw[if_neg hr0]at hs
  have g1:((r:Int)==0)=false:=by simp;omega
  have g2:((r:Int) != 0)=true:=by simp;omega
  have hsub:((d.natAbs:Nat):Int)-r=((d.natAbs-r:Nat):Int):=by omega
  obtain⟨r',hr'⟩:∃r',r'=d.natAbs-r:=⟨_,rfl⟩
  rw[<-hr']at hs hsub
  have hrI:(r:Int)<(d.natAbs:Nat):=by omega
  have hdI:((d.natAbs:Nat):Int)<=9223372036854775808:=by omega
  have hr'l:r'<=d.natAbs/\0<r'/\r'<d.natAbs:=by omega
  have g3:((r':Int)==0)=false:=by simp;omega
  have g4:((r':Int) != 0)=true:=by simp;omega
  by_cases hq1:q+1<18446744073709551616
  ·obtain⟨q',hq'⟩:∃q',q'=q+1:=⟨_,rfl⟩
   have hqs:(q:Int)+1=(q':Int):=by omega
   have hqb:(q:Int)<=18446744073709551614:=by omega
   have g5:((q':Int)==0)=false:=by simp;omega
   obtain⟨f,hf⟩:∃f,tS q' true=f:=⟨_,rfl⟩
   have hl:=fun w=>mi q' true w (by omega)
   rw[hf]at hl
   have hw:m8 r' (decide (d<0))=if d<0 then -((r':Nat):Int)else((r':Nat):Int):=by
    by_cases hn:d<0
    ·simp only[m8,hn,decide_true,if_true];exact da _ (by omega)
    simp only[m8,hn,decide_false,if_false,Bool.false_eq_true];exact da _ (by omega)
   have E:jL lo hi d=if f then(t6 q' true,m8 r' (decide (d<0)),0)else(0,0,-11):=by
    rw[hs,<-hf,hqs,<-hq']
    simp only[tS,if_true,decide_eq_true_eq,t6]
    by_cases hx:q'<=9223372036854775808
    ·rw[if_pos hx,if_pos hx,da _ (by omega),hw]
    rw[if_neg hx,if_neg hx]
   have HE:=Lib.hid E
   have HL:=Lib.hid hl
   have HA:=Lib.hid hrl
   clear E hl hf hs hrl hql hh hd hw hr'l hr' hq' hq1 hr0
   cases f
   ·go_enter func279,ntmps279
    go_wp2_with (first|(go_at_call 361;refine(HC.out _).mono ?_;rintro e w' ⟨rfl,n,rfl⟩)|(go_at_call 363;refine(HL.out _).mono ?_;rintro e w' ⟨rfl,rfl⟩)|(go_at_call 362;refine(HZ.out _).mono ?_;rintro e w' ⟨rfl,rfl⟩))
    go_ret3
    exact⟨pw (by rw[HE.out];rfl) (by rw[HE.out];rfl) (by rw[HE.out];rfl),_,rfl⟩
   go_enter func279,ntmps279
   go_wp2_with (first|(go_at_call 361;refine(HC.out _).mono ?_;rintro e w' ⟨rfl,n,rfl⟩)|(go_at_call 363;refine(HL.out _).mono ?_;rintro e w' ⟨rfl,rfl⟩)|(go_at_call 362;refine(HZ.out _).mono ?_;rintro e w' ⟨rfl,rfl⟩)|(go_at_call 364;refine(s7 r' _ _).mono ?_;rintro e w' ⟨rfl,rfl⟩))
   go_ret3
   exact⟨pw (by rw[HE.out];rfl) (by rw[HE.out];rfl) (by rw[HE.out];rfl),_,rfl⟩
  have hqs:IntKind.u64.wrap ((q:Int)+1)=0:=by rw[IntKind.wrap_u64];omega
  have hl:=fun w=>mi 0 true w (by decide)
  have E:jL lo hi d=(0,0,-11):=by
   rw[hs,if_neg (by omega)]
  have HE:=Lib.hid E
  have HL:=Lib.hid hl
  clear E hl hs hrl hql hh hd hr'l hr' hq1 hr0
  go_enter func279,ntmps279
  go_wp2_with (first|(go_at_call 361;refine(HC.out _).mono ?_;rintro e w' ⟨rfl,n,rfl⟩)|(go_at_call 363;refine(HL.out _).mono ?_;rintro e w' ⟨rfl,rfl⟩)|(go_at_call 362;refine(HZ.out _).mono ?_;rintro e w' ⟨rfl,rfl⟩))
  go_ret3
  exact⟨pw (by rw[HE.out]) (by rw[HE.out]) (by rw[HE.out]),_,rfl⟩
 have hqg:18446744073709551616<=q:=by rw[hq];exact QK lo hi d hz hy
 have hc:=fun w=>DU lo hi d w hh hd hy
 have E:jL lo hi d=(0,0,-11):=by
  rw[hs]
  by_cases hb:(decide (hi<0) != decide (d<0))=true
  ·rw[if_pos hb,if_neg (show ¬q<=9223372036854775808 by omega),if_neg (show ¬q+1<=9223372036854775808 by omega)];simp
  rw[if_neg hb,if_neg (show ¬q<9223372036854775808 by omega)]
 have HE:=Lib.hid E
 have HC:=Lib.hid hc
 clear E hc hs hq hr hrl hqg hy hz hh hd
 go_enter func279,ntmps279
 go_wp2_with (first|(go_at_call 361;refine(HC.out _).mono ?_;rintro e w' ⟨rfl,n,rfl⟩)|(go_at_call 363;refine(mi 0 false _ (by decide)).mono ?_;rintro e w' ⟨rfl,rfl⟩))
 go_ret3
 exact⟨pw (by rw[HE.out]) (by rw[HE.out]) (by rw[HE.out]),_,rfl⟩
def ku(u:Nat):List Int:=[(u:Int)%256,(u:Int)/256%256,(u:Int)/65536%256,(u:Int)/16777216%256,
  (u:Int)/4294967296%256,(u:Int)/1099511627776%256,(u:Int)/281474976710656%256,(u:Int)/72057594037927936%256]
def K2(u:Nat):(ku u).length=8:=rfl
def WK(w:World)(x:List Value):World :=
 ((w.alloc (.cells x.toArray 244)).alloc (.cells #[.int .u8 0,.int .u8 0,.int .u8 0,.int .u8 0,.int .u8 0,.int .u8 0,.int .u8 0,.int .u8 0] 5)).setRow (w.heap.size+1) x.toArray
def N7(w:World)(x:List Value):(WK w x).heap[w.heap.size+1]?=some (.cells x.toArray 5 (0,0)):=by
 unfold WK
 exact setRow_heap _ (w.heap.size+1) #[.int .u8 0,.int .u8 0,.int .u8 0,.int .u8 0,.int .u8 0,.int .u8 0,.int .u8 0,.int .u8 0] _ _ _ (by simpa using heap_alloc_new (w.alloc (.cells x.toArray 244)) _)
def Kb(w:World)(x:List Value):Below w.heap.size w (WK w x) :=
 below_setRow (((Below.refl _ _).alloc (Nat.le_refl _) _).alloc (by simp) _) (by omega) _
def N9(w:World)(x0 x1 x2 x3 x4 x5 x6 x7:Int):
  (Builtin.copy_ #[22,22] 3 #[.slice (some ⟨w.heap.size+1,0,none⟩) 8 8,.slice (some ⟨w.heap.size,0,none⟩) 8 8]).run prog
   ((w.alloc (.cells #[.int .u8 x0,.int .u8 x1,.int .u8 x2,.int .u8 x3,.int .u8 x4,.int .u8 x5,.int .u8 x6,.int .u8 x7] 244)).alloc (.cells #[.int .u8 0,.int .u8 0,.int .u8 0,.int .u8 0,.int .u8 0,.int .u8 0,.int .u8 0,.int .u8 0] 5)) =
   .ok (.int .i64 8) (WK w [.int .u8 x0,.int .u8 x1,.int .u8 x2,.int .u8 x3,.int .u8 x4,.int .u8 x5,.int .u8 x6,.int .u8 x7]):=by
 have h:=run_copy_row (P:=prog) ((w.alloc (.cells #[.int .u8 x0,.int .u8 x1,.int .u8 x2,.int .u8 x3,.int .u8 x4,.int .u8 x5,.int .u8 x6,.int .u8 x7] 244)).alloc (.cells #[.int .u8 0,.int .u8 0,.int .u8 0,.int .u8 0,.int .u8 0,.int .u8 0,.int .u8 0,.int .u8 0] 5))
  22 22 3 5 (w.heap.size+1) 0 8 8 ⟨w.heap.size,0,none⟩ 8 8 #[.int .u8 0,.int .u8 0,.int .u8 0,.int .u8 0,.int .u8 0,.int .u8 0,.int .u8 0,.int .u8 0] 5
  [.int .u8 x0,.int .u8 x1,.int .u8 x2,.int .u8 x3,.int .u8 x4,.int .u8 x5,.int .u8 x6,.int .u8 x7]
  underlying22 (by kernel_rfl) (by simpa using heap_alloc_new (w.alloc _) _) rfl ?_ (by simp) (by simp[Value.oneCell'])
 ·exact h
 intro j v hj
 have hg:((w.alloc (.cells #[.int .u8 x0,.int .u8 x1,.int .u8 x2,.int .u8 x3,.int .u8 x4,.int .u8 x5,.int .u8 x6,.int .u8 x7] 244)).alloc (.cells #[.int .u8 0,.int .u8 0,.int .u8 0,.int .u8 0,.int .u8 0,.int .u8 0,.int .u8 0,.int .u8 0] 5)).heap[w.heap.size]? =
   some (.cells #[.int .u8 x0,.int .u8 x1,.int .u8 x2,.int .u8 x3,.int .u8 x4,.int .u8 x5,.int .u8 x6,.int .u8 x7] 244 (0,0)):=by
  rw[Below.heap_alloc _ _ _ (by simp)];exact heap_alloc_new w _
 rw[show(⟨w.heap.size,0,none⟩:Addr).add j=⟨w.heap.size,j,none⟩ from by unfold Addr.add;split<;>simp_all,cell_of_row _ _ _ _ _ _ hg]
 simpa using hj
def Bn(xs:List Int)(w:World)(e:Ending)(w':World):Prop :=
 ∃b c,e=.returned (.slice (some ⟨b,0,none⟩) xs.length c)/\w.heap.size<=b/\xs.length<=c/\(∀i,i<xs.length->w'.cell? ⟨b,i,none⟩=some (.int .u8 (xs.getD i 0)))/\Below w.heap.size w w'
def TH(n:Int)(w:World):
  Calls prog 124 #[.int .i64 n] w (Bn (ku (U n)) w):=by
 have u:=lZ n
 have hmk:∀w,(Instr.makeSlice 22 (.int .i64 8) (.int .i64 8)).run prog w=.ok (.slice (some ⟨w.heap.size,0,none⟩) 8 8) (w.alloc (.cells #[.int .u8 0,.int .u8 0,.int .u8 0,.int .u8 0,.int .u8 0,.int .u8 0,.int .u8 0,.int .u8 0] 5)):=fun _=>by kernel_rfl
 have hcp:=N9 w ((U n:Int)%256) ((U n:Int)/256%256) ((U n:Int)/65536%256) ((U n:Int)/16777216%256) ((U n:Int)/4294967296%256) ((U n:Int)/1099511627776%256) ((U n:Int)/281474976710656%256) ((U n:Int)/72057594037927936%256)
 go_enter func124,ntmps124
 go_wp2_with fail
 go_rounds 9
 go_ret
 refine⟨w.heap.size+1,8,rfl,by omega,by rw[K2];exact Nat.le_refl _,fun i hi=>?_,Kb _ _⟩
 rw[cell_of_row _ _ _ _ _ _ (N7 _ _)]
 have h8:i<8:=hi
 have:i=0\/i=1\/i=2\/i=3\/i=4\/i=5\/i=6\/i=7:=by omega
 rcases this with rfl|rfl|rfl|rfl|rfl|rfl|rfl|rfl<;>rfl
def Tryz.infoByte:(prog.info? 5).map (fun i=>(i.zero,i.size,i.bytes))=some (some (.int .u8 0),1,1):=by kernel_rfl
def oC:List Int->Nat
 | []=>0
 | x::t=>x.toNat+256*oC t
def HY(xs ys:List Int):oC (xs++ys)=oC xs+256 ^ xs.length*oC ys:=by
 induction xs with
 | nil=>simp[oC]
 | cons x t ih =>
  simp only[List.cons_append,oC,ih,List.length_cons,Nat.pow_succ,Nat.mul_add,Nat.add_assoc]
  rw[<-Nat.mul_assoc 256,Nat.mul_comm 256 (256 ^ _)]
def MD(xs:List Int)(h:∀x∈xs,0<=x/\x<256):oC xs<256 ^ xs.length:=by
 induction xs with
 | nil=>simp[oC]
 | cons x t ih =>
  have h1:=ih fun y hy=>h y (List.mem_cons_of_mem _ hy)
  have h2:=h x List.mem_cons_self
  simp only[oC,List.length_cons,Nat.pow_succ]
  omega
def O5{xs:List Int}(h:∀x∈xs,0<=x/\x<256)(k:Nat)(hk:k<xs.length):0<=xs.getD k 0/\xs.getD k 0<256:=by
 have e:xs.getD k 0=xs[k]:=by simp[List.getD,hk]
 rw[e];exact h _ (List.getElem_mem hk)
def Qa(xs:List Int)(k:Nat)(hk:k<xs.length):xs.take (k+1)=xs.take k++[xs.getD k 0]:=by
 rw[List.take_add_one,List.getElem?_eq_getElem hk];simp[List.getD,hk]
def X5(acc x k:Nat)(hacc:acc<256 ^ k)(hx:x<256)(hk:k<8):
  bits .or .u64 (acc:Int) (IntKind.u64.wrap ((x:Int)*2 ^ (8*k)))=((acc+256 ^ k*x:Nat):Int):=by
 have e0:(256:Nat) ^ k=2 ^ (8*k):=by rw[show(256:Nat)=2 ^ 8 from rfl,<-Nat.pow_mul]
 have e1:(x:Int)*2 ^ (8*k)=((x*2 ^ (8*k):Nat):Int):=by simp
 have hp:2 ^ (8*k)<=2 ^ 56:=Nat.pow_le_pow_right (by omega) (by omega)
 have hq:x*2 ^ (8*k)<=255*2 ^ 56:=Nat.mul_le_mul (by omega) hp
 have h56:(2:Nat) ^ 56=72057594037927936:=by decide
 rw[e0]at hacc
 rw[e1,IntWalk.u64_in _ (by omega),u64_or_nat _ _ (by omega) (by omega),e0]
 congr 1
 have:=Nat.shiftLeft_add_eq_or_of_lt hacc x
 rw[Nat.shiftLeft_eq]at this
 rw[Nat.or_comm,<-this,Nat.mul_comm,Nat.add_comm]
def S9(b o c:Nat)(xs:List Int)(w:World)(hl:xs.length=8)(hb:∀x∈xs,0<=x/\x<256)(hc:∀i,i<8->w.cell? ⟨b,o+i,none⟩=some (.int .u8 (xs.getD i 0))):
  Calls prog 73 #[.slice (some ⟨b,o,none⟩) 8 c] w fun e w'=>e=.returned (.tuple #[.int .i64 (wrap64 (oC xs)),.int .i64 0])/\w=w':=by
 have HC:=Lib.hid hc
 have HL:=Lib.hid hl
 have HB:=Lib.hid hb
 clear hc hl hb
 go_enter func73,ntmps73
 go_wp2_with fail
 go_loop [4,12] (fun a i=>∃k m:Nat,k<=8/\i=.int .i64 k/\a=.int .u64 m/\Hid (m=oC (xs.take k))) (fun _ i=>8-(intOf i).toNat)
 case atStart=>exact⟨0,0,by omega,rfl,rfl,rfl⟩
 case round =>
  obtain⟨k,m,hk,rfl,rfl,hm⟩:=hrel
  by_cases hlt:k<8
  ·obtain⟨x,hx,hx2,hcell⟩:∃x:Nat,(xs.getD k 0=(x:Int))/\x<256/\w.cell? ⟨b,o+k,none⟩=some (.int .u8 (x:Int)):=by
    have h1:=O5 HB.out k (by have:=HL.out;omega)
    refine⟨(xs.getD k 0).toNat,by omega,by omega,?_⟩
    rw[HC.out k hlt]
    congr 2
    omega
   have hmlt:m<256 ^ k:=by
    have:=MD (xs.take k) fun y hy=>HB.out y (List.mem_of_mem_take hy)
    rw[<-hm.out,List.length_take]at this
    rwa [Nat.min_eq_left (by have:=HL.out;omega)]at this
   have hor:=X5 m x k hmlt hx2 hlt
   have hm':Hid (m+256 ^ k*x=oC (xs.take (k+1))):=by
    show _=_
    rw[Qa _ _ (by have:=HL.out;omega),HY,<-hm.out,hx,List.length_take,Nat.min_eq_left (by have:=HL.out;omega)]
    simp[oC]
   generalize m+256 ^ k*x=m' at *
   clear hm hmlt hx
   go_wp2
   go_round
   case rel=>exact⟨k+1,m',by omega,by go_num,rfl,hm'⟩
   case measure=>simp[intOf];omega
  have e:m=oC xs:=by rw[hm.out,List.take_of_length_le (by have:=HL.out;omega)]
  clear hm
  go_wp2
  go_ret2
  exact⟨rfl,rfl⟩
def ae(n:Int):Prop:=-9223372036854775808<=n/\n<=9223372036854775807
def bq(m:bh)(at_ n:Int):Bool:=decide (n=0\/(0<n/\0<=at_/\at_+n<=m.b.length))
def cS(m:bh)(at_:Int):Int:=if bq m at_ 8 then(if at_.tmod 8=0 then 0 else -23)else -9
def B5(l:List UInt8):Int:=wrap64 (oC (l.map fun b=>(b.toNat:Int)))
def am(m:bh)(at_:Int):Int×Int:=if cS m at_=0 then(B5 ((m.b.drop at_.toNat).take 8),0)else(0,cS m at_)
def pH(m:bh)(at_ n:Int)(hm:m.b.length<=9223372036854775807)(ha:ae at_)(hn:ae n):ab prog 102 [jj m,i64 at_,i64 n] (boo (bq m at_ n)):=by
 unfold ae at ha hn
 refine zY func102 fun B=>?_
 refine zu2 ?_
 refine zp3 ?_
 refine Wb 9 rfl ?_ ?_<;>intro hg1
 ·refine zd ?_
  exact congrArg boo (by(simp only[bq,bU];rw[Bool.eq_iff_iff];simp only[dnL]at *;(try simp only[bU,wrap64]at *);omega))
 refine zy3 ?_
 refine Wb 12 rfl ?_ ?_<;>intro hg2
 ·refine zy4 ?_
  refine Wb 16 rfl ?_ ?_<;>intro hg3
  ·refine zy5 ?_
   refine zy2 ?_
   refine zB 23 (fun hg4=>?_) (fun hg4=>?_)
   ·exact congrArg boo (by(simp only[bq,bU];rw[Bool.eq_iff_iff];simp only[dnL]at *;(try simp only[bU,wrap64]at *);omega))
   exact congrArg boo (by(simp only[bq,bU];rw[Bool.eq_iff_iff];simp only[dnL]at *;(try simp only[bU,wrap64]at *);omega))
  refine zd ?_
  exact congrArg boo (by(simp only[bq,bU];rw[Bool.eq_iff_iff];simp only[dnL]at *;(try simp only[bU,wrap64]at *);omega))
 refine zd ?_
 exact congrArg boo (by(simp only[bq,bU];rw[Bool.eq_iff_iff];simp only[dnL]at *;(try simp only[bU,wrap64]at *);omega))
def aP0:ae 8:=by unfold ae;omega
def Aw(m:bh)(at_:Int)(hm:m.b.length<=9223372036854775807)(ha:ae at_):ab prog 72 [jj m,i64 at_] (i64 (cS m at_)):=by
 refine zH func72 fun B=>?_
 refine zC rfl func102 ((pH m at_ 8 hm ha aP0) _) ?_
 refine Wi rfl ?_ ?_<;>intro hi1
 ·refine zu1 ?_
  refine zR ?_
  simp_all[cS,iy,kr,Qi,i64,boo,str]
 refine zd ?_
 refine Wi rfl ?_ ?_<;>intro hi2
 ·refine zu1 ?_
  refine zR ?_
  simp_all[cS,iy,kr,Qi,i64,boo,str]
 refine Wj<|zu1 ?_
 refine zR ?_
 simp_all[cS,iy,kr,Qi,i64,boo,str]
def P2(m:bh)(at_:Int)(h:cS m at_=0)(ha:ae at_)(hm:m.b.length<=140737488355328):0<=at_/\at_+8<=m.b.length/\wrap64 (at_+8)=at_+8:=by
 unfold cS bq at h
 simp only[decide_eq_true_eq]at h
 split at h
 ·rename_i h0
  refine⟨by omega,by omega,?_⟩
  unfold wrap64 ae at *;omega
 omega
def Kk{c:Cx}{l:List UInt8}{b:Addr}{vs:List Value}(hrl:au c (l.flatMap aH) vs):vs=l.map (fun x=>Value.int .u8 (x.toNat:Int)):=by
 rw[kK]at hrl
 rw[qS hrl,List.map_map]
 rfl
def Hr{f:FuncId}(l:List UInt8)(hl:l.length=8)(H0:∀(b o c:Nat) (xs:List Int) (w:World) (hl:xs.length=8) (hb:∀x∈xs,0<=x/\x<256) (hc:∀i,i<8->w.cell? ⟨b,o+i,none⟩=some (.int .u8 (xs.getD i 0))),Calls prog f #[.slice (some ⟨b,o,none⟩) 8 c] w fun e w'=>e=.returned (.tuple #[.int .i64 (wrap64 (oC xs)),.int .i64 0])/\w=w'):
  ab prog f [sq aH l] (iy (i64 (B5 l)) (i64 0)):=by
 intro H B σ w vs s hv
 match vs,hv with
 | [],hv=>unfold au at hv;obtain⟨u,us,h1,_⟩:=hv;cases h1
 | v::vs,hv =>
  rw[af,aG]at hv
  obtain⟨hv,rfl⟩:=hv
  unfold sq at hv
  obtain⟨ad,cap,ws,rfl,hle,hnil,hrl,hlies,_⟩:=gJ hv
  have hws:=Kk (b:=default) hrl
  have hwl:ws.length=8:=by rw[hws];simpa using hl
  match ad,hnil,hlies with
  | none,hnil,_=>have:=(hnil rfl).1;omega
  | some b,_,hlies =>
   have hl2:=(hlies b rfl).resolve_right (by rintro⟨_,h3⟩;rw[h3]at hwl;simp at hwl)
   have hbe:=gY hl2
   rw[hbe,hl]
   refine Calls.mono (H0 b.block b.off cap (l.map fun x=>(x.toNat:Int)) w (by simpa using hl) (fun x hx=>?_) (fun i hi=>(hl2.2 i _ (by rw[hws,List.getElem?_map,List.getElem?_eq_getElem (by omega)];simp[List.getD,show i<l.length by omega])).1)) ?_
   ·obtain⟨y,_,rfl⟩:=List.mem_map.1 hx
    have:=y.toNat_lt;omega
   rintro e w' ⟨rfl,rfl⟩
   refine⟨_,σ,rfl,?_,s,eH.refl _ _ _ _⟩
   unfold iy Rep
   exact⟨[_,_],rfl,af.2 ⟨ar _ _,af.2 ⟨ar _ _,aG.2 rfl⟩⟩⟩
def Pn(l:List UInt8)(hl:l.length=8):ab prog 73 [sq aH l] (iy (i64 (B5 l)) (i64 0)):=Hr l hl S9
def aU3{m:bh}{at_:Int}(h0:0<=at_)(h1:at_+8<=m.b.length)(h2:wrap64 (at_+8)=at_+8):((m.b.take (IntKind.i64.wrap (at_+8)).toNat).drop at_.toNat).length=8:=by
 rw[bU,h2];simp;omega
def aV1{m:bh}{at_:Int}(h0:0<=at_)(h1:at_+8<=m.b.length)(h2:wrap64 (at_+8)=at_+8):(m.b.take (IntKind.i64.wrap (at_+8)).toNat).drop at_.toNat=(m.b.drop at_.toNat).take 8:=by
 rw[bU,h2,List.drop_take];congr 1;omega
def qR(r:Int×Int):PV:=iy (i64 r.1) (i64 r.2)
@[simp] theorem ad4 (r : Int × Int) : aR (qR r) := by simp [qR]
def gy(m:bh)(at_:Int)(hm:m.b.length<=140737488355328)(ha:ae at_):ab prog 39 [jj m,i64 at_] (qR (am m at_)):=by
 have hF:cS m at_=0->0<=at_/\at_+8<=m.b.length/\wrap64 (at_+8)=at_+8:=fun h=>P2 m at_ h ha hm
 refine zH func39 fun B=>?_
 refine zC rfl func72 ((Aw m at_ (by omega) ha) _) ?_
 refine Wi rfl ?_ ?_<;>intro hi1
 ·refine zu3 ?_
  refine zR ?_
  simp_all[qR,am,iy,i64]
 have h0:cS m at_=0:=by simpa using hi1
 obtain⟨k0,k1,k2⟩:=hF h0
 refine zd ?_
 refine z2 ?_ (q:=(by rw[bU,k2];omega))
 refine Wa 18 rfl (cK aH 1 (fun _=>rfl) (by rw[bU,k2];omega)) ?_
 refine zC rfl func73 ((Pn _ (aU3 k0 k1 k2)) _) ?_
 (rw[aV1 k0 k1 k2];simp[qR,am,iy,i64,h0])
def oh:ab prog 98 [] (sq gj aq):=by
 refine zY func98 fun B=>?_
 refine zu1 ?_
 refine zp1 ?_
 refine zA 1 rfl (bsL gj [_,_,_,_,_,_,_,_,_,_,_,_,_,_,_,_,_,_,_,_,_,_,_,_,_,_,_,_,_,_,_,_,_,_,_,_,_,_,_,_,_,_,_,_,_,_,_,_,_,_,_,_,_,_,_,_,_,_,_,_,_,_,_,_,_,_,_,_,_,_,_,_,_,_,_,_,_,_,_,_,_,_,_,_,_,_,_,_,_,_,_,_,_,_,_,_,_,_,_,_,_,_,_,_,_,_,_,_,_,_,_,_,_,_,_,_,_,_,_,_,_,_,_,_,_,_,_,_,_,_] rfl rfl) ?_
 exact rfl
@[simp] theorem ad3 (l : List rG) : aR (sqc jX l) := lG ya l
@[simp] theorem ay6 (l : List rQ) : aR (sqc pY l) := lG C7 l
@[simp] theorem ax4 (l : List UInt8) : aR (sqc aH l) := lG oN l
@[simp] theorem ay5 (l : List Int) : aR (sqc ao l) := lG D6 l
def yd(l:List UInt8)(hl:l.length<=140737488355328):ab prog 172 [sq aH l] (sq aH l):=by
 refine zY func172 fun B=>?_
 refine zu1 ?_
 refine Ws<|zp1 ?_
 refine wE (lO tG rfl) rfl rfl rfl rfl rfl (fun bn1 hn1=>?_)
 refine zd ?_
 refine zI ?_ ?_<;>intro hi1
 ·exact aH1 (hn1 hi1)
 refine Wd rfl rfl (cd (lO tG rfl) rfl (lO tG rfl) (lO tG rfl) rfl rfl (by exact⟨_,rfl⟩) (by exact⟨rfl,rfl,an _ 1 (fun _=>rfl) _,bD _ (fun _=>rfl) _⟩) (by rfl) (by(dsimp only;omega)) (by(omega))) ?_
 refine zA 7 rfl (yL aH) ?_
 rfl
def JF(l:List Int)(hl:l.length<=1000000):ab prog 201 [sq ao l] (sq ao l):=by
 refine zY func201 fun B=>?_
 refine zu1 ?_
 refine Ws<|zp1 ?_
 refine wE (lO tG rfl) rfl rfl rfl rfl rfl (fun bn1 hn1=>?_)
 refine zd ?_
 refine zI ?_ ?_<;>intro hi1
 ·exact aH1 (hn1 hi1)
 refine Wd rfl rfl (cd (lO tG rfl) rfl (lO tG rfl) (lO tG rfl) rfl rfl (by exact⟨_,rfl⟩) (by exact⟨rfl,rfl,an _ 1 (fun _=>rfl) _,bD _ (fun _=>rfl) _⟩) (by rfl) (by(dsimp only;omega)) (by(omega))) ?_
 refine zA 7 rfl (yL ao) ?_
 rfl
def Fy(l:List rG)(hl:l.length<=1000000):ab prog 171 [sq jX l] (sqc jX l):=by
 refine zH func171 fun B=>?_
 refine z2 ?_ (q:=(by(simp_all;done)))
 refine Wa 8 rfl (cK jX 2 (fun _=>rfl) (by omega)) ?_
 refine zs1 ?_
 refine Wq ?_
 exact oq rfl (by simp[sqc];rfl)
def xd(l:List rQ)(hl:l.length<=1000000):ab prog 384 [sq pY l] (sqc pY l):=by
 refine zH func384 fun B=>?_
 refine z2 ?_ (q:=(by(simp_all;done)))
 refine Wa 8 rfl (cK pY 6 (fun _=>rfl) (by omega)) ?_
 refine zs1 ?_
 refine Wq ?_
 exact oq rfl (by simp[sqc];rfl)
def LW(l:List UInt8)(hl:l.length<=140737488355328):ab prog 221 [sq aH l] (sqc aH l):=by
 refine zH func221 fun B=>?_
 refine z2 ?_ (q:=(by(simp_all;done)))
 refine Wa 8 rfl (cK aH 1 (fun _=>rfl) (by omega)) ?_
 refine zs1 ?_
 refine Wq ?_
 exact oq rfl (by simp[sqc];rfl)
def t2i(r:Int×Int):PV:=iy (i64 r.1) (i64 r.2)
def t3i(r:Int×Int×Int):PV:=kr (i64 r.1) (i64 r.2.1) (i64 r.2.2)
@[simp] theorem aH0 (r : Int × Int) : aR (t2i r) := by simp [t2i]
@[simp] theorem aF5 (r : Int × Int × Int) : aR (t3i r) := by simp [t3i]
def bj.drewN(w:World)(n:Nat):bj w (w.drewN n):=by
 have e:w.drewN n={w with drawn:=w.drawn+n}:=rfl
 exact⟨rfl,rfl,rfl,Nat.le_refl _,fun b hb=>rfl⟩
def aa1{P:Program}{f:FuncId}{args:List Value}{r:Int×Int}(h:∀w,Calls P f args.toArray w fun e w'=>e=.returned (.tuple #[.int .i64 r.1,.int .i64 r.2])/\bj w w'):ab P f (args.map .val) (t2i r) :=
 dY (v:=.tuple #[.int .i64 r.1,.int .i64 r.2]) (fun c=>by unfold t2i iy Rep;exact⟨[_,_],rfl,af.2 ⟨ar _ _,af.2 ⟨ar _ _,aG.2 rfl⟩⟩⟩) h
def MX{P:Program}{f:FuncId}{args:List Value}{r:Int×Int×Int}(h:∀w,Calls P f args.toArray w fun e w'=>e=.returned (.tuple #[.int .i64 r.1,.int .i64 r.2.1,.int .i64 r.2.2])/\bj w w'):ab P f (args.map .val) (t3i r) :=
 dY (v:=.tuple #[.int .i64 r.1,.int .i64 r.2.1,.int .i64 r.2.2]) (fun c=>by unfold t3i kr Rep;exact⟨[_,_,_],rfl,af.2 ⟨ar _ _,af.2 ⟨ar _ _,af.2 ⟨ar _ _,aG.2 rfl⟩⟩⟩⟩) h
def am1{P:Program}{f:FuncId}{args:List Value}{r:Bool}(h:∀w,Calls P f args.toArray w fun e w'=>e=.returned (.bool r)/\bj w w'):ab P f (args.map .val) (boo r) :=
 dY (v:=.bool r) (fun c=>ar _ _) h
def NI{w:World}{v:Value}:∀{e:Ending} {w':World},(e=.returned v/\w=w')->(e=.returned v/\bj w w'):=by rintro e w' ⟨h,rfl⟩;exact⟨h,bj.refl _⟩
def Nl{w:World}{v:Value}:∀{e:Ending} {w':World},(e=.returned v/\∃n,w'=w.drewN n)->(e=.returned v/\bj w w'):=by rintro e w' ⟨h,n,rfl⟩;exact⟨h,bj.drewN _ _⟩
def FO(a b:Int):ab prog 359 [i64 a,i64 b] (boo (decide (U a<U b))):=am1 (args:=[.int .i64 a,.int .i64 b]) fun w=>Calls.mono (uC a b w) fun _ _ h=>NI h
def al4(a b:Int):ab prog 284 [i64 a,i64 b] (t2i (sH a b)):=aa1 (args:=[.int .i64 a,.int .i64 b]) fun w=>Calls.mono (qh a b w) fun _ _ h=>NI h
def ad0(a b:Int)(ha:Fit a)(hb:Fit b):ab prog 278 [i64 a,i64 b] (t2i (xq a b)):=aa1 (args:=[.int .i64 a,.int .i64 b]) fun w=>Calls.mono (SC a b w ha hb) fun _ _ h=>NI h
def S4(a b:Int)(hb:Fit b):ab prog 272 [i64 a,i64 b] (t3i (nC a b)):=MX (args:=[.int .i64 a,.int .i64 b]) fun w=>Calls.mono (QP a b w hb) fun _ _ h=>Nl h
def Kl(lo hi d:Int):ab prog 287 [i64 lo,i64 hi,i64 d] (t3i (iH lo hi d)):=MX (args:=[.int .i64 lo,.int .i64 hi,.int .i64 d]) fun w=>Calls.mono (CJ lo hi d w) fun _ _ h=>Nl h
def ao6(lo hi d:Int)(hh:Fit hi)(hd:Fit d):ab prog 289 [i64 lo,i64 hi,i64 d] (t3i (lL lo hi d)):=MX (args:=[.int .i64 lo,.int .i64 hi,.int .i64 d]) fun w=>Calls.mono (Oy lo hi d w hh hd) fun _ _ h=>Nl h
def RC(lo hi d:Int)(hh:Fit hi)(hd:Fit d):ab prog 279 [i64 lo,i64 hi,i64 d] (t3i (jL lo hi d)):=MX (args:=[.int .i64 lo,.int .i64 hi,.int .i64 d]) fun w=>Calls.mono (Pf lo hi d w hh hd) fun _ _ h=>Nl h
end Go.Proofs.YtjcminooghmpeaaGreatDoor
namespace Go.Proofs.YtjcminooghmpeaaGreatDoor
open Go.ChangeShapes Go.WideShapes Go.ChangeAt Go.RowKit
open Go.ChangeMaps (open_string)
def Rd(w:World)(t:TypeId)(cs:List Value):Prop:=∃(H:Type) (enc:TypeId×Value->H) (fuel:Nat) (x:DataW H×List MemPlace),DataW.trod enc prog w 0 (fun _=>true) true fuel t cs=some x
def Io(w:World)(t:TypeId)(v:Value):Prop:=∃(H:Type) (enc:TypeId×Value->H) (d:DataW H) (p:List MemPlace) (base:Nat),Value.okWide prog w .any base t v/\DataW.Trod enc prog w 0 (fun _=>true) true t v d p
def Rh{w:World}{t:TypeId}{v:Value}(h:Io w t v):Rd w t v.cells.toList:=by
 obtain⟨H,enc,d,p,base,_,fuel,hf⟩:=h
 exact⟨H,enc,fuel,_,hf⟩
def G6{w:World}{t:TypeId}{v:Value}{e:TypeId}(ht:prog.underlying t=some (.slice e))(h:Io w t v):∃a len cap,v=.slice a len cap/\Rd w t [.slice a len cap]:=by
 have hr:=Rh h
 obtain⟨H,enc,d,p,base,hv,hd⟩:=h
 obtain⟨a,len,cap,rfl⟩:=okWide_slice ht hv
 exact⟨a,len,cap,rfl,hr⟩
def ah1{w:World}{t:TypeId}{cs:List Value}{k:IntKind}(ht:prog.underlying t=some (.int k))(h:Rd w t cs):∃n,cs=[.int k n]/\(Lit.int k n).wf=true:=by
 obtain⟨H,enc,fuel,x,hf⟩:=h
 obtain⟨n,hc,_,hw⟩:=DataW.trod_int ht hf
 exact⟨n,hc,hw⟩
def Wg{w:World}{t:TypeId}{cs:List Value}{e:TypeId}(ht:prog.underlying t=some (.slice e))(h:Rd w t cs):
  cs=[.slice none 0 0]\/∃(a:Addr) (len cap:Nat),cs=[.slice (some a) len cap]/\len<=cap/\cap<=maxLen /\
   ∀i,i<cap->∃es,w.cells? 0 (a.add (i*prog.cellsOf e)) (prog.cellsOf e)=some es/\Rd w e es:=by
 obtain⟨H,enc,fuel,x,hx⟩:=h
 rcases DataW.trod_slice ht hx with ⟨h0,_⟩|⟨a,len,cap,elems,rest,n,_,hc,_,_,hl,hm,hlen,hel,hsp,_⟩
 ·exact .inl h0
 refine .inr ⟨a,len,cap,hc,hl,hm,fun i hi=>?_⟩
 have key:∀(o:Option (List Value)) (y:Option (DataW H×List MemPlace)) (k:Nat) (l:List (DataW H×List MemPlace)),k<l.length->o.bind (DataW.trod enc prog w 0 (fun _=>true) true n e)=l[k]?->∃es,o=some es/\Rd w e es:=by
  intro o y k l hk ho
  rw[List.getElem?_eq_getElem hk]at ho
  cases o with
  | none=>cases ho
  | some es=>exact⟨es,rfl,H,enc,n,_,ho⟩
 by_cases h1:i<len
 ·exact key _ none i elems (by omega) (hel i h1)
 obtain⟨hr1,hr2⟩:=hsp rfl
 have:=hr2 (i-len) (by omega)
 rw[show len+(i-len)=i from by omega]at this
 exact key _ none (i-len) rest (by omega) this
def ZV{n:Int}(h:(Lit.int .u8 n).wf=true):0<=n/\n<=255:=by
 have:=h;simp[Lit.wf,IntKind.min,IntKind.max,IntKind.bits,IntKind.signed]at this;omega
open Go.RowKit
def c0(w:World):Cx:=cx (fun _ _=>False) [] (fun _=>none) w
def wr0(w:World)(b off:Nat):¬(c0 w).Wr b off:=by
 rintro(h|⟨i,oi,h1,_⟩)
 ·exact h
 simp at h1
def Kf{w:World}{t:TypeId}{cs:List Value}{k:IntKind}(ht:prog.underlying t=some (.int k))(h:Rd w t cs):∃n,(Lit.int k n).wf=true/\au (c0 w) [.val (.int k n)] cs:=by
 obtain⟨n,rfl,hw⟩:=ah1 ht h
 exact⟨n,hw,af.2 ⟨ar _ _,aG.2 rfl⟩⟩
def Cj{α:Type}(enc:α->List PV)(Ok:α->Prop){w:World}{cs:List Value}(k:Nat)(hk0:0<k)(Q:List Value->Prop)(hel:∀es,Q es->∃x,Ok x/\au (c0 w) (enc x) es)
  (h:cs=[.slice none 0 0]\/∃(a:Addr) (len cap:Nat),cs=[.slice (some a) len cap]/\len<=cap/\cap<=maxLen/\∀i,i<cap->∃es,w.cells? 0 (a.add (i*k)) k=some es/\Q es) :
  ∃l:List α,(∀x∈l,Ok x)/\l.length<=maxLen/\au (c0 w) [.seq l.length (l.flatMap enc) .any] cs:=by
 rcases h with rfl|⟨a,len,cap,rfl,hlc,hcap,hc⟩
 ·refine⟨[],by simp,by simp,af.2 ⟨?_,aG.2 rfl⟩⟩
  have:=y3 (c0 w)
  exact oU _ _ _ _ _ this
 have build:∀n,n<=len->a.spot=none->∃(l:List α) (vs:List Value),l.length=n/\(∀x∈l,Ok x)/\au (c0 w) (l.flatMap enc) vs/\vs.length=n*k/\∀j,j<n*k->w.cell? ⟨a.block,a.off+j,none⟩=vs[j]?:=by
  intro n hn hs
  induction n with
  | zero=>exact⟨[],[],rfl,by simp,aG.2 rfl,by simp,fun j hj=>by simp at hj⟩
  | succ n ih =>
   obtain⟨l,vs,h1,h2,h3,h4,h5⟩:=ih (by omega)
   obtain⟨es,h6,h7⟩:=hc n (by omega)
   obtain⟨_,h8,h9⟩:=World.cells?_some h6
   obtain⟨x,hx,hr⟩:=hel es h7
   refine⟨l++[x],vs++es,by simp[h1],?_,?_,by rw[List.length_append,h4,h8,Nat.succ_mul],fun j hj=>?_⟩
   ·intro y hy;rcases List.mem_append.1 hy with hy|hy
    ·exact h2 y hy
    simp at hy;subst hy;exact hx
   ·rw[List.flatMap_append];refine au.append h3 ?_;simpa using hr
   by_cases hj':j<n*k
   ·rw[List.getElem?_append_left (by omega)];exact h5 j hj'
   rw[List.getElem?_append_right (by omega),h4]
   rw[Nat.succ_mul]at hj
   rw[<-h9 (j-n*k) (by omega)]
   have e:(a.add (n*k)).add (j-n*k)=⟨a.block,a.off+j,none⟩:=by
    obtain⟨b,o,sp⟩:=a
    simp only at hs
    subst hs
    rw[Addr.add_lit,Addr.add_lit]
    have:o+n*k+(j-n*k)=o+j:=by omega
    rw[this]
   rw[e]
 by_cases h0:cap=0
 ·have hl0:len=0:=by omega
  subst hl0
  refine⟨[],by simp,by simp,af.2 ⟨?_,aG.2 rfl⟩⟩
  unfold Rep
  exact⟨some a,cap,[],rfl,by simp,(fun h=>by cases h),aG.2 rfl,(fun b hb=>.inr ⟨h0,rfl⟩),trivial⟩
 have hs:a.spot=none:=by
  obtain⟨es,h6,_⟩:=hc 0 (by omega)
  obtain⟨_,h8,h9⟩:=World.cells?_some h6
  have h10:=h9 0 hk0
  simp only[Nat.zero_mul]at h10
  have e:(a.add 0).add 0=a:=by simp[Addr.add]
  rw[e,List.getElem?_eq_getElem (by omega)]at h10
  unfold World.cell? at h10
  cases hsp:a.spot with
  | none=>rfl
  | some q=>rw[hsp]at h10;split at h10<;>simp at h10
 obtain⟨l,vs,h1,h2,h3,h4,h5⟩:=build len (Nat.le_refl _) hs
 refine⟨l,h2,by omega,af.2 ⟨?_,aG.2 rfl⟩⟩
 unfold Rep
 refine⟨some a,cap,vs,by rw[h1],by omega,(fun h=>by cases h),h3,fun b hb=>.inl ?_,trivial⟩
 cases hb
 refine⟨hs,fun j u hj=>⟨?_,wr0 w _ _⟩⟩
 have hjl:=cM hj
 have:=h5 j (by omega)
 rw[hj]at this
 exact this
def ET{α:Type}(enc:α->List PV)(Ok:α->Prop){w:World}{t e:TypeId}{cs:List Value}(k:Nat)(ht:prog.underlying t=some (.slice e))(hk:prog.cellsOf e=k)(hk0:0<k)(hel:∀es,Rd w e es->∃x,Ok x/\au (c0 w) (enc x) es)(h:Rd w t cs):
  ∃l:List α,(∀x∈l,Ok x)/\l.length<=maxLen/\au (c0 w) [.seq l.length (l.flatMap enc) .any] cs :=
 Cj enc Ok k hk0 (Rd w e) hel (by rw[<-hk];exact Wg ht h)
def Pa(n:Nat)(h0:0<n)(hn:n<=1000000)(w:World):Calls prog 252 #[.slice none 0 0,.int .i64 n] w fun e w' =>
  ∃cs:Array Value,e=.returned (.slice (some ⟨w.heap.size,0,none⟩) 0 (grownCap w n 0 3))/\w'=w.drew.alloc (.cells cs 3)/\grownCap w n 0 3<=cs.size:=by
 have h1:¬((n:Int)<0):=by omega
 have h3:wrap64 ((n:Int)-0)=(n:Int):=by unfold wrap64;omega
 have h4:(n:Int)>0:=by omega
 have fe:ap prog 3 ⟨1,8,[.val (.int .i64 0)],.int .i64⟩:=lO (G:=tys) tG rfl
 have fs:ap prog 29 ⟨1,24,[.seq 0 [] .clip],.slice 3⟩:=lO (G:=tys) tG rfl
 obtain⟨i,z,hi,hsz,hby,hz,hzr⟩:=fe.info
 have hr:=fun ty=>Lib.run_append_nil_zeros (P:=prog) w 29 3 ty 3 i z .i64 .i64 (fs.slice rfl) (by kernel_rfl) hi hz n h0 (by rw[hsz];exact Nat.one_pos) (by omega) (by rw[hby];show n*8<=_;omega)
 have hGn:n<=grownCap w n 0 3:=grownCap_ge w _ _ _
 have hzl:z.cells.size=1:=by have:=au.length (hzr (c0 w));rw[Array.length_toList]at this;rw[this];rfl
 have hG63:grownCap w n 0 3<=9223372036854775807:=by
  have:=grownCap_le_maxLen w n 0 3 (by unfold maxLen;omega)
  unfold maxLen at this
  omega
 obtain⟨G,hG⟩:∃G,G=grownCap w n 0 3:=⟨_,rfl⟩
 rw[<-hG]at hr hGn hG63 ⊢
 have hcs:∀q:Array Value,q.size=1->G<=(Builtin.zeroCells q n++Builtin.zeroCells q (G-n)).size:=by
  intro q hq
  rw[Array.size_append,size_zeroCells,size_zeroCells,hq];omega
 clear hG
 go_enter func252,ntmps252
 go_wp2_with (at_builtin;refine Lib.wpList_append_run _ rfl _ _ _ _ rfl _ _ rfl rfl _ _ (hr _) ?_)
 all_goals (go_ret;exact⟨rfl,_,rfl,hcs _ (by first|exact hzl|rfl)⟩)
def OQ(w:World):Calls prog 252 #[.slice none 0 0,.int .i64 0] w fun e w'=>e=.returned (.slice none 0 0)/\w'=w:=by
 go_enter func252,ntmps252
 go_wp2
 go_ret
 exact⟨rfl,rfl⟩
def Oc{B:Nat->Nat->Prop}{o:Oper}{T:Nat->PV}{H:List Ob}{x:Operand}{ats:Array TypeId}{n:Nat}(ho:o.op=.call {callee:=.value (.func 252),args:=#[.const (.slice none 0 0),x],argTypes:=ats})(hx:opv T x=.val (.int .i64 (n:Int)))(hn:n<=1000000):
  ly prog B o T H (.seq 0 [] (.own H.length 1)) (H++[.free 0]):=by
 intro σ w a s ha
 have k1:=ha x (by rw[ho];simp[Op.operands,Call.operands])
 rw[hx]at k1
 unfold Rep at k1
 refine⟨252,#[.slice none 0 0,.int .i64 n],?_,?_⟩
 ·unfold execOp
  simp only[ho,resolve,Act.eval,Deferred.ofValue,invoke,Sem.run_bind,Sem.run_pure,Result.andThen_ok]
  rw[mX func252 rfl rfl]
  have hev:a.eval x=.int .i64 n:=k1
  simp[Act.eval]at hev ⊢
  exact hev
 by_cases h0:n=0
 ·subst h0
  refine Calls.mono (OQ w) ?_
  rintro e w' ⟨rfl,rfl⟩
  obtain⟨s',st⟩:=fv s (bj.refl w') (.free 0) none (fun b hb=>by cases hb) (fun b hb=>by simp only[cx]at hb;rw[bx]at hb;cases hb)
  refine⟨_,_,rfl,?_,s',st⟩
  unfold Rep
  exact⟨none,0,[],rfl,Nat.le_refl _,fun _=>⟨rfl,rfl,rfl⟩,aG.2 rfl,(fun b h=>by cases h),by simp[cx],rfl,.inl rfl⟩
 refine Calls.mono (Pa n (by omega) hn w) ?_
 rintro e w' ⟨cs,rfl,rfl,hcs⟩
 have gr:bj w (w.drew.alloc (.cells cs 3)):=(bj.drew w).trans (bj.alloc _ _)
 have hheap:(w.drew.alloc (.cells cs 3)).heap[w.heap.size]?=some (Obj.cells cs 3 (0,0)):=by
  show(w.heap.push _)[w.heap.size]?=_;simp
 obtain⟨s',st⟩:=fv s gr (.free 0) (some w.heap.size) (fun b hb=>by cases hb;exact Nat.le_refl _) (fun b hb=>by
  simp only[cx]at hb;rw[bx]at hb;cases hb
  exact⟨_,3,hheap,Nat.zero_le _⟩)
 refine⟨_,_,rfl,r7 (vs:=[]) (aG.2 rfl) (by simp) (bx _ _ _) hheap rfl (Nat.zero_le _) (by rw[Nat.mul_one];exact hcs) (fun j hj=>by simp at hj) (fun off hoff=>by simp at hoff),s',st⟩
def Cs(l:List Int):List PV:=[sq ao l]
@[simp] theorem OH (x : List Int) : aF (Cs x) := by simp [Cs, aF]
@[simp] theorem az9 (l : List (List Int)) : aR (sq Cs l) := gQ OH l
def aU4{a b:Nat}(ha:a<=500000)(hb:b<=500000):PV.val (.int .i64 (IntKind.i64.wrap (IntKind.i64.wrap (0+(a:Int))+(b:Int))))=.val (.int .i64 ((a+b:Nat):Int)) :=
 j_ (by simp only[bU];unfold wrap64;omega)
def MW(a b:List Int)(ha:a.length<=500000)(hb:b.length<=500000):ab prog 202 [sq Cs [a,b]] (sq ao (a++b)):=by
 refine zH func202 fun B=>?_
 refine j3 3 ?_
 show W _ _ _ _ _ _ _
 refine zd ?_
 refine Wt rfl (by rfl) ?_
 refine zd ?_
 refine Wv tG rfl rfl rfl (by(simp_all;done)) (iN Cs 1 (fun _=>rfl) [] (by(simp_all;done))) ?_
 refine z1 ?_
 refine zA 14 rfl (show _=sq ao a from rfl) ?_
 refine Wf rfl (by(simp only[bU,decide_eq_false_iff_not];unfold wrap64;omega)) ?_
 refine Wj<|aI rfl ?_
 refine z1 ?_
 refine Wa 22 rfl (show _=PV.val (.int .i64 1) from rfl) ?_
 refine zs1 ?_
 show W _ _ _ _ _ _ _
 refine zd ?_
 refine Wt rfl (by rfl) ?_
 refine zd ?_
 refine Wv tG rfl rfl rfl (by(simp_all;done)) (iN Cs 1 (fun _=>rfl) [] (by(simp_all;done))) ?_
 refine z1 ?_
 refine zA 14 rfl (show _=sq ao b from rfl) ?_
 refine Wf rfl (by(simp only[bU,decide_eq_false_iff_not];unfold wrap64;omega)) ?_
 refine Wj<|aI rfl ?_
 refine z1 ?_
 refine Wa 22 rfl (show _=PV.val (.int .i64 2) from rfl) ?_
 refine zs1 ?_
 show W _ _ _ _ _ _ _
 refine zd ?_
 refine Wf rfl (by rfl) ?_
 refine aW ?_
 refine zp1 ?_
 refine Wa 23 rfl (aU4 ha hb) ?_
 refine Wc rfl rfl (Oc rfl rfl (by omega)) ?_
 refine zd ?_
 refine j3 3 ?_
 show W _ _ _ _ _ _ _
 refine zd ?_
 refine Wt rfl (by rfl) ?_
 refine zd ?_
 refine Wv tG rfl rfl rfl (by(simp_all;done)) (iN Cs 1 (fun _=>rfl) [] (by(simp_all;done))) ?_
 refine z1 ?_
 refine zA 30 rfl (show _=sq ao a from rfl) ?_
 refine Wd rfl rfl (fy (lO tG rfl) rfl (lO tG rfl) (lO tG rfl) rfl rfl rfl rfl (by simp) (by exact⟨_,rfl⟩) (by exact⟨rfl,rfl,an _ 1 (fun _=>rfl) _,bD _ (fun _=>rfl) _⟩) (by(dsimp only;omega)) (by(omega))) ?_
 refine Wa 33 rfl (yL ao) ?_
 refine zs1 ?_
 refine aI rfl ?_
 refine z1 ?_
 refine Wa 34 rfl (show _=PV.val (.int .i64 1) from rfl) ?_
 refine zs1 ?_
 show W _ _ _ _ _ _ _
 refine zd ?_
 refine Wt rfl (by rfl) ?_
 refine zd ?_
 refine Wv tG rfl rfl rfl (by(simp_all;done)) (iN Cs 1 (fun _=>rfl) [] (by(simp_all;done))) ?_
 refine z1 ?_
 refine zA 30 rfl (show _=sq ao b from rfl) ?_
 refine Wd rfl rfl (fy (lO tG rfl) rfl (lO tG rfl) (lO tG rfl) rfl rfl rfl rfl (by simp) (by exact⟨_,rfl⟩) (by exact⟨rfl,rfl,an _ 1 (fun _=>rfl) _,bD _ (fun _=>rfl) _⟩) (by(dsimp only;omega)) (by(omega))) ?_
 refine Wa 33 rfl (cw ao) ?_
 refine zs1 ?_
 refine aI rfl ?_
 refine z1 ?_
 refine Wa 34 rfl (show _=PV.val (.int .i64 2) from rfl) ?_
 refine zs1 ?_
 show W _ _ _ _ _ _ _
 refine zd ?_
 refine Wf rfl (by rfl) ?_
 refine aW ?_
 refine zd ?_
 rfl
def nQ{α:Type}{a b:List α}{k:Nat}(d:α)(hl:a.length=b.length)(hk:k<a.length)(h:a.take k=b.take k)(he:a.getD k d=b.getD k d):a.take (k+1)=b.take (k+1):=by
 rw[iA a k d hk,iA b k d (by omega),h,he]
def Un{α:Type}{a b:List α}{k:Nat}(d:α)(he:a.getD k d≠b.getD k d):a≠b:=fun h=>he (by rw[h])
def tj(a b:List Int)(ha:a.length<=1000000)(hb:b.length<=1000000):ab prog 20 [sq ao a,sq ao b] (boo (decide (a=b))):=by
 refine zH func20 fun B=>?_
 refine Wi rfl ?_ ?_<;>intro hi1
 ·have hne:a≠b:=fun h=>by subst h;simp at hi1
  refine zd ?_
  exact congrArg boo (decide_eq_false hne).symm
 have hl:a.length=b.length:=by(try simp only[dnL]at *);omega
 refine Wj<|Ws<|zu1 ?_
 refine Wl ?_
 show W _ _ _ _ _ _ _
 refine dJ (fun(k:Nat)=>[(0,sq ao a),(1,sq ao b),(5,i64 k)]) (fun(k:Nat)=>[]) (fun(k:Nat)=>[]) (fun(k:Nat)=>k<=a.length/\a.take k=b.take k) (fun(k:Nat)=>a.length-k) (0) (by simp) [] ?_ ?_
 ·exact dK
 intro k hk
 refine zd ?_
 refine Wi rfl ?_ ?_<;>intro hi2
 ·have hlt:k<a.length:=by have:=oT hi2;omega
  refine zd ?_
  refine zW [0,0,0,1,0,0,0,1,0] [0,1,2,3,4,5,6,7,8] ?_
  refine zK ao 1 0 ?_
  refine zK ao 1 0 ?_
  refine Wi rfl ?_ ?_<;>intro hi3
  ·have hne:a≠b:=Un 0 (k:=k) (by simpa using hi3)
   refine zd ?_
   exact congrArg boo (decide_eq_false hne).symm
  have he:a.getD k 0=b.getD k 0:=by simpa using hi3
  refine zd ?_
  exact⟨k+1,[],(by exact⟨by omega,nQ 0 hl hlt hk.2 he⟩),(by omega),dK⟩
 have hge:a.length<=k:=by have:=oF hi2;omega
 refine aW ?_
 refine zd ?_
 exact congrArg boo (decide_eq_true (by have h1:=hk.2;rw[eQ a k hge,eQ b k (by omega)]at h1;exact h1)).symm
def N0(a b:dV):ab prog 56 [wt a,wt b] (boo (decide (a=b))):=by
 refine zY func56 fun B=>?_
 refine zu3 ?_
 refine zp5 ?_
 refine z1 ?_
 refine Wb 10 rfl ?_ ?_<;>intro hg1
 ·refine zd ?_
  refine zX rfl rfl (cY (lO tG rfl) rfl (lO tG rfl) rfl (lO tG rfl) rfl rfl rfl) ?_
  refine Wd rfl rfl (cY (lO tG rfl) rfl (lO tG rfl) rfl (lO tG rfl) rfl rfl rfl) ?_
  refine z1 ?_
  refine zq 17 ?_
  refine zs2 ?_
  refine zR ?_
  (refine congrArg boo ?_;cases a;cases b;simp_all;done)
 refine z6 ?_
 iterate 6 refine z6 ?_
 refine zs2 ?_
 refine zR ?_
 (refine congrArg boo ?_;cases a;cases b;simp_all;done)
def O8{x y:ig}(h1:x.d=y.d)(h2:x.r=y.r)(h3:x.ip=y.ip):x=y:=by cases x;cases y;simp_all
def Lh(a b:List ig)(ha:a.length<=1000000)(hb:b.length<=1000000):ab prog 55 [sq eW a,sq eW b] (boo (decide (a=b))):=by
 refine zH func55 fun B=>?_
 refine Wi rfl ?_ ?_<;>intro hi1
 ·have hne:a≠b:=fun h=>by subst h;simp at hi1
  refine zd ?_
  exact congrArg boo (decide_eq_false hne).symm
 have hl:a.length=b.length:=by(try simp only[dnL]at *);omega
 refine Wj<|Ws<|zu1 ?_
 refine Wl ?_
 show W _ _ _ _ _ _ _
 refine dJ (fun(k:Nat)=>[(0,sq eW a),(1,sq eW b),(5,i64 k)]) (fun(k:Nat)=>[]) (fun(k:Nat)=>[]) (fun(k:Nat)=>k<=a.length/\a.take k=b.take k) (fun(k:Nat)=>a.length-k) (0) (by simp) [] ?_ ?_
 ·exact dK
 intro k hk
 refine zd ?_
 refine Wi rfl ?_ ?_<;>intro hi2
 ·have hlt:k<a.length:=by have:=oT hi2;omega
  refine zd ?_
  refine zW [0,0,0,0,1,0,0,0,0,1,0,0,0,0,0,0,1,0,0,0,0,1,0,0,0,0,0,0,0,1,0,0,0,0,1,0,0] [0,1,2,3,4,5,6,7,8,9,10,11,12,13,14,15,16,17,18,19,20,21,22,23,24,25,26,27,28,29,30,31,32,33,34,35,36] ?_
  refine zK eW 3 default ?_
  refine Xi tG rfl rfl rfl rfl (fun _=>rfl) (by omega) (iN eW 3 (fun _=>rfl) default (by omega)) ?_
  refine z3 ?_
  refine z5 ?_
  iterate 2 refine z3 ?_
  refine gI 28 rfl (fun hg1=>?_) (fun hg1=>?_)
  ·refine zd ?_
   refine Wt rfl rfl ?_
   refine zu1 ?_
   refine zR ?_
   refine congrArg boo (decide_eq_false fun h=>?_).symm;subst h;simp_all
  refine zd ?_
  refine zK eW 3 default ?_
  refine Xi tG rfl rfl rfl rfl (fun _=>rfl) (by omega) (iN eW 3 (fun _=>rfl) default (by omega)) ?_
  refine z3 ?_
  refine z5 ?_
  iterate 3 refine z3 ?_
  refine gI 41 rfl (fun hg2=>?_) (fun hg2=>?_)
  ·refine zd ?_
   refine Wt rfl rfl ?_
   refine zu1 ?_
   refine zR ?_
   refine congrArg boo (decide_eq_false fun h=>?_).symm;subst h;simp_all
  refine zd ?_
  refine zK eW 3 default ?_
  refine zK eW 3 default ?_
  refine Wi rfl ?_ ?_<;>intro hi3
  ·refine zu1 ?_
   refine zR ?_
   refine congrArg boo (decide_eq_false fun h=>?_).symm;subst h;simp_all
  refine Wj<|aI rfl ?_
  refine zs3 ?_
  have he:a.getD k default=b.getD k default:=(by(try simp only[dnL]at *);exact O8 (by omega) (by omega) (by omega))
  exact⟨k+1,[],(by exact⟨by omega,nQ default hl hlt hk.2 he⟩),(by omega),dK⟩
 have hge:a.length<=k:=by have:=oF hi2;omega
 refine aW ?_
 refine zd ?_
 exact congrArg boo (decide_eq_true (by have h1:=hk.2;rw[eQ a k hge,eQ b k (by omega)]at h1;exact h1)).symm
def PX{x y:rG}(h1:x.place=y.place)(h2:x.old=y.old):x=y:=by cases x;cases y;simp_all
def On(a b:bh)(ha:a.old.length<=1000000)(hb:b.old.length<=1000000):ab prog 54 [jj a,jj b] (boo (decide (a=b))):=by
 refine zH func54 fun B=>?_
 refine zX rfl rfl (cY (lO tG rfl) rfl (lO tG rfl) rfl (lO tG rfl) rfl rfl rfl) ?_
 refine Wd rfl rfl (cY (lO tG rfl) rfl (lO tG rfl) rfl (lO tG rfl) rfl rfl rfl) ?_
 refine z1 ?_
 refine Wa 12 rfl (vZ _ _) ?_
 refine z1 ?_
 refine zB 13 (fun hg1=>?_) (fun hg1=>?_)
 ·refine Wt rfl rfl ?_
  refine zu1 ?_
  refine zR ?_
  refine congrArg boo (decide_eq_false fun h=>?_).symm;subst h;simp_all
 refine Wi rfl ?_ ?_<;>intro hi1
 ·have hne:a≠b:=fun h=>by subst h;simp at hi1
  refine zu1 ?_
  refine zR ?_
  refine congrArg boo (decide_eq_false fun h=>?_).symm;subst h;simp_all
 have hl:a.old.length=b.old.length:=by(try simp only[dnL]at *);omega
 have hb0:a.b=b.b:=by(try simp only[dnL]at *);simp_all
 refine Wj<|Ws<|zu1 ?_
 refine Wl ?_
 show W _ _ _ _ _ _ _
 refine dJ (fun(k:Nat)=>[(2,.ptr 0 0),(3,.ptr 1 0),(5,i64 k)]) (fun(k:Nat)=>[.cells (GF a) 28,.cells (GF b) 28]) (fun(k:Nat)=>[]) (fun(k:Nat)=>k<=a.old.length/\a.old.take k=b.old.take k) (fun(k:Nat)=>a.old.length-k) (0) (by simp) [] ?_ ?_
 ·exact dK
 intro k hk
 refine zd ?_
 refine Wi rfl ?_ ?_<;>intro hi2
 ·have hlt:k<a.old.length:=by have:=oT hi2;omega
  refine zd ?_
  refine zW [0,1,0,0,0,1,0,1,0,0,0,1,0,0,0,1,0,0,0,1,0,0,1,0,0,0,1,0,0,0] [0,1,2,3,4,5,6,7,8,9,10,11,12,13,14,15,16,17,18,19,20,21,22,23,24,25,26,27,28,29] ?_
  refine zK jX 2 default ?_
  refine Xi tG rfl rfl rfl rfl (fun _=>rfl) (by omega) (iN jX 2 (fun _=>rfl) default (by omega)) ?_
  refine z3 ?_
  refine z5 ?_
  iterate 2 refine z3 ?_
  refine gI 42 rfl (fun hg2=>?_) (fun hg2=>?_)
  ·refine zd ?_
   refine Wt rfl rfl ?_
   refine zu1 ?_
   refine zR ?_
   refine congrArg boo (decide_eq_false fun h=>?_).symm;subst h;simp_all
  refine zd ?_
  refine zK jX 2 default ?_
  refine ew rfl rfl rfl rfl (fun _=>cY (lO tG rfl) rfl (lO tG rfl) rfl (lO tG rfl) rfl rfl rfl) ?_
  refine zd ?_
  refine zK jX 2 default ?_
  refine ew rfl rfl rfl rfl (fun _=>cY (lO tG rfl) rfl (lO tG rfl) rfl (lO tG rfl) rfl rfl rfl) ?_
  refine z3 ?_
  refine zO 57 rfl (vZ _ _) ?_
  refine Wi rfl ?_ ?_<;>intro hi3
  ·refine zu1 ?_
   refine zR ?_
   refine congrArg boo (decide_eq_false fun h=>?_).symm;subst h;simp_all
  refine Wj<|aI rfl ?_
  refine zs3 ?_
  have he:a.old.getD k default=b.old.getD k default:=(by(try simp only[dnL]at *);exact PX (by omega) (by assumption))
  exact⟨k+1,[],(by exact⟨by omega,nQ default hl hlt hk.2 he⟩),(by omega),dK⟩
 have hge:a.old.length<=k:=by have:=oF hi2;omega
 refine aW ?_
 refine zd ?_
 exact congrArg boo (decide_eq_true (by have h1:=hk.2;rw[eQ _ k hge,eQ _ k (by omega)]at h1;cases a;cases b;simp_all)).symm
def eG(c:lI):Prop:=2048<=c.mem/\c.mem<=65536/\c.mem.tmod 8=0/\1<=c.data/\c.data<=256/\1<=c.ret/\c.ret<=256/\200<=c.words/\c.words<=1024/\0<=c.out/\c.out<=65536
instance (c:lI):Decidable (eG c):=by unfold eG;infer_instance
def UH(c:lI):ab prog 46 [Ma c] (boo (decide (eG c))):=by
 refine zY func46 fun B=>?_
 refine zu2 ?_
 refine zp4 ?_
 refine Wb 6 rfl ?_ ?_<;>intro hg1
 ·refine zy5 ?_
  refine Wb 11 rfl ?_ ?_<;>intro hg2
  ·refine zy5 ?_
   refine z1 ?_
   refine Wb 17 rfl ?_ ?_<;>intro hg3
   ·refine zy5 ?_
    refine Wb 22 rfl ?_ ?_<;>intro hg4
    ·refine zy5 ?_
     refine Wb 27 rfl ?_ ?_<;>intro hg5
     ·refine zy5 ?_
      refine Wb 32 rfl ?_ ?_<;>intro hg6
      ·refine zy5 ?_
       refine Wb 37 rfl ?_ ?_<;>intro hg7
       ·refine zy5 ?_
        refine Wb 42 rfl ?_ ?_<;>intro hg8
        ·refine zy5 ?_
         refine Wb 47 rfl ?_ ?_<;>intro hg9
         ·refine zy5 ?_
          refine Wb 52 rfl ?_ ?_<;>intro hg10
          ·refine zs5 ?_
           refine zR ?_
           (refine congrArg boo (decide_eq_decide.2 ?_);unfold eG;(try simp only[dnL]at *);omega)
          refine z6 ?_
          iterate 2 refine z6 ?_
          refine zs2 ?_
          refine zR ?_
          (refine congrArg boo (decide_eq_false ?_).symm;unfold eG;(try simp only[dnL]at *);omega)
         refine z6 ?_
         iterate 2 refine z6 ?_
         refine zy2 ?_
         iterate 3 refine z6 ?_
         refine zs2 ?_
         refine zR ?_
         (refine congrArg boo (decide_eq_false ?_).symm;unfold eG;(try simp only[dnL]at *);omega)
        refine z6 ?_
        iterate 2 refine z6 ?_
        refine zy2 ?_
        iterate 3 refine z6 ?_
        refine zy2 ?_
        iterate 3 refine z6 ?_
        refine zs2 ?_
        refine zR ?_
        (refine congrArg boo (decide_eq_false ?_).symm;unfold eG;(try simp only[dnL]at *);omega)
       refine z6 ?_
       iterate 2 refine z6 ?_
       refine zy2 ?_
       iterate 3 refine z6 ?_
       refine zy2 ?_
       iterate 3 refine z6 ?_
       refine zy2 ?_
       iterate 3 refine z6 ?_
       refine zs2 ?_
       refine zR ?_
       (refine congrArg boo (decide_eq_false ?_).symm;unfold eG;(try simp only[dnL]at *);omega)
      refine z6 ?_
      iterate 2 refine z6 ?_
      refine zy2 ?_
      iterate 3 refine z6 ?_
      refine zy2 ?_
      iterate 3 refine z6 ?_
      refine zy2 ?_
      iterate 3 refine z6 ?_
      refine zy2 ?_
      iterate 3 refine z6 ?_
      refine zs2 ?_
      refine zR ?_
      (refine congrArg boo (decide_eq_false ?_).symm;unfold eG;(try simp only[dnL]at *);omega)
     refine z6 ?_
     iterate 2 refine z6 ?_
     refine zy2 ?_
     iterate 3 refine z6 ?_
     refine zy2 ?_
     iterate 3 refine z6 ?_
     refine zy2 ?_
     iterate 3 refine z6 ?_
     refine zy2 ?_
     iterate 3 refine z6 ?_
     refine zy2 ?_
     iterate 3 refine z6 ?_
     refine zs2 ?_
     refine zR ?_
     (refine congrArg boo (decide_eq_false ?_).symm;unfold eG;(try simp only[dnL]at *);omega)
    refine z6 ?_
    iterate 2 refine z6 ?_
    refine zy2 ?_
    iterate 3 refine z6 ?_
    refine zy2 ?_
    iterate 3 refine z6 ?_
    refine zy2 ?_
    iterate 3 refine z6 ?_
    refine zy2 ?_
    iterate 3 refine z6 ?_
    refine zy2 ?_
    iterate 3 refine z6 ?_
    refine zy2 ?_
    iterate 3 refine z6 ?_
    refine zs2 ?_
    refine zR ?_
    (refine congrArg boo (decide_eq_false ?_).symm;unfold eG;(try simp only[dnL]at *);omega)
   refine z6 ?_
   iterate 2 refine z6 ?_
   refine zy2 ?_
   iterate 3 refine z6 ?_
   refine zy2 ?_
   iterate 3 refine z6 ?_
   refine zy2 ?_
   iterate 3 refine z6 ?_
   refine zy2 ?_
   iterate 3 refine z6 ?_
   refine zy2 ?_
   iterate 3 refine z6 ?_
   refine zy2 ?_
   iterate 3 refine z6 ?_
   refine zy2 ?_
   iterate 3 refine z6 ?_
   refine zs2 ?_
   refine zR ?_
   (refine congrArg boo (decide_eq_false ?_).symm;unfold eG;(try simp only[dnL]at *);omega)
  refine z6 ?_
  iterate 3 refine z6 ?_
  refine zy2 ?_
  iterate 3 refine z6 ?_
  refine zy2 ?_
  iterate 3 refine z6 ?_
  refine zy2 ?_
  iterate 3 refine z6 ?_
  refine zy2 ?_
  iterate 3 refine z6 ?_
  refine zy2 ?_
  iterate 3 refine z6 ?_
  refine zy2 ?_
  iterate 3 refine z6 ?_
  refine zy2 ?_
  iterate 3 refine z6 ?_
  refine zy2 ?_
  iterate 3 refine z6 ?_
  refine zs2 ?_
  refine zR ?_
  (refine congrArg boo (decide_eq_false ?_).symm;unfold eG;(try simp only[dnL]at *);omega)
 refine z6 ?_
 iterate 2 refine z6 ?_
 refine zy2 ?_
 iterate 4 refine z6 ?_
 refine zy2 ?_
 iterate 3 refine z6 ?_
 refine zy2 ?_
 iterate 3 refine z6 ?_
 refine zy2 ?_
 iterate 3 refine z6 ?_
 refine zy2 ?_
 iterate 3 refine z6 ?_
 refine zy2 ?_
 iterate 3 refine z6 ?_
 refine zy2 ?_
 iterate 3 refine z6 ?_
 refine zy2 ?_
 iterate 3 refine z6 ?_
 refine zy2 ?_
 iterate 3 refine z6 ?_
 refine zs2 ?_
 refine zR ?_
 (refine congrArg boo (decide_eq_false ?_).symm;unfold eG;(try simp only[dnL]at *);omega)
def eK(p:dV):Prop:=p.b.length<=130/\(p.on=true\/p.b.length=0)
instance (p:dV):Decidable (eK p):=by unfold eK;infer_instance
def mB(m:bh):Bool:=m.old.all (fun p=>bq m p.place p.old.length)&&(decide (m.b.length<=65536)&&decide (m.b.length%8=0))
def Vs{α:Type}{f:α->Bool}{l:List α}{k:Nat}(d:α)(hk:k<l.length)(h:(l.take k).all f=true)(hf:f (l.getD k d)=true):(l.take (k+1)).all f=true:=by
 rw[iA l k d hk,List.all_append,h];simp only[List.all_cons,List.all_nil,hf];rfl
def Ur{α:Type}{l:List α}{k:Nat}(d:α)(hk:k<l.length):l.getD k d∈l:=by
 unfold List.getD
 rw[List.getElem?_eq_getElem hk]
 exact List.getElem_mem hk
def CB:ab prog 47 [] (sq gj aq):=by
 refine zY func47 fun B=>?_
 refine zu1 ?_
 refine zp1 ?_
 refine zA 1 rfl (bsL gj [_,_,_,_,_,_,_,_,_,_,_,_,_,_,_,_,_,_,_,_,_,_,_,_,_,_,_,_,_,_,_,_,_,_,_,_,_,_,_,_,_,_,_,_,_,_,_,_,_,_,_,_,_,_,_,_,_,_,_,_,_,_,_,_,_,_,_,_,_,_,_,_,_,_,_,_,_,_,_,_,_,_,_,_,_,_,_,_,_,_,_,_,_,_,_,_,_,_,_,_,_,_,_,_,_,_,_,_,_,_,_,_,_,_,_,_,_,_,_,_,_,_,_,_,_,_,_,_,_,_] rfl rfl) ?_
 exact rfl
def fg:ab prog 71 [] (sq gj bJ):=by
 refine zY func71 fun B=>?_
 refine zu1 ?_
 refine zp1 ?_
 refine zA 1 rfl (bsL gj [_,_,_,_,_,_,_,_,_,_,_,_,_,_,_,_,_,_,_,_,_,_,_,_,_,_,_,_,_,_,_,_,_,_,_,_,_] rfl rfl) ?_
 exact rfl
def Em:ab prog 48 [] (sq gj bJ):=by
 refine zY func48 fun B=>?_
 refine zu1 ?_
 refine zp1 ?_
 refine zA 1 rfl (bsL gj [_,_,_,_,_,_,_,_,_,_,_,_,_,_,_,_,_,_,_,_,_,_,_,_,_,_,_,_,_,_,_,_,_,_,_,_,_] rfl rfl) ?_
 exact rfl
def wZ(n lo hi:Int):ab prog 97 [i64 n,i64 lo,i64 hi] (boo (decide (lo<=n/\n<=hi))):=by
 refine zY func97 fun B=>?_
 refine zu1 ?_
 refine zp4 ?_
 refine Wb 10 rfl ?_ ?_<;>intro hg1
 ·refine zs5 ?_
  refine zR ?_
  (refine congrArg boo (decide_eq_decide.2 ?_);(try simp only[dnL]at *);omega)
 refine z6 ?_
 iterate 2 refine z6 ?_
 refine zs2 ?_
 refine zR ?_
 (refine congrArg boo (decide_eq_false ?_).symm;(try simp only[dnL]at *);omega)
def AJ:ab prog 218 [] (i64 1368):=by
 have h1:=lS
 have h2:=iF
 refine zH func218 fun B=>?_
 refine zC rfl func98 ((oh) _) ?_
 refine zc rfl func71 ((fg) _) ?_
 refine zs5 ?_
 refine zR ?_
 refine congrArg i64 ?_;rw[h1,h2];decide
def gF(v:VVm)(s:Str):VVm×Int:=if (s.length:Int)>v.conf.out-v.out.length then(v,-260)else({v with out:=v.out++s},0)
def tVm(r:VVm×Int):PV:=iy (eVm r.1) (i64 r.2)
@[simp] theorem aC7 (r : VVm × Int) : aR (tVm r) := by simp [tVm]
def B4{l m:Str}{k:SK}:PV.seq (l.length+(⟨m.toArray⟩:ByteArray).size) (l.flatMap aH++(⟨m.toArray⟩:ByteArray).data.toList.map fun b=>kH b.toNat) k=.seq (l++m).length ((l++m).flatMap aH) k:=by
 have h:(⟨m.toArray⟩:ByteArray).data.toList.map (fun b=>kH b.toNat)=m.flatMap aH:=by rw[kK,List.map_map];rfl
 rw[dc,h,<-List.flatMap_append,List.length_append]
def IP(v:VVm)(s:Str)(hc:0<=v.conf.out/\v.conf.out<=1000000)(ho:v.out.length<=1000000)(hs:s.length<=140737488355328):ab prog 190 [eVm v,str s] (tVm (gF v s)):=by
 have w1:IntKind.i64.wrap (v.conf.out-v.out.length)=v.conf.out-v.out.length:=by((rw[bU];unfold wrap64;(try simp only[dnL]at *);omega))
 refine zY func190 fun B=>?_
 refine zu3 ?_
 refine Ws<|zp2 ?_
 refine zA 7 rfl (gC _) ?_
 refine Wi rfl ?_ ?_<;>intro hi1
 ·have h0:(s.length:Int)>v.conf.out-v.out.length:=by(try simp only[dnL]at *);omega
  refine zd ?_
  rw[gF,if_pos h0];rfl
 have h0:¬(s.length:Int)>v.conf.out-v.out.length:=by(try simp only[dnL]at *);omega
 have h1:(⟨s.toArray⟩:ByteArray).size=s.length:=dc s
 refine zd ?_
 refine zC rfl func221 ((LW v.out (by omega)) _) ?_
 refine Wd rfl rfl (cd (lO tG rfl) rfl (lO tG rfl) (lO tG rfl) rfl rfl (by rfl) (by exact⟨rfl,rfl,rfl⟩) (by exact an _ 1 (fun _=>rfl) _) (by(dsimp only;omega)) (by(omega))) ?_
 refine zA 21 rfl (B4) ?_
 rw[gF,if_neg h0];rfl
def d7(n:Int):Prop:=(0<=n/\n<=129)\/(256<=n/\n<=260)\/(300<=n/\n<=336)
instance (n:Int):Decidable (d7 n):=by unfold d7;infer_instance
def az(v:VVm)(xt:Int):Int×Int:=if (am v.mem xt).2=0 then(if d7 (am v.mem xt).1 then((am v.mem xt).1,0)else(0,-9))else(0,(am v.mem xt).2)
def qK(v:VVm)(xt:Int)(hm:v.mem.b.length<=140737488355328)(hx:ae xt):ab prog 67 [eVm v,i64 xt] (qR (az v xt)):=by
 have h1:=lS
 have h2:=iF
 refine zH func67 fun B=>?_
 refine zC rfl func39 ((gy v.mem xt hm hx) _) ?_
 refine Wi rfl ?_ ?_<;>intro hi1
 ·have h0:¬(am v.mem xt).2=0:=by simpa using hi1
  refine zd ?_
  rw[az,if_neg h0];rfl
 have h0:(am v.mem xt).2=0:=by simpa using hi1
 have w1:IntKind.i64.wrap (IntKind.i64.wrap (300+(bJ.length:Int))-1)=336:=by rw[h2];decide
 have w2:IntKind.i64.wrap ((aq.length:Int)-1)=129:=by rw[h1];decide
 refine zd ?_
 refine zC rfl func98 ((oh) _) ?_
 refine zc rfl func97 ((wZ _ _ _) _) ?_
 refine z1 ?_
 refine zB 23 (fun hg1=>?_) (fun hg1=>?_)
 ·refine Wt rfl rfl ?_
  refine zd ?_
  (rw[az,if_pos h0,if_pos (by unfold d7;(try simp only[dnL]at *);omega)];rfl)
 refine zc rfl func97 ((wZ _ _ _) _) ?_
 refine zy2 ?_
 refine zB 27 (fun hg2=>?_) (fun hg2=>?_)
 ·refine Wt rfl rfl ?_
  refine zd ?_
  (rw[az,if_pos h0,if_pos (by unfold d7;(try simp only[dnL]at *);omega)];rfl)
 refine zC rfl func71 ((fg) _) ?_
 refine zC rfl func97 ((wZ _ _ _) _) ?_
 refine zI ?_ ?_<;>intro hi2
 ·(rw[az,if_pos h0,if_pos (by unfold d7;(try simp only[dnL]at *);omega)];rfl)
 (rw[az,if_pos h0,if_neg (by unfold d7;(try simp only[dnL]at *);omega)];rfl)
def upC(c:UInt8):UInt8:=if 97<=c.toNat/\c.toNat<=122 then c-32 else c
def MV(l:Str):Str:=l.map upC
def SR(a b:Str):Bool:=decide (MV a=MV b)
def Y6{c:UInt8}(h:97<=c.toNat/\c.toNat<=122):IntKind.u8.wrap ((c.toNat:Int)-32)=((upC c).toNat:Int):=by
 unfold upC
 rw[if_pos h,UInt8.toNat_sub]
 simp[IntKind.wrap,IntKind.bits,IntKind.signed]
 omega
def QE{c:UInt8}(h:¬(97<=c.toNat/\c.toNat<=122)):upC c=c:=by unfold upC;rw[if_neg h]
def TS(l:List UInt8)(k:Nat)(hk:k<l.length)(H:List Ob)(i:Nat)(hi:H[i]?=some (.cells (l.flatMap aH) 5)):HC prog 126 [.ptr i k] H (.tup []) (H.set i (.cells ((l.set k (upC (l.getD k 0))).flatMap aH) 5)):=by
 revert hi
 revert i H
 refine jt (off:=k) tG (rs:=[]) func126 rfl rfl rfl (by simp) (by simp) (bs oN _) (bs oN _) (fun B=>?_)
 refine zd ?_
 refine Wd rfl rfl (cq (lO tG rfl) rfl rfl rfl (Fh rfl hk)) ?_
 refine zy2 ?_
 refine zB 6 (fun hg1=>?_) (fun hg1=>?_)
 ·refine zX rfl rfl (cq (lO tG rfl) rfl rfl rfl (Fh rfl hk)) ?_
  refine zI ?_ ?_<;>intro hi1
  ·refine Wd rfl rfl (cq (lO tG rfl) rfl rfl rfl (Fh rfl hk)) ?_
   refine z1 ?_
   refine zA 15 rfl (congrArg (fun z=>PV.val (Value.int .u8 z)) (Y6 (c:=l.getD k 0) (by simp only[decide_eq_true_eq]at *;omega))) ?_
   refine Wd rfl rfl (bP (lO tG rfl) rfl rfl rfl rfl rfl rfl (by rw[Nat.ble_eq,an aH 1 (fun _=>rfl)];simp;omega)) ?_
   refine jQ (H':=[.cells ((l.set k (upC (l.getD k 0))).flatMap aH) 5]) (by rw[<-yc hk];rfl) ?_
   refine zd ?_
   refine bn rfl rfl ?_ ?_
   ·rfl
   rfl
  refine bn rfl rfl ?_ ?_
  ·rfl
  (rw[QE (by simp only[decide_eq_true_eq,decide_eq_false_iff_not]at *;omega)];congr 1;simp[List.getD,hk])
 refine Wf rfl rfl ?_
 refine zd ?_
 refine bn rfl rfl ?_ ?_
 ·rfl
 (rw[QE (by simp only[decide_eq_true_eq,decide_eq_false_iff_not]at *;omega)];congr 1;simp[List.getD,hk])
def aL3{l:Str}{k:Nat}(h:k<l.length):((l.take k).map upC++l.drop k).getD k 0=l.getD k 0:=by
 have hl:((l.take k).map upC).length=k:=by simp;omega
 unfold List.getD
 rw[List.getElem?_append_right (by omega),hl,Nat.sub_self,List.getElem?_drop,Nat.add_zero]
def ZC{l:Str}{k:Nat}(h:k<l.length):((l.take k).map upC++l.drop k).set k (upC (((l.take k).map upC++l.drop k).getD k 0))=(l.take (k+1)).map upC++l.drop (k+1):=by
 have hl:((l.take k).map upC).length=k:=by simp;omega
 rw[aL3 h,List.drop_eq_getElem_cons h,List.set_append_right _ _ (by omega),hl,Nat.sub_self,List.set_cons_zero,iA l k 0 h,List.map_append,List.append_assoc]
 rfl
def ap6{l:Str}{k:Nat}(h:l.length<=k):(l.take k).map upC++l.drop k=MV l:=by
 rw[eQ l k h,List.drop_eq_nil_of_le h,List.append_nil];rfl
def DE(l:Str)(hl:l.length<=9223372036854775807):ab prog 96 [str l] (str (MV l)):=by
 refine zY func96 fun B=>?_
 refine zu1 ?_
 refine zp1 ?_
 refine Wd rfl rfl (uI (lO tG rfl) rfl (lO tG rfl) rfl (lO tG rfl) rfl rfl rfl) ?_
 refine Wa 7 rfl (show PV.arw 0 0 (⟨l.toArray⟩:ByteArray).size=.arw 0 0 l.length by rw[dc]) ?_
 refine jQ (H':=[.cells (l.flatMap aH) 5]) (by rw[kK];simp[List.map_map]) ?_
 refine zs1 ?_
 refine zu1 ?_
 refine Ws<|zu3 ?_
 refine Wl ?_
 show W _ _ _ _ _ _ _
 refine dJ (fun(k:Nat)=>[(3,.arw 0 0 l.length),(4,.fn (.func 126) [] []),(9,i64 l.length),(10,i64 k)]) (fun(k:Nat)=>[.cells (((l.take k).map upC++l.drop k).flatMap aH) 5]) (fun(k:Nat)=>[]) (fun(k:Nat)=>k<=l.length) (fun(k:Nat)=>l.length-k) (0) (by omega) [] ?_ ?_
 ·exact dK
 intro k hk
 refine zd ?_
 refine Wi rfl ?_ ?_<;>intro hi1
 ·have hk2:k<l.length:=by have:=oT hi1;omega
  refine zd ?_
  refine z2 ?_ (q:=(by omega))
  refine Wa 16 rfl ((by show PV.ptr 0 (0+((k:Int)).toNat*1)=.ptr 0 k;simp)) ?_
  refine Wc rfl rfl (ey rfl rfl func126 rfl rfl (TS ((l.take k).map upC++l.drop k) k (by simp;omega) _ 0 rfl)) ?_
  refine jQ (H':=[.cells (((l.take (k+1)).map upC++l.drop (k+1)).flatMap aH) 5]) (by rw[<-ZC hk2];rfl) ?_
  refine zd ?_
  exact⟨k+1,[],(by omega),(by omega),dK⟩
 refine aW ?_
 refine zd ?_
 refine Wd rfl rfl (Fd (lO tG rfl) rfl (lO tG rfl) rfl (lO tG rfl) rfl rfl rfl rfl (by simp;omega)) ?_
 refine zd ?_
 exact congrArg str (ap6 (by simp only[decide_eq_false_iff_not]at *;omega))
def OV(a b:Str)(ha:a.length<=9223372036854775807)(hb:b.length<=9223372036854775807):ab prog 66 [str a,str b] (boo (SR a b)):=by
 refine zH func66 fun B=>?_
 refine zC rfl func96 ((DE a ha) _) ?_
 refine zc rfl func96 ((DE b hb) _) ?_
 refine z1 ?_
 refine zQ 9 ?_
 rfl
end Go.Proofs.YtjcminooghmpeaaGreatDoor
