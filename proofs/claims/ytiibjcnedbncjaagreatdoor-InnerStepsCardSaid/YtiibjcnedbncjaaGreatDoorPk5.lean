import Derived.ChangeKeysEq
import Derived.Laws.RangeString
import Derived.Test.YtiibjcnedbncjaaGreatDoorPk4
set_option linter.unusedVariables false
set_option linter.unusedSimpArgs false
set_option maxRecDepth 100000
set_option maxHeartbeats 40000000
namespace Go.Proofs.YtiibjcnedbncjaaGreatDoor
open Go.RowKit
theorem FL(n:Nat)(h:n≤1000000):ab Tryz.prog 314 [.val (.int .u64 1),.val (.int .u64 n)] (dm (.val (.int .u64 0)) (.val (.int .u64 n))):=by
 refine dA (P:=Tryz.prog) (args:=[.int .u64 1,.int .u64 n]) (v:=.tuple #[.int .u64 0,.int .u64 n]) (fun c=>?_) (fun w=>?_)
 ·unfold dm Rep
  exact⟨[_,_],rfl,am.2 ⟨aD _ _,am.2 ⟨aD _ _,ax.2 rfl⟩⟩⟩
 refine Calls.mono (Tryz.bits_Mul 1 n (by omega) (by omega) w) ?_
 rintro e w' ⟨rfl,rfl⟩
 refine⟨?_,bg.refl _⟩
 rw[Nat.one_mul,Nat.div_eq_of_lt (by omega),Nat.mod_eq_of_lt (by omega)];rfl
theorem Lu{n:Nat}(h:n≤1000000):PV.val (.int .u64 (IntKind.u64.wrap (n:Int)))=.val (.int .u64 (n:Int)):=by
 exact congrArg (fun z=>PV.val (Value.int .u64 z)) (by rw[IntKind.wrap_u64];omega)
theorem MR{n:Nat}(h:n≤1000000):PV.val (.int .i64 (IntKind.i64.wrap (n:Int)))=.val (.int .i64 (n:Int)):=by
 exact congrArg (fun z=>PV.val (Value.int .i64 z)) (by rw[aK];unfold wrap64;omega)
def cO(c:UInt8)(n k:Nat):List PV:=(List.replicate k c).flatMap av++List.replicate (n-k) .any
theorem fG{c:UInt8}{n k:Nat}(h:k≤n):(cO c n k).length=n:=by
 unfold cO
 rw[List.length_append,ag av 1 (fun _=>rfl)]
 simp;omega
theorem rS(c:UInt8)(k:Nat):(List.replicate k c).flatMap av=List.replicate k (.val (.int .u8 (c.toNat:Int))):=by
 rw[List.flatMap_replicate]
 induction k with
 | zero=>rfl
 | succ k ih=>rw[List.replicate_succ,List.flatten_cons,ih];rfl
theorem qi{c:UInt8}{n k q:Nat}(h:k+q≤n):cK (cO c n k) k ((List.replicate q c).flatMap av)=cO c n (k+q):=by
 unfold cO cK
 rw[rS,rS,rS,List.take_append_of_le_length (by simp),List.take_of_length_le (by simp),List.drop_append,List.length_replicate,List.length_replicate,List.drop_of_length_le (by simp),List.nil_append,List.drop_replicate,List.replicate_append_replicate]
 congr 2;omega
theorem m7{c:UInt8}{n k q:Nat}(h:q≤k):((cO c n k).drop 0).take q=(List.replicate q c).flatMap av:=by
 unfold cO
 rw[rS,rS,List.drop_zero,List.take_append_of_le_length (by simpa using h),List.take_replicate,Nat.min_eq_left h]
theorem qu(c:UInt8)(n:Nat):List.replicate n .any=cO c n 0:=by simp[cO]
theorem M0:Tryz.f337.body.isNone=true:=by kernel_rfl
theorem Mn:Extern.findNext Tryz.f337=none:=by kernel_rfl
theorem Nh:Extern.find Tryz.f337=some (Extern.BytealgMakeNoZero.makeNoZero #[3] #[24]):=by kernel_rfl
theorem Ni : (Tryz.f337.name == "runtime.NumGoroutine") = false := by kernel_rfl
theorem Ef{B:Nat→Nat→Prop}{o:Oper}{T:Nat→PV}{H:List Ob}{x:Operand}{ats:Array TypeId}{m:Nat}(ho:o.op=.call {callee:=.value (.func 337),args:=#[x],argTypes:=ats})(hx:opv T x=.val (.int .i64 (m:Int)))(hm:m≤281474976710656):
  br Tryz.prog B o T H (.arw H.length 0 m) (H++[.cells (List.replicate m .any) 5]) :=
 sZ ho Tryz.func337 Ni M0 Mn Nh (lO (G:=tys) (t:=24) tG rfl) rfl hx hm
def fN(n:Nat):Nat:=if 8192<n then 8192 else n
theorem GB{n:Nat}(h:n≠0):0<fN n:=by unfold fN;split<;>omega
theorem Dv{n:Nat}(h:n≠0):PV.val (.int .i64 ((min 1 n:Nat):Int))=.val (.int .i64 ((1:Nat):Int)):=by rw[Nat.min_eq_left (by omega)]
theorem wK{c:UInt8}{n:Nat}{e:TypeId}(h:n≠0):[Ob.cells (cO c n 1) e]=[Ob.cells (cK (cO c n 0) 0 ((List.flatMap av [c]).take (min 1 n*1))) e]:=by
 rw[Nat.min_eq_left (by omega)]
 have:=qi (c:=c) (n:=n) (k:=0) (q:=1) (by omega)
 rw[Nat.zero_add]at this
 rw[←this];rfl
theorem El{k q:Nat}:PV.val (.int .i64 (if (q:Int)<(k:Int)then(q:Int)else(k:Int)))=.val (.int .i64 ((min k q:Nat):Int)) :=
 congrArg (fun z=>PV.val (Value.int .i64 z)) (by split<;>omega)
@[simp] theorem MS (c : UInt8) (n k : Nat) : aL (cO c n k) := by
 unfold cO
 refine gV (bW pn _) ?_
 induction (n-k)with
 | zero=>trivial
 | succ m ih=>rw[List.replicate_succ];exact⟨trivial,ih⟩
theorem zX{n k:Nat}(h:k<n):PV.arr 0 (if n=(k:Int).toNat then 0 else 0+(k:Int).toNat*1) (n-(k:Int).toNat) (n-(k:Int).toNat)=.arr 0 k (n-k) (n-k):=by
 rw[Int.toNat_natCast,if_neg (by omega)];congr 1;omega
theorem AP{n q:Nat}:PV.arr 0 (if n=0 then 0 else 0+0*1) ((q:Int).toNat-0) (n-0)=.arr 0 0 q n:=by
 simp
theorem uz{c:UInt8}{n k q:Nat}(h:q≤k):∀z∈((cO c n k).drop 0).take q,okC z=true:=by
 rw[m7 h,rS]
 intro z hz
 rw[List.eq_of_mem_replicate hz];rfl
theorem AQ{c:UInt8}{n k q:Nat}{e:TypeId}(h:q≤k)(h2:k+q≤n):[Ob.cells (cO c n (k+q)) e]=[Ob.cells (cK (cO c n k) k (((cO c n k).drop 0).take (q*1))) e]:=by
 rw[Nat.mul_one,m7 h,qi h2]
theorem Dt{a b:Nat}(h:a+b≤1000000):PV.val (.int .i64 (IntKind.i64.wrap ((a:Int)+(b:Int))))=.val (.int .i64 ((a+b:Nat):Int)) :=
 congrArg (fun z=>PV.val (Value.int .i64 z)) (by rw[aK];unfold wrap64;omega)
theorem DS{c:UInt8}{n k:Nat}(h:n≤k)(h2:k≤n):PV.seq n ((cO c n k).take n) .any=sq av (List.replicate n c):=by
 have:k=n:=by omega
 subst this
 have:=m7 (c:=c) (n:=k) (k:=k) (q:=k) (Nat.le_refl _)
 rw[List.drop_zero]at this
 rw[this]
 unfold sq
 rw[List.length_replicate]
theorem vH(c:UInt8)(n:Nat)(h:n≤1000000):ab Tryz.prog 308 [sq av [c],i64 n] (sq av (List.replicate n c)):=by
 refine pW tG (rs:=[.tmp 4]) Tryz.func308 rfl rfl rfl (by simp) (by simp) (fun B=>?_)
 refine zu1 ?_
 refine Ws ?_
 refine zu2 ?_
 refine Wi rfl (fun hi1=>?_) (fun hi1=>?_)
 ·have hz:n=0:=by simpa using hi1
  subst hz
  refine zu2 ?_
  refine zR ?_
  rfl
 have hn:n≠0:=by simpa using hi1
 have hcp:=GB hn
 refine Wj ?_
 refine Ws ?_
 refine zu2 ?_
 refine Wf rfl (by(simp only[dnL]at *;omega)) ?_
 refine Wj ?_
 refine zp3 ?_
 refine Wa 21 rfl ((rfl:PV.val (.int .u64 (IntKind.u64.wrap ((1:Nat):Int)))=.val (.int .u64 1))) ?_
 refine zy2 ?_
 refine Wa 23 rfl (Lu h) ?_
 refine zc rfl Tryz.func314 ((FL n h) _) ?_
 refine zs5 ?_
 refine Ws ?_
 refine zp3 ?_
 refine gD 29 rfl (by rfl) ?_
 refine zs3 ?_
 refine Wf rfl (by(simp only[dnL]at *;omega)) ?_
 refine Wj ?_
 refine zp2 ?_
 refine Wa 35 rfl (MR h) ?_
 refine zs1 ?_
 refine Ws ?_
 refine zu3 ?_
 refine Wf rfl (by rfl) ?_
 refine Wj ?_
 refine zu2 ?_
 refine Ws ?_
 refine zu2 ?_
 refine Wi rfl (fun hi5=>?_) (fun hi5=>?_)
 ·have hq:8192=fN n:=by unfold fN;rw[if_pos (by have:=oT hi5;omega)]
  refine zp3 ?_
  refine Wa 45 rfl (congrArg (fun z=>PV.val (Value.int .i64 z)) (show IntKind.i64.wrap (Int.tdiv 8192 ((1:Nat):Int))=8192 by decide)) ?_
  refine zy3 ?_
  refine Wa 48 rfl (congrArg (fun z=>PV.val (Value.int .i64 z)) (show IntKind.i64.wrap (8192*((1:Nat):Int))=(fN n:Int) by rw[←hq];decide)) ?_
  refine zs1 ?_
  refine zu2 ?_
  refine Wf rfl (by(simp;omega)) ?_
  refine Wj ?_
  refine zp1 ?_
  have hmk:n≤281474976710656:=by omega
  refine Wd (x:=.arw 0 0 n) (H':=[.cells (List.replicate n .any) 5]) rfl rfl (Ef (H:=[]) (m:=n) rfl rfl hmk) ?_
  refine zy2 ?_
  refine Wd rfl rfl (j0 (lO tG rfl) rfl (lO tG rfl) rfl rfl ⟨_,_,rfl,by omega,by simp⟩ ⟨_,_,rfl,by omega,by simp⟩) ?_
  refine lA (H':=[.cells (cO c n 0) 5]) (by rw[←qu]) ?_
  refine zs1 ?_
  refine zp2 ?_
  refine Wd rfl rfl (ma (lO tG rfl) rfl (lO tG rfl) rfl rfl rfl rfl (ag _ 1 (fun _=>rfl) _) (aB _ (fun _=>rfl) _) (by rw[fG (by omega)];(try dsimp only);(try omega))) ?_
  refine Wa 60 rfl (Dv hn) ?_
  refine lA (H':=[.cells (cO c n 1) 5]) (wK hn) ?_
  refine zs1 ?_
  refine Ws ?_
  refine Wl ?_
  show W _ _ _ _ _ _ _
  refine bG (fun(k:Nat)=>[(7,i64 n),(8,i64 (fN n)),(9,.arr 0 0 n n),(10,i64 k)]) (fun(k:Nat)=>[.cells (cO c n k) 5]) (fun(k:Nat)=>[]) (fun(k:Nat)=>1≤k∧k≤n) (fun(k:Nat)=>n-k) (1) (by omega) [] ?_ ?_
  ·exact(bu (sub:=by repeat (first|exact bo|refine aX (by exact aH rfl) ?_)))
  intro k hk
  refine Ws ?_
  refine zu3 ?_
  refine Wi rfl (fun hi7=>?_) (fun hi7=>?_)
  ·have hlt:k<n:=by have:=oT hi7;omega
   have hm1:min k (fN n)≤n:=by omega
   refine Wj ?_
   refine Wl ?_
   refine zp3 ?_
   refine Wa 66 rfl (El) ?_
   refine zs1 ?_
   refine ai [0,0,0,0,0,0,0,3,0,0] [0,1,2,3,4,5,6,7,8,9] mG rfl (by kernel_rfl) ?_
   iterate 3 refine z3 ?_
   refine z4 ?_ (q:=(by(simp;omega)))
   refine Xa 70 rfl (zX hlt) ?_
   iterate 2 refine z3 ?_
   refine z4 ?_ (q:=(by(simp;omega)))
   refine Xa 73 rfl (AP) ?_
   refine ej rfl rfl rfl rfl (nC (lO tG rfl) rfl (lO tG rfl) rfl rfl rfl rfl (uz (by dsimp only;omega)) (by rw[fG hk.2];dsimp only;omega) (by rw[fG hk.2];dsimp only;omega)) ?_
   refine J6 (H':=[.cells (cO c n (k+min (min k (fN n)) (n-k))) 5]) (AQ (by omega) (by omega)) ?_
   refine z3 ?_
   refine Xa 75 rfl (Dt (by omega)) ?_
   refine z3 ?_
   refine ah ?_
   exact⟨k+min (min k (fN n)) (n-k),[],(by omega),(by omega),bu⟩
  have hge:n≤k:=by have:=oF hi7;omega
  refine aN ?_
  refine zp1 ?_
  refine Wm 76 rfl (jM (Nat.le_refl _)) ?_
  refine kf 76 0 _ n rfl rfl (by rw[fG hk.2];exact Nat.le_refl _) ?_
  refine Wa 76 rfl (DS hge hk.2) ?_
  refine zs1 ?_
  refine zR ?_
  rfl
 have hq:fN n=n:=by unfold fN;rw[if_neg (by have:=oF hi5;omega)]
 refine Wj ?_
 refine zp1 ?_
 have hmk:n≤281474976710656:=by omega
 refine Wd (x:=.arw 0 0 n) (H':=[.cells (List.replicate n .any) 5]) rfl rfl (Ef (H:=[]) (m:=n) rfl rfl hmk) ?_
 refine zy2 ?_
 refine Wd rfl rfl (j0 (lO tG rfl) rfl (lO tG rfl) rfl rfl ⟨_,_,rfl,by omega,by simp⟩ ⟨_,_,rfl,by omega,by simp⟩) ?_
 refine lA (H':=[.cells (cO c n 0) 5]) (by rw[←qu]) ?_
 refine zs1 ?_
 refine zp2 ?_
 refine Wd rfl rfl (ma (lO tG rfl) rfl (lO tG rfl) rfl rfl rfl rfl (ag _ 1 (fun _=>rfl) _) (aB _ (fun _=>rfl) _) (by rw[fG (by omega)];(try dsimp only);(try omega))) ?_
 refine Wa 60 rfl (Dv hn) ?_
 refine lA (H':=[.cells (cO c n 1) 5]) (wK hn) ?_
 refine zs1 ?_
 refine Ws ?_
 refine Wl ?_
 show W _ _ _ _ _ _ _
 refine bG (fun(k:Nat)=>[(7,i64 n),(8,i64 (fN n)),(9,.arr 0 0 n n),(10,i64 k)]) (fun(k:Nat)=>[.cells (cO c n k) 5]) (fun(k:Nat)=>[]) (fun(k:Nat)=>1≤k∧k≤n) (fun(k:Nat)=>n-k) (1) (by omega) [] ?_ ?_
 ·exact(bu (sub:=by repeat (first|exact bo|refine aX (by first|exact aH rfl|exact aH (congrArg i64 (by rw[hq]))) ?_)))
 intro k hk
 refine Ws ?_
 refine zu3 ?_
 refine Wi rfl (fun hi7=>?_) (fun hi7=>?_)
 ·have hlt:k<n:=by have:=oT hi7;omega
  have hm1:min k (fN n)≤n:=by omega
  refine Wj ?_
  refine Wl ?_
  refine zp3 ?_
  refine Wa 66 rfl (El) ?_
  refine zs1 ?_
  refine ai [0,0,0,0,0,0,0,3,0,0] [0,1,2,3,4,5,6,7,8,9] mG rfl (by kernel_rfl) ?_
  iterate 3 refine z3 ?_
  refine z4 ?_ (q:=(by(simp;omega)))
  refine Xa 70 rfl (zX hlt) ?_
  iterate 2 refine z3 ?_
  refine z4 ?_ (q:=(by(simp;omega)))
  refine Xa 73 rfl (AP) ?_
  refine ej rfl rfl rfl rfl (nC (lO tG rfl) rfl (lO tG rfl) rfl rfl rfl rfl (uz (by dsimp only;omega)) (by rw[fG hk.2];dsimp only;omega) (by rw[fG hk.2];dsimp only;omega)) ?_
  refine J6 (H':=[.cells (cO c n (k+min (min k (fN n)) (n-k))) 5]) (AQ (by omega) (by omega)) ?_
  refine z3 ?_
  refine Xa 75 rfl (Dt (by omega)) ?_
  refine z3 ?_
  refine ah ?_
  exact⟨k+min (min k (fN n)) (n-k),[],(by omega),(by omega),bu⟩
 have hge:n≤k:=by have:=oF hi7;omega
 refine aN ?_
 refine zp1 ?_
 refine Wm 76 rfl (jM (Nat.le_refl _)) ?_
 refine kf 76 0 _ n rfl rfl (by rw[fG hk.2];exact Nat.le_refl _) ?_
 refine Wa 76 rfl (DS hge hk.2) ?_
 refine zs1 ?_
 refine zR ?_
 rfl
theorem IR(m:aV)(at_ n c:Int)(hm:cb m)(ha:ae at_)(hn:ae n):ab Tryz.prog 213 [dr m,i64 at_,i64 n,i64 c] (mJ (im m at_ n c)):=by
 have hm1:=hm.b
 have hm2:=hm.old
 refine pW tG (rs:=[.cell 8 27,.tmp 9]) Tryz.func213 rfl rfl rfl (by simp) (by simp) (fun B=>?_)
 refine zu3 ?_
 refine Ws ?_
 refine zp3 ?_
 refine zc rfl Tryz.func133 ((lB m at_ n (by omega) ha hn) _) ?_
 refine zs1 ?_
 refine Wi rfl (fun hi1=>?_) (fun hi1=>?_)
 ·have ht:¬ay m at_ n=true:=by simpa using hi1
  refine zu3 ?_
  refine zR ?_
  rw[im,if_neg ht];rfl
 have ht:ay m at_ n=true:=by simpa using hi1
 have hN:0≤n∧n≤1000000:=by unfold ay at ht;simp only[decide_eq_true_eq]at ht;omega
 refine Wj ?_
 refine Ws ?_
 refine ai [1,0,0,0,0,0,0,0,0,0,3,0] [0,1,2,3,4,5,6,7,8,9,10,11] mG rfl (by kernel_rfl) ?_
 refine z5 ?_
 iterate 3 refine z3 ?_
 refine Xa 19 rfl (lm c) ?_
 refine z3 ?_
 refine Xa 20 rfl (bsL av [_] rfl rfl) ?_
 refine z3 ?_
 refine Xa 21 rfl ((show PV.val (.int .i64 n)=i64 ((n.toNat:Nat):Int) by rw[Int.toNat_of_nonneg hN.1];rfl)) ?_
 refine Xc rfl rfl rfl rfl (fun _=>dC rfl Tryz.func308 rfl rfl ((vH (loB c) n.toNat (by omega)) _)) ?_
 refine Xc rfl rfl rfl rfl (fun _=>dC rfl Tryz.func258 rfl rfl ((kj m at_ _ hm ha (by simp;omega)) _)) ?_
 iterate 2 refine z3 ?_
 refine aZ tG rfl rfl rfl rfl rfl trivial ?_
 refine z3 ?_
 refine ah ?_
 refine zR ?_
 rw[im,if_pos ht];rfl
def cg(m:aV)(low here n:Int):Int×Int:=if n>m.b.length-here∨n<low-here then(here,-8)else(here+n,0)
def gl(m:aV)(here:Int)(b:List UInt8):aV×Int×Int:=if (b.length:Int)>m.b.length-here then(m,here,-8)else((bK m here b).1,here+b.length,0)
def gf(m:aV)(here n:Int):aV×Int×Int:=if here.tmod 8=0 then gl m here (mz n)else(m,here,-23)
def l5(m:aV)(here:Int):aV×Int×Int:=gl m here (List.replicate ((8-here.tmod 8).tmod 8).toNat 0)
def rL(r:aV×Int×Int):PV:=da (dr r.1) (i64 r.2.1) (i64 r.2.2)
@[simp] theorem Q8 (r : aV × Int × Int) : aQ (rL r) := by simp [rL]
structure g6 (m:aV) (here:Int):Prop where
 h0:0≤here
 h1:here≤m.b.length
theorem g6.fit{m:aV}{here:Int}(h:g6 m here)(hm:cb m):ae here:=by have:=h.h0;have:=h.h1;have:=hm.b;unfold ae;omega
theorem wb(m:aV)(here:Int)(hm:cb m)(hh:g6 m here):ab Tryz.prog 311 [.agg [sq av m.b,sq cL m.old,i64 here]] (i64 (m.b.length-here)):=by
 have h0:=hh.h0
 have h1:=hh.h1
 have h2:=hm.b
 refine pW tG (rs:=[.tmp 2]) Tryz.func311 rfl rfl rfl (by simp) (by simp) (fun B=>?_)
 refine zu2 ?_
 refine zp5 ?_
 refine zs3 ?_
 refine zR ?_
 exact congrArg i64 (by((rw[aK];unfold wrap64;(try simp only[dnL]at *);omega)))
theorem GR(m:aV)(low here n:Int)(hm:cb m)(hh:g6 m here)(hl:ae low∧0≤low)(hn:ae n):ab Tryz.prog 226 [dr m,i64 low,i64 here,i64 n] (iu (cg m low here n)):=by
 have h0:=hh.h0
 have h1:=hh.h1
 have h2:=hm.b
 unfold ae at hl hn
 have w1:IntKind.i64.wrap (low-here)=low-here:=by((rw[aK];unfold wrap64;(try simp only[dnL]at *);omega))
 refine pW tG (rs:=[.tmp 8,.tmp 9]) Tryz.func226 rfl rfl rfl (by simp) (by simp) (fun B=>?_)
 refine zu3 ?_
 refine zu5 ?_
 refine Ws ?_
 refine zp2 ?_
 refine Wc rfl rfl (dq rfl rfl Tryz.func311 rfl rfl (wb m here hm hh _)) ?_
 refine zy2 ?_
 refine Wb 19 rfl (fun hg1=>?_) (fun hg1=>?_)
 ·refine z6 ?_
  iterate 4 refine z6 ?_
  refine zs1 ?_
  refine Wt rfl rfl ?_
  refine zu3 ?_
  refine zR ?_
  (rw[cg,if_pos (by(try simp only[dnL]at *);omega)];rfl)
 refine zy5 ?_
 refine zs1 ?_
 refine Wi rfl (fun hi1=>?_) (fun hi1=>?_)
 ·refine zu3 ?_
  refine zR ?_
  (rw[cg,if_pos (by(try simp only[dnL]at *);omega)];rfl)
 refine Wj ?_
 refine zu5 ?_
 refine zR ?_
 (rw[cg,if_neg (by(try simp only[dnL]at *);omega)];exact congrArg (fun z=>dm (i64 z) (i64 0)) (by((rw[aK];unfold wrap64;(try simp only[dnL]at *);omega))))
theorem GV(m:aV)(low here n:Int)(hm:cb m)(hh:g6 m here)(hl:ae low∧0≤low)(hn:ae n):ab Tryz.prog 281 [dr m,i64 low,i64 here,i64 n] (iu (cg m low here n)):=by
 have h0:=hh.h0
 have h1:=hh.h1
 have h2:=hm.b
 unfold ae at hl hn
 have w1:IntKind.i64.wrap (low-here)=low-here:=by((rw[aK];unfold wrap64;(try simp only[dnL]at *);omega))
 have w2:IntKind.i64.wrap (m.b.length-here)=m.b.length-here:=by((rw[aK];unfold wrap64;(try simp only[dnL]at *);omega))
 have w3:n≤m.b.length-here→0≤n→IntKind.i64.wrap (here+n)=here+n:=fun _ _=>by((rw[aK];unfold wrap64;(try simp only[dnL]at *);omega))
 refine pW tG (rs:=[.tmp 8,.tmp 9]) Tryz.func281 rfl rfl rfl (by simp) (by simp) (fun B=>?_)
 refine zu3 ?_
 refine Ws ?_
 refine zp3 ?_
 refine Wb 12 rfl (fun hg1=>?_) (fun hg1=>?_)
 ·refine zy5 ?_
  refine zy4 ?_
  refine Wb 21 rfl (fun hg2=>?_) (fun hg2=>?_)
  ·refine z6 ?_
   iterate 8 refine z6 ?_
   refine zs1 ?_
   refine Wt rfl rfl ?_
   refine zu3 ?_
   refine zR ?_
   (rw[cg,if_pos (by(try simp only[dnL]at *);omega)];rfl)
  refine zy3 ?_
  refine Wb 24 rfl (fun hg3=>?_) (fun hg3=>?_)
  ·refine zy5 ?_
   refine zs2 ?_
   refine Wi rfl (fun hi1=>?_) (fun hi1=>?_)
   ·refine zu3 ?_
    refine zR ?_
    (rw[cg,if_pos (by(try simp only[dnL]at *);omega)];rfl)
   refine Wj ?_
   refine Ws ?_
   refine zp3 ?_
   refine Wb 35 rfl (fun hg4=>?_) (fun hg4=>?_)
   ·refine zy5 ?_
    refine zs1 ?_
    refine Wi rfl (fun hi2=>?_) (fun hi2=>?_)
    ·refine zu3 ?_
     refine zR ?_
     (rw[cg,if_pos (by(try simp only[dnL]at *);omega)];rfl)
    refine Wj ?_
    refine zu5 ?_
    refine zR ?_
    (rw[cg,if_neg (by(try simp only[dnL]at *);omega)];exact congrArg (fun z=>dm (i64 z) (i64 0)) (by((simp only[dnL]at *;omega))))
   refine z6 ?_
   iterate 4 refine z6 ?_
   refine zs1 ?_
   refine Wf rfl rfl ?_
   refine Wj ?_
   refine zu5 ?_
   refine zR ?_
   (rw[cg,if_neg (by(try simp only[dnL]at *);omega)];exact congrArg (fun z=>dm (i64 z) (i64 0)) (by((simp only[dnL]at *;omega))))
  refine z6 ?_
  iterate 4 refine z6 ?_
  refine zs2 ?_
  refine Wf rfl rfl ?_
  refine Wj ?_
  refine Ws ?_
  refine zp3 ?_
  refine Wb 35 rfl (fun hg4=>?_) (fun hg4=>?_)
  ·refine zy5 ?_
   refine zs1 ?_
   refine Wi rfl (fun hi2=>?_) (fun hi2=>?_)
   ·refine zu3 ?_
    refine zR ?_
    (rw[cg,if_pos (by(try simp only[dnL]at *);omega)];rfl)
   refine Wj ?_
   refine zu5 ?_
   refine zR ?_
   (rw[cg,if_neg (by(try simp only[dnL]at *);omega)];exact congrArg (fun z=>dm (i64 z) (i64 0)) (by((simp only[dnL]at *;omega))))
  refine z6 ?_
  iterate 4 refine z6 ?_
  refine zs1 ?_
  refine Wf rfl rfl ?_
  refine Wj ?_
  refine zu5 ?_
  refine zR ?_
  (rw[cg,if_neg (by(try simp only[dnL]at *);omega)];exact congrArg (fun z=>dm (i64 z) (i64 0)) (by((simp only[dnL]at *;omega))))
 refine z6 ?_
 iterate 6 refine z6 ?_
 refine zy5 ?_
 refine Wb 24 rfl (fun hg3=>?_) (fun hg3=>?_)
 ·refine zy5 ?_
  refine zs2 ?_
  refine Wi rfl (fun hi1=>?_) (fun hi1=>?_)
  ·refine zu3 ?_
   refine zR ?_
   (rw[cg,if_pos (by(try simp only[dnL]at *);omega)];rfl)
  refine Wj ?_
  refine Ws ?_
  refine zp3 ?_
  refine Wb 35 rfl (fun hg4=>?_) (fun hg4=>?_)
  ·refine zy5 ?_
   refine zs1 ?_
   refine Wi rfl (fun hi2=>?_) (fun hi2=>?_)
   ·refine zu3 ?_
    refine zR ?_
    (rw[cg,if_pos (by(try simp only[dnL]at *);omega)];rfl)
   refine Wj ?_
   refine zu5 ?_
   refine zR ?_
   (rw[cg,if_neg (by(try simp only[dnL]at *);omega)];exact congrArg (fun z=>dm (i64 z) (i64 0)) (by((simp only[dnL]at *;omega))))
  refine z6 ?_
  iterate 4 refine z6 ?_
  refine zs1 ?_
  refine Wf rfl rfl ?_
  refine Wj ?_
  refine zu5 ?_
  refine zR ?_
  (rw[cg,if_neg (by(try simp only[dnL]at *);omega)];exact congrArg (fun z=>dm (i64 z) (i64 0)) (by((rw[aK];unfold wrap64;(try simp only[dnL]at *);omega))))
 refine z6 ?_
 iterate 4 refine z6 ?_
 refine zs2 ?_
 refine Wf rfl rfl ?_
 refine Wj ?_
 refine Ws ?_
 refine zp3 ?_
 refine Wb 35 rfl (fun hg4=>?_) (fun hg4=>?_)
 ·refine zy5 ?_
  refine zs1 ?_
  refine Wi rfl (fun hi2=>?_) (fun hi2=>?_)
  ·refine zu3 ?_
   refine zR ?_
   (rw[cg,if_pos (by(try simp only[dnL]at *);omega)];rfl)
  refine Wj ?_
  refine zu5 ?_
  refine zR ?_
  (rw[cg,if_neg (by(try simp only[dnL]at *);omega)];exact congrArg (fun z=>dm (i64 z) (i64 0)) (by((simp only[dnL]at *;omega))))
 refine z6 ?_
 iterate 4 refine z6 ?_
 refine zs1 ?_
 refine Wf rfl rfl ?_
 refine Wj ?_
 refine zu5 ?_
 refine zR ?_
 (rw[cg,if_neg (by(try simp only[dnL]at *);omega)];exact congrArg (fun z=>dm (i64 z) (i64 0)) (by((simp only[dnL]at *;omega))))
theorem xZ(m:aV)(here:Int)(b:List UInt8)(hm:cb m)(hh:g6 m here)(hb:b.length≤1000000):ab Tryz.prog 231 [dr m,i64 here,sq av b] (rL (gl m here b)):=by
 have h0:=hh.h0
 have h1:=hh.h1
 have h2:=hm.b
 refine pW tG (rs:=[.cell 6 27,.tmp 7,.tmp 8]) Tryz.func231 rfl rfl rfl (by simp) (by simp) (fun B=>?_)
 refine zu4 ?_
 refine zu5 ?_
 refine Ws ?_
 refine zp3 ?_
 refine Wc rfl rfl (dq rfl rfl Tryz.func311 rfl rfl (wb m here hm hh _)) ?_
 refine zs1 ?_
 refine Wi rfl (fun hi1=>?_) (fun hi1=>?_)
 ·refine zu5 ?_
  refine zR ?_
  rw[gl,if_pos (by(try simp only[dnL]at *);omega)];rfl
 refine Wj ?_
 refine zp3 ?_
 refine zc rfl Tryz.func258 ((kj m here b hm (hh.fit hm) hb) _) ?_
 refine zs4 ?_
 refine zp5 ?_
 refine zs3 ?_
 refine zR ?_
 rw[gl,if_neg (by(try simp only[dnL]at *);omega)];exact congrArg (fun z=>da (dr (bK m here b).1) (i64 z) (i64 0)) (by((rw[aK];unfold wrap64;(try simp only[dnL]at *);omega)))
theorem xQ(m:aV)(here:Int)(b:List UInt8)(hm:cb m)(hh:g6 m here)(hb:b.length≤1000000):ab Tryz.prog 284 [dr m,i64 here,sq av b] (rL (gl m here b)):=by
 have h0:=hh.h0
 have h1:=hh.h1
 have h2:=hm.b
 have w2:IntKind.i64.wrap (m.b.length-here)=m.b.length-here:=by((rw[aK];unfold wrap64;(try simp only[dnL]at *);omega))
 refine pW tG (rs:=[.cell 6 27,.tmp 7,.tmp 8]) Tryz.func284 rfl rfl rfl (by simp) (by simp) (fun B=>?_)
 refine zu4 ?_
 refine Ws ?_
 refine zp5 ?_
 refine zs3 ?_
 refine Wi rfl (fun hi1=>?_) (fun hi1=>?_)
 ·refine zu5 ?_
  refine zR ?_
  rw[gl,if_pos (by(try simp only[dnL]at *);omega)];rfl
 refine Wj ?_
 refine zp3 ?_
 refine zc rfl Tryz.func89 ((km m here b hm (hh.fit hm) hb) _) ?_
 refine zy5 ?_
 refine zs1 ?_
 refine zp5 ?_
 refine zs3 ?_
 refine zR ?_
 rw[gl,if_neg (by(try simp only[dnL]at *);omega)];exact congrArg (fun z=>da (dr (bK m here b).1) (i64 z) (i64 0)) (by((rw[aK];unfold wrap64;(try simp only[dnL]at *);omega)))
theorem GA(m:aV)(here n:Int)(hm:cb m)(hh:g6 m here):ab Tryz.prog 229 [dr m,i64 here,i64 n] (rL (gf m here n)):=by
 have h0:=hh.h0
 have h1:=hh.h1
 have h2:=hm.b
 refine pW tG (rs:=[.cell 6 27,.tmp 7,.tmp 8]) Tryz.func229 rfl rfl rfl (by simp) (by simp) (fun B=>?_)
 refine zu4 ?_
 refine Ws ?_
 refine zu3 ?_
 refine Wi rfl (fun hi1=>?_) (fun hi1=>?_)
 ·refine zu5 ?_
  refine zR ?_
  rw[gf,if_neg (by(try simp only[dnL]at *);omega)];rfl
 refine Wj ?_
 refine Ws ?_
 refine ai [1,0,0,0,0,0,0,0,3,0,0] [0,1,2,3,4,5,6,7,8,9,10] mG rfl (by kernel_rfl) ?_
 refine z5 ?_
 iterate 2 refine z3 ?_
 refine Xc rfl rfl rfl rfl (fun _=>dC rfl Tryz.func307 rfl rfl ((wh n) _)) ?_
 refine Xc rfl rfl rfl rfl (fun _=>dC rfl Tryz.func231 rfl rfl ((xZ m here (mz n) hm hh (by rw[hZ];omega)) _)) ?_
 iterate 3 refine z3 ?_
 refine aZ tG rfl rfl rfl rfl rfl trivial ?_
 iterate 2 refine z3 ?_
 refine ah ?_
 refine zR ?_
 rw[gf,if_pos (by(try simp only[dnL]at *);omega)];rfl
theorem FH(m:aV)(here n:Int)(hm:cb m)(hh:g6 m here):ab Tryz.prog 283 [dr m,i64 here,i64 n] (rL (gf m here n)):=by
 have h0:=hh.h0
 have h1:=hh.h1
 have h2:=hm.b
 refine pW tG (rs:=[.cell 6 27,.tmp 7,.tmp 8]) Tryz.func283 rfl rfl rfl (by simp) (by simp) (fun B=>?_)
 refine zu4 ?_
 refine Ws ?_
 refine zu3 ?_
 refine Wi rfl (fun hi1=>?_) (fun hi1=>?_)
 ·refine zu5 ?_
  refine zR ?_
  rw[gf,if_neg (by(try simp only[dnL]at *);omega)];rfl
 refine Wj ?_
 refine Ws ?_
 refine ai [1,0,0,0,0,0,0,0,3,0,0] [0,1,2,3,4,5,6,7,8,9,10] mG rfl (by kernel_rfl) ?_
 refine z5 ?_
 iterate 2 refine z3 ?_
 refine Xc rfl rfl rfl rfl (fun _=>dC rfl Tryz.func90 rfl rfl ((AU n) _)) ?_
 refine Xc rfl rfl rfl rfl (fun _=>dC rfl Tryz.func284 rfl rfl ((xQ m here (mz n) hm hh (by rw[hZ];omega)) _)) ?_
 iterate 3 refine z3 ?_
 refine aZ tG rfl rfl rfl rfl rfl trivial ?_
 iterate 2 refine z3 ?_
 refine ah ?_
 refine zR ?_
 rw[gf,if_pos (by(try simp only[dnL]at *);omega)];rfl
theorem NR{x:Int}(h:0≤x):0≤(8-x.tmod 8).tmod 8∧(8-x.tmod 8).tmod 8<8:=by
 rw[Int.tmod_eq_emod_of_nonneg h,Int.tmod_eq_emod_of_nonneg (by omega)];omega
theorem Kh{c:UInt8}{n:Nat}{d:TD}(hz:d.zero=av 0):dD n d=(List.replicate n (0:UInt8)).flatMap av:=by
 unfold dD;rw[hz,List.flatMap_replicate]
theorem Ax(m:aV)(here:Int)(hm:cb m)(hh:g6 m here):ab Tryz.prog 285 [dr m,i64 here] (rL (l5 m here)):=by
 have h0:=hh.h0
 have h1:=hh.h1
 have h2:=hm.b
 obtain⟨u0,u1⟩:=NR h0
 have hK:∃q:Nat,(q:Int)=(8-here.tmod 8).tmod 8∧q<8:=⟨((8-here.tmod 8).tmod 8).toNat,by omega,by omega⟩
 obtain⟨q,hq,hq8⟩:=hK
 have hend:∀k:Nat,k≤q→(k=q↔(here+k).tmod 8=0):=by
  intro k hk
  rw[Int.tmod_eq_emod_of_nonneg h0,Int.tmod_eq_emod_of_nonneg (by omega)]at hq
  rw[Int.tmod_eq_emod_of_nonneg (by omega)]
  omega
 have hwr:∀k:Nat,k≤q→IntKind.i64.wrap (here+(k:Int))=here+k:=fun k hk=>by((rw[aK];unfold wrap64;(try simp only[dnL]at *);omega))
 refine pW tG (rs:=[.cell 4 27,.tmp 5,.tmp 6]) Tryz.func285 rfl rfl rfl (by simp) (by simp) (fun B=>?_)
 refine zu4 ?_
 refine zp1 ?_
 refine ns 7 0 1 rfl rfl ?_
 refine Wn ?_
 refine Ws ?_
 refine Wl ?_
 show W _ _ _ _ _ _ _
 refine bG (fun(k:Nat)=>[(1,i64 here),(2,.ptr 0 0),(4,.ptr 1 0),(7,.seq (List.replicate k (0:UInt8)).length ((List.replicate k (0:UInt8)).flatMap av) (.own 3 1))]) (fun(k:Nat)=>[.cells (np m) 27,.cells [.seq 0 [] .clip,.seq 0 [] .clip] 27,.dead]) (fun(k:Nat)=>[.free ((List.replicate k (0:UInt8)).length*1)]) (fun(k:Nat)=>k≤q) (fun(k:Nat)=>q-k) (0) (by omega) [2] ?_ ?_
 ·exact bu
 intro k hk
 refine Ws ?_
 refine zp5 ?_
 refine zs1 ?_
 refine Wi rfl (fun hi1=>?_) (fun hi1=>?_)
 ·have hne:k≠q:=by have h9:=hend k hk;simp only[List.length_replicate,hwr k hk]at hi1;(try simp only[dnL]at *);omega
  refine Wj ?_
  refine Wl ?_
  refine aa rfl ?_
  refine zy2 ?_
  refine Wa 15 rfl ((show PV.seq 1 _ .clip=.seq (List.length [(0:UInt8)]) (List.flatMap av [(0:UInt8)]) .clip from rfl)) ?_
  refine Wd rfl rfl (aF (lO tG rfl) rfl (lO tG rfl) (lO tG rfl) rfl rfl rfl rfl (by simp) (by exact⟨_,rfl⟩) (by exact⟨rfl,rfl,ag _ 1 (fun _=>rfl) _,aB _ (fun _=>rfl) _⟩) (by((simp_all;omega))) (by((simp_all;omega)))) ?_
  refine Wa 16 rfl (aM av) ?_
  refine z1 ?_
  skip
  refine Wn ?_
  exact⟨k+1,[4],(by omega),(by omega),(bu (sub:=by repeat (first|exact bo|refine aX (by first|exact aH rfl|exact aH (by rw[List.replicate_succ'];rfl)) ?_)))⟩
 have hkq:k=q:=by have h9:=hend k hk;simp only[List.length_replicate,hwr k hk]at hi1;(try simp only[dnL]at *);omega
 refine aN ?_
 refine zp3 ?_
 refine zc rfl Tryz.func284 ((xQ m here (List.replicate k 0) hm hh (by simp;omega)) _) ?_
 refine zy5 ?_
 refine zs1 ?_
 refine zR ?_
 rw[l5,←hq,←hkq];rfl
theorem IM{n:Int}{d:TD}(hz:d.zero=av 0):PV.seq n.toNat (dD n.toNat d) .clip=sqc av (List.replicate n.toNat (0:UInt8)):=by
 rw[Kh (c:=0) hz];unfold sqc;rw[List.length_replicate]
theorem An(m:aV)(here:Int)(hm:cb m)(hh:g6 m here):ab Tryz.prog 233 [dr m,i64 here] (rL (l5 m here)):=by
 have h0:=hh.h0
 have h1:=hh.h1
 have h2:=hm.b
 obtain⟨u0,u1⟩:=NR h0
 have w1:IntKind.i64.wrap (8-here.tmod 8)=8-here.tmod 8:=by
  rw[aK];unfold wrap64;rw[Int.tmod_eq_emod_of_nonneg h0];omega
 refine pW tG (rs:=[.cell 4 27,.tmp 5,.tmp 6]) Tryz.func233 rfl rfl rfl (by simp) (by simp) (fun B=>?_)
 refine zu4 ?_
 refine Ws ?_
 refine ai [1,0,0,0,0,0,0,0,0,0,0,3,0,0] [0,1,2,3,4,5,6,7,8,9,10,11,12,13] mG rfl (by kernel_rfl) ?_
 refine z5 ?_
 iterate 5 refine z3 ?_
 refine Xa 12 rfl ((show PV.val (.int .i64 _)=.val (.int .i64 ((8-here.tmod 8).tmod 8)) by rw[w1])) ?_
 refine cI rfl rfl rfl rfl (fun _=>xY (lO tG rfl) rfl (lO tG rfl) rfl rfl rfl u0 (by dsimp only;omega) (by omega)) ?_
 refine Xa 13 rfl (IM rfl) ?_
 refine Xc rfl rfl rfl rfl (fun _=>dC rfl Tryz.func231 rfl rfl ((xZ m here (List.replicate ((8-here.tmod 8).tmod 8).toNat 0) hm hh (by simp;omega)) _)) ?_
 iterate 3 refine z3 ?_
 refine aZ tG rfl rfl rfl rfl rfl trivial ?_
 iterate 2 refine z3 ?_
 refine ah ?_
 refine zR ?_
 rfl
theorem mf(a b:Int):gn [61] a b=((two .eq a b).1,true,(two .eq a b).2):=rfl
theorem lL(a b:Int):gn [60,62] a b=((two .ne a b).1,true,(two .ne a b).2):=rfl
theorem mc(a b:Int):gn [60] a b=((two .lt a b).1,true,(two .lt a b).2):=rfl
theorem ml(a b:Int):gn [62] a b=((two .gt a b).1,true,(two .gt a b).2):=rfl
theorem lS(a b:Int):gn [60,61] a b=((two .le a b).1,true,(two .le a b).2):=rfl
theorem lY(a b:Int):gn [62,61] a b=((two .ge a b).1,true,(two .ge a b).2):=rfl
theorem jt(a b:Int):gn [85,60] a b=((two .ult a b).1,true,(two .ult a b).2):=rfl
theorem jr(a b:Int):gn [85,62] a b=((two .ugt a b).1,true,(two .ugt a b).2):=rfl
theorem mn0{a b:Int}(h:¬b<a):da (i64 a) (boo true) (i64 0)=ir (gn [77,73,78] a b):=by rw[d9];simp only[two,if_neg h,ir]
theorem mx0{a b:Int}(h:¬a<b):da (i64 a) (boo true) (i64 0)=ir (gn [77,65,88] a b):=by rw[d8];simp only[two,if_neg h,ir]
theorem N2(a b:Int):(IntKind.u64.wrap a<IntKind.u64.wrap b)↔U a<U b:=by rw[dK,dK];omega
theorem M6(name:Str)(a b:Int)(ha:Fit a)(hb:Fit b):ab Tryz.prog 162 [str name,i64 a,i64 b] (ir (gn name a b)):=by
 refine pW tG (rs:=[.tmp 6,.tmp 7,.tmp 8]) Tryz.func162 rfl rfl rfl (by simp) (by simp) (fun B=>?_)
 refine zu3 ?_
 refine zp2 ?_
 refine zc rfl Tryz.func174 ((Ee a b ha hb) _) ?_
 refine zy5 ?_
 refine zs2 ?_
 refine zu1 ?_
 refine zu1 ?_
 refine Ws ?_
 refine zu1 ?_
 refine Wl ?_
 refine zp1 ?_
 refine zq 23 ?_
 refine zs1 ?_
 refine Wi rfl (fun hi1=>?_) (fun hi1=>?_)
 ·refine zu5 ?_
  refine zR ?_
  ((try simp only[dnL]at *);simp_all[ir,da,i64,boo,aK,two,eG,eB,eJ,eH,ey,eF,gW,eE,eC,eI,d9,d8,mf,lL,mc,ml,lS,lY,jt,jr];done)
 refine zp1 ?_
 refine zq 27 ?_
 refine zs1 ?_
 refine Wi rfl (fun hi2=>?_) (fun hi2=>?_)
 ·refine zu5 ?_
  refine zR ?_
  ((try simp only[dnL]at *);simp_all[ir,da,i64,boo,aK,two,eG,eB,eJ,eH,ey,eF,gW,eE,eC,eI,d9,d8,mf,lL,mc,ml,lS,lY,jt,jr];done)
 refine zp1 ?_
 refine zq 31 ?_
 refine zs1 ?_
 refine Wi rfl (fun hi3=>?_) (fun hi3=>?_)
 ·refine aa rfl ?_
  refine zs4 ?_
  refine zu5 ?_
  refine zR ?_
  ((try simp only[dnL]at *);simp_all[ir,da,i64,boo,aK,two,eG,eB,eJ,eH,ey,eF,gW,eE,eC,eI,d9,d8,mf,lL,mc,ml,lS,lY,jt,jr];done)
 refine zp1 ?_
 refine zq 36 ?_
 refine zs1 ?_
 refine Wi rfl (fun hi4=>?_) (fun hi4=>?_)
 ·refine aa rfl ?_
  refine zs4 ?_
  refine zu5 ?_
  refine zR ?_
  ((try simp only[dnL]at *);simp_all[ir,da,i64,boo,aK,two,eG,eB,eJ,eH,ey,eF,gW,eE,eC,eI,d9,d8,mf,lL,mc,ml,lS,lY,jt,jr];done)
 refine zp1 ?_
 refine zq 41 ?_
 refine zs1 ?_
 refine Wi rfl (fun hi5=>?_) (fun hi5=>?_)
 ·refine aa rfl ?_
  refine zs4 ?_
  refine zu5 ?_
  refine zR ?_
  ((try simp only[dnL]at *);simp_all[ir,da,i64,boo,aK,two,eG,eB,eJ,eH,ey,eF,gW,eE,eC,eI,d9,d8,mf,lL,mc,ml,lS,lY,jt,jr];done)
 refine zp1 ?_
 refine zq 46 ?_
 refine zs1 ?_
 refine Wi rfl (fun hi6=>?_) (fun hi6=>?_)
 ·refine aa rfl ?_
  refine zs4 ?_
  refine zu5 ?_
  refine zR ?_
  ((try simp only[dnL]at *);subst_vars;exact congrArg (fun z=>da (i64 z) (boo true) (i64 0)) (aK _))
 refine zp1 ?_
 refine zq 51 ?_
 refine zs1 ?_
 refine Wi rfl (fun hi7=>?_) (fun hi7=>?_)
 ·refine aa rfl ?_
  refine zs4 ?_
  refine zu5 ?_
  refine zR ?_
  ((try simp only[dnL]at *);subst_vars;exact congrArg (fun z=>da (i64 z) (boo true) (i64 0)) (aK _))
 refine zp1 ?_
 refine zq 56 ?_
 refine zs1 ?_
 refine Wi rfl (fun hi8=>?_) (fun hi8=>?_)
 ·refine aa rfl ?_
  refine zs4 ?_
  refine zu5 ?_
  refine zR ?_
  ((try simp only[dnL]at *);subst_vars;exact congrArg (fun z=>da (i64 z) (boo true) (i64 0)) (aK _))
 refine zp1 ?_
 refine zq 61 ?_
 refine zs1 ?_
 refine Wi rfl (fun hi9=>?_) (fun hi9=>?_)
 ·refine aa rfl ?_
  refine zy2 ?_
  refine zc rfl Tryz.func269 ((se a b true hb) _) ?_
  refine zs1 ?_
  refine zu5 ?_
  refine zR ?_
  ((try simp only[dnL]at *);simp_all[ir,da,i64,boo,aK,two,eG,eB,eJ,eH,ey,eF,gW,eE,eC,eI,d9,d8,mf,lL,mc,ml,lS,lY,jt,jr];done)
 refine zp1 ?_
 refine zq 66 ?_
 refine zs1 ?_
 refine Wi rfl (fun hi10=>?_) (fun hi10=>?_)
 ·refine aa rfl ?_
  refine zy2 ?_
  refine zc rfl Tryz.func269 ((se a b false hb) _) ?_
  refine zs1 ?_
  refine zu5 ?_
  refine zR ?_
  ((try simp only[dnL]at *);simp_all[ir,da,i64,boo,aK,two,eG,eB,eJ,eH,ey,eF,gW,eE,eC,eI,d9,d8,mf,lL,mc,ml,lS,lY,jt,jr];done)
 refine zp1 ?_
 refine zq 71 ?_
 refine zs1 ?_
 refine Wi rfl (fun hi11=>?_) (fun hi11=>?_)
 ·refine zu2 ?_
  refine zu3 ?_
  refine Wi rfl (fun hi12=>?_) (fun hi12=>?_)
  ·refine aa rfl ?_
   refine zs2 ?_
   refine zu5 ?_
   refine zR ?_
   ((try simp only[dnL]at *);simp_all[ir,da,i64,boo,aK,two,eG,eB,eJ,eH,ey,eF,gW,eE,eC,eI,d9,d8,mf,lL,mc,ml,lS,lY,jt,jr];done)
  refine Wj ?_
  refine zu5 ?_
  refine zR ?_
  ((try simp only[dnL]at *);subst_vars;exact mn0 (by assumption))
 refine zp1 ?_
 refine zq 78 ?_
 refine zs1 ?_
 refine Wi rfl (fun hi13=>?_) (fun hi13=>?_)
 ·refine zu2 ?_
  refine zu3 ?_
  refine Wi rfl (fun hi14=>?_) (fun hi14=>?_)
  ·refine aa rfl ?_
   refine zs2 ?_
   refine zu5 ?_
   refine zR ?_
   ((try simp only[dnL]at *);simp_all[ir,da,i64,boo,aK,two,eG,eB,eJ,eH,ey,eF,gW,eE,eC,eI,d9,d8,mf,lL,mc,ml,lS,lY,jt,jr];done)
  refine Wj ?_
  refine zu5 ?_
  refine zR ?_
  ((try simp only[dnL]at *);subst_vars;exact mx0 (by assumption))
 refine zp1 ?_
 refine zq 85 ?_
 refine zs1 ?_
 refine Wi rfl (fun hi15=>?_) (fun hi15=>?_)
 ·refine aa rfl ?_
  refine zy3 ?_
  refine zc rfl Tryz.func175 ((fR _) _) ?_
  refine zs5 ?_
  refine zu5 ?_
  refine zR ?_
  ((try simp only[dnL]at *);subst_vars;rfl)
 refine zp1 ?_
 refine zq 94 ?_
 refine zs1 ?_
 refine Wi rfl (fun hi16=>?_) (fun hi16=>?_)
 ·refine aa rfl ?_
  refine zy3 ?_
  refine zc rfl Tryz.func175 ((fR _) _) ?_
  refine zs5 ?_
  refine zu5 ?_
  refine zR ?_
  ((try simp only[dnL]at *);subst_vars;rfl)
 refine zp1 ?_
 refine zq 103 ?_
 refine zs1 ?_
 refine Wi rfl (fun hi17=>?_) (fun hi17=>?_)
 ·refine aa rfl ?_
  refine zy3 ?_
  refine zc rfl Tryz.func175 ((fR _) _) ?_
  refine zs5 ?_
  refine zu5 ?_
  refine zR ?_
  ((try simp only[dnL]at *);simp_all[ir,da,i64,boo,aK,two,eG,eB,eJ,eH,ey,eF,gW,eE,eC,eI,d9,d8,mf,lL,mc,ml,lS,lY,jt,jr];done)
 refine zp1 ?_
 refine zq 112 ?_
 refine zs1 ?_
 refine Wi rfl (fun hi18=>?_) (fun hi18=>?_)
 ·refine aa rfl ?_
  refine zy3 ?_
  refine zc rfl Tryz.func175 ((fR _) _) ?_
  refine zs5 ?_
  refine zu5 ?_
  refine zR ?_
  ((try simp only[dnL]at *);simp_all[ir,da,i64,boo,aK,two,eG,eB,eJ,eH,ey,eF,gW,eE,eC,eI,d9,d8,mf,lL,mc,ml,lS,lY,jt,jr];done)
 refine zp1 ?_
 refine zq 121 ?_
 refine zs1 ?_
 refine Wi rfl (fun hi19=>?_) (fun hi19=>?_)
 ·refine aa rfl ?_
  refine zy3 ?_
  refine zc rfl Tryz.func175 ((fR _) _) ?_
  refine zs5 ?_
  refine zu5 ?_
  refine zR ?_
  ((try simp only[dnL]at *);simp_all[ir,da,i64,boo,aK,two,eG,eB,eJ,eH,ey,eF,gW,eE,eC,eI,d9,d8,mf,lL,mc,ml,lS,lY,jt,jr];done)
 refine zp1 ?_
 refine zq 130 ?_
 refine zs1 ?_
 refine Wi rfl (fun hi20=>?_) (fun hi20=>?_)
 ·refine aa rfl ?_
  refine zy3 ?_
  refine zc rfl Tryz.func175 ((fR _) _) ?_
  refine zs5 ?_
  refine zu5 ?_
  refine zR ?_
  ((try simp only[dnL]at *);simp_all[ir,da,i64,boo,aK,two,eG,eB,eJ,eH,ey,eF,gW,eE,eC,eI,d9,d8,mf,lL,mc,ml,lS,lY,jt,jr];done)
 refine zp1 ?_
 refine zq 139 ?_
 refine zs1 ?_
 refine Wi rfl (fun hi21=>?_) (fun hi21=>?_)
 ·refine aa rfl ?_
  refine zy5 ?_
  refine zc rfl Tryz.func175 ((fR _) _) ?_
  refine zs5 ?_
  refine zu5 ?_
  refine zR ?_
  ((try simp only[dnL]at *);subst_vars;refine congrArg (fun z=>da (i64 (dc z)) (boo true) (i64 0)) ?_;rw[Bool.eq_iff_iff];simp only[decide_eq_true_eq,N2];done)
 refine zp1 ?_
 refine zq 150 ?_
 refine zs1 ?_
 refine Wi rfl (fun hi22=>?_) (fun hi22=>?_)
 ·refine aa rfl ?_
  refine zy5 ?_
  refine zc rfl Tryz.func175 ((fR _) _) ?_
  refine zs5 ?_
  refine zu5 ?_
  refine zR ?_
  ((try simp only[dnL]at *);subst_vars;refine congrArg (fun z=>da (i64 (dc z)) (boo true) (i64 0)) ?_;rw[Bool.eq_iff_iff];simp only[decide_eq_true_eq,N2];done)
 refine zu3 ?_
 refine zR ?_
 ((try simp only[dnL]at *);rw[Ek (Ao (by assumption) (by assumption) (by assumption) (by assumption) (by assumption) (by assumption) (by assumption) (by assumption) (by assumption) (by assumption) (by assumption) (by assumption) (by assumption) (by assumption) (by assumption) (by assumption) (by assumption) (by assumption) (by assumption) (by assumption))];rfl)
def jC(s:List Int)(takes:Nat)(leaves:List Int)(limit:Int):List Int×Bool×Int :=
 if ((s.length-takes+leaves.length:Nat):Int)>limit then(s,true,-3)else(s.take (s.length-takes)++leaves,true,0)
def tZ(r:List Int×Bool×Int):PV:=da (sq af r.1) (boo r.2.1) (i64 r.2.2)
@[simp] theorem Rl (r : List Int × Bool × Int) : aQ (tZ r) := by simp [tZ]
theorem lX(s:List Int)(takes:Nat)(leaves:List Int)(limit:Int)(hs:s.length≤100000)(ht:takes≤s.length)(hl:leaves.length≤100000)(hm : -9223372036854775808≤limit∧limit≤9223372036854775807):
  ab Tryz.prog 136 [sq af s,i64 takes,sq af leaves,i64 limit] (tZ (jC s takes leaves limit)):=by
 have w1:IntKind.i64.wrap ((s.length:Int)-(takes:Int))=((s.length-takes:Nat):Int):=by((rw[aK];unfold wrap64;(try simp only[dnL]at *);omega))
 have w2:IntKind.i64.wrap (((s.take (s.length-takes)).length:Int)+(leaves.length:Int))=((s.length-takes+leaves.length:Nat):Int):=by
  rw[List.length_take,Nat.min_eq_left (by omega)];((rw[aK];unfold wrap64;(try simp only[dnL]at *);omega))
 refine pW tG (rs:=[.tmp 8,.tmp 9,.tmp 10]) Tryz.func136 rfl rfl rfl (by simp) (by simp) (fun B=>?_)
 refine zu3 ?_
 refine zp5 ?_
 refine Wa 16 rfl (congrArg (fun z=>PV.val (Value.int .i64 z)) w1) ?_
 refine z2 ?_ (q:=(by(simp_all;done)))
 refine Wa 17 rfl (bM af 1 (fun _=>rfl) (by omega)) ?_
 refine Wa 17 rfl ((show _=sq af (s.take (s.length-takes)) by rw[Int.toNat_natCast,List.drop_zero];rfl)) ?_
 refine zs1 ?_
 refine Ws ?_
 refine zp5 ?_
 refine Wa 22 rfl (congrArg (fun z=>PV.val (Value.int .i64 z)) w2) ?_
 refine zs2 ?_
 refine Wi rfl (fun hi1=>?_) (fun hi1=>?_)
 ·refine zu4 ?_
  refine zR ?_
  rw[jC,if_pos (by(try simp only[dnL]at *);omega)];rfl
 refine Wj ?_
 refine zp3 ?_
 refine Wa 28 rfl (bsL vB [_,_] rfl rfl) ?_
 refine zc rfl Tryz.func102 ((DA _ _ (by simp;omega) (by omega)) _) ?_
 refine zs3 ?_
 refine zR ?_
 rw[jC,if_neg (by(try simp only[dnL]at *);omega)];rfl
def ba(s:List Int):Int×List Int×Int:=if s.length=0 then(0,s,-4)else(s.getD (s.length-1) 0,s.take (s.length-1),0)
def Lq(r:Int×List Int×Int):PV:=da (i64 r.1) (sq af r.2.1) (i64 r.2.2)
@[simp] theorem Rc (r : Int × List Int × Int) : aQ (Lq r) := by simp [Lq]
theorem xU(s:List Int)(hs:s.length≤100000):ab Tryz.prog 177 [sq af s] (Lq (ba s)):=by
 refine pW tG (rs:=[.tmp 2,.tmp 3,.tmp 4]) Tryz.func177 rfl rfl rfl (by simp) (by simp) (fun B=>?_)
 refine zu3 ?_
 refine Ws ?_
 refine zu3 ?_
 refine Wi rfl (fun hi1=>?_) (fun hi1=>?_)
 ·have h0:s.length=0:=by(try simp only[dnL]at *);omega
  refine zu4 ?_
  refine zR ?_
  rw[ba,if_pos h0];rfl
 have h0:s.length≠0:=by(try simp only[dnL]at *);omega
 have w1:IntKind.i64.wrap ((s.length:Int)-1)=((s.length-1:Nat):Int):=by((rw[aK];unfold wrap64;(try simp only[dnL]at *);omega))
 refine Wj ?_
 refine Ws ?_
 refine ai [0,0,0,0,0,1,0,0,0,0,0,0,0,0] [0,1,2,3,4,5,6,7,8,9,10,11,12,13] mG rfl (by kernel_rfl) ?_
 iterate 4 refine z3 ?_
 refine Xa 12 rfl (congrArg (fun z=>PV.val (Value.int .i64 z)) w1) ?_
 refine Xi tG rfl rfl rfl rfl (fun _=>rfl) (by omega) (iN af 1 (fun _=>rfl) 0 (by omega)) ?_
 refine z5 ?_
 iterate 4 refine z3 ?_
 refine Xa 18 rfl (congrArg (fun z=>PV.val (Value.int .i64 z)) w1) ?_
 refine z4 ?_ (q:=(by(simp_all;done)))
 refine Xa 19 rfl (bM af 1 (fun _=>rfl) (by omega)) ?_
 refine Xa 19 rfl ((show _=sq af (s.take (s.length-1)) by rw[Int.toNat_natCast,List.drop_zero];rfl)) ?_
 iterate 3 refine z3 ?_
 refine ah ?_
 refine zR ?_
 rw[ba,if_neg h0];rfl
abbrev W64(n:Int):Int:=IntKind.i64.wrap n
def xat(x:List Int)(i:Nat):Int:=x.getD i 0
def bp(x:List Int):List Int×Int:=([(gL (xat x 0) (xat x 1)).2.1,(gL (xat x 0) (xat x 1)).1],(gL (xat x 0) (xat x 1)).2.2)
def tJ(x:List Int):Int×Int×Int:=dX (kQ (xat x 0) (xat x 1)).1 (kQ (xat x 0) (xat x 1)).2 (xat x 2)
def aW(x:List Int):List Int×Int:=([(tJ x).2.1,(tJ x).1],(tJ x).2.2)
def cw(x:List Int):List Int×Int:=([(tJ x).1],(tJ x).2.2)
def pUM(x:List Int):List Int×Int:=([(j3 (xat x 0) (xat x 1)).1,(j3 (xat x 0) (xat x 1)).2],0)
def pM(x:List Int):List Int×Int:=([(kQ (xat x 0) (xat x 1)).1,(kQ (xat x 0) (xat x 1)).2],0)
def cy(x:List Int):List Int×Int:=([(dh (xat x 0) (xat x 1) (xat x 2)).2.1,(dh (xat x 0) (xat x 1) (xat x 2)).1],(dh (xat x 0) (xat x 1) (xat x 2)).2.2)
def cB(x:List Int):List Int×Int:=([(dO (xat x 0) (xat x 1) (xat x 2)).2.1,(dO (xat x 0) (xat x 1) (xat x 2)).1],(dO (xat x 0) (xat x 1) (xat x 2)).2.2)
def cz(x:List Int):List Int×Int:=([(dX (xat x 0) (xat x 1) (xat x 2)).2.1,(dX (xat x 0) (xat x 1) (xat x 2)).1],(dX (xat x 0) (xat x 1) (xat x 2)).2.2)
def pSD(x:List Int):List Int×Int:=([xat x 0,dc (decide (xat x 0<0))],0)
def bq(x:List Int):List Int×Int:=([dc (decide (U (wrap64 (xat x 0-xat x 1))<U (wrap64 (xat x 2-xat x 1))))],0)
def dn(name:Str)(x:List Int):Option (List Int×Int) :=
 if name=[47,77,79,68]then some (bp x)else
 if name=[42,47]then some (cw x)else
 if name=[42,47,77,79,68]then some (aW x)else
 if name=[85,77,42]then some (pUM x)else
 if name=[77,42]then some (pM x)else
 if name=[85,77,47,77,79,68]then some (cy x)else
 if name=[83,77,47,82,69,77]then some (cB x)else
 if name=[70,77,47,77,79,68]then some (cz x)else
 if name=[83,62,68]then some (pSD x)else
 if name=[87,73,84,72,73,78]then some (bq x)else
 if name=[84,82,85,69]then some ([-1],0)else
 if name=[66,65,83,69]then some ([0],0)else
 if name=[70,65,76,83,69]then some ([0],0)else
 if name=[83,84,65,84,69]then some ([8],0)else
 if name=[66,76]then some ([32],0)else none
def lf(v:VVm)(m:aV):VVm:={v with mem:=m}
def bN(v:VVm)(x:List Int):VVm×List Int×Int:=(v,[(au v.mem (xat x 0)).1],(au v.mem (xat x 0)).2)
def bv(v:VVm)(x:List Int):VVm×List Int×Int:=(v,[(ce v.mem (xat x 0)).1],(ce v.mem (xat x 0)).2)
def cu(v:VVm)(r:aV×Int):VVm×List Int×Int:=(lf v r.1,[],r.2)
def kG(v:VVm)(x:List Int):aV×Int:=if (au v.mem (xat x 1)).2=0 then aG v.mem (xat x 1) (W64 ((au v.mem (xat x 1)).1+xat x 0))else(v.mem,(au v.mem (xat x 1)).2)
def fH(v:VVm)(x:List Int):VVm×List Int×Int :=
 if (au v.mem (xat x 0)).2=0 then(v,[(au v.mem (W64 (xat x 0+8))).1,(au v.mem (xat x 0)).1],(au v.mem (W64 (xat x 0+8))).2)else(v,[],(au v.mem (xat x 0)).2)
def jb(v:VVm)(x:List Int):aV×Int:=if (aG v.mem (xat x 2) (xat x 1)).2=0 then aG (aG v.mem (xat x 2) (xat x 1)).1 (W64 (xat x 2+8)) (xat x 0)else aG v.mem (xat x 2) (xat x 1)
def bO(v:VVm)(x:List Int):VVm×List Int×Int:=(v,[W64 (xat x 0+1),(ce v.mem (xat x 0)).1],(ce v.mem (xat x 0)).2)
def cR(v:VVm)(s b:Int):Int:=if (au v.mem (W64 (b+8))).2=0 then(if s<0∨(au v.mem (W64 (b+8))).1≤s then -24 else 0)else(au v.mem (W64 (b+8))).2
def cU(v:VVm)(x:List Int):VVm×List Int×Int:=if cR v (xat x 0) (xat x 1)=0 then cu v (aG v.mem (xat x 1) (xat x 0))else(v,[],cR v (xat x 0) (xat x 1))
def dG(v:VVm)(x:List Int):VVm×List Int×Int:=if cR v (xat x 1) (xat x 2)=0 then cu v (aG v.mem (W64 (W64 (xat x 2+16)+W64 (8*xat x 1))) (xat x 0))else(v,[],cR v (xat x 1) (xat x 2))
def cM(v:VVm)(name:Str)(x:List Int):Option (VVm×List Int×Int) :=
 if name=[64]∨name=[71,69,84,45,83,84,65,84,69]then some (bN v x)else
 if name=[67,64]then some (bv v x)else
 if name=[33]then some (cu v (aG v.mem (xat x 1) (xat x 0)))else
 if name=[67,33]then some (cu v (jc v.mem (xat x 1) (xat x 0)))else
 if name=[43,33]then some (cu v (kG v x))else
 if name=[50,64]then some (fH v x)else
 if name=[50,33]then some (cu v (jb v x))else
 if name=[70,73,76,76]then some (cu v (im v.mem (xat x 0) (xat x 1) (xat x 2)))else
 if name=[77,79,86,69]then some (cu v (ik v.mem (xat x 0) (xat x 1) (xat x 2)))else
 if name=[67,79,85,78,84]then some (bO v x)else
 if name=[68,69,67,73,77,65,76]then some (cu v (aG v.mem 0 10))else
 if name=[72,69,88]then some (cu v (aG v.mem 0 16))else
 if name=[83,69,84,45,83,84,65,84,69]then some (cU v x)else
 if name=[65,84,45,83,84,65,84,69]then some (dG v x)else none
def dB(v:VVm)(r:aV×Int×Int):VVm×List Int×Int:=({v with mem:=r.1,here:=r.2.1},[],r.2.2)
def pj(v:VVm)(x:List Int):aV×Int×Int:=(v.mem,(cg v.mem 1368 v.here (xat x 0)).1,(cg v.mem 1368 v.here (xat x 0)).2)
def fw(v:VVm)(name:Str)(x:List Int):Option (VVm×List Int×Int) :=
 if name=[65,76,76,79,84]then some (dB v (pj v x))else
 if name=[44]then some (dB v (gf v.mem v.here (xat x 0)))else
 if name=[67,44]then some (dB v (gl v.mem v.here [loB (xat x 0)]))else
 if name=[65,76,73,71,78]then some (dB v (l5 v.mem v.here))else none
def eO(v:VVm):Int:=(au v.mem 0).1
def j6(v:VVm)(x:List Int):Str:=List.replicate (min (max (xat x 0) 0) (v.conf.out+1)).toNat 32
def uU(r:Str×Int):Str×Int:=(r.1++[32],r.2)
def i8(v:VVm)(name:Str)(x:List Int):Option (Str×Int) :=
 if name=[69,77,73,84]then some ([loB (xat x 0)],0)else
 if name=[67,82]then some ([10],0)else
 if name=[83,80,65,67,69]then some ([32],0)else
 if name=[83,80,65,67,69,83]then some (j6 v x,0)else
 if name=[84,89,80,69]then some (bT v.mem (xat x 0) (xat x 1))else
 if name=[46]then some (uU (fX (xat x 0) (eO v)))else
 if name=[85,46]then some (uU (cJ (xat x 0) (eO v)))else none
def cZ(v:VVm)(r:Str×Int):VVm×List Int×Int:=if r.2=0 then((iY v r.1).1,[],(iY v r.1).2)else(v,[],r.2)
def o8(v:VVm)(p:ca):VVm:={v with pic:=p}
def mH:Nat→ca→Int→Int→Int→ca×Int
 | 0,q,lo,hi,base=>(q,(aw q lo hi base).2.2.2)
 | n+1,q,lo,hi,base=>if (aw q lo hi base).2.2.2≠0 then(q,(aw q lo hi base).2.2.2)else if (aw q lo hi base).2.1=0∧(aw q lo hi base).2.2.1=0 then((aw q lo hi base).1,0)else mH n (aw q lo hi base).1 (aw q lo hi base).2.1 (aw q lo hi base).2.2.1 base
def j5(q:ca)(lo hi base:Int):ca×Int:=mH (131-q.b.length) q lo hi base
def rK(p:ca)(r:ca×Int):ca×Int:=if r.2=0 then(r.1,0)else(p,r.2)
def lp(p:ca)(lo hi base:Int):ca×Int:=rK p (j5 p lo hi base)
def eo(v:VVm)(x:List Int):VVm×List Int×Int:=(o8 v (aw v.pic (xat x 0) (xat x 1) (eO v)).1,[(aw v.pic (xat x 0) (xat x 1) (eO v)).2.1,(aw v.pic (xat x 0) (xat x 1) (eO v)).2.2.1],(aw v.pic (xat x 0) (xat x 1) (eO v)).2.2.2)
def d7(v:VVm)(x:List Int):VVm×List Int×Int:=(o8 v (lp v.pic (xat x 0) (xat x 1) (eO v)).1,[0,0],(lp v.pic (xat x 0) (xat x 1) (eO v)).2)
def dZ(v:VVm)(r:ca×Int):VVm×List Int×Int:=(o8 v r.1,[],r.2)
def nH(v:VVm):VVm×List Int×Int :=
 if (fK v.pic).2=0 then(o8 (lf v (bK v.mem (W64 (v.conf.mem-136)) (fK v.pic).1).1) ⟨[],false⟩,[W64 (v.conf.mem-136),((fK v.pic).1.length:Int)],(bK v.mem (W64 (v.conf.mem-136)) (fK v.pic).1).2)else(v,[],(fK v.pic).2)
def jm(v:VVm)(name:Str)(x:List Int):Option (VVm×List Int×Int) :=
 if name=[60,35]then some (o8 v ⟨[],true⟩,[],0)else
 if name=[35]then some (eo v x)else
 if name=[35,83]then some (d7 v x)else
 if name=[72,79,76,68]then some (dZ v (eT v.pic (xat x 0)))else
 if name=[83,73,71,78]then some (dZ v (iZ v.pic (xat x 0)))else
 if name=[35,62]then some (nH v)else none
def w6(v:VVm)(q:fZ):VVm:={v with req:=v.req++[q]}
def cf(v:VVm)(x:List Int):Prop:=xat x 1<0∨(v.hand.length:Int)≤xat x 1∨xat x 2<0∨3<xat x 2
instance (v:VVm) (x:List Int):Decidable (cf v x):=by unfold cf;infer_instance
def em(v:VVm)(x:List Int):VVm×List Int×Int:=if 16≤(v.req.length:Int)then(v,[],-257)else(w6 v ⟨4,0,0,0,0,xat x 0⟩,[],0)
def ex(v:VVm)(x:List Int):VVm×List Int×Int:=if cf v x then(v,[],-259)else if 16≤(v.req.length:Int)then(v,[],-257)else(w6 v ⟨1,xat x 0,xat x 1,xat x 2,0,0⟩,[],0)
def bn(kind:Int)(v:VVm)(x:List Int):VVm×List Int×Int :=
 if cf v x then(v,[],-259)else if xat x 3<1∨4294967295<xat x 3 then(v,[],-24)else if 16≤(v.req.length:Int)then(v,[],-257)else if v.free=0∨v.next=4611686018427387904 then(v,[],-258)else
  ({w6 v ⟨kind,xat x 0,xat x 1,xat x 2,xat x 3,v.next⟩with free:=W64 (v.free-1),next:=W64 (v.next+1)},[v.next],0)
def iI(v:VVm)(name:Str)(x:List Int):Option (VVm×List Int×Int) :=
 if name=[80,79,83,84]then some (ex v x)else
 if name=[67,65,78,67,69,76]then some (em v x)else
 if name=[65,70,84,69,82]then some (bn 2 v x)else
 if name=[69,86,69,82,89]then some (bn 3 v x)else none
def kz(v:VVm)(x:List Int):VVm×List Int×Int:=if (aq v (xat x 0)).2=0∧((aq v (xat x 0)).1<257∨260<(aq v (xat x 0)).1)then(v,[],-31)else(v,[W64 (xat x 0+16)],(aq v (xat x 0)).2)
def ng(v:VVm)(name:Str)(x:List Int):VVm×List Int×Int :=
 if name=[72,69,82,69]then(v,[v.here],0)else
 if name=[65,82,71]then(v,[v.arg],0)else
 if name=[83,69,76,70]then(v,[v.self],0)else
 if name=[78,79,87]then(v,[v.now],0)else
 if name=[62,66,79,68,89]then kz v x else(v,[],-1)
def aY(v:VVm)(n:Int)(name:Str)(x:List Int):VVm×List Int×Int :=
 if n≤58 then(v,[(gn name (xat x 0) (xat x 1)).1],(gn name (xat x 0) (xat x 1)).2.2)else
 if n≤72 then(v,[(nD name (xat x 0)).1],0)else
 match dn name x with
 | some r=>(v,r.1,r.2)
 | none=>match cM v name x with
  | some r=>r
  | none=>match fw v name x with
   | some r=>r
   | none=>match i8 v name x with
    | some r=>cZ v r
    | none=>match jm v name x with
     | some r=>r
     | none=>match iI v name x with
      | some r=>r
      | none=>ng v name x
def aU(n:Int)(name:Str):Nat :=
 if n≤58 then 2 else if n≤72 then 1 else
 if name=[65,70,84,69,82]∨name=[69,86,69,82,89]then 4 else
 if name=[42,47]∨name=[42,47,77,79,68]∨name=[85,77,47,77,79,68]∨name=[83,77,47,82,69,77]∨name=[70,77,47,77,79,68]∨name=[87,73,84,72,73,78]∨name=[50,33]∨name=[70,73,76,76]∨name=[77,79,86,69]∨name=[80,79,83,84]∨name=[65,84,45,83,84,65,84,69]then 3 else
 if name=[47,77,79,68]∨name=[85,77,42]∨name=[77,42]∨name=[33]∨name=[67,33]∨name=[43,33]∨name=[84,89,80,69]∨name=[35]∨name=[35,83]∨name=[35,62]∨name=[83,69,84,45,83,84,65,84,69]then 2 else
 if name=[83,62,68]∨name=[64]∨name=[67,64]∨name=[50,64]∨name=[67,79,85,78,84]∨name=[65,76,76,79,84]∨name=[44]∨name=[67,44]∨name=[69,77,73,84]∨name=[83,80,65,67,69,83]∨name=[46]∨name=[85,46]∨name=[72,79,76,68]∨name=[83,73,71,78]∨name=[62,66,79,68,89]∨name=[67,65,78,67,69,76]∨name=[71,69,84,45,83,84,65,84,69]then 1 else 0
def cE(name:Str)(s:List Int):Int :=
 if name=[68,69,80,84,72]then 0 else
 if name=[68,85,80]∨name=[68,82,79,80]∨name=[63,68,85,80]then 1 else
 if name=[83,87,65,80]∨name=[79,86,69,82]∨name=[78,73,80]∨name=[84,85,67,75]∨name=[50,68,85,80]∨name=[50,68,82,79,80]then 2 else
 if name=[82,79,84]∨name=[45,82,79,84]then 3 else
 if name=[50,83,87,65,80]∨name=[50,79,86,69,82]then 4 else
 if name=[80,73,67,75]∨name=[82,79,76,76]then(if s.length=0∨s.getD (s.length-1) 0<0∨(s.length:Int)-1≤s.getD (s.length-1) 0 then(s.length:Int)+1 else s.getD (s.length-1) 0+2)else -1
def ky(name:Str)(x:List Int)(depth:Nat):List Int :=
 if name=[68,85,80]then [xat x 0,xat x 0]else
 if name=[83,87,65,80]then [xat x 1,xat x 0]else
 if name=[79,86,69,82]then [xat x 0,xat x 1,xat x 0]else
 if name=[78,73,80]then [xat x 1]else
 if name=[84,85,67,75]then [xat x 1,xat x 0,xat x 1]else
 if name=[82,79,84]then [xat x 1,xat x 2,xat x 0]else
 if name=[45,82,79,84]then [xat x 2,xat x 0,xat x 1]else
 if name=[50,68,85,80]then [xat x 0,xat x 1,xat x 0,xat x 1]else
 if name=[50,83,87,65,80]then [xat x 2,xat x 3,xat x 0,xat x 1]else
 if name=[50,79,86,69,82]then [xat x 0,xat x 1,xat x 2,xat x 3,xat x 0,xat x 1]else
 if name=[63,68,85,80]then(if xat x 0=0 then x else [xat x 0,xat x 0])else
 if name=[68,69,80,84,72]then [(depth:Int)]else
 if name=[80,73,67,75]then x.take (x.length-1)++[xat x 0]else
 if name=[82,79,76,76]then(x.take (x.length-1)).drop 1++[xat x 0]else []
def bR(name:Str)(s:List Int)(limit:Int):List Int×Bool×Int :=
 if cE name s<0 then(s,false,0)else
 if (s.length:Int)<cE name s then(s,true,-4)else
 if limit<((s.length-(cE name s).toNat+(ky name (s.drop (s.length-(cE name s).toNat)) s.length).length:Nat):Int)then(s,true,-3)else
 (s.take (s.length-(cE name s).toNat)++ky name (s.drop (s.length-(cE name s).toNat)) s.length,true,0)
def doS(v:VVm)(n:Int):VVm×Int :=
 if n<23∨129<n then(v,-24)else
 let name:=ao.getD n.toNat []
 if n≤38 then({v with d:=(bR name v.d v.conf.data).1},(bR name v.d v.conf.data).2.2)else
 let k:=aU n name
 if v.d.length<k then(v,-4)else
 let r:=aY v n name (v.d.drop (v.d.length-k))
 if r.2.2≠0 then(v,r.2.2)else
 if v.conf.data<((v.d.length-k+r.2.1.length:Nat):Int)then(v,-3)else({r.1 with d:=v.d.take (v.d.length-k)++r.2.1},0)
def tLv(r:List Int×Int):PV:=dm (sq af r.1) (i64 r.2)
@[simp] theorem SM (r : List Int × Int) : aQ (tLv r) := by simp [tLv]
structure bx where
 vm:VVm
 ip:Int
 w:Int
 dof:Bool
 fuel:Int
 deriving DecidableEq,Inhabited
def iz(x:bx):List PV:=cVm x.vm++[i64 x.ip,i64 x.w,boo x.dof,i64 x.fuel]
@[simp] theorem GL (x : bx) : aL (iz x) := by simp [iz, cVm]
def kO(x:bx):PV:=.agg (iz x)
@[simp] theorem Q4 (x : bx) : aQ (kO x) := by unfold kO aQ; exact GL x
structure VWk where
 v:VVm
 ip:Int
 w:Int
 dof:Bool
 over:Bool
 bad:Int
 deriving DecidableEq,Inhabited
def cWk(x:VWk):List PV:=cVm x.v++[i64 x.ip,i64 x.w,boo x.dof,boo x.over,i64 x.bad]
@[simp] theorem R4 (x : VWk) : aL (cWk x) := by simp [cWk, cVm]
def eQ(s:List Int)(n limit:Int):List Int×Int:=if limit≤(s.length:Int)then(s,-3)else(s++[n],0)
def it(v:VVm)(n:Int):VVm×Int:=({v with d:=(eQ v.d n v.conf.data).1},(eQ v.d n v.conf.data).2)
def iQ(v:VVm):Int×VVm×Int:=((ba v.d).1,{v with d:=(ba v.d).2.1},(ba v.d).2.2)
def gp(v:VVm)(n:Int):VVm×Int:=if v.conf.ret≤(v.r.length:Int)then(v,-5)else({v with r:=v.r++[n]},0)
def eW(v:VVm):Int×VVm×Int:=if v.r.length=0 then(0,v,-6)else(v.r.getD (v.r.length-1) 0,{v with r:=v.r.take (v.r.length-1)},0)
def bL(k:VWk)(e:Int):VWk:=if k.bad=0 then {k with bad:=e} else k
def eZ(k:VWk)(n:Int):VWk:={bL k (it k.v n).2 with v:=(it k.v n).1}
def bt(k:VWk):VWk×Int:=({bL k (iQ k.v).2.2 with v:=(iQ k.v).2.1},(iQ k.v).1)
def cC(k:VWk)(n:Int):VWk:={bL k (gp k.v n).2 with v:=(gp k.v n).1}
def eg(k:VWk):VWk×Int:=({bL k (eW k.v).2.2 with v:=(eW k.v).2.1},(eW k.v).1)
def az(k:VWk)(at_:Int):VWk×Int:=(bL k (au k.v.mem at_).2,(au k.v.mem at_).1)
def fD(k:VWk)(at_ n:Int):VWk:={bL k (aG k.v.mem at_ n).2 with v:=lf k.v (aG k.v.mem at_ n).1}
def cS(k:VWk)(n:Int):VWk×Int:=if (k.v.r.length:Int)≤n then(bL k (-6),0)else(k,k.v.r.getD (k.v.r.length-1-n.toNat) 0)
def dTo(k:VWk):VWk:={(az k k.ip).1 with ip:=(az k k.ip).2}
def fW(k:VWk):VWk:={k with ip:=W64 (k.ip+8)}
def sL(k:VWk)(xt:Int):VWk:={k with w:=xt,dof:=true}
def dQ(i l n:Int):Int×Bool:=(W64 (i+n),if 0≤n then decide (W64 (i-l)<0)&&decide (0≤W64 (W64 (i-l)+n))else decide (0≤W64 (i-l))&&decide (W64 (W64 (i-l)+n)<0))
def lF(k:VWk)(n:Int):VWk :=
 let a:=cS k 1
 let b:=cS a.1 0
 if b.1.bad≠0 then b.1 else
  let c:=(eg b.1).1
  if (dQ b.2 a.2 n).2 then fW (eg c).1 else dTo (cC c (dQ b.2 a.2 n).1)
def rv(k:VWk):VWk×Int×Int:=let a:=bt k;let b:=bt a.1;(b.1,a.2,b.2)
def nc(k:VWk):VWk:=if k.v.f.length=0 then bL k (-6)else
 eZ {k with ip:=(k.v.f.getD (k.v.f.length-1) default).ip,v:={k.v with f:=k.v.f.take (k.v.f.length-1)}} 0
def si(k:VWk):VWk :=
 if k.v.last=0∨(aq k.v k.v.last).2≠0∨((aq k.v k.v.last).1≠257∧(aq k.v k.v.last).1≠259)then bL k (-31)else
  let b:=fD (fD k k.v.last 259) (W64 ((fD k k.v.last 259).v.last+8)) (fD k k.v.last 259).ip
  {(eg b).1 with ip:=(eg b).2}
def Gj(k:VWk):VWk :=
 let a:=az k k.ip
 let at_:=W64 (k.ip+8)
 let b:=if ay a.1.v.mem at_ a.2 then a.1 else bL a.1 (-9)
 {eZ (eZ b at_) a.2 with ip:=(nD [65,76,73,71,78,69,68] (W64 (at_+a.2))).1}
def fF(k:VWk)(name:Str):VWk×Bool :=
 if name=[40,101,120,105,116,41]then({(eg k).1 with ip:=(eg k).2},true)else
 if name=[40,108,105,116,41]then(fW (eZ (az k k.ip).1 (az k k.ip).2),true)else
 if name=[40,98,114,97,110,99,104,41]then(dTo k,true)else
 if name=[40,48,98,114,97,110,99,104,41]then(if (bt k).2=0 then dTo (bt k).1 else fW (bt k).1,true)else
 if name=[40,100,111,41]then(let t:=rv k;cC (cC t.1 t.2.2) t.2.1,true)else
 if name=[40,63,100,111,41]then(let t:=rv k;if t.2.1=t.2.2 then dTo t.1 else fW (cC (cC t.1 t.2.2) t.2.1),true)else
 if name=[40,108,111,111,112,41]then(lF k 1,true)else
 if name=[40,43,108,111,111,112,41]then(lF (bt k).1 (bt k).2,true)else
 if name=[40,104,97,108,116,41]then({k with over:=true},true)else
 if name=[40,99,97,117,103,104,116,41]then(nc k,true)else
 if name=[40,100,111,101,115,41]then(si k,true)else
 if name=[40,115,116,114,41]then(Gj k,true)else(k,false)
def pA(k:VWk):VWk :=
 let a:=bt k
 let b:=if 64≤(a.1.v.f.length:Int)then bL a.1 (-5)else a.1
 sL {b with ip:=24,v:={b.v with f:=b.v.f++[⟨(b.v.d.length:Int),(b.v.r.length:Int),b.ip⟩]}} a.2
def sy(k:VWk)(name:Str):VWk :=
 if name=[69,88,69,67,85,84,69]then sL (bt k).1 (bt k).2 else
 if name=[67,65,84,67,72]then pA k else
 if name=[84,72,82,79,87]then bL (bt k).1 (bt k).2 else
 if name=[73]∨name=[82,64]then eZ (cS k 0).1 (cS k 0).2 else
 if name=[74]then eZ (cS k 2).1 (cS k 2).2 else
 if name=[85,78,76,79,79,80]then(eg (eg (cS k 1).1).1).1 else
 if name=[62,82]then cC (bt k).1 (bt k).2 else
 if name=[82,62]then eZ (eg k).1 (eg k).2 else
 if name=[50,62,82]then(let t:=rv k;cC (cC t.1 t.2.2) t.2.1)else
 if name=[50,82,62]then(let a:=eg k;let b:=eg a.1;eZ (eZ b.1 b.2) a.2)else k
def lW(k:VWk)(xt:Int):VWk :=
 let a:=az k (W64 (xt+16))
 let b:=az a.1 (W64 (xt+24))
 let c:=if a.2<0∨b.2≤a.2 then bL b.1 (-24)else b.1
 let d:=az c (W64 (W64 (xt+32)+W64 (8*a.2)))
 if d.2=0 then d.1 else sL d.1 d.2
def nk(k:VWk)(xt:Int):VWk :=
 let q:=aq k.v xt
 if q.2≠0 then bL k q.2 else
 if 300≤q.1 then bL k (-14)else
 if q.1=256 then {cC k k.ip with ip:=W64 (xt+8)} else
 if q.1=257 then eZ k (W64 (xt+16))else
 if q.1=258 then eZ (az k (W64 (xt+16))).1 (az k (W64 (xt+16))).2 else
 if q.1=259 then(let a:=az k (W64 (xt+8));{cC (eZ a.1 (W64 (xt+16))) (eZ a.1 (W64 (xt+16))).ip with ip:=a.2})else
 if q.1=260 then lW k xt else
 if 23≤q.1 then {bL k (doS k.v q.1).2 with v:=(doS k.v q.1).1} else
 if (fF k (ao.getD q.1.toNat [])).2 then(fF k (ao.getD q.1.toNat [])).1 else sy (fF k (ao.getD q.1.toNat [])).1 (ao.getD q.1.toNat [])
def dw(s:List Int)(n:Nat):List Int:=s.take n++List.replicate (n-s.length) 0
def cq(a:bx)(bad:Int):bx×Int :=
 if a.vm.f.length=0 then(a,bad)else
  let f:=a.vm.f.getD (a.vm.f.length-1) default
  ({a with vm:={a.vm with f:=a.vm.f.take (a.vm.f.length-1),d:=dw a.vm.d (min f.d (a.vm.conf.data-1)).toNat++[bad],r:=dw a.vm.r (min f.r a.vm.conf.ret).toNat},ip:=f.ip},0)
def bV(r:bx):bx×Bool×Int :=
 if r.fuel<1 then(r,false,-256)else
  let k0:VWk:=⟨r.vm,r.ip,0,false,false,0⟩
  let q:=if r.dof then(k0,r.w)else(let a:=az k0 r.ip;(if a.1.bad=0 then fW a.1 else a.1,a.2))
  let ahead:bx:=⟨r.vm,q.1.ip,0,false,W64 (r.fuel-1)⟩
  let k:=if q.1.bad=0 then nk q.1 q.2 else q.1
  if k.bad=0 then(⟨k.v,k.ip,k.w,k.dof,W64 (r.fuel-1)⟩,k.over,0)else((cq ahead k.bad).1,false,(cq ahead k.bad).2)
def eX(v:VVm)(xt fuel:Int):bx:=⟨{v with r:=[],f:=[]},16,xt,true,fuel⟩
def Fr(v:VVm):VVm:={v with r:=[],f:=[]}
def qB:Nat→bx→VVm×Int×Int
 | 0,r=>(Fr r.vm,r.fuel,-256)
 | n+1,r=>if (bV r).2.1=true∨(bV r).2.2≠0 then(Fr (bV r).1.vm,(bV r).1.fuel,(bV r).2.2)else qB n (bV r).1
def nI(v:VVm)(xt fuel:Int):VVm×Int×Int:=qB (max fuel 0).toNat.succ (eX v xt (max fuel 0))
inductive sT where
 | ok
 | bad (e:Int)
 | halt
 deriving DecidableEq,Inhabited
structure PW where
 r:bx
 err:sT
 deriving DecidableEq,Inhabited
def pOk(k:PW)(v:VVm)(e:Int):PW:=match k.err with
 | .ok=>if e=0 then {k with r:={k.r with vm:=v}} else {k with err:=.bad e}
 | _=>k
def fI:sT→Bool
 | .ok=>true
 | _=>false
def cA(k:PW)(n:Int):PW:=pOk k (it k.r.vm n).1 (it k.r.vm n).2
def aS(k:PW):PW×Int:=(pOk k (iQ k.r.vm).2.1 (iQ k.r.vm).2.2,if fI (pOk k (iQ k.r.vm).2.1 (iQ k.r.vm).2.2).err then(iQ k.r.vm).1 else 0)
def gB(k:PW)(n:Int):PW:=pOk k (gp k.r.vm n).1 (gp k.r.vm n).2
def ew(k:PW):PW×Int:=(pOk k (eW k.r.vm).2.1 (eW k.r.vm).2.2,if fI (pOk k (eW k.r.vm).2.1 (eW k.r.vm).2.2).err then(eW k.r.vm).1 else 0)
def be(k:PW)(a:Int):PW×Int:=(pOk k k.r.vm (au k.r.vm.mem a).2,(au k.r.vm.mem a).1)
def jV(k:PW)(a n:Int):PW:=pOk k (lf k.r.vm (aG k.r.vm.mem a n).1) (aG k.r.vm.mem a n).2
def qt(k:PW)(xt:Int):PW:={k with r:={k.r with w:=xt,dof:=true}}
def wIp(k:PW)(a:Int):PW:={k with r:={k.r with ip:=a}}
def MX(k:PW)(e:sT):PW:={k with err:=e}
def bS(k:PW)(n:Nat):PW×Int:=if k.r.vm.r.length≤n then(pOk k k.r.vm (-6),0)else(k,k.r.vm.r.getD (k.r.vm.r.length-1-n) 0)
def i3(k:PW)(b:Bool):PW:=if b then wIp (be k k.r.ip).1 (be k k.r.ip).2 else wIp k (W64 (k.r.ip+8))
def l7(k:PW)(n:Int):PW :=
 if fI (bS (bS k 1).1 0).1.err then
  i3 (if (dQ (bS (bS k 1).1 0).2 (bS k 1).2 n).2 then(ew (ew (bS (bS k 1).1 0).1).1).1 else gB (ew (bS (bS k 1).1 0).1).1 (dQ (bS (bS k 1).1 0).2 (bS k 1).2 n).1) (!(dQ (bS (bS k 1).1 0).2 (bS k 1).2 n).2)
 else(bS (bS k 1).1 0).1
def jI(k:PW):PW :=
 if k.r.vm.last=0∨(aq k.r.vm k.r.vm.last).2≠0∨((aq k.r.vm k.r.vm.last).1≠257∧(aq k.r.vm k.r.vm.last).1≠259)then pOk k k.r.vm (-31)else
  jV (jV k k.r.vm.last 259) (W64 (k.r.vm.last+8)) (jV k k.r.vm.last 259).r.ip
def nE(k:PW):PW:=wIp (ew k).1 (ew k).2
def wDo(k:PW):PW:=gB (gB (aS (aS k).1).1 (aS (aS k).1).2) (aS k).2
def u9(k:PW):PW :=
 if (aS k).2=(aS (aS k).1).2 then i3 (aS (aS k).1).1 true else
  wDo (wIp (cA (cA (aS (aS k).1).1 (aS (aS k).1).2) (aS k).2) (W64 ((cA (cA (aS (aS k).1).1 (aS (aS k).1).2) (aS k).2).r.ip+8)))
def Gr(k:PW):PW:=wIp (cA (be k k.r.ip).1 (be k k.r.ip).2) (W64 ((cA (be k k.r.ip).1 (be k k.r.ip).2).r.ip+8))
def iX(k:PW):PW:=if k.r.vm.f.length=0 then pOk k k.r.vm (-6)else
 cA {k with r:={k.r with ip:=(k.r.vm.f.getD (k.r.vm.f.length-1) default).ip,vm:={k.r.vm with f:=k.r.vm.f.take (k.r.vm.f.length-1)}}} 0
def BE(k:PW):PW :=
 wIp (cA (cA (pOk (be k k.r.ip).1 (be k k.r.ip).1.r.vm (bT (be k k.r.ip).1.r.vm.mem (W64 (k.r.ip+8)) (be k k.r.ip).2).2) (W64 (k.r.ip+8))) (be k k.r.ip).2)
  (nD [65,76,73,71,78,69,68] (W64 (W64 (k.r.ip+8)+(be k k.r.ip).2))).1
def wFr(b:PW):PW:={b with r:={b.r with ip:=24,vm:={b.r.vm with f:=b.r.vm.f++[⟨(b.r.vm.d.length:Int),(b.r.vm.r.length:Int),b.r.ip⟩]}}}
def kJ(k:PW):PW:=qt (wFr (if 64≤((aS k).1.r.vm.f.length:Int)then pOk (aS k).1 (aS k).1.r.vm (-5)else(aS k).1)) (aS k).2
def uK(k:PW):PW:=gB (gB (aS (aS k).1).1 (aS (aS k).1).2) (aS k).2
def ot(k:PW):PW:=cA (cA (ew (ew k).1).1 (ew (ew k).1).2) (ew k).2
def y9(k:PW)(name:Str):PW :=
 if name=[40,99,97,117,103,104,116,41]then iX k else
 if name=[40,115,116,114,41]then BE k else
 if name=[69,88,69,67,85,84,69]then qt (aS k).1 (aS k).2 else
 if name=[67,65,84,67,72]then kJ k else
 if name=[84,72,82,79,87]then pOk (aS k).1 (aS k).1.r.vm (aS k).2 else
 if name=[73]then cA (bS k 0).1 (bS k 0).2 else
 if name=[74]then cA (bS k 2).1 (bS k 2).2 else
 if name=[85,78,76,79,79,80]then(ew (ew (bS k 1).1).1).1 else
 if name=[62,82]then gB (aS k).1 (aS k).2 else
 if name=[82,62]then cA (ew k).1 (ew k).2 else
 if name=[82,64]then cA (bS k 0).1 (bS k 0).2 else
 if name=[50,62,82]then uK k else
 if name=[50,82,62]then ot k else k
def jP(k:PW)(name:Str):PW :=
 if name=[40,100,111,101,115,41]then nE (jI k)else
 if name=[40,101,120,105,116,41]then nE k else
 if name=[40,108,105,116,41]then Gr k else
 if name=[40,98,114,97,110,99,104,41]then i3 k true else
 if name=[40,48,98,114,97,110,99,104,41]then i3 (aS k).1 (decide ((aS k).2=0))else
 if name=[40,63,100,111,41]then u9 k else
 if name=[40,100,111,41]then wDo k else
 if name=[40,108,111,111,112,41]then l7 k 1 else
 if name=[40,43,108,111,111,112,41]then l7 (aS k).1 (aS k).2 else
 if name=[40,104,97,108,116,41]then MX k .halt else y9 k name
def dP(k:PW)(b:Int):PW :=
 let p:=be k b
 let q:=be p.1 (W64 (b+8))
 let c:=if fI q.1.err&&(decide (p.2<0)||decide (q.2≤p.2))then pOk q.1 q.1.r.vm (-24)else q.1
 let x:=be c (W64 (W64 (b+16)+W64 (8*p.2)))
 if x.2=0 then x.1 else qt x.1 x.2
def iM(k0:PW)(xt:Int):PW :=
 let n:=(aq k0.r.vm xt).1
 let k:=pOk k0 k0.r.vm (aq k0.r.vm xt).2
 if fI k.err then
  if 300≤n then pOk k k.r.vm (-14)else
  if n=256 then wIp (gB k k.r.ip) (W64 (xt+8))else
  if n=257 then cA k (W64 (xt+16))else
  if n=258 then cA (be k (W64 (xt+16))).1 (be k (W64 (xt+16))).2 else
  if n=259 then wIp (gB (cA (be k (W64 (xt+8))).1 (W64 (xt+16))) (cA (be k (W64 (xt+8))).1 (W64 (xt+16))).r.ip) (be k (W64 (xt+8))).2 else
  if n=260 then dP k (W64 (xt+16))else
  if 23≤n∧n≤129 then pOk k (doS k.r.vm n).1 (doS k.r.vm n).2 else jP k (ao.getD n.toNat [])
 else k
def eD(r:bx):PW:=⟨{r with w:=0,dof:=false,fuel:=W64 (r.fuel-1)},.ok⟩
def bP(r:bx):PW×Int :=
 if r.dof then(eD r,r.w)else
  (if fI (be (eD r) r.ip).1.err then wIp (be (eD r) r.ip).1 (W64 ((be (eD r) r.ip).1.r.ip+8))else(be (eD r) r.ip).1,(be (eD r) r.ip).2)
def gd(r:bx):PW:=if fI (bP r).1.err then iM (bP r).1 (bP r).2 else(bP r).1
def nG(r:bx):bx×Bool×Int :=
 if r.fuel<1 then(r,false,-256)else
  match (gd r).err with
  | .ok=>((gd r).r,false,0)
  | .halt=>((gd r).r,true,0)
  | .bad e=>((cq (bP r).1.r e).1,false,(cq (bP r).1.r e).2)
def Rel(p:PW)(d:VWk):Prop:=match p.err with
 | .ok=>d=⟨p.r.vm,p.r.ip,p.r.w,p.r.dof,false,0⟩
 | .bad e=>d.bad=e∧e≠0
 | .halt=>False
def BN(p:PW×Int)(d:VWk×Int):Prop:=Rel p.1 d.1∧(p.1.err=.ok→p.2=d.2)
theorem Rel.ok{p:PW}{d:VWk}(h:Rel p d)(k:p.err=.ok):d=⟨p.r.vm,p.r.ip,p.r.w,p.r.dof,false,0⟩:=by unfold Rel at h;rw[k]at h;exact h
theorem Rel.bad{p:PW}{d:VWk}{e:Int}(h:Rel p d)(k:p.err=.bad e):d.bad=e∧e≠0:=by unfold Rel at h;rw[k]at h;exact h
theorem Rel.cases{p:PW}{d:VWk}(h:Rel p d):(p.err=.ok)∨∃e,p.err=.bad e:=by
 unfold Rel at h
 cases k:p.err with
 | ok=>exact .inl rfl
 | bad e=>exact .inr ⟨e,rfl⟩
 | halt=>rw[k]at h;exact h.elim
theorem rY{p:PW}{d:VWk}(k:p.err=.ok)(h:d=⟨p.r.vm,p.r.ip,p.r.w,p.r.dof,false,0⟩):Rel p d:=by unfold Rel;rw[k];exact h
theorem gH{p:PW}{d:VWk}{e:Int}(k:p.err=.bad e)(h:d.bad=e)(h0:e≠0):Rel p d:=by unfold Rel;rw[k];exact⟨h,h0⟩
theorem gx{k:PW}{c e:Int}{v:VVm}(h:k.err=.bad c):pOk k v e=k:=by unfold pOk;rw[h]
theorem fB{k:PW}{e:Int}{v:VVm}(h:(pOk k v e).err=.ok):k.err=.ok∧e=0:=by
 unfold pOk at h
 cases k1:k.err with
 | ok =>
  rw[k1]at h;simp only at h
  by_cases he:e=0
  ·exact⟨rfl,he⟩
  rw[if_neg he]at h;cases h
 | bad c=>rw[k1]at h;simp only at h;rw[k1]at h;cases h
 | halt=>rw[k1]at h;simp only at h;rw[k1]at h;cases h
theorem fC{e:sT}:fI e=true↔e=.ok:=by cases e<;>simp[fI]
theorem yW{d:VWk}{e:Int}(h:d.bad≠0):bL d e=d:=by unfold bL;rw[if_neg h]
theorem nz{p:PW}{d:VWk}{v v':VVm}{e e':Int}(h:Rel p d)(he:p.err=.ok→e=e'∧(e=0→v=v')):Rel (pOk p v e) {bL d e' with v:=v'}:=by
 rcases h.cases with k|⟨c,k⟩
 ·obtain⟨rfl,hv⟩:=he k
  have hd:=h.ok k
  subst hd
  unfold pOk bL;rw[k];simp only[if_true]
  by_cases he:e=0
  ·rw[if_pos he];exact rY rfl (by rw[hv he,he])
  rw[if_neg he];exact gH rfl rfl he
 have hb:=h.bad k
 rw[gx k]
 exact gH k (by rw[yW (by rw[hb.1];exact hb.2)];exact hb.1) hb.2
theorem jN{p:PW}{d:VWk}{e:Int}(h:Rel p d):Rel (pOk p p.r.vm e) (bL d e):=by
 have k:=nz (v:=p.r.vm) (v':=d.v) (e:=e) (e':=e) h (fun k=>⟨rfl,fun _=>by rw[h.ok k]⟩)
 have e2:({bL d e with v:=d.v}:VWk)=bL d e:=by unfold bL;split<;>rfl
 rw[e2]at k;exact k
theorem fc{p:PW}{d:VWk}(h:Rel p d){n n':Int}(hn:p.err=.ok→n=n'):Rel (cA p n) (eZ d n') :=
 nz h (fun k=>by rw[h.ok k,hn k];exact⟨rfl,fun _=>rfl⟩)
theorem iH{p:PW}{d:VWk}(h:Rel p d){n n':Int}(hn:p.err=.ok→n=n'):Rel (gB p n) (cC d n') :=
 nz h (fun k=>by rw[h.ok k,hn k];exact⟨rfl,fun _=>rfl⟩)
theorem vV{p:PW}{d:VWk}(h:Rel p d){a a' n n':Int}(hn:p.err=.ok→a=a'∧n=n'):Rel (jV p a n) (fD d a' n') :=
 nz h (fun k=>by rw[h.ok k,(hn k).1,(hn k).2];exact⟨rfl,fun _=>rfl⟩)
theorem gM{p:PW}{d:VWk}(h:Rel p d):BN (aS p) (bt d) :=
 ⟨nz h (fun k=>by rw[h.ok k];exact⟨rfl,fun _=>rfl⟩),fun k=>by
  have k':(pOk p (iQ p.r.vm).2.1 (iQ p.r.vm).2.2).err=.ok:=k
  show(if fI _ then _ else _)=_
  rw[if_pos (fC.2 k'),h.ok (fB k).1];rfl⟩
theorem hJ{p:PW}{d:VWk}(h:Rel p d):BN (ew p) (eg d) :=
 ⟨nz h (fun k=>by rw[h.ok k];exact⟨rfl,fun _=>rfl⟩),fun k=>by
  have k':(pOk p (eW p.r.vm).2.1 (eW p.r.vm).2.2).err=.ok:=k
  show(if fI _ then _ else _)=_
  rw[if_pos (fC.2 k'),h.ok (fB k).1];rfl⟩
theorem gK{p:PW}{d:VWk}(h:Rel p d){a a':Int}(ha:p.err=.ok→a=a'):BN (be p a) (az d a'):=by
 refine⟨?_,fun k=>by
  show(au _ _).1=(au _ _).1
  rw[h.ok (fB k).1,ha (fB k).1]⟩
 have k:=nz (v:=p.r.vm) (v':=d.v) (e:=(au p.r.vm.mem a).2) (e':=(au d.v.mem a').2) h (fun k=>⟨by rw[h.ok k,ha k],fun _=>by rw[h.ok k]⟩)
 have e2:({bL d (au d.v.mem a').2 with v:=d.v}:VWk)=(az d a').1:=by unfold az bL;dsimp only;split<;>rfl
 rw[e2]at k;exact k
theorem rp{p:PW}{d:VWk}(h:Rel p d){a a':Int}(ha:p.err=.ok→a=a'):Rel (wIp p a) {d with ip:=a'}:=by
 rcases h.cases with k|⟨c,k⟩
 ·exact rY k (by rw[h.ok k,ha k];rfl)
 exact gH k (h.bad k).1 (h.bad k).2
theorem Ac{p:PW}{d:VWk}(h:Rel p d){a a':Int}(ha:p.err=.ok→a=a'):Rel (qt p a) (sL d a'):=by
 rcases h.cases with k|⟨c,k⟩
 ·exact rY k (by rw[h.ok k,ha k];rfl)
 exact gH k (h.bad k).1 (h.bad k).2
theorem oI{p A B:PW}{d A' B':VWk}{c c':Prop}[Decidable c][Decidable c'](h:Rel p d)(hc:p.err=.ok→(c↔c'))(h1:Rel A A')(h2:Rel B B')
  (hp:∀e,p.err=.bad e→A.err=.bad e∧B.err=.bad e) (hd:d.bad≠0→A'.bad=d.bad∧B'.bad=d.bad):Rel (if c then A else B) (if c' then A' else B'):=by
 rcases h.cases with k|⟨e,k⟩
 ·by_cases q:c
  ·rw[if_pos q,if_pos ((hc k).1 q)];exact h1
  rw[if_neg q,if_neg (fun q'=>q ((hc k).2 q'))];exact h2
 have hb:=h.bad k
 have h3:=hp e k
 have h4:=hd (by rw[hb.1];exact hb.2)
 have a1:(if c then A else B).err=.bad e:=by split;exact h3.1;exact h3.2
 have a2:(if c' then A' else B').bad=e:=by split;rw[h4.1,hb.1];rw[h4.2,hb.1]
 exact gH a1 a2 hb.2
section
variable {p : PW} {e : Int} (h : p.err = .bad e)
include h
theorem BX{n:Int}:cA p n=p:=gx h
theorem DO{n:Int}:gB p n=p:=gx h
theorem DP{a n:Int}:jV p a n=p:=gx h
theorem NM:(aS p).1=p:=gx h
theorem B8:(ew p).1=p:=gx h
theorem Lz{a:Int}:(be p a).1=p:=gx h
theorem Lc{n:Nat}:(bS p n).1=p:=by unfold bS;split;exact gx h;rfl
end
section
variable {d : VWk} (h : d.bad ≠ 0)
include h
theorem jS{e:Int}:(bL d e).bad=d.bad:=by rw[yW h]
theorem oH{n:Int}:(cC d n).bad=d.bad:=jS h
theorem yI{a n:Int}:(fD d a n).bad=d.bad:=jS h
theorem Oz:(eg d).1.bad=d.bad:=jS h
theorem NG{a:Int}:(az d a).1.bad=d.bad:=jS h
theorem S3{n:Int}:(cS d n).1.bad=d.bad:=by unfold cS;split;exact jS h;rfl
theorem Sb:(dTo d).bad=d.bad:=NG h
end
theorem ji{p:PW}{d:VWk}(h:Rel p d)(n:Nat):BN (bS p n) (cS d (n:Int)):=by
 rcases h.cases with k|⟨e,k⟩
 ·have hd:=h.ok k
  by_cases q:p.r.vm.r.length≤n
  ·have q':(d.v.r.length:Int)≤(n:Int):=by rw[hd];dsimp only;omega
   unfold bS cS;rw[if_pos q,if_pos q']
   exact⟨jN h,fun _=>rfl⟩
  have q':¬(d.v.r.length:Int)≤(n:Int):=by rw[hd];dsimp only;omega
  unfold bS cS;rw[if_neg q,if_neg q']
  exact⟨h,fun _=>by rw[hd];rfl⟩
 have hb:=h.bad k
 have hb0:d.bad≠0:=by rw[hb.1];exact hb.2
 exact⟨gH (by rw[Lc k];exact k) (by rw[S3 hb0,hb.1]) hb.2,fun q=>by rw[Lc k,k]at q;cases q⟩
theorem tI{p:PW}{d:VWk}(h:Rel p d):Rel (i3 p true) (dTo d):=by
 have f:=gK h (a:=p.r.ip) (a':=d.ip) (fun k=>by rw[h.ok k])
 exact rp f.1 f.2
theorem om{p:PW}{d:VWk}(h:Rel p d):Rel (i3 p false) (fW d):=rp h (fun k=>by rw[h.ok k])
theorem Bg{p:PW}{e:Int}(h:p.err=.bad e)(b:Bool):(i3 p b).err=.bad e:=by
 unfold i3;split
 ·show(be p p.r.ip).1.err=_;rw[Lz h];exact h
 exact h
theorem tv{p:PW}{n:Nat}(h:(bS p n).1.err=.ok):p.err=.ok:=by
 unfold bS at h;split at h
 ·exact(fB h).1
 exact h
theorem CG{p:PW}(h:(aS p).1.err=.ok):p.err=.ok:=(fB h).1
theorem MA{p:PW}(h:(ew p).1.err=.ok):p.err=.ok:=(fB h).1
theorem qV{p:PW}{n:Int}(h:(cA p n).err=.ok):p.err=.ok:=(fB h).1
theorem A8{p:PW}{n:Int}(h:(gB p n).err=.ok):p.err=.ok:=(fB h).1
theorem Al{p:PW}{n:Int}(h:(be p n).1.err=.ok):p.err=.ok:=(fB h).1
theorem tp{p:PW}{n:Int}:(be p n).1.r=p.r:=by
 unfold be pOk;dsimp only;cases p.err<;>dsimp only;split<;>rfl
theorem Jf{p:PW}{v:VVm}{e:Int}:(pOk p v e).r.ip=p.r.ip:=by
 unfold pOk;cases p.err<;>dsimp only;split<;>rfl
theorem Ay{p:PW}{d:VWk}(h:Rel p d):Rel (nE p) {(eg d).1 with ip:=(eg d).2}:=rp (hJ h).1 (hJ h).2
theorem MQ{p:PW}{d:VWk}(h:Rel p d):Rel (Gr p) (fW (eZ (az d d.ip).1 (az d d.ip).2)):=by
 have f:=gK h (a:=p.r.ip) (a':=d.ip) (fun k=>by rw[h.ok k])
 exact om (fc f.1 f.2)
theorem Ql{p:PW}{d:VWk}(h:Rel p d):Rel (i3 (aS p).1 (decide ((aS p).2=0))) (if (bt d).2=0 then dTo (bt d).1 else fW (bt d).1):=by
 have f:=gM h
 have e:i3 (aS p).1 (decide ((aS p).2=0))=if (aS p).2=0 then i3 (aS p).1 true else i3 (aS p).1 false:=by
  by_cases q:(aS p).2=0
  ·rw[if_pos q,decide_eq_true q]
  rw[if_neg q,decide_eq_false q]
 rw[e]
 exact oI f.1 (fun k=>by rw[f.2 k]) (tI f.1) (om f.1) (fun e k=>⟨Bg k _,Bg k _⟩) (fun k=>⟨Sb k,rfl⟩)
theorem zu{p:PW}{d:VWk}(h:Rel p d){n n':Int}(hn:p.err=.ok→n=n'):Rel (l7 p n) (lF d n'):=by
 have a:BN (bS p 1) (cS d 1):=ji h 1
 have b:BN (bS (bS p 1).1 0) (cS (cS d 1).1 0):=ji a.1 0
 rcases b.1.cases with k|⟨e,k⟩
 ·have hb:(cS (cS d 1).1 0).1.bad=0:=by rw[b.1.ok k]
  have a2:=a.2 (tv k)
  have b2:=b.2 k
  have n2:=hn (tv (tv k))
  have c:=(hJ b.1).1
  unfold l7 lF
  dsimp only
  have hb':¬(cS (cS d 1).1 0).1.bad≠0:=fun q=>q hb
  rw[if_pos (fC.2 k),if_neg hb',a2,b2,n2]
  by_cases q:(dQ (cS (cS d 1).1 0).2 (cS d 1).2 n').2=true
  ·rw[if_pos q,if_pos q,q]
   exact om (hJ c).1
  have q':(dQ (cS (cS d 1).1 0).2 (cS d 1).2 n').2=false:=by simpa using q
  rw[if_neg q,if_neg q,q']
  exact tI (iH c (fun _=>rfl))
 have hb:=b.1.bad k
 unfold l7 lF
 dsimp only
 rw[if_neg (by rw[k];simp[fI]),if_pos (fun q=>hb.2 (hb.1.symm.trans q))]
 exact b.1
theorem D6{p:PW}{d:VWk}(h:Rel p d):Rel (uK p) (cC (cC (rv d).1 (rv d).2.2) (rv d).2.1):=by
 have a:=gM h
 have b:=gM a.1
 exact iH (iH b.1 b.2) (fun k=>a.2 (CG (A8 k)))
theorem It{p:PW}{d:VWk}(h:Rel p d):Rel (ot p) (eZ (eZ (eg (eg d).1).1 (eg (eg d).1).2) (eg d).2):=by
 have a:=hJ h
 have b:=hJ a.1
 exact fc (fc b.1 b.2) (fun k=>a.2 (MA (qV k)))
theorem zM{q:PW}{n:Int}(k:q.err=.ok)(h:(q.r.vm.d.length:Int)<q.r.vm.conf.data):aS (cA q n)=(q,n):=by
 obtain⟨⟨v,ip,w,df,fu⟩,err⟩:=q
 simp only at k;subst k
 have e:cA ⟨⟨v,ip,w,df,fu⟩,.ok⟩ n=⟨⟨{v with d:=v.d++[n]},ip,w,df,fu⟩,.ok⟩:=by
  unfold cA it eQ pOk
  simp only at h
  simp only[if_neg (show ¬v.conf.data≤(v.d.length:Int) by omega),if_true]
 rw[e]
 have e2:ba (v.d++[n])=(n,v.d,0):=by
  unfold ba
  rw[if_neg (by simp)]
  simp
 unfold aS iQ pOk
 simp only[e2,if_true,fI]
theorem PC{q:PW}{a:Int}:aS (wIp q a)=(wIp (aS q).1 a,(aS q).2):=by
 obtain⟨r,err⟩:=q
 unfold aS wIp pOk
 cases err<;>dsimp only
 split<;>rfl
theorem uP{d:VWk}{n:Int}:fW (cC d n)=cC (fW d) n:=by
 unfold fW cC bL;dsimp only;split<;>rfl
theorem N6{p:PW}(k:(aS p).1.err=.ok):(aS p).1.r.vm.d.length+1=p.r.vm.d.length∧(aS p).1.r.vm.conf=p.r.vm.conf:=by
 obtain⟨r,err⟩:=p
 have h1:=fB k
 simp only at h1
 obtain⟨rfl,h2⟩:=h1
 have hl:r.vm.d.length≠0:=by
  intro q
  unfold iQ ba at h2;rw[if_pos q]at h2;cases h2
 unfold aS pOk
 simp only[h2,if_true]
 unfold iQ ba
 simp only[if_neg hl,List.length_take]
 exact⟨by omega,trivial⟩
theorem LM{p:PW}{d:VWk}(h:Rel p d)(hd:(p.r.vm.d.length:Int)≤p.r.vm.conf.data):
  Rel (u9 p) (if (rv d).2.1=(rv d).2.2 then dTo (rv d).1 else fW (cC (cC (rv d).1 (rv d).2.2) (rv d).2.1)):=by
 have a:=gM h
 have b:=gM a.1
 rcases b.1.cases with k|⟨e,k⟩
 ·have a2:=a.2 (CG k)
  have b2:=b.2 k
  have l1:=N6 (CG k)
  have l2:=N6 k
  unfold u9 rv
  dsimp only
  by_cases q:(aS p).2=(aS (aS p).1).2
  ·rw[if_pos q,if_pos (show(bt d).2=(bt (bt d).1).2 by rw[←a2,←b2];exact q)]
   exact tI b.1
  rw[if_neg q,if_neg (show ¬(bt d).2=(bt (bt d).1).2 by rw[←a2,←b2];exact q)]
  have b1:Rel (aS (aS p).1).1 (bt (bt d).1).1:=b.1
  generalize hP:(aS (aS p).1).1=P at *
  have e1:=zM (n:=(aS (aS p).1).2) k (by rw[l2.2,l1.2];omega)
  have l3:(cA P (aS (aS p).1).2).err=.ok:=by
   have:(pOk P (it P.r.vm (aS (aS p).1).2).1 (it P.r.vm (aS (aS p).1).2).2).err=.ok:=by
    unfold pOk it eQ
    simp only[k,if_neg (show ¬P.r.vm.conf.data≤(P.r.vm.d.length:Int) by rw[l2.2,l1.2];omega),if_true]
   exact this
  have l4:(cA P (aS (aS p).1).2).r.vm.d.length=P.r.vm.d.length+1∧(cA P (aS (aS p).1).2).r.vm.conf=P.r.vm.conf:=by
   unfold cA pOk it eQ
   simp only[k,if_neg (show ¬P.r.vm.conf.data≤(P.r.vm.d.length:Int) by rw[l2.2,l1.2];omega),if_true]
   simp
  have e2:=zM (n:=(aS p).2) l3 (by rw[l4.2,l2.2,l1.2];omega)
  have ip1:(cA (cA P (aS (aS p).1).2) (aS p).2).r.ip=P.r.ip:=by
   show(pOk (pOk P _ _) _ _).r.ip=_
   rw[Jf,Jf]
  unfold wDo
  simp only[PC,e2,e1,ip1]
  rw[uP,uP]
  exact iH (iH (om b1) (fun k=>b2)) (fun k=>a2)
 have hb:=b.1.bad k
 have hb0:(bt (bt d).1).1.bad≠0:=by rw[hb.1];exact hb.2
 have w1:∀A:PW,A.err=.bad e→∀n m a,(wDo (wIp (cA (cA A n) m) a)).err=.bad e:=by
  intro A kA n m a
  rw[BX kA,BX kA]
  unfold wDo
  have k1:(wIp A a).err=.bad e:=kA
  rw[NM k1,NM k1,DO k1,DO k1];exact k1
 refine oI b.1 (fun q=>by rw[k]at q;cases q) (tI b.1) (gH (e:=e) (w1 _ k _ _ _) ?_ hb.2) (fun e' k'=>⟨Bg k' _,?_⟩) (fun _=>⟨Sb hb0,?_⟩)
 ·show(cC (cC (bt (bt d).1).1 _) _).bad=e
  rw[oH (by rw[oH hb0];exact hb0),oH hb0];exact hb.1
 ·rw[k]at k';cases k';exact w1 _ k _ _ _
 show(cC (cC (bt (bt d).1).1 _) _).bad=(bt (bt d).1).1.bad
 rw[oH (by rw[oH hb0];exact hb0),oH hb0]
theorem Jj{p:PW}{d:VWk}(h:Rel p d):Rel (nE (jI p)) (si d):=by
 rcases h.cases with k|⟨e,k⟩
 ·have hd:=h.ok k
  unfold jI si
  have hv:d.v=p.r.vm:=by rw[hd]
  rw[hv]
  split
  ·have k2:(pOk p p.r.vm (-31)).err=.bad (-31):=by unfold pOk;rw[k];rfl
   refine gH (e:=-31) ?_ ?_ (by decide)
   ·show(ew _).1.err=_;rw[B8 k2];exact k2
   unfold bL;rw[hd];rfl
  have s1:=vV h (a:=p.r.vm.last) (a':=d.v.last) (n:=259) (n':=259) (fun _=>⟨by rw[hv],rfl⟩)
  rw[hv]at s1
  have e1:(jV p p.r.vm.last 259).err=.ok→(fD d p.r.vm.last 259).v.last=p.r.vm.last∧(fD d p.r.vm.last 259).ip=(jV p p.r.vm.last 259).r.ip:=fun k3=>by
   rw[s1.ok k3]
   refine⟨?_,rfl⟩
   unfold jV pOk;rw[k];dsimp only;split<;>rfl
  exact Ay (vV s1 (fun k3=>⟨by rw[(e1 k3).1],by rw[(e1 k3).2]⟩))
 have hb:=h.bad k
 have hb0:d.bad≠0:=by rw[hb.1];exact hb.2
 refine gH (e:=e) ?_ ?_ hb.2
 ·unfold nE jI
  show(ew _).1.err=_
  split
  ·rw[gx k,B8 k];exact k
  rw[DP k,DP k,B8 k];exact k
 unfold si
 split
 ·rw[jS hb0];exact hb.1
 show(eg _).1.bad=e
 have s1:(fD d d.v.last 259).bad≠0:=by rw[yI hb0];exact hb0
 have s2:=yI s1 (a:=W64 ((fD d d.v.last 259).v.last+8)) (n:=(fD d d.v.last 259).ip)
 rw[Oz (by rw[s2];exact s1),s2,yI hb0];exact hb.1
theorem BF{p:PW}{d:VWk}(h:Rel p d):Rel (iX p) (nc d):=by
 unfold iX nc
 refine oI h (fun k=>by rw[h.ok k]) (jN h) (fc ?_ (fun _=>rfl)) (fun e k=>⟨by rw[gx k];exact k,?_⟩) (fun k=>⟨jS k,?_⟩)
 ·rcases h.cases with k|⟨e,k⟩
  ·exact rY k (by rw[h.ok k])
  exact gH k (h.bad k).1 (h.bad k).2
 ·have hX:∀X:PW,X.err=.bad e→(cA X 0).err=.bad e:=fun X hX=>by rw[BX hX];exact hX
  exact hX _ k
 exact jS (d:={d with ip:=_,v:=_}) (by exact k)
theorem Gz{d:VWk}:bL d 0=d:=by
 obtain⟨v,ip,w,df,ov,bad⟩:=d
 unfold bL;dsimp only;split
 ·rename_i q;rw[q]
 rfl
theorem MF{p:PW}{d:VWk}(h:Rel p d):Rel (BE p) (Gj d):=by
 have f:=gK h (a:=p.r.ip) (a':=d.ip) (fun k=>by rw[h.ok k])
 have ip1:(be p p.r.ip).1.err=.ok→p.r.ip=d.ip:=fun k=>by rw[h.ok (Al k)]
 have g:Rel (pOk (be p p.r.ip).1 (be p p.r.ip).1.r.vm (bT (be p p.r.ip).1.r.vm.mem (W64 (p.r.ip+8)) (be p p.r.ip).2).2) (if ay (az d d.ip).1.v.mem (W64 (d.ip+8)) (az d d.ip).2 then(az d d.ip).1 else bL (az d d.ip).1 (-9)):=by
  rcases f.1.cases with k|⟨e,k⟩
  ·have e1:(if ay (az d d.ip).1.v.mem (W64 (d.ip+8)) (az d d.ip).2 then(az d d.ip).1 else bL (az d d.ip).1 (-9))=bL (az d d.ip).1 (bT (be p p.r.ip).1.r.vm.mem (W64 (p.r.ip+8)) (be p p.r.ip).2).2:=by
    rw[←f.2 k,f.1.ok k,←ip1 k]
    unfold bT
    split
    ·rw[Gz]
    rfl
   rw[e1];exact jN f.1
  have hb:=f.1.bad k
  have hb0:(az d d.ip).1.bad≠0:=by rw[hb.1];exact hb.2
  exact gH (by rw[gx k];exact k) (by split;exact hb.1;rw[jS hb0];exact hb.1) hb.2
 refine rp (fc (fc g ?_) ?_) ?_
 ·intro k;rw[ip1 (fB k).1]
 ·intro k;exact f.2 (fB (qV k)).1
 intro k
 have k1:=(fB (qV (qV k))).1
 rw[f.2 k1,ip1 k1]
theorem Ge{p:PW}{d:VWk}(h:Rel p d):Rel (kJ p) (pA d):=by
 have a:=gM h
 have b:Rel (if 64≤((aS p).1.r.vm.f.length:Int)then pOk (aS p).1 (aS p).1.r.vm (-5)else(aS p).1) (if 64≤((bt d).1.v.f.length:Int)then bL (bt d).1 (-5)else(bt d).1) :=
  oI a.1 (fun k=>by rw[a.1.ok k]) (jN a.1) a.1 (fun e k=>⟨by rw[gx k];exact k,k⟩) (fun k=>⟨jS k,rfl⟩)
 have hk:(if 64≤((aS p).1.r.vm.f.length:Int)then pOk (aS p).1 (aS p).1.r.vm (-5)else(aS p).1).err=.ok→(aS p).2=(bt d).2:=fun k=>a.2 (by
  split at k
  ·exact(fB k).1
  exact k)
 unfold kJ wFr pA
 dsimp only
 generalize (if 64≤((aS p).1.r.vm.f.length:Int)then pOk (aS p).1 (aS p).1.r.vm (-5)else(aS p).1)=P at *
 generalize (if 64≤((bt d).1.v.f.length:Int)then bL (bt d).1 (-5)else(bt d).1)=D at *
 rcases b.cases with k|⟨e,k⟩
 ·rw[b.ok k,hk k];exact rY k rfl
 exact gH (e:=e) k (b.bad k).1 (b.bad k).2
theorem DI(a b:Int):W64 (W64 a+b)=W64 (a+b):=by show IntKind.i64.wrap (IntKind.i64.wrap a+b)=IntKind.i64.wrap (a+b);rw[aK,aK,aK];exact yd a b
theorem GK{p:PW}{d:VWk}(h:Rel p d):Rel (pOk (aS p).1 (aS p).1.r.vm (aS p).2) (bL (bt d).1 (bt d).2):=by
 have a:=gM h
 rcases a.1.cases with k|⟨e,k⟩
 ·rw[a.2 k];exact jN a.1
 have hb:=a.1.bad k
 exact gH (by rw[gx k];exact k) (by rw[jS (by rw[hb.1];exact hb.2)];exact hb.1) hb.2
theorem zQ{p:PW}{d:VWk}(h:Rel p d)(xt:Int):Rel (dP p (W64 (xt+16))) (lW d xt):=by
 have a:=gK h (a:=W64 (xt+16)) (a':=W64 (xt+16)) (fun _=>rfl)
 have b:=gK a.1 (a:=W64 (W64 (xt+16)+8)) (a':=W64 (xt+24)) (fun _=>by rw[DI];exact congrArg W64 (by omega))
 unfold dP lW
 dsimp only
 generalize hb:az (az d (W64 (xt+16))).1 (W64 (xt+24))=B at *
 generalize ha:az d (W64 (xt+16))=A at *
 generalize hb':be (be p (W64 (xt+16))).1 (W64 (W64 (xt+16)+8))=B' at *
 have hba:B'.1.err=.ok→(be p (W64 (xt+16))).2=A.2:=fun k=>a.2 (Al (by rw[hb'];exact k))
 generalize ha':be p (W64 (xt+16))=A' at *
 have c:Rel (if fI B'.1.err&&(decide (A'.2<0)||decide (B'.2≤A'.2))then pOk B'.1 B'.1.r.vm (-24)else B'.1) (if A.2<0∨B.2≤A.2 then bL B.1 (-24)else B.1) :=
  oI b.1 (fun k=>by rw[hba k,b.2 k,fC.2 k];simp) (jN b.1) b.1 (fun e k=>⟨by rw[gx k];exact k,k⟩) (fun k=>⟨jS k,rfl⟩)
 have hc:(if fI B'.1.err&&(decide (A'.2<0)||decide (B'.2≤A'.2))then pOk B'.1 B'.1.r.vm (-24)else B'.1).err=.ok→B'.1.err=.ok:=fun k=>by
  split at k
  ·exact(fB k).1
  exact k
 generalize (if fI B'.1.err&&(decide (A'.2<0)||decide (B'.2≤A'.2))then pOk B'.1 B'.1.r.vm (-24)else B'.1)=C' at *
 generalize (if A.2<0∨B.2≤A.2 then bL B.1 (-24)else B.1)=C at *
 have x:=gK c (a:=W64 (W64 (W64 (xt+16)+16)+W64 (8*A'.2))) (a':=W64 (W64 (xt+32)+W64 (8*A.2))) (fun k=>by rw[hba (hc k),DI (xt+16)];exact congrArg W64 (congrArg (·+W64 (8*A.2)) (congrArg W64 (by omega))))
 exact oI x.1 (fun k=>by rw[x.2 k]) x.1 (Ac x.1 x.2) (fun e k=>⟨k,k⟩) (fun _=>⟨rfl,rfl⟩)
def BV(p:PW)(d:VWk):Prop:=match p.err with
 | .halt=>d=⟨p.r.vm,p.r.ip,p.r.w,p.r.dof,true,0⟩
 | _=>Rel p d
theorem cc{p:PW}{d:VWk}(h:Rel p d):BV p d:=by
 unfold BV
 rcases h.cases with k|⟨e,k⟩<;>rw[k]<;>exact h
theorem Ld{p:PW}{d:VWk}(h:Rel p d)(k:p.err=.ok):BV (MX p .halt) {d with over:=true}:=by
 unfold BV MX;dsimp only;rw[h.ok k]
theorem MK{p:PW}{d:VWk}(h:Rel p d)(k:p.err=.ok)(hd:(p.r.vm.d.length:Int)≤p.r.vm.conf.data)(m:Nat)(hm:m<23):
  BV (jP p (ao.getD m [])) (if (fF d (ao.getD m [])).2 then(fF d (ao.getD m [])).1 else sy (fF d (ao.getD m [])).1 (ao.getD m [])):=by
 match m,hm with
 | 0,_=>exact cc (Ay h)
 | 1,_=>exact cc (MQ h)
 | 2,_=>exact cc (tI h)
 | 3,_=>exact cc (Ql h)
 | 4,_=>exact cc (D6 h)
 | 5,_=>exact cc (LM h hd)
 | 6,_=>exact cc (zu h (fun _=>rfl))
 | 7,_=>exact cc (zu (gM h).1 (gM h).2)
 | 8,_=>exact Ld h k
 | 9,_=>exact cc (BF h)
 | 10,_=>exact cc (Jj h)
 | 11,_=>exact cc (MF h)
 | 12,_=>exact cc (Ac (gM h).1 (gM h).2)
 | 13,_=>exact cc (Ge h)
 | 14,_=>exact cc (GK h)
 | 15,_=>exact cc (fc (ji h 0).1 (ji h 0).2)
 | 16,_=>exact cc (fc (ji h 2).1 (ji h 2).2)
 | 17,_=>exact cc (hJ (hJ (ji h 1).1).1).1
 | 18,_=>exact cc (iH (gM h).1 (gM h).2)
 | 19,_=>exact cc (fc (hJ h).1 (hJ h).2)
 | 20,_=>exact cc (fc (ji h 0).1 (ji h 0).2)
 | 21,_=>exact cc (D6 h)
 | 22,_=>exact cc (It h)
 | m+23,hm=>exact absurd hm (by omega)
theorem xw{v:VVm}{xt:Int}(h:(aq v xt).2=0):dF (aq v xt).1:=by
 unfold aq at h ⊢
 split
 ·rename_i h1
  rw[if_pos h1]at h
  split
  ·assumption
  rename_i h2
  rw[if_neg h2]at h;cases h
 rename_i h1;rw[if_neg h1]at h;exact absurd h h1
theorem ck{k:PW}{v:VVm}{e:Int}:(pOk k v e).r.fuel=k.r.fuel:=by
 unfold pOk;cases k.err<;>dsimp only;split<;>rfl
theorem du{k:PW}{n:Int}:(cA k n).r.fuel=k.r.fuel:=ck
theorem jo{k:PW}{n:Int}:(gB k n).r.fuel=k.r.fuel:=ck
theorem fm{k:PW}:(aS k).1.r.fuel=k.r.fuel:=ck
theorem gQ{k:PW}:(ew k).1.r.fuel=k.r.fuel:=ck
theorem ef{k:PW}{n:Int}:(be k n).1.r.fuel=k.r.fuel:=ck
theorem uI{k:PW}{a n:Int}:(jV k a n).r.fuel=k.r.fuel:=ck
theorem mW{k:PW}{n:Int}:(wIp k n).r.fuel=k.r.fuel:=rfl
theorem rf{k:PW}{n:Int}:(qt k n).r.fuel=k.r.fuel:=rfl
theorem bh{c:Prop}[Decidable c]{a b:PW}{f:Int}(ha:a.r.fuel=f)(hb:b.r.fuel=f):(if c then a else b).r.fuel=f:=by split<;>assumption
theorem gh{k:PW}{n:Nat}:(bS k n).1.r.fuel=k.r.fuel:=by unfold bS;split;exact ck;rfl
theorem oB{k:PW}{b:Bool}:(i3 k b).r.fuel=k.r.fuel:=by unfold i3;exact bh (by rw[mW,ef]) rfl
theorem wa{k:PW}:(nE k).r.fuel=k.r.fuel:=by unfold nE;rw[mW,gQ]
theorem FX{k:PW}:(jI k).r.fuel=k.r.fuel:=by unfold jI;exact bh ck (by rw[uI,uI])
theorem J4{k:PW}:(Gr k).r.fuel=k.r.fuel:=by unfold Gr;rw[mW,du,ef]
theorem zm{k:PW}:(uK k).r.fuel=k.r.fuel:=by unfold uK;rw[jo,jo,fm,fm]
theorem Ez{k:PW}:(wDo k).r.fuel=k.r.fuel:=zm
theorem Gu{k:PW}:(ot k).r.fuel=k.r.fuel:=by unfold ot;rw[du,du,gQ,gQ]
theorem H8{k:PW}:(u9 k).r.fuel=k.r.fuel:=by
 unfold u9;exact bh (by rw[oB,fm,fm]) (by rw[Ez,mW,du,du,fm,fm])
theorem wn{k:PW}{n:Int}:(l7 k n).r.fuel=k.r.fuel:=by
 unfold l7;exact bh (by rw[oB];exact bh (by rw[gQ,gQ,gh,gh]) (by rw[jo,gQ,gh,gh])) (by rw[gh,gh])
theorem A7{k:PW}:(iX k).r.fuel=k.r.fuel:=by unfold iX;exact bh ck (by rw[du])
theorem JV{k:PW}:(BE k).r.fuel=k.r.fuel:=by unfold BE;rw[mW,du,du,ck,ef]
theorem CU{k:PW}:(kJ k).r.fuel=k.r.fuel:=by unfold kJ;rw[rf];show(ite _ _ _:PW).r.fuel=_;exact bh (by rw[ck,fm]) fm
theorem yz{k:PW}{b:Int}:(dP k b).r.fuel=k.r.fuel:=by
 have h:∀(c:Bool) (x:PW),(if c then pOk x x.r.vm (-24)else x).r.fuel=x.r.fuel:=fun c x=>bh ck rfl
 unfold dP;dsimp only;exact bh (by rw[ef,h,ef,ef]) (by rw[rf,ef,h,ef,ef])
theorem yr{k:PW}{name:Str}:(jP k name).r.fuel=k.r.fuel:=by
 unfold jP y9
 refine bh (by rw[wa,FX]) (bh wa (bh J4 (bh oB (bh (by rw[oB,fm]) (bh H8 (bh Ez (bh wn (bh (by rw[wn,fm]) (bh rfl ?_)))))))))
 refine bh A7 (bh JV (bh (by rw[rf,fm]) (bh CU (bh (by rw[ck,fm]) ?_))))
 refine bh (by rw[du,gh]) (bh (by rw[du,gh]) (bh (by rw[gQ,gQ,gh]) (bh (by rw[jo,fm]) (bh (by rw[du,gQ]) (bh (by rw[du,gh]) (bh zm (bh Gu rfl)))))))
theorem xa{p:PW}{xt:Int}:(iM p xt).r.fuel=p.r.fuel:=by
 unfold iM;dsimp only
 refine bh (bh (by rw[ck,ck]) (bh (by rw[mW,jo,ck]) (bh (by rw[du,ck]) (bh (by rw[du,ef,ck]) (bh (by rw[mW,jo,du,ef,ck]) (bh (by rw[yz,ck]) (bh (by rw[ck,ck]) (by rw[yr,ck])))))))) ck
theorem JM{p:PW}{d:VWk}(h:Rel p d)(k:p.err=.ok)(hd:(p.r.vm.d.length:Int)≤p.r.vm.conf.data)(xt:Int):BV (iM p xt) (nk d xt):=by
 have hv:d.v=p.r.vm:=by rw[h.ok k]
 have hip:d.ip=p.r.ip:=by rw[h.ok k]
 have hK:=xw (v:=p.r.vm) (xt:=xt)
 unfold iM nk
 dsimp only
 rw[hv]
 generalize aq p.r.vm xt=q at *
 by_cases he:q.2=0
 ·have e1:pOk p p.r.vm q.2=p:=by unfold pOk;rw[k];dsimp only;rw[if_pos he,←k]
  have hk:=hK he
  unfold dF at hk
  rw[e1,if_pos (fC.2 k),if_neg (show ¬q.2≠0 from fun h=>h he)]
  by_cases c1:300≤q.1
  ·rw[if_pos c1,if_pos c1];exact cc (jN h)
  rw[if_neg c1,if_neg c1]
  by_cases c2:q.1=256
  ·rw[if_pos c2,if_pos c2];exact cc (rp (iH h (fun _=>hip.symm)) (fun _=>rfl))
  rw[if_neg c2,if_neg c2]
  by_cases c3:q.1=257
  ·rw[if_pos c3,if_pos c3];exact cc (fc h (fun _=>rfl))
  rw[if_neg c3,if_neg c3]
  by_cases c4:q.1=258
  ·rw[if_pos c4,if_pos c4]
   have f:=gK h (a:=W64 (xt+16)) (a':=W64 (xt+16)) (fun _=>rfl)
   exact cc (fc f.1 f.2)
  rw[if_neg c4,if_neg c4]
  by_cases c5:q.1=259
  ·rw[if_pos c5,if_pos c5]
   have f:=gK h (a:=W64 (xt+8)) (a':=W64 (xt+8)) (fun _=>rfl)
   have g:=fc f.1 (n:=W64 (xt+16)) (n':=W64 (xt+16)) (fun _=>rfl)
   refine cc (rp (iH g (fun k=>by rw[g.ok k])) (fun k=>f.2 (qV (A8 k))))
  rw[if_neg c5,if_neg c5]
  by_cases c6:q.1=260
  ·rw[if_pos c6,if_pos c6];exact cc (zQ h xt)
  rw[if_neg c6,if_neg c6]
  by_cases c7:23≤q.1
  ·rw[if_pos ⟨c7,by omega⟩,if_pos c7]
   exact cc (nz h (fun _=>⟨rfl,fun _=>rfl⟩))
  rw[if_neg (fun h=>c7 h.1),if_neg c7]
  exact MK h k hd q.1.toNat (by omega)
 have e1:(pOk p p.r.vm q.2).err=.bad q.2:=by unfold pOk;rw[k];dsimp only;rw[if_neg he]
 rw[if_neg (by rw[e1];simp[fI]),if_pos (show q.2≠0 from he)]
 exact cc (jN h)
def sM(r:bx):VWk×Int :=
 if r.dof then(⟨r.vm,r.ip,0,false,false,0⟩,r.w)else
  (if (az ⟨r.vm,r.ip,0,false,false,0⟩ r.ip).1.bad=0 then fW (az ⟨r.vm,r.ip,0,false,false,0⟩ r.ip).1 else(az ⟨r.vm,r.ip,0,false,false,0⟩ r.ip).1,(az ⟨r.vm,r.ip,0,false,false,0⟩ r.ip).2)
theorem qX(r:bx):BN (bP r) (sM r)∧(bP r).1.r=⟨r.vm,(sM r).1.ip,0,false,W64 (r.fuel-1)⟩:=by
 have h0:Rel (eD r) ⟨r.vm,r.ip,0,false,false,0⟩:=rY rfl rfl
 have f:=gK h0 (a:=r.ip) (a':=r.ip) (fun _=>rfl)
 unfold bP sM
 by_cases q:r.dof=true
 ·rw[if_pos q,if_pos q];exact⟨⟨h0,fun _=>rfl⟩,rfl⟩
 rw[if_neg q,if_neg q]
 rcases f.1.cases with k|⟨e,k⟩
 ·have hb:(az ⟨r.vm,r.ip,0,false,false,0⟩ r.ip).1.bad=0:=by rw[f.1.ok k]
  rw[if_pos (fC.2 k),if_pos hb]
  refine⟨⟨om f.1,fun _=>f.2 k⟩,?_⟩
  dsimp only
  unfold fW wIp
  dsimp only
  rw[f.1.ok k,tp];rfl
 have hb:=f.1.bad k
 rw[if_neg (by rw[k];simp[fI]),if_neg (by rw[hb.1];exact hb.2)]
 refine⟨⟨f.1,fun q=>by rw[k]at q;cases q⟩,?_⟩
 dsimp only
 rw[tp]
 unfold az bL
 dsimp only
 split<;>rfl
theorem xq(r:bx)(hd:(r.vm.d.length:Int)≤r.vm.conf.data):nG r=bV r:=by
 unfold nG bV
 by_cases hf:r.fuel<1
 ·rw[if_pos hf,if_pos hf]
 rw[if_neg hf,if_neg hf]
 obtain⟨⟨h1,h2⟩,h3⟩:=qX r
 have e0:(if r.dof then((⟨r.vm,r.ip,0,false,false,0⟩:VWk),r.w)else(let a:=az ⟨r.vm,r.ip,0,false,false,0⟩ r.ip;(if a.1.bad=0 then fW a.1 else a.1,a.2)))=sM r:=rfl
 dsimp only at e0 ⊢
 rw[e0]
 unfold gd
 rcases h1.cases with k|⟨e,k⟩
 ·have hb:(sM r).1.bad=0:=by rw[h1.ok k]
  rw[if_pos (fC.2 k),if_pos hb,←h2 k,←h3]
  have hw:=JM h1 k (by rw[h3];exact hd) (bP r).2
  have hfu:(iM (bP r).1 (bP r).2).r.fuel=W64 (r.fuel-1):=by rw[xa,h3]
  generalize iM (bP r).1 (bP r).2=P at *
  generalize nk (sM r).1 (bP r).2=D at *
  unfold BV at hw
  cases kp:P.err with
  | ok =>
   rw[kp]at hw;simp only at hw
   rw[hw.ok kp]
   simp only[if_true]
   rw[←hfu]
  | halt =>
   rw[kp]at hw;simp only at hw
   rw[hw]
   simp only[if_true]
   rw[←hfu]
  | bad c =>
   rw[kp]at hw;simp only at hw
   have hb:=hw.bad kp
   simp only[hb.1,if_neg hb.2]
 have hb:=h1.bad k
 have hz:¬(sM r).1.bad=0:=by rw[hb.1];exact hb.2
 rw[if_neg (by rw[k];simp[fI]),if_neg hz,if_neg hz,k,hb.1,h3]
open Go.RowKit
section
variable {P : Program}
def Gf(P:Program)(f:FuncId)(args:List PV)(n:Nat)(xs:List PV)(k:Nat):Prop:=∀H,HC P f args H (.seq n xs (.own H.length k)) (H++[.free (n*k)])
theorem F0{f:FuncId}{args:List PV}{n k:Nat}{xs:List PV}(ha:aL args)(hxs:aL xs)
  (h:∀B σ w vs,Sim B [] σ w→an (cx B [] σ w) args vs→Calls P f vs.toArray w fun e w'=>∃v H' σ' t m,e=.returned v∧Rep (cx B H' σ' w') (.seq n xs (.own t k)) v∧H'[t]?=some (.free m)∧m≤n*k∧di B [] σ w H' σ' w'):Gf P f args n xs k:=by
 intro H B σ w vs s hr
 have s0:=My s
 have hr0:an (cx (BoW B σ H) [] σ w) args vs:=dj (c:=cx B H σ w) (c':=cx (BoW B σ H) [] σ w) rfl (fun b off h=>by
  rcases h with h|⟨i,oi,h1,_⟩
  ·exact h
  simp at h1) ha hr
 refine Calls.mono (h (BoW B σ H) σ w vs s0 hr0) ?_
 rintro e w' ⟨v,H',σ',t,m,rfl,h1,ht,hm,h2⟩
 have g:bg w w':=⟨h2.os,h2.tape,h2.output,h2.size,fun b hb=>h2.block b hb (fun i oi h=>by simp at h)⟩
 obtain⟨ad,cap,ws,hv,hle,hnil,hrl,hlies,hqN,hl,hown⟩:=fa h1
 have key:∀nb:Option Nat,(∀b,nb=some b→w.heap.size≤b)→zP (cx B (H++[.free (n*k)]) (ext σ H.length nb) w') H.length (.free (n*k))→(∀b,nb=some b→σ' t=some b)→(cap=n∨∃b cs e,nb=some b∧ad=some ⟨b,0,none⟩∧w'.heap[b]?=some (Obj.cells cs e (0,0))∧cap*k≤cs.size) →
   ∃v' σ2,Ending.returned v=Ending.returned v'∧Rep (cx B (H++[.free (n*k)]) σ2 w') (.seq n xs (.own H.length k)) v'∧Sim B (H++[.free (n*k)]) σ2 w'∧di B H σ w (H++[.free (n*k)]) σ2 w':=by
  intro nb hnew hh hnb hk
  obtain⟨s',st⟩:=fp s g (.free (n*k)) nb hnew hh
  have wr:∀b off,(cx B (H++[.free (n*k)]) (ext σ H.length nb) w').Wr b off→(cx (BoW B σ H) H' σ' w').Wr b off:=by
   rintro b off (h|⟨j,oj,h3,h4,h5⟩)
   ·exact .inl (.inl h)
   rcases eS h3 with ⟨h6,h7⟩|⟨rfl,rfl⟩
   ·rw[bU h6]at h4;exact .inl (.inr ⟨j,oj,h7,h4,h5⟩)
   rw[bF]at h4;exact .inr ⟨t,_,ht,hnb _ h4,Nat.le_trans hm h5⟩
  refine⟨v,_,rfl,?_,s',st⟩
  unfold Rep
  refine⟨ad,cap,ws,hv,hle,hnil,dj (c:=cx (BoW B σ H) H' σ' w') (c':=cx B (H++[.free (n*k)]) (ext σ H.length nb) w') rfl wr hxs hrl,fun b hb=>(hlies b hb).imp (fun hL=>⟨hL.1,fun j u hj=>⟨(hL.2 j u hj).1,fun hw=>(hL.2 j u hj).2 (wr _ _ hw)⟩⟩) id,by simp[cx],hl,?_⟩
  rcases hk with hk|⟨b,cs,e,h3,h4,h5,h6⟩
  ·exact .inl hk
  exact .inr ⟨b,cs,e,by simp only[cx];rw[bF];exact h3,h4,h5,h6⟩
 rcases hown with hcap|⟨b,cs,e,h3,h4,h5,h6⟩
 ·exact key none (fun b hb=>by cases hb) (fun b hb=>by simp only[cx]at hb;rw[bF]at hb;cases hb) (fun b hb=>by cases hb) (.inl hcap)
 refine key (some b) (fun b' hb=>?_) (fun b' hb=>?_) (fun b' hb=>by cases hb;exact h3) (.inr ⟨b,cs,e,rfl,h4,h5,h6⟩)
 ·cases hb
  rcases h2.new t _ b ht rfl h3 with h7|⟨j,oj,h7,_⟩
  ·exact h7
  simp at h7
 simp only[cx]at hb;rw[bF]at hb;cases hb
 exact⟨cs,e,h5,Nat.le_trans (Nat.mul_le_mul_right _ hle) h6⟩
def RL(G:List (Nat×TD))(rs:List ResultVar)(n:Nat)(xs:List PV)(k:Nat):Exit→(Nat→PV)→List Ob→Prop
 | .normal,T,H=>∃t m,mi G T H rs=some (.seq n xs (.own t k))∧H[t]?=some (.free m)∧m≤n*k
 | .ret,T,H=>∃t m,mi G T H rs=some (.seq n xs (.own t k))∧H[t]?=some (.free m)∧m≤n*k
 | _,_,_=>False
theorem wJ{G:List (Nat×TD)}(hG:cP P G=true){f:FuncId}{fn:Func}{c:Code}{args:List PV}{n k:Nat}{xs:List PV}{rs:List ResultVar}(hf:P.funcs[f]?=some fn)(hb:fn.body=some c)(hr:fn.results=rs.toArray)(hn0:Nat.ble args.length fn.ntmps=true)(ha:aL args)(hres:aL xs)
  (h:∀B,W P B fn.ntmps c (AH args) [] (RL G rs n xs k)):Gf P f args n xs k:=by
 have hn:=Nat.le_of_ble_eq_true hn0
 refine F0 ha hres fun B σ w vs s hv=>?_
 have hl:=an.length hv
 refine calls_of_wp hf hb (wp_mono (h B σ w {tmps:=vs.toArray++Array.replicate (fn.ntmps-vs.toArray.size) undef,defers:=[]} ⟨s,oO hv _,by simp;omega,rfl⟩) ?_)
 rintro e a' w' ⟨T',H1,σ',h1,h2,h3⟩
 have fin:∀(h4:∃t m,mi G T' H1 rs=some (.seq n xs (.own t k))∧H1[t]?=some (.free m)∧m≤n*k),a'.defers=[]∧∃v,(results fn a'.tmps).run P w'=.ok v w'∧∃v' H' σ' t m,Ending.returned v=Ending.returned v'∧Rep (cx B H' σ' w') (.seq n xs (.own t k)) v'∧H'[t]?=some (.free m)∧m≤n*k∧di B [] σ w H' σ' w':=by
  rintro⟨t,m,hx,h4,h7⟩
  obtain⟨v,h5,h6⟩:=qs hG hr h2 hx
  exact⟨h2.defers,v,h5,v,H1,σ',t,m,rfl,h6,h4,h7,h3⟩
 cases e<;>first|exact fin h1|exact False.elim h1
theorem IW{G:List (Nat×TD)}{rs:List ResultVar}{T:Nat→PV}{H:List Ob}{n n' k t m:Nat}{xs xs':List PV}(h:mi G T H rs=some (.seq n' xs' (.own t k)))(h1:n'=n)(h2:xs'=xs)(h3:H[t]?=some (.free m))(h4:m≤n*k):RL G rs n xs k .ret T H:=by
 subst h1 h2;exact⟨t,m,h,h3,h4⟩
theorem Gf.pure{f:FuncId}{args:List PV}{n k:Nat}{xs:List PV}(h:Gf P f args n xs k)(ha:aL args)(hxs:aL xs):ab P f args (.seq n xs .any):=by
 refine Ci ha (by unfold aQ;exact⟨hxs,.inl rfl⟩) fun B σ w vs s hr=>?_
 refine Calls.mono (h [] B σ w vs s hr) ?_
 rintro e w' ⟨v,σ',rfl,h1,h2,h3⟩
 exact⟨v,_,σ',rfl,jB _ _ _ _ _ h1,h3⟩
theorem JK{B:Nat→Nat→Prop}{n:Nat}{ops:Array Oper}{cl:Nat→Nat}{o:Oper}{T:Nat→PV}{H E:List Ob}{x:PV}{i:Nat}{l:List Nat}{d:Option Tmp}{K:(Nat→PV)→List Ob→Prop}(h0:ops[i]?=some o)(hc:cl i=2)(hd:nfD n o.dst=some d)(hw:aj ops T o=some true)(h:gA P B o T H x (H++E))(k:WU P B n ops cl l (al d x T) (H++E) K):WU P B n ops cl (i::l) T H K :=
 ⟨o,h0,x,H++E,.inl ⟨hw,.inr h⟩,by rw[hc];exact⟨E,rfl⟩,(cm hd).1▸k⟩
theorem je{B:Nat→Nat→Prop}{n:Nat}{ops:Array Oper}{cl:Nat→Nat}{o:Oper}{T:Nat→PV}{H E:List Ob}{x:PV}{i:Nat}{l:List Nat}{d:Option Tmp}{K:(Nat→PV)→List Ob→Prop}(h0:ops[i]?=some o)(hc:cl i=2)(hd:nfD n o.dst=some d)(hw:aj ops T o=some true)(h:br P B o T H x (H++E))(k:WU P B n ops cl l (al d x T) (H++E) K):WU P B n ops cl (i::l) T H K :=
 ⟨o,h0,x,H++E,.inl ⟨hw,.inl h⟩,by rw[hc];exact⟨E,rfl⟩,(cm hd).1▸k⟩
def Qk(P:Program)(t:TypeId):Value→Value→Bool
 | .int k _,.int k' _=>match P.underlying t with|some (.int k0)=>decide (k=k')&&decide (k0=k0)|_=>false
 | .bool _,.bool _=>match P.underlying t with|some .bool=>true|_=>false
 | .string _,.string _=>match P.underlying t with|some .string=>true|_=>false
 | _,_=>false
def eqV:Value→Value→Bool
 | .int _ a,.int _ b=>a==b
 | .bool a,.bool b=>a==b
 | .string a,.string b=>kN a b
 | _,_=>false
def jJ:List Value→List Value→Bool
 | [],[]=>true
 | u::us,v::vs=>eqV u v&&jJ us vs
 | _,_=>false
def vP(P:Program):List Field→Nat→List Value→List Value→Bool
 | [],_,[],[]=>true
 | f :: fs, k, u :: us, v :: vs => (f.name != "_") && Nat.beq f.offset k && P.plainKey f.type && Qk P f.type u v && vP P fs (k + 1) us vs
 | _,_,_,_=>false
theorem MI{t:TypeId}{u v:Value}(h:Qk P t u v=true)(d:Nat)(w:World):(Op.equalIn (d+1) t u v).run P w=.ok (eqV u v) w:=by
 unfold Qk at h
 split at h
 ·split at h
  ·rename_i hu
   simp only[Bool.and_eq_true,decide_eq_true_eq]at h
   obtain⟨rfl,_⟩:=h
   exact run_equalIn_int w d t _ _ _ _ hu
  cases h
 ·split at h
  ·rename_i hu
   exact run_equalIn_bool' w d t _ _ hu
  cases h
 ·split at h
  ·rename_i a b _ hu
   show _=Result.ok (kN a b) w
   rw[←qd];exact run_equalIn_string w d t _ _ hu
  cases h
 cases h
theorem mL(xs ys:Array Value)(d:Nat)(w:World):∀(fs:List Field) (k:Nat) (us vs:List Value),xs.toList.drop k=us→ys.toList.drop k=vs→vP P fs k us vs=true→(Op.eqFields (d+1) xs ys fs).run P w=.ok (jJ us vs) w
 | [],k,us,vs,hu,hv,h=>by
  match us,vs,h with
  | [],[],_=>rfl
  | u::us,_,h=>simp[vP]at h
  | [],v::vs,h=>simp[vP]at h
 | f::fs,k,us,vs,hu,hv,h=>by
  match us,vs,h,hu,hv with
  | [],[],h,_,_=>simp[vP]at h
  | [],v::vs,h,_,_=>simp[vP]at h
  | u::us,[],h,_,_=>simp[vP]at h
  | u::us,v::vs,h,hu,hv =>
   simp only[vP,Bool.and_eq_true]at h
   obtain⟨⟨⟨⟨h1,h2⟩,h3⟩,h4⟩,h5⟩:=h
   rw[Nat.beq_eq]at h2
   have g:∀(zs:Array Value) (z:Value) (l:List Value),zs.toList.drop k=z::l→zs[f.offset]?=some z∧zs.toList.drop (k+1)=l:=by
    intro zs z l hz
    refine⟨?_,?_⟩
    ·rw[h2,←Array.getElem?_toList]
     have:(zs.toList.drop k)[0]?=some z:=by rw[hz];rfl
     rw[List.getElem?_drop]at this
     simpa using this
    rw[←List.drop_drop,hz];rfl
   obtain⟨hu1,hu2⟩:=g xs u us hu
   obtain⟨hv1,hv2⟩:=g ys v vs hv
   have ih:=mL xs ys d w fs (k+1) us vs hu2 hv2 h5
   unfold Op.eqFields
   rw[if_pos (by simpa using h1)]
   simp only[Sem.run_bind,run_part_plain w h3 hu1,run_part_plain w h3 hv1,Result.andThen_ok,MI h4]
   cases hq:eqV u v with
   | true=>simp[jJ,hq,ih]
   | false=>simp[jJ,hq]
def sc:List PV→Option (List Value)
 | []=>some []
 | .val v::xs=>match sc xs with|some vs=>some (v::vs)|none=>none
 | _=>none
theorem kr{c:Cx}:∀{xs:List PV} {us vs:List Value},sc xs=some us→an c xs vs→vs=us
 | [],us,vs,h,hr=>by simp only[sc,Option.some.injEq]at h;subst h;exact ax.1 hr
 | x::xs,us,[],h,hr=>by unfold an at hr;obtain⟨u,us,h1,_⟩:=hr;cases h1
 | x::xs,us,v::vs,h,hr=>by
  rw[am]at hr
  cases x<;>simp only[sc]at h<;>first|(cases h;done)|skip
  split at h
  ·rename_i ws hw
   cases h
   have h1:=hr.1
   unfold Rep at h1
   rw[h1,kr hw hr.2]
  cases h
def oP(P:Program)(t:TypeId)(us vs:List Value):Bool:=(match P.underlying t with|some (.struct _)=>true|_=>false)&&!P.stoodInHeld t&&!P.eqGuardType P.depth t&&vP P (P.fieldsOf t).toList 0 us vs
theorem tS{t:TypeId}{us vs:List Value}(h:oP P t us vs=true):P.underlying t=some (.struct (P.fieldsOf t))∧P.stoodInHeld t=false∧P.eqGuardType P.depth t=false∧vP P (P.fieldsOf t).toList 0 us vs=true:=by
 simp only[oP,Bool.and_eq_true,Bool.not_eq_true']at h
 obtain⟨⟨⟨h1,h2⟩,h3⟩,h4⟩:=h
 refine⟨?_,h2,h3,h4⟩
 cases hu:P.underlying t with
 | none=>rw[hu]at h1;cases h1
 | some u =>
  rw[hu]at h1
  cases u<;>first|(cases h1;done)|skip
  simp only[Program.fieldsOf,hu]
section
variable {B : Nat → Nat → Prop} {o : Oper} {T : Nat → PV} {H : List Ob}
theorem s4{t yt:TypeId}{x y:Operand}{xs ys:List PV}{us vs:List Value}(ho:o.op=.binOp .eql t x y yt)(hx:opv T x=.agg xs)(hy:opv T y=.agg ys)(h1:sc xs=some us)(h2:sc ys=some vs)(h:oP P t us vs=true):br P B o T H (.val (.bool (jJ us vs))) H :=
 aI fun σ w ac s k=>by
  have k1:=k x (by simp[ho,Op.operands])
  have k2:=k y (by simp[ho,Op.operands])
  rw[hx]at k1
  rw[hy]at k2
  unfold Rep at k1 k2
  obtain⟨ls,ha,k1⟩:=k1
  obtain⟨ms,hb,k2⟩:=k2
  have e1:=kr h1 k1
  have e2:=kr h2 k2
  subst e1 e2
  obtain⟨h3,h4,h5,h6⟩:=tS h
  refine⟨_,?_,aD _ _⟩
  have hg:=run_eqGuard_agg (P:=P) w .eql t x y ls.toArray ms.toArray h5
  have he:=run_eql_struct (P:=P) w t ls.toArray ms.toArray
  rw[run_equalIn_agg w 9999 t _ _ h3 h4,mL _ _ 9998 w _ 0 ls ms rfl rfl h6]at he
  simp only[execOp,ho,ha,hb,Sem.run_bind,hg,Result.andThen_ok,he,Sem.run_pure]
theorem dM{t yt:TypeId}{x y:Operand}{xs ys:List PV}{us vs:List Value}(ho:o.op=.binOp .neq t x y yt)(hx:opv T x=.agg xs)(hy:opv T y=.agg ys)(h1:sc xs=some us)(h2:sc ys=some vs)(h:oP P t us vs=true):br P B o T H (.val (.bool (!jJ us vs))) H :=
 aI fun σ w ac s k=>by
  have k1:=k x (by simp[ho,Op.operands])
  have k2:=k y (by simp[ho,Op.operands])
  rw[hx]at k1
  rw[hy]at k2
  unfold Rep at k1 k2
  obtain⟨ls,ha,k1⟩:=k1
  obtain⟨ms,hb,k2⟩:=k2
  have e1:=kr h1 k1
  have e2:=kr h2 k2
  subst e1 e2
  obtain⟨h3,h4,h5,h6⟩:=tS h
  refine⟨_,?_,aD _ _⟩
  have hg:=run_eqGuard_agg (P:=P) w .neq t x y ls.toArray ms.toArray h5
  have he:=run_neq_struct (P:=P) w t ls.toArray ms.toArray
  rw[run_equalIn_agg w 9999 t _ _ h3 h4,mL _ _ 9998 w _ 0 ls ms rfl rfl h6]at he
  simp only[execOp,ho,ha,hb,Sem.run_bind,hg,Result.andThen_ok,he,Sem.run_pure]
end
end
theorem JQ{b m:Nat}{s:List UInt8}{l:List Ob}(k:NLo b l):NLo b (.iter s m::l):=k
section
variable {P : Program} {B : Nat → Nat → Prop} {o : Oper} {T : Nat → PV} {H : List Ob}
theorem Jg{σ:Nat→Option Nat}{w:World}(s:Sim B H σ w){i b:Nat}{l:List UInt8}{p q:Nat}(hi:H[i]?=some (.iter l p))(hb:σ i=some b)(hv:w.heap[b]?=some (Obj.stringIter ⟨l.toArray⟩ p)):
  Sim B (H.set i (.iter l q)) σ {w with heap:=w.heap.setIfInBounds b (.stringIter ⟨l.toArray⟩ q)}∧di B H σ w (H.set i (.iter l q)) σ {w with heap:=w.heap.setIfInBounds b (.stringIter ⟨l.toArray⟩ q)}:=by
 have hlen:=cn hi
 have hbl:=(Array.getElem?_eq_some_iff.1 hv).1
 have other:∀x,x≠b→(w.heap.setIfInBounds b (.stringIter ⟨l.toArray⟩ q))[x]?=w.heap[x]?:=fun x hx=>Array.getElem?_setIfInBounds_ne (Ne.symm hx)
 have same:(w.heap.setIfInBounds b (.stringIter ⟨l.toArray⟩ q))[b]?=some (.stringIter ⟨l.toArray⟩ q):=by simp[hbl]
 have get:∀j o,(H.set i (.iter l q))[j]?=some o→(j=i∧o=.iter l q)∨(j≠i∧H[j]?=some o):=fun j o h=>s5 hlen h
 have own:∀x off,iE σ (H.set i (.iter l q)) x off→iE σ H x off:=by
  rintro x off ⟨j,o,h1,h2,h3⟩
  rcases get j o h1 with ⟨rfl,rfl⟩|⟨_,h4⟩
  ·exact⟨j,_,hi,h2,trivial⟩
  exact⟨j,o,h4,h2,h3⟩
 have wr:∀off,iE σ H b off:=fun off=>⟨i,_,hi,hb,trivial⟩
 have le:(cx B H σ w).Le (cx B (H.set i (.iter l q)) σ {w with heap:=w.heap.setIfInBounds b (.stringIter ⟨l.toArray⟩ q)}):=by
  refine⟨by simp[cx],fun _ _=>rfl,fun x off u h1 h2=>⟨?_,fun h=>h1 (h.imp id (own x off))⟩,fun x e2 c2 h1 h2=>⟨?_,fun h=>h1 (h.imp id (own x 0))⟩,fun x cs t fr h1=>⟨cs,?_,rfl⟩⟩
  ·have hx:x≠b:=fun hx=>h1 (.inr (hx▸wr off))
   exact(World.cell?_of_block (w:=w) (w':={w with heap:=w.heap.setIfInBounds b (.stringIter ⟨l.toArray⟩ q)}) (a:=⟨x,off,none⟩) (other x hx)).trans h2
  ·have hx:x≠b:=fun hx=>h1 (.inr (hx▸wr 0))
   exact(other x hx).trans h2
  have hx:x≠b:=by rintro rfl;simp only[cx]at h1;rw[hv]at h1;cases h1
  exact(other x hx).trans h1
 refine⟨⟨?_,?_,fun x off h=>by simpa using s.base x off h,?_⟩,⟨le,rfl,rfl,rfl,by simp,?_,?_⟩⟩
 ·intro j k x oj ok h1 h2 l1 l2 e1 e2
  rcases get j oj h1 with ⟨rfl,rfl⟩|⟨_,h3⟩<;>rcases get k ok h2 with ⟨rfl,rfl⟩|⟨_,h4⟩
  ·rfl
  ·exact s.inj _ _ x _ _ hi h4 rfl l2 e1 e2
  ·exact s.inj _ _ x _ _ h3 hi l1 rfl e1 e2
  exact s.inj _ _ x _ _ h3 h4 l1 l2 e1 e2
 ·intro j x oj h1 l1 e1 off
  rcases get j oj h1 with ⟨rfl,rfl⟩|⟨_,h3⟩
  ·exact s.sep _ x _ hi rfl e1 off
  exact s.sep _ x _ h3 l1 e1 off
 ·intro j oj h1
  rcases get j oj h1 with ⟨rfl,rfl⟩|⟨hj,h3⟩
  ·exact⟨b,hb,same⟩
  have k:=s.holds j oj h3
  cases oj with
  | cells zs t =>
   obtain⟨x,ws,fr',h5,h6,hf,h7⟩:=k
   have hx:x≠b:=fun hx=>hj (s.inj j i b _ _ h3 hi rfl rfl (hx▸h5) hb)
   exact⟨x,ws,fr',h5,(other x hx).trans h6,hf,h7.mono le⟩
  | smap ks2 ms =>
   obtain⟨x,e2,c2,h5,h6,h7,h8⟩:=k
   have hx:x≠b:=fun hx=>hj (s.inj j i b _ _ h3 hi rfl rfl (hx▸h5) hb)
   exact⟨x,e2,c2,h5,(other x hx).trans h6,h7,an.mono le h8⟩
  | iter l2 p2 =>
   obtain⟨x,h5,h6⟩:=k
   have hx:x≠b:=fun hx=>hj (s.inj j i b _ _ h3 hi rfl rfl (hx▸h5) hb)
   exact⟨x,h5,(other x hx).trans h6⟩
  | free m =>
   intro x hx
   obtain⟨cs,t,h5,h6⟩:=k x hx
   have hne:x≠b:=fun h=>hj (s.inj j i b _ _ h3 hi rfl rfl (h▸hx) hb)
   exact⟨cs,t,(other x hne).trans h5,h6⟩
  | dead=>trivial
  | glob g u=>obtain⟨q1,q2⟩:=k;exact le.cell g 0 u q2 q1
 ·intro j oj x h1 h2 h3
  rcases get j oj h1 with ⟨rfl,rfl⟩|⟨_,h4⟩
  ·exact .inr ⟨_,_,hi,rfl,h3⟩
  exact .inr ⟨j,oj,h4,h2,h3⟩
 intro x hx hn
 exact other x (fun h=>hn i _ hi rfl (h▸hb))
theorem lq{t:TypeId}{d:TD}{x:Operand}{s:Str}(f:ap P t d)(hd:d.sh=.str)(ho:o.op=.range t x)(hx:opv T x=str s):br P B o T H (.ptr H.length 0) (H++[.iter s 0]):=by
 intro σ w a sm h
 have k1:=h x (by simp[ho,Op.operands])
 rw[hx]at k1
 unfold str Rep at k1
 obtain⟨s',st⟩:=fp sm (bg.alloc w (.stringIter ⟨s.toArray⟩ 0)) (.iter s 0) (some w.heap.size) (fun b hb=>by cases hb;exact Nat.le_refl _) ⟨w.heap.size,by simp only[cx];rw[bF],by show(w.heap.push _)[w.heap.size]?=_;simp⟩
 refine⟨.pointer (some ⟨w.heap.size,0,none⟩),_,_,.inl ?_,?_,s',st⟩
 ·simp only[execOp,ho,k1,Sem.run_bind,run_range_string w t _ (f.str hd),Result.andThen_ok,Sem.run_pure];rfl
 unfold Rep;exact⟨by simp[cx],w.heap.size,by simp only[cx];rw[bF],rfl⟩
theorem oQ{x:Operand}{i:Nat}{s:Str}{pos:Nat}(ho:o.op=.next x true)(hx:opv T x=.ptr i 0)(hi:H[i]?=some (.iter s pos))(hp:pos<s.length)(ha:(s.getD pos 0).toNat<128):
  br P B o T H (.tup [.val (.bool true),.val (.int .i64 (pos:Int)),.val (.int .i32 ((s.getD pos 0).toNat:Int))]) (H.set i (.iter s (pos+1))):=by
 intro σ w a sm h
 have k1:=h x (by simp[ho,Op.operands])
 rw[hx]at k1
 unfold Rep at k1
 obtain⟨_,b,hb,hv⟩:=k1
 obtain⟨b',hb',hg⟩:=sm.holds i _ hi
 simp only[cx]at hb hb' hg
 rw[hb]at hb'
 cases hb'
 obtain⟨s',st⟩:=Jg sm (q:=pos+1) hi hb hg
 have hsz:pos<(⟨s.toArray⟩:ByteArray).size:=by rw[gF];exact hp
 have hel:((⟨s.toArray⟩:ByteArray)[pos]'hsz)=s.getD pos 0:=by
  simp only[List.getD,List.getElem?_eq_getElem hp,Option.getD_some]
  rfl
 have hdec:Utf8.decode ⟨s.toArray⟩ pos=((s.getD pos 0).toNat,1):=by rw[decode_ascii _ pos hsz (by rw[hel];exact ha),hel]
 refine⟨.tuple #[.bool true,.int .i64 (pos:Int),.int .i32 ((s.getD pos 0).toNat:Int)],_,σ,.inl ?_,?_,s',st⟩
 ·have hr:(Instr.next (a.eval x) true o.type).run P w=.ok (.tuple #[.bool true,.int .i64 (pos:Int),.int .i32 ((s.getD pos 0).toNat:Int)]) {w with heap:=w.heap.setIfInBounds b (.stringIter ⟨s.toArray⟩ (pos+1))}:=by
   rw[hv]
   have hbl:=(Array.getElem?_eq_some_iff.1 hg).1
   simp only[Instr.next,getObj,setObj,Sem.run_bind,Sem.run,hg,Result.andThen,hsz,if_true,hdec]
   simp[goInt,Sem.run,hg,hbl]
  simp only[execOp,ho,Sem.run_bind,hr,Result.andThen_ok,Sem.run_pure]
 unfold Rep
 exact⟨_,rfl,am.2 ⟨aD _ _,am.2 ⟨aD _ _,am.2 ⟨aD _ _,ax.2 rfl⟩⟩⟩⟩
theorem lr{x:Operand}{i:Nat}{s:Str}{pos:Nat}(ho:o.op=.next x true)(hx:opv T x=.ptr i 0)(hi:H[i]?=some (.iter s pos))(hp:s.length≤pos):br P B o T H (.tup [.val (.bool false)]) H :=
 aI fun σ w a sm h=>by
  have k1:=h x (by simp[ho,Op.operands])
  rw[hx]at k1
  unfold Rep at k1
  obtain⟨_,b,hb,hv⟩:=k1
  obtain⟨b',hb',hg⟩:=sm.holds i _ hi
  simp only[cx]at hb hb' hg
  rw[hb]at hb'
  cases hb'
  have hsz:¬pos<(⟨s.toArray⟩:ByteArray).size:=by rw[gF];omega
  refine⟨.tuple #[.bool false],?_,by unfold Rep;exact⟨_,rfl,am.2 ⟨aD _ _,ax.2 rfl⟩⟩⟩
  have hr:(Instr.next (a.eval x) true o.type).run P w=.ok (.tuple #[.bool false]) w:=by
   rw[hv]
   simp[Instr.next,getObj,Sem.run,hg,hsz]
  simp only[execOp,ho,Sem.run_bind,hr,Result.andThen_ok,Sem.run_pure]
end
end Go.Proofs.YtiibjcnedbncjaaGreatDoor
