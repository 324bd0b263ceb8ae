import Derived.Test.YtjcminooghmpeaaGreatDoorPk12
set_option linter.all false
set_option maxRecDepth 100000
set_option maxHeartbeats 40000000
open Go.Proofs.Tryz
namespace Go.Proofs.YtjcminooghmpeaaGreatDoor
open Go.RowKit
def aL9{w w':World}{v:Value}{L:List Int}(h:w'.ownsRow w.heap.size 5 1 v L.length (L.map (Value.int .u8)))(hn:0<L.length)(hb:Below w.heap.size w w'):
  A6 L w (.returned v) w':=by
 rcases h.2 with ⟨_,h0⟩|⟨g,cap,cur,rfl,hg,hh,hle,_,_,htake⟩
 ·omega
 refine⟨g,cap,rfl,hg,hle,fun i hi=>?_,hb⟩
 rw[cell_of_row _ _ _ _ _ _ hh]
 have h1:(L.map (Value.int .u8))[i]?=some (.int .u8 (L.getD i 0)):=by simp[List.getD,hi]
 rw[<-htake,List.getElem?_take]at h1
 simpa[hi]using h1
def aK4(u k:Nat)(h:k<8):(lT u).take (k+1)=(lT u).take k++[((u/256 ^ k:Nat):Int)%256]:=by
 have:k=0\/k=1\/k=2\/k=3\/k=4\/k=5\/k=6\/k=7:=by omega
 rcases this with rfl|rfl|rfl|rfl|rfl|rfl|rfl|rfl<;>simp[lT]
def aM2{w wr w1:World}{v v':Value}{L:List Int}{x:Int}{o:Obj}(hb:Below w.heap.size w wr)
  (hown:wr.ownsRow w.heap.size 5 1 v L.length (L.map (Value.int .u8)))
  (hown':w1.ownsRow w.heap.size 5 1 v' (L.length+1) (L.map (Value.int .u8)++[.int .u8 x])) (hg:(wr.alloc o).grownBy w1 v.ownBlock) :
  w1.ownsRow w.heap.size 5 1 v' (L++[x]).length ((L++[x]).map (Value.int .u8))/\Below w.heap.size w w1:=by
 refine⟨by simpa using hown',(hb.alloc hb.size o).grown hg (by have:=hb.size;simp;omega) (fun j hj=>(hown.lt j hj).1)⟩
def aM9(n:Int)(w:World):
  Calls prog 32 #[.int .i64 n] w (A6 (lT (U n)) w):=by
 have u:=kV n
 obtain⟨i0,hi,hz0,hz1,hz2⟩:=info_parts Tryz.infoByte
 go_enter func32,ntmps32
 go_wp2_with fail
 go_loopw [3,4,5] (fun u v i wr=>∃(k m:Nat) (L:List Int),k<=8/\i=.int .i64 k/\u=.int .u64 m/\Hid (m=U n/256 ^ k/\L=(lT (U n)).take k/\L.length=k)/\Hid (m<18446744073709551616) /\
   wr.ownsRow w.heap.size 5 1 v L.length (L.map (Value.int .u8))/\Below w.heap.size w wr) (fun _ _ i _=>8-(intOf i).toNat)
 case atStart=>exact⟨0,U n,[],by omega,rfl,rfl,⟨by simp,by simp,rfl⟩,w8 n,World.ownsRow_nil _ _ _ _,Below.refl _ _⟩
 case round =>
  obtain⟨k,m,L,hk,rfl,rfl,hL,hm,hown,hbel⟩:=hrel
  by_cases hlt:k<8
  ·have hm':(m:Int)<=18446744073709551615:=by have:=hm.out;omega
   go_wp2_with (at_builtin;refine wpList_append_own _ rfl _ _ 22 rfl w.heap.size 5 i0 (.int .u8 0) 1 1 underlying22 hi hz0 hz1 hz2 rfl (by decide) _ _ _ rfl (hown.alloc _) ⟨wr.heap.size,0,none⟩ 1 1 [.int .u8 ((m:Int)%256)] rfl rfl ?c1 ?c2 ?c3 ?c4 ?c5 ?_)
   case c1 =>
    intro j u hj
    match j,hj with
    | 0,hj=>simp at hj;subst hj;simp[Addr.add]
   case c2=>intro u hu;simp at hu;subst hu;rfl
   case c3=>have:=hL.out.2.2;unfold maxLen;omega
   case c4=>have:=hL.out.2.2;omega
   case c5=>have:=hbel.size;simp;omega
   intro v' w1 hown' hgrow _
   have R:=aM2 hbel hown hown' hgrow
   have hL':Hid (m/256=U n/256 ^ (k+1)/\L++[(m:Int)%256]=(lT (U n)).take (k+1)/\(L++[(m:Int)%256]).length=k+1):=by
    obtain⟨a,b,c⟩:=hL.out
    refine⟨by rw[a,Nat.div_div_eq_div_mul,Nat.pow_succ],by rw[aK4 _ _ hlt,<-b,<-a],by simp[c]⟩
   have hm2:Hid (m/256<18446744073709551616):=by have:=hm.out;show _<_;omega
   clear hL hm hown hbel hown' hgrow
   go_wp2
   go_roundw
   case rel=>exact⟨k+1,m/256,L++[(m:Int)%256],by omega,by go_num,by go_num,hL',hm2,R.1,R.2⟩
   case measure=>simp[intOf];omega
  go_wp2
  go_ret
  have e:L=lT (U n):=by
   rw[hL.out.2.1];exact List.take_of_length_le (by rw[Ki];omega)
  rw[<-e]
  exact aL9 hown (by have:=hL.out.2.2;omega) hbel
def aJ6(m:bn)(at_ n:Int)(hm:m.b.length<=9223372036854775807)(ha:ae at_)(hn:ae n):ab prog 59 [jC m,i64 at_,i64 n] (boo (bt m at_ n)):=by
 unfold ae at ha hn
 refine zY func59 fun B=>?_
 refine zu2 ?_
 refine Ws<|zu2 ?_
 refine Wi rfl (fun hi1=>?_) (fun hi1=>?_)
 ·refine zu1 ?_
  refine zR ?_
  exact congrArg boo (by(simp only[bt,bU];rw[Bool.eq_iff_iff];simp only[dnL]at *;(try simp only[bU,wrap64]at *);omega))
 refine Wj<|zp3 ?_
 refine Wb 11 rfl (fun hg1=>?_) (fun hg1=>?_)
 ·refine zy4 ?_
  refine Wb 15 rfl (fun hg2=>?_) (fun hg2=>?_)
  ·refine zy5 ?_
   refine zy2 ?_
   refine Wb 22 rfl (fun hg3=>?_) (fun hg3=>?_)
   ·refine zy5 ?_
    refine zs4 ?_
    refine zR ?_
    exact congrArg boo (by(simp only[bt,bU];rw[Bool.eq_iff_iff];simp only[dnL]at *;(try simp only[bU,wrap64]at *);omega))
   refine z6 ?_
   iterate 6 refine z6 ?_
   refine zs2 ?_
   refine zR ?_
   exact congrArg boo (by(simp only[bt,bU];rw[Bool.eq_iff_iff];simp only[dnL]at *;(try simp only[bU,wrap64]at *);omega))
  refine z6 ?_
  iterate 4 refine z6 ?_
  refine zy2 ?_
  iterate 7 refine z6 ?_
  refine zs2 ?_
  refine zR ?_
  exact congrArg boo (by(simp only[bt,bU];rw[Bool.eq_iff_iff];simp only[dnL]at *;(try simp only[bU,wrap64]at *);omega))
 refine z6 ?_
 refine z6 ?_
 refine zy2 ?_
 iterate 5 refine z6 ?_
 refine zy2 ?_
 iterate 7 refine z6 ?_
 refine zs2 ?_
 refine zR ?_
 exact congrArg boo (by(simp only[bt,bU];rw[Bool.eq_iff_iff];simp only[dnL]at *;(try simp only[bU,wrap64]at *);omega))
def aK5(m:bn)(at_:Int)(hm:m.b.length<=9223372036854775807)(ha:ae at_):ab prog 30 [jC m,i64 at_] (i64 (cV m at_)):=by
 refine zY func30 fun B=>?_
 refine zu2 ?_
 refine zp2 ?_
 refine zc rfl func59 ((aJ6 m at_ 8 hm ha aD2) _) ?_
 refine zs1 ?_
 refine Ws<|zu2 ?_
 refine Wi rfl (fun hi1=>?_) (fun hi1=>?_)
 ·refine zu1 ?_
  refine zR ?_
  simp_all[cV,iA,kg,Pg,i64,boo,str]
 refine Wj<|Ws<|zu3 ?_
 refine Wi rfl (fun hi2=>?_) (fun hi2=>?_)
 ·refine zu1 ?_
  refine zR ?_
  simp_all[cV,iA,kg,Pg,i64,boo,str]
 refine Wj<|zu1 ?_
 refine zR ?_
 simp_all[cV,iA,kg,Pg,i64,boo,str]
def aJ9{l:Str}{k:Nat}{c:UInt8}(h:k<l.length)(hc:c=upC (l.getD k 0)):str ((l.take k).map upC++[c])=str ((l.take (k+1)).map upC):=by
 rw[ki l k 0 h,List.map_append,hc];rfl
def aJ8(l:Str)(hl:l.length<=9223372036854775807):ab prog 62 [str l] (str (Ht l)):=by
 refine zY func62 fun B=>?_
 refine zu1 ?_
 refine zu1 ?_
 refine Ws<|zu1 ?_
 refine Wl ?_
 show W _ _ _ _ _ _ _
 refine gz (fun(k:Nat)=>[(0,str l),(4,i64 k),(3,str ((l.take k).map upC))]) (fun(k:Nat)=>[]) (fun(k:Nat)=>[]) (fun(k:Nat)=>k<=l.length) (fun(k:Nat)=>l.length-k) (0) (by omega) [] ?_ ?_
 ·exact fM
 intro k hk
 have hlt:(k:Int)<l.length->k<l.length:=fun h=>by omega
 refine Ws<|zp3 ?_
 refine Wa 8 rfl (gJ _) ?_
 refine zs1 ?_
 refine Wi rfl (fun hi1=>?_) (fun hi1=>?_)
 ·have hk2:=hlt (oT hi1)
  refine Wj<|Ws<|Wl<|zp2 ?_
  refine z2 ?_ (q:=(by simp only[ew];omega))
  refine Wa 14 rfl (tC _ _) ?_
  refine zs1 ?_
  refine Ws<|zp3 ?_
  refine Wb 17 rfl (fun hg1=>?_) (fun hg1=>?_)
  ·refine zs3 ?_
   refine Wi rfl (fun hi2=>?_) (fun hi2=>?_)
   ·refine aa rfl ?_
    refine zy2 ?_
    refine Wa 22 rfl (congrArg (fun z=>PV.val (Value.int .u8 z)) (Xt (c:=l.getD k 0) (by simp only[decide_eq_true_eq]at *;omega))) ?_
    refine zs1 ?_
    refine aa rfl ?_
    refine zy3 ?_
    refine Wa 25 rfl (bsL aL [_] rfl rfl) ?_
    refine Wd rfl rfl (oB (lO tG rfl) rfl (lO tG rfl) rfl (lO tG rfl) rfl rfl rfl) ?_
    refine z2 ?_ (q:=(by simp only[ew];((simp_all;omega))))
    refine Wa 27 rfl (JL _ _) ?_
    refine zs1 ?_
    refine aa rfl ?_
    refine zs3 ?_
    exact⟨k+1,[],(by omega),(by omega),(fM (sub:=by repeat (first|exact gl|refine eW (by first|exact cQ rfl|exact cQ (aJ9 hk2 (by rfl))|exact cQ (congrArg i64 (by(rw[bU];unfold wrap64;omega)))) ?_)))⟩
   refine Wj<|aa rfl ?_
   refine zy3 ?_
   refine Wa 25 rfl (bsL aL [_] rfl rfl) ?_
   refine Wd rfl rfl (oB (lO tG rfl) rfl (lO tG rfl) rfl (lO tG rfl) rfl rfl rfl) ?_
   refine z2 ?_ (q:=(by simp only[ew];((simp_all;omega))))
   refine Wa 27 rfl (JL _ _) ?_
   refine zs1 ?_
   refine aa rfl ?_
   refine zs3 ?_
   exact⟨k+1,[],(by omega),(by omega),(fM (sub:=by repeat (first|exact gl|refine eW (by first|exact cQ rfl|exact cQ (aJ9 hk2 (by(symm;apply I4;simp only[decide_eq_true_eq,decide_eq_false_iff_not]at *;omega)))|exact cQ (congrArg i64 (by(rw[bU];unfold wrap64;omega)))) ?_)))⟩
  refine z6 ?_
  refine z6 ?_
  refine zs1 ?_
  refine Wf rfl rfl ?_
  refine Wj<|aa rfl ?_
  refine zy3 ?_
  refine Wa 25 rfl (bsL aL [_] rfl rfl) ?_
  refine Wd rfl rfl (oB (lO tG rfl) rfl (lO tG rfl) rfl (lO tG rfl) rfl rfl rfl) ?_
  refine z2 ?_ (q:=(by simp only[ew];((simp_all;omega))))
  refine Wa 27 rfl (JL _ _) ?_
  refine zs1 ?_
  refine aa rfl ?_
  refine zs3 ?_
  exact⟨k+1,[],(by omega),(by omega),(fM (sub:=by repeat (first|exact gl|refine eW (by first|exact cQ rfl|exact cQ (aJ9 hk2 (by(symm;apply I4;simp only[decide_eq_true_eq,decide_eq_false_iff_not]at *;omega)))|exact cQ (congrArg i64 (by(rw[bU];unfold wrap64;omega)))) ?_)))⟩
 refine bi ?_
 refine zu2 ?_
 refine zR ?_
 exact congrArg str (by rw[px l k (by simp only[decide_eq_false_iff_not]at *;omega)];rfl)
def aL5(a b:Str)(ha:a.length<=9223372036854775807)(hb:b.length<=9223372036854775807):ab prog 34 [str a,str b] (boo (YN a b)):=by
 refine zY func34 fun B=>?_
 refine zu1 ?_
 refine zp1 ?_
 refine zc rfl func62 ((aJ8 a ha) _) ?_
 refine zs1 ?_
 refine zp1 ?_
 refine zc rfl func62 ((aJ8 b hb) _) ?_
 refine zs1 ?_
 refine zp3 ?_
 refine zq 13 ?_
 refine zs1 ?_
 refine zR ?_
 rfl
end Go.Proofs.YtjcminooghmpeaaGreatDoor
namespace Go.Proofs.YtjcminooghmpeaaGreatDoor
open Go.RowKit (wrap64)
def aK0(c:UInt8)(l:List UInt8)(b o:Int)(hc:(c=35/\b=10)\/(c=36/\b=16)\/(c=37/\b=2)){n:Int}(hp:oQ (sJ l).1 b (sJ l).2=(n,true)):
  dK (c::l) o=(n,true):=by
 have hne:c≠39:=by rcases hc with ⟨rfl,_⟩|⟨rfl,_⟩|⟨rfl,_⟩<;>decide
 have hs:oE (c::l)=none:=by
  unfold oE
  split
  ·rename_i a d e heq
   rw[if_neg]
   rintro⟨ha,_⟩
   simp only[List.cons.injEq]at heq
   exact hne (heq.1.trans ha)
  rfl
 have hq:sZ (c::l) o=(b,l):=by
  rcases hc with ⟨rfl,rfl⟩|⟨rfl,rfl⟩|⟨rfl,rfl⟩<;>simp[sZ]
 unfold dK
 rw[hs,hq]
 exact hp
def aL4(n b:Int)(hb:isB b=true):∃c l,(dh n b).1=c::l/\c≠35/\c≠36/\c≠37/\c≠39:=by
 obtain⟨B,rfl,h2,h3⟩:=sH hb
 have key:∀u,∃c l,ef u B=c::l/\c≠35/\c≠36/\c≠37/\c≠39:=by
  intro u
  have ha:=ux B h2 h3 u
  match hu:ef u B with
  | []=>exact absurd hu (tP u B)
  | c::l =>
   rw[hu]at ha
   have hc:okD B c=true:=by simp at ha;exact ha.1
   obtain⟨h1,h2,h3,h4,_⟩:=XZ _ hc
   exact⟨c,l,rfl,h1,h2,h3,h4⟩
 unfold dh
 rw[if_pos hb,Int.toNat_natCast]
 by_cases h:0<=n
 ·simp only[h,if_true];exact key _
 simp only[h,if_false];exact⟨45,_,rfl,by decide,by decide,by decide,by decide⟩
def aJ5(c:UInt8)(n b o:Int)(hb:isB b=true)(hc:(c=35/\b=10)\/(c=36/\b=16)\/(c=37/\b=2))(hn : -9223372036854775808<=n/\n<=9223372036854775807):
  dK (c::(dh n b).1) o=(n,true):=by
 have h:=ZQ n b hb hn
 obtain⟨d,l,e,h1,h2,h3,h4⟩:=aL4 n b hb
 rw[e]at h ⊢
 rw[vD d l b h1 h2 h3 h4]at h
 exact aK0 c (d::l) b o hc h
open Go.RowKit
def aN0(x:aS)(h0:0<=x.flags)(h7:x.flags<=7):ab prog 35 [yB x] (boo (af9 x)):=by
 refine zY func35 fun B=>?_
 refine zu2 ?_
 refine zp5 ?_
 refine zs1 ?_
 refine zR ?_
 exact congrArg boo (by unfold af9;rcases rc h0 h7 with h|h|h|h|h|h|h|h<;>rw[h]<;>decide)
def aK1{l:List aS}{name:Str}{j:Nat}(h:yN (l.getD j default) name=false):mv l name (j+1)=mv l name j:=by
 show(if yN (l.getD j default) name then _ else _)=_
 rw[h];rfl
def aL3{l:List aS}{name:Str}{j:Nat}(h:yN (l.getD j default) name=true):mv l name (j+1)=(l.getD j default,(j:Int),true):=by
 show(if yN (l.getD j default) name then _ else _)=_
 rw[h];rfl
def aL1(l:List aS)(name:Str)(hl:kh l)(hn:name.length<=9223372036854775807):ab prog 19 [sq cT l,str name] (B9 (dc l name)):=by
 have hll:=hl.1
 have w1:IntKind.i64.wrap ((l.length:Int)-1)=(l.length:Int)-1:=gZ (by omega) (by omega)
 refine zY func19 fun B=>?_
 refine zu3 ?_
 refine Ws<|zp3 ?_
 refine Wa 11 rfl (congrArg (fun z=>PV.val (Value.int .i64 z)) w1) ?_
 refine zs1 ?_
 refine Wl ?_
 show W _ _ _ _ _ _ _
 refine gz (fun(k:Nat)=>[(0,sq cT l),(1,str name),(4,.ptr 0 0),(5,i64 0),(6,boo false),(7,i64 ((k:Int)-1))]) (fun(k:Nat)=>[.cells (cT ⟨[],0,0⟩) 61]) (fun(k:Nat)=>[]) (fun(k:Nat)=>k<=l.length/\dc l name=mv l name k) (fun(k:Nat)=>k) (l.length) (by exact⟨Nat.le_refl _,rfl⟩) [] ?_ ?_
 ·exact fM
 intro k hk
 refine Ws<|zu2 ?_
 refine Wi rfl (fun hi1=>?_) (fun hi1=>?_)
 ·have hk1:0<k:=by have:=oT hi1;omega
  obtain⟨j,rfl⟩:∃j,k=j+1:=⟨k-1,by omega⟩
  have hlt:j<l.length:=by omega
  refine aD9 7 rfl (congrArg i64 (show((j+1:Nat):Int)-1=(j:Int) by omega)) ?_
  refine Wj<|Ws<|Wl<|zp2 ?_
  refine Wv tG rfl rfl rfl (by omega) (iN cT 3 (fun _=>rfl) default (by omega)) ?_
  refine zy3 ?_
  refine zc rfl func34 ((aL5 _ _ (hl.get hlt).1 hn) _) ?_
  refine zs1 ?_
  refine zp2 ?_
  refine Wb 24 rfl (fun hg1=>?_) (fun hg1=>?_)
  ·refine zy2 ?_
   refine Wv tG rfl rfl rfl (by omega) (iN cT 3 (fun _=>rfl) default (by omega)) ?_
   refine z1 ?_
   refine zc rfl func35 ((aN0 _ (hl.get hlt).2.1 (hl.get hlt).2.2) _) ?_
   refine zs2 ?_
   refine Wi rfl (fun hi2=>?_) (fun hi2=>?_)
   ·have hh:yN (l.getD j default) name=true:=by unfold yN;rw[hg1,hi2];rfl
    refine zp2 ?_
    refine Wv tG rfl rfl rfl (by omega) (iN cT 3 (fun _=>rfl) default (by omega)) ?_
    refine zs5 ?_
    refine zR ?_
    rw[hk.2,aL3 hh];rfl
   have hh:yN (l.getD j default) name=false:=by unfold yN;rw[hg1,hi2];rfl
   refine Wj<|aa rfl ?_
   refine zs3 ?_
   exact⟨j,[],(by exact⟨by omega,hk.2.trans (aK1 hh)⟩),(by omega),fM⟩
  have hh:yN (l.getD j default) name=false:=by unfold yN;rw[hg1];simp
  iterate 6 refine z6 ?_
  refine zs1 ?_
  refine Wf rfl rfl ?_
  refine Wj<|aa rfl ?_
  refine zs3 ?_
  exact⟨j,[],(by exact⟨by omega,hk.2.trans (aK1 hh)⟩),(by omega),fM⟩
 have hk0:k=0:=by have:=oF hi1;omega
 subst hk0
 refine bi ?_
 refine zu4 ?_
 refine zR ?_
 rw[hk.2];rfl
def aM7(n:Int):ab prog 32 [i64 n] (sq aL (uj n)):=EP n (aM9 n)
def aL7{l:List UInt8}{x:Int}{k:Nat}{s:SK}(h0:0<=x)(h1:x+k<l.length)(k2:IntKind.i64.wrap (x+(k:Int))=x+k):
  PV.seq ((l.drop x.toNat).take k++[l.getD (IntKind.i64.wrap (x+(k:Int))).toNat 0]).length (((l.drop x.toNat).take k++[l.getD (IntKind.i64.wrap (x+(k:Int))).toNat 0]).flatMap aL) s=.seq ((l.drop x.toNat).take (k+1)).length (((l.drop x.toNat).take (k+1)).flatMap aL) s:=by
 rw[k2,ki _ k 0 (by simp;omega)]
 have:l.getD (x+(k:Int)).toNat 0=(l.drop x.toNat).getD k 0:=by
  unfold List.getD
  rw[List.getElem?_drop]
  congr 2;omega
 rw[this]
def aM1(m:bn)(at_ n:Int)(hm:da m)(ha:ae at_)(hn:ae n):ab prog 60 [jC m,i64 at_,i64 n] (Q6 (dU m at_ n)):=by
 have hm1:=hm.b
 refine zY func60 fun B=>?_
 refine zu3 ?_
 refine zp3 ?_
 refine zc rfl func59 ((aJ6 m at_ n (by omega) ha hn) _) ?_
 refine zs1 ?_
 refine Ws<|zu2 ?_
 refine Wi rfl (fun hi1=>?_) (fun hi1=>?_)
 ·have ht:¬bt m at_ n=true:=by simpa using hi1
  refine zu2 ?_
  refine zR ?_
  rw[dU,if_neg ht];rfl
 have ht:bt m at_ n=true:=by simpa using hi1
 have hN:0<=n/\(0<n->0<=at_/\at_+n<=m.b.length):=by unfold bt at ht;simp only[decide_eq_true_eq]at ht;omega
 refine Wj<|zp1 ?_
 refine EG 9 0 1 rfl rfl ?_
 refine Wn<|Ws<|zu1 ?_
 refine Wl ?_
 show W _ _ _ _ _ _ _
 refine gz (fun(k:Nat)=>[(1,i64 at_),(2,i64 n),(3,.ptr 0 0),(10,i64 k),(9,.seq ((m.b.drop at_.toNat).take k).length (((m.b.drop at_.toNat).take k).flatMap aL) (.own 2 1))]) (fun(k:Nat)=>[.cells (M8 m) 28,.dead]) (fun(k:Nat)=>[.free (((m.b.drop at_.toNat).take k).length*1)]) (fun(k:Nat)=>(k:Int)<=n) (fun(k:Nat)=>n.toNat-k) (0) (by omega) [1] ?_ ?_
 ·exact fM
 intro k hk
 refine Ws<|zu3 ?_
 refine Wi rfl (fun hi2=>?_) (fun hi2=>?_)
 ·have hlt:(k:Int)<n:=oT hi2
  have k2:IntKind.i64.wrap (at_+(k:Int))=at_+k:=Lp (by omega) (by omega)
  refine Wj<|Ws<|Wl<|aa rfl ?_
  refine zy5 ?_
  refine z1 ?_
  refine Wv tG rfl rfl rfl (by rw[k2];omega) (iR aL 1 (fun _=>rfl) 0 (by rw[k2];omega)) ?_
  refine zy2 ?_
  refine Wa 30 rfl (bsL aL [_] rfl rfl) ?_
  refine Wd rfl rfl (fw (lO tG rfl) rfl (lO tG rfl) (lO tG rfl) rfl rfl rfl rfl (by simp) (by exact⟨_,rfl⟩) (by exact⟨rfl,rfl,al _ 1 (fun _=>rfl) _,bF _ (fun _=>rfl) _⟩) (by((simp_all;omega))) (by((simp_all;omega)))) ?_
  refine Wa 31 rfl (cz aL) ?_
  refine z1 ?_
  skip
  refine Wn<|aa rfl ?_
  refine zs3 ?_
  exact⟨k+1,[3],(by omega),(by omega),(fM (sub:=by repeat (first|exact gl|refine eW (by first|exact cQ rfl|exact cQ (aL7 (by omega) (by omega) k2)|exact cQ (congrArg i64 (by(rw[bU];unfold wrap64;omega)))) ?_)))⟩
 have hkn:k=n.toNat:=by have:=oF hi2;omega
 refine bi ?_
 refine zu3 ?_
 refine zR ?_
 rw[dU,if_pos ht,<-hkn];rfl
def aL2(l:List UInt8)(k:Nat):jN l k []=l:=by simp[jN]
def aK6{l b:List UInt8}{p k:Nat}(hk:k<b.length)(h:p+b.length<=l.length):(jN l p (b.take k)).set (p+k) (b.getD k 0)=jN l p (b.take (k+1)):=by
 unfold jN
 rw[ki b k 0 hk]
 apply List.ext_getElem?
 intro i
 have e1:(List.take p l).length=p:=by simp;omega
 have e2:(List.take k b).length=k:=by simp;omega
 simp only[List.getElem?_set,List.getElem?_append,List.length_append,e1,e2,List.length_singleton,List.getElem?_drop,List.length_drop]
 by_cases hi:p+k=i
 ·subst hi
  rw[if_pos rfl,if_pos (by omega),if_pos (by omega),if_neg (by omega),if_neg (by omega)]
  simp
 rw[if_neg hi]
 by_cases h1:i<p
 ·rw[if_pos (by omega),if_pos h1,if_pos (by omega),if_pos h1]
 by_cases h2:i<p+k
 ·rw[if_pos h2,if_neg h1,if_pos (by omega),if_neg h1,if_pos (by omega)]
 rw[if_neg h2,if_neg (by omega)]
 congr 1;omega
def aK7{A B':Ob}{l b:List UInt8}{p k o:Nat}{e:TypeId}(hk:k<b.length)(h:p+b.length<=l.length)(ho:o=p+k):
  [A,B',Ob.cells ((jN l p (b.take (k+1))).flatMap aL) e]=[A,B',.cells (cD ((jN l p (b.take k)).flatMap aL) o [.val (.int .u8 ((b.getD k 0).toNat:Int))]) e]:=by
 subst ho
 rw[<-aK6 hk h,<-yn (by rw[Dq (by simp;omega)];omega)]
def aM4{l b:List UInt8}{p k:Nat}(hk:b.length<=k)(h:p+b.length<=l.length):PV.seq l.length (((jN l p (b.take k)).flatMap aL).take (jN l p (b.take k)).length) .any=sq aL (jN l p b):=by
 rw[List.take_of_length_le hk,DM,List.take_length]
 unfold sq
 rw[Dq h]
def aL8(m:bn)(at_:Int)(b:List UInt8)(hm:da m)(ha:ae at_)(hb:b.length<=1000000):ab prog 31 [jC m,i64 at_,sq aL b] (vP (cn m at_ b)):=by
 have hm1:=hm.b
 have hm2:=hm.old
 refine zY func31 fun B=>?_
 refine zu3 ?_
 refine zp4 ?_
 refine zc rfl func59 ((aJ6 m at_ b.length (by omega) ha (as4 hb)) _) ?_
 refine zs1 ?_
 refine Ws<|zu2 ?_
 refine Wi rfl (fun hi1=>?_) (fun hi1=>?_)
 ·rw[HJ (by simpa using hi1)]
  refine zu3 ?_
  refine zR ?_
  rfl
 have ht:bt m at_ b.length=true:=by simpa using hi1
 refine Wj<|Ws<|zu3 ?_
 refine Wi rfl (fun hi2=>?_) (fun hi2=>?_)
 ·rw[Fu ht (by simpa using hi2)]
  refine zu3 ?_
  refine zR ?_
  rfl
 have hne:b.length≠0:=by simpa using hi2
 obtain⟨k0,k1⟩:=IJ ht hne
 have hX:(dU m at_ b.length).1=(m.b.drop at_.toNat).take b.length:=by unfold dU;rw[if_pos ht];simp
 refine Wj<|zp4 ?_
 refine zc rfl func60 ((aM1 m at_ b.length hm ha (as4 hb)) _) ?_
 refine zs5 ?_
 refine zp3 ?_
 refine Wd rfl rfl (o6 (lO tG rfl) rfl (lO tG rfl) (lO tG rfl) rfl rfl ⟨_,rfl⟩ ⟨rfl,rfl,al _ 1 (fun _=>rfl) _,bF _ (fun _=>rfl) _⟩ rfl (by dsimp only;omega) (by omega) (by omega)) ?_
 refine Wa 36 rfl (show PV.arw 2 0 (0+m.b.length)=.arw 2 0 m.b.length by rw[Nat.zero_add]) ?_
 refine jM (H':=[.cells (M8 m) 28,.cells [.seq 0 [] .clip,.seq 0 [] .clip] 28,.cells ((jN m.b at_.toNat (b.take 0)).flatMap aL) 5]) (by rw[List.take_zero,aL2];rfl) ?_
 refine zs1 ?_
 refine Ws<|zu1 ?_
 refine Wl ?_
 show W _ _ _ _ _ _ _
 refine gz (fun(k:Nat)=>[(1,i64 at_),(2,sq aL b),(3,.ptr 0 0),(6,.ptr 1 0),(9,sq aL (dU m at_ b.length).1),(11,.arw 2 0 m.b.length),(12,i64 k)]) (fun(k:Nat)=>[.cells (M8 m) 28,.cells [.seq 0 [] .clip,.seq 0 [] .clip] 28,.cells ((jN m.b at_.toNat (b.take k)).flatMap aL) 5]) (fun(k:Nat)=>[]) (fun(k:Nat)=>k<=b.length) (fun(k:Nat)=>b.length-k) (0) (by omega) [] ?_ ?_
 ·exact fM
 intro k hk
 refine Ws<|zu4 ?_
 refine Wi rfl (fun hi3=>?_) (fun hi3=>?_)
 ·have hlt:k<b.length:=by have:=oT hi3;omega
  have k2:IntKind.i64.wrap (at_+(k:Int))=at_+k:=Lp (by omega) (by omega)
  refine Wj<|Ws<|Wl<|aa rfl ?_
  refine zy5 ?_
  refine z1 ?_
  refine Wv tG rfl rfl rfl (by omega) (iN aL 1 (fun _=>rfl) 0 (by omega)) ?_
  refine z1 ?_
  refine z2 ?_ (q:=(by rw[k2];omega))
  refine Wd rfl rfl (bO (lO tG rfl) rfl rfl rfl rfl rfl rfl (by rw[Nat.ble_eq,fU,Dq (by simp;omega)];dsimp only;rw[k2];simp;omega)) ?_
  refine jM (H':=[.cells (M8 m) 28,.cells [.seq 0 [] .clip,.seq 0 [] .clip] 28,.cells ((jN m.b at_.toNat (b.take (k+1))).flatMap aL) 5]) (aK7 hlt (by omega) (by rw[k2];dsimp only;omega)) ?_
  refine Wn<|aa rfl ?_
  refine zs3 ?_
  exact⟨k+1,[],(by omega),(by omega),fM⟩
 have hge:b.length<=k:=by have:=oF hi3;omega
 refine bi ?_
 refine zp1 ?_
 refine qp 52 2 _ (jN m.b at_.toNat (b.take k)).length rfl rfl (by rw[fU];exact Nat.le_refl _) ?_
 refine Wa 52 rfl (aM4 hge (by omega)) ?_
 refine zy3 ?_
 refine Wd rfl rfl (ce (lO tG rfl) rfl (lO tG rfl) (lO tG rfl) rfl rfl (by exact⟨_,rfl⟩) (by exact⟨rfl,rfl,al _ 2 (fun _=>rfl) _,bF _ (fun _=>rfl) _⟩) (by rfl) (by(dsimp only;omega)) (by(omega))) ?_
 refine Wa 56 rfl (yS mZ) ?_
 refine zy4 ?_
 refine Wa 60 rfl ((show PV.seq 1 _ .clip=.seq (List.length [(⟨at_,(dU m at_ b.length).1⟩:tp)]) (List.flatMap mZ [(⟨at_,(dU m at_ b.length).1⟩:tp)]) .clip from rfl)) ?_
 refine Wd rfl rfl (fw (lO tG rfl) rfl (lO tG rfl) (lO tG rfl) rfl rfl rfl rfl (by simp) (by exact⟨_,rfl⟩) (by exact⟨rfl,rfl,al _ 2 (fun _=>rfl) _,bF _ (fun _=>rfl) _⟩) (by((simp_all;omega))) (by((simp_all;omega)))) ?_
 refine Wa 61 rfl (cz mZ) ?_
 refine zs3 ?_
 refine zR ?_
 rw[FQ ht hne,<-hX];rfl
def aL6(m:bn)(at_ n:Int)(hm:da m)(ha:ae at_):ab prog 16 [jC m,i64 at_,i64 n] (vP (ay m at_ n)):=by
 have hm1:=hm.b
 have hm2:=hm.old
 refine zY func16 fun B=>?_
 refine zu3 ?_
 refine zp2 ?_
 refine zc rfl func30 ((aK5 m at_ (by omega) ha) _) ?_
 refine zs1 ?_
 refine Ws<|zu2 ?_
 refine Wi rfl (fun hi1=>?_) (fun hi1=>?_)
 ·have h0:cV m at_≠0:=by simpa using hi1
  refine zu4 ?_
  refine zR ?_
  rw[ay,if_neg h0];rfl
 have h0:cV m at_=0:=by simpa using hi1
 refine Wj<|Ws<|ax [1,0,0,0,0,0,0,3,0] [0,1,2,3,4,5,6,7,8] mG rfl (by kernel_rfl) ?_
 refine z5 ?_
 iterate 2 refine z3 ?_
 refine Xc rfl rfl rfl rfl (fun _=>dC rfl func32 rfl rfl ((aM7 n) _)) ?_
 refine Xc rfl rfl rfl rfl (fun _=>dC rfl func31 rfl rfl ((aL8 m at_ (uj n) hm ha (by rw[kZ];omega)) _)) ?_
 iterate 2 refine z3 ?_
 refine dH tG rfl rfl rfl rfl rfl trivial ?_
 refine z3 ?_
 refine aQ ?_
 refine zR ?_
 rw[ay,if_pos h0];rfl
def aM8(m:bn):ab prog 17 [jC m] (jC ⟨m.b,[]⟩):=by
 refine zY func17 fun B=>?_
 refine zu2 ?_
 refine zu4 ?_
 refine zR ?_
 rfl
variable {v : VVm} {L : Nat} {g : Int -> Int} {d r : List Int} {f : List jt} {ip fu xt q x n : Int}
section
variable {d' r' : List Int} {f' : List jt} {v' : VVm} {ip' w : Int}
end
def aN8(M:mX v L g)(h:okA L ip=true)(hn:g ip=n)(hd:d.length<32):mB (mz v d r f ip) xt 1=mz v (d++[n]) r f (ip+8):=by
 have e:mB (mz v d r f ip) xt 1=jW (jp (bu (mz v d r f ip) ip).1 (bu (mz v d r f ip) ip).2):=by kernel_rfl
 rw[e,Rr M h,hn]
 dsimp only
 rw[aC6 M hd,VW M h]
section
variable {d' r' : List Int} {f' : List jt} {v' : VVm} {ip' w : Int}
end
open Go.RowKit
section
variable {v : VVm} {L : Nat} {g : Int -> Int} {d r : List Int} {f : List jt} {ip xt x : Int}
end
section
variable {s s' s'' : SS} {r r' r'' : List Int} {ip ip' ip'' x n : Int} {d d' : List Int}
def aM5(ha:okA 4096 ip=true)(hx:gL s.cs ip=40)(hb:okA 4096 (ip+8)=true)(hn:gL s.cs (ip+8)=n)(hd:s.d.length<32):XS 1 s r ip (s.st (s.d++[n])) r (ip+16) :=
 as2 1 (by decide) ha hx (fun m hm=>by have:=aN8 (At.mach hm) hb hn hd (r:=r) (f:=[]) (xt:=32+8*((1:Nat):Int));rw[show ip+8+8=ip+16 by omega]at this;exact this) rfl
end
open Go.RowKit
def mkB:Str->Bool
 | 35::l=>OK l
 | _=>false
def aM3:((ig 167).all fun w=>!mkB (Ht w.name))=true:=by kernel_rfl
def aM0{l:Str}(h:OK l=true):Ht (35::l)=35::l:=by
 show upC 35::Ht l=_
 rw[an4 h];rfl
def aK2{l:Str}(h:OK l=true):∀k,k<=167->(mv (ig 167) (35::l) k).2.2=false
 | 0,_=>rfl
 | k+1,hk=>by
  unfold mv
  rw[if_neg]
  ·exact aK2 h k (by omega)
  have hw:(ig 167).getD k default∈ig 167:=by rw[List.getD_eq_getElem?_getD,List.getElem?_eq_getElem (by rw[qw];omega)];exact List.getElem_mem _
  have q:=List.all_eq_true.1 aM3 _ hw
  unfold yN YN
  rw[aM0 h]
  intro z
  rw[Bool.and_eq_true,decide_eq_true_eq]at z
  rw[z.2]at q
  have q:(!OK l)=true:=q
  rw[h]at q;cases q
def aL0{l:Str}(h:OK l=true):(dc (ig 167) (35::l)).2.2=false:=by
 unfold dc;rw[qw];exact aK2 h 167 (Nat.le_refl _)
def aK3{n:Int}:okT (tk (35::(dh n 10).1)):=by
 have h:=ar3 (n:=n) (b:=10) (by decide)
 refine⟨fun c hc=>(by cases hc),by simp[tk],fun c hc=>?_⟩
 rcases List.mem_cons.1 hc with rfl|hc
 ·decide
 exact h.2.2 c hc
def aN3{w:aS}{name:Str}(h:af9 w=true):yN w name=false:=by unfold yN;rw[h];rfl
def sN(b:Int):SS:={sO with cs:=[(0,b)]}
def fN(b:Int):af:=⟨{vO with mem:=⟨(ay vO.mem 0 b).1.b,[]⟩},kN⟩
def aN6{b:Int}(hb:ae b):At (fN b) (sN b):=by
 have a:=aI1
 obtain⟨m,e,hm⟩:=a.ex
 have e2:vO.mem=m:=by have:=congrArg (fun f:af=>f.vm.mem) e;exact this
 have hs:=hm.store (a:=0) hb rfl
 have hp:ay vO.mem 0 b=(stM m 0 b,0):=by rw[e2];exact hm.put (a:=0) rfl
 refine⟨⟨⟨(stM m 0 b).b,[]⟩,?_,hs.bare⟩,aA3.set (.inr (by show(0:Int)<=8;decide)),by show(1368:Int)<=1368;decide,by show(1368:Int)<=4096;decide,by show(1368:Int)%8=0;decide,by show(0:Nat)<=80;decide⟩
 unfold fN
 rw[hp]
 show(⟨{vO with mem:=⟨(stM m 0 b).b,[]⟩},kN⟩:af)=⟨{vO with mem:=⟨(stM m 0 b).b,[]⟩,d:=[],here:=1368,dict:=ig 167++[],last:=0,out:=[]},kN⟩
 rw[List.append_nil];rfl
section
variable {n b : Int}
def aN4(hb:isB b=true)(hn:ae n)(hf:(dc (ig 167) (dh n b).1).2.2=false):∃f,At f {sN b with d:=[n,n]}/\m9 (fN b) ((dh n b).1++(32::35::(dh n 10).1)) 50=(f,50,0):=by
 have fb:ae b:=by rw[DL]at hb;unfold ae;omega
 have h0:LA (fN b) ((dh n b).1++(32::35::(dh n 10).1)) 50 0 [] [tk (dh n b).1,tk (35::(dh n 10).1)] (sN b) 50:=.init (aN6 fb) (by decide) rfl
 have h1:=LA.step h0 (ar3 hb) (Qq (n:=n) (by show(dc (ig 167++[]) _).2.2=false;rw[List.append_nil];exact hf) (ZQ n b hb hn) rfl (by show(0:Nat)<32;decide)) (by decide)
 have h2:=LA.step h1 aK3 (Qq (n:=n) (by show(dc (ig 167++[]) _).2.2=false;rw[List.append_nil];exact aL0 (am3 n)) (aJ5 35 n 10 b (by decide) (.inl ⟨rfl,rfl⟩) hn) rfl (by show(1:Nat)<32;decide)) (by decide)
 exact h2.free (by show 2<=_;simp only[List.length_append,List.length_cons];omega)
def sN1(b:Int):SS:=(sN b).begun [122,122,57]
def sN2(b n:Int):SS:=(((sN1 b).lay 40).lay n)
def sN3(b n:Int):SS:=(((sN2 b n).lay 40).lay n)
def sN4(b n:Int):SS:=⟨[],[(8,0),(1408,32),(1400,n),(1392,40),(1384,n),(1376,40),(8,-1),(1368,256),(0,b)],1416,[⟨[122,122,57],1368,0⟩],0,[],kN⟩
def aK9{w:Str}(hf:(dc (ig 167) w).2.2=false):(dc (ig 167++[⟨[122,122,57],1368,2⟩]) w).2.2=false:=by
 rw[az9 _ _ _ fun e he=>by rw[List.mem_singleton.1 he];exact aN3 rfl];exact hf
def aN1(hb:isB b=true)(hn:ae n)(hf:(dc (ig 167) (dh n b).1).2.2=false):∃f,At f {sN4 b n with d:=[n,n]}/\m9 (fN b) ([58,32,122,122,57,32]++((dh n b).1++(32::35::((dh n 10).1++[32,59,32,122,122,57])))) 50=(f,45,0):=by
 have fb:ae b:=by rw[DL]at hb;unfold ae;omega
 have h0:LA (fN b) ([58,32,122,122,57,32]++((dh n b).1++(32::35::((dh n 10).1++[32,59,32,122,122,57])))) 50 0 [] [tk [58],tk [122,122,57],tk (dh n b).1,tk (35::(dh n 10).1),tk [59],tk [122,122,57]] (sN b) 50:=.init (aN6 fb) (by decide) rfl
 have h1:=F6 h0 (wS rfl) (wS rfl) (y:=⟨⟨[58],1072,0⟩,300⟩) (by kernel_rfl) ⟨rfl,rfl⟩ rfl (by show(1368:Int)+8<=4096;decide) rfl (by show(0:Nat)<70;decide)
 have h2:=LA.step (s':=sN2 b n) h1 (ar3 hb) (ab0 (n:=n) (aK9 hf) (ZQ n b hb hn) rfl (by show(1376:Int)+16<=4096;decide)) (by decide)
 have h3:=LA.step (s':=sN3 b n) h2 aK3 (ab0 (n:=n) (aK9 (aL0 (am3 n))) (aJ5 35 n 10 b (by decide) (.inl ⟨rfl,rfl⟩) hn) rfl (by show(1392:Int)+16<=4096;decide)) (by decide)
 have h4:=LA.step (s':=sN4 b n) h3 (wS rfl) (aD5 (by kernel_rfl)) (by decide)
 have run:XS 3 (sN4 b n) [16] 1376 {sN4 b n with d:=[n,n]} [] 16:=(aM5 (n:=n) rfl (by kernel_rfl) rfl (by kernel_rfl) (by show(0:Nat)<32;decide)).tr ((aM5 (n:=n) rfl (by kernel_rfl) rfl (by kernel_rfl) (by show(1:Nat)<32;decide)).tr (VK (r:=[]) rfl (by kernel_rfl)))
 have h5:=LA.step (s':={sN4 b n with d:=[n,n]}) h4 (wS rfl) (LC (y:=⟨⟨[122,122,57],1368,0⟩,256⟩) (c:=5) (by kernel_rfl) rfl rfl (by decide) (SL (n:=3) (xt:=1368) rfl (by kernel_rfl) ⟨rfl,rfl,rfl⟩ run)) (by decide)
 exact h5.free (by show 5<=_;simp only[List.length_append,List.length_cons];omega)
end
open Go.RowKit
open Go.WideShapes
def aM6{w:World}{v:Value}(h:YV w 5 v):∃k:Nat,k<256/\Rep (c0 w) (.val (.int .u8 (k:Int))) v:=by
 obtain⟨n,rfl,h2⟩:=O9 underlying5 h
 have h3:0<=n/\n<=255:=by simp[Lit.wf,IntKind.min,IntKind.max,IntKind.bits,IntKind.signed]at h2;omega
 obtain⟨k,rfl⟩:∃k:Nat,n=(k:Int):=⟨n.toNat,by omega⟩
 exact⟨k,by omega,aq _ _⟩
open Go.WideShapes
def aN2{k:Nat}(hk:k<256)(n:Nat)(hn:0<n):IntKind.i64.wrap (k:Int)=(k:Int)/\((k:Int)).tmod (n:Int)=((k%n:Nat):Int):=by
 constructor
 ·simp only[bU];unfold wrap64;omega
 rw[Int.tmod_eq_emod_of_nonneg (by omega)];omega
def aN5(f:af)(b:Int):af:={f with vm:={f.vm with mem:=⟨(ay f.vm.mem 0 b).1.b,[]⟩}}
def aK8(a:Addr)(n b:Int)(c:Nat)(hc:c<256)(f0:af)(s ten:Str)(hn:ae n)(hb:IntKind.i64.wrap (2+((c%35:Nat):Int))=b)(sh:PG a 9 [] (boo true))(n0:ab prog 10 [] (bS f0))(hm:da f0.vm.mem)(hD:kh f0.vm.dict)
  (p1:ab prog 18 [i64 n,i64 b] (ng (s,0))) (p2:ab prog 18 [i64 n,i64 10] (ng (ten,0))) (hs:s.length<=100/\ten.length<=100)
  (hL:(dc f0.vm.dict s).2.2=false->∃fX fY uX uY,PG a 12 [bS (aN5 f0 b),str (s++[32,35]++ten),i64 50] (vB (fX,uX,0))/\PG a 12 [bS (aN5 f0 b),str ([58,32,122,122,57,32]++s++[32,35]++ten++[32,59,32,122,122,57]),i64 50] (vB (fY,uY,0))/\fX.vm.d=[n,n]/\fY.vm.d=[n,n]) :
  ∀(H:List Ob),(∀o∈hJ a,∃k:Nat,H[k]?=some o)->HC prog 5 [i64 n,.val (.int .u8 (c:Int))] H (boo true) H:=by
 have kw:=(aN2 hc 35 (by decide)).1
 have km:=(aN2 hc 35 (by decide)).2
 refine it (gj a) tG (rs:=[.tmp 4]) func5 rfl rfl rfl (by simp) (by simp) (fun B=>?_)
 refine zu1 ?_
 refine z8 ?_
 refine zc rfl func9 (sh _ (cp 0 1 rfl rfl)) ?_
 refine zs1 ?_
 refine zp2 ?_
 refine Wa 25 rfl (congrArg (fun z=>PV.val (Value.int .i64 z)) kw) ?_
 refine z1 ?_
 refine Wa 26 rfl (congrArg (fun z=>PV.val (Value.int .i64 z)) km) ?_
 refine z1 ?_
 refine Wa 27 rfl (congrArg (fun z=>PV.val (Value.int .i64 z)) hb) ?_
 refine zs1 ?_
 refine z8 ?_
 refine zc rfl func10 ((n0) _) ?_
 refine zs2 ?_
 refine zp4 ?_
 refine zc rfl func16 ((aL6 f0.vm.mem 0 b hm bI) _) ?_
 refine zy5 ?_
 refine zs1 ?_
 refine zp1 ?_
 refine zc rfl func17 ((aM8 (ay f0.vm.mem 0 b).1) _) ?_
 refine zs3 ?_
 refine zp2 ?_
 refine zc rfl func18 ((p1) _) ?_
 refine zs5 ?_
 refine zp1 ?_
 refine zc rfl func18 ((p2) _) ?_
 refine zs5 ?_
 refine zp4 ?_
 refine zc rfl func19 ((aL1 f0.vm.dict s hD (by omega)) _) ?_
 refine zy5 ?_
 refine zs3 ?_
 refine Ws<|zu1 ?_
 refine Wi rfl (fun hi1=>?_) (fun hi1=>?_)
 ·have q:=hi1
  refine zu2 ?_
  refine zR ?_
  rfl
 have q:(dc f0.vm.dict s).2.2=false:=hi1
 obtain⟨fX,fY,uX,uY,pX,pY,dX,dY⟩:=hL q
 refine Wj<|zp2 ?_
 refine z2 ?_ (q:=(by simp only[ew];((simp_all;omega))))
 refine Wa 66 rfl (JL _ _) ?_
 refine z1 ?_
 refine z2 ?_ (q:=(by simp only[ew];((simp_all;omega))))
 refine Wa 68 rfl (JL _ _) ?_
 refine zc rfl func12 (pX _ (cp 0 1 rfl rfl)) ?_
 refine zy5 ?_
 refine zs3 ?_
 refine zp2 ?_
 refine z2 ?_ (q:=(by simp only[ew];((simp_all;omega))))
 refine Wa 76 rfl (JL _ _) ?_
 refine z2 ?_ (q:=(by simp only[ew];((simp_all;omega))))
 refine Wa 77 rfl (JL _ _) ?_
 refine z1 ?_
 refine z2 ?_ (q:=(by simp only[ew];((simp_all;omega))))
 refine Wa 79 rfl (JL _ _) ?_
 refine z2 ?_ (q:=(by simp only[ew];((simp_all;omega))))
 refine Wa 80 rfl (JL _ _) ?_
 refine zc rfl func12 (pY _ (cp 0 1 rfl rfl)) ?_
 refine zy5 ?_
 refine zs3 ?_
 refine zp2 ?_
 refine gN 86 rfl (by rfl) ?_
 refine zy4 ?_
 refine gN 90 rfl (by rfl) ?_
 refine zy4 ?_
 refine gN 94 rfl (by rfl) ?_
 refine zy5 ?_
 refine z1 ?_
 refine Wa 100 rfl (bsL ap [_,_] rfl rfl) ?_
 refine zc rfl func20 ((YG dX (Nat.le_of_ble_eq_true rfl)) _) ?_
 refine zy2 ?_
 refine gN 103 rfl (by rfl) ?_
 refine zy5 ?_
 refine z1 ?_
 refine Wa 109 rfl (bsL ap [_,_] rfl rfl) ?_
 refine zc rfl func20 ((YG dY (Nat.le_of_ble_eq_true rfl)) _) ?_
 refine zs2 ?_
 refine zR ?_
 rfl
def aN9:DX vO.dict:=okO.xts
def aN7{b:Int}:OkF 0 (fN b):=zB (XV (v:={vO with mem:=(ay vO.mem 0 b).1}) (DW XO (cP vO.mem 0 b))) aN9
def aJ7(a:Addr)(n:Int)(hn:ae n)(c:Nat)(hc:c<256):∀(H:List Ob),(∀o∈hJ a,∃k:Nat,H[k]?=some o)->HC prog 5 [i64 n,.val (.int .u8 (c:Int))] H (boo true) H:=by
 have hw:IntKind.i64.wrap (2+((c%35:Nat):Int))=((2+c%35:Nat):Int):=by simp only[bU];unfold wrap64;omega
 obtain⟨b,hb⟩:∃b:Int,((2+c%35:Nat):Int)=b:=⟨_,rfl⟩
 have iB:isB b=true:=by rw[DL];omega
 have l1:=as5 n b
 have l2:=as5 n 10
 rw[hb]at hw
 have p1:=aH3 n b hn
 have p2:=aH3 n 10 hn
 rw[aC9 iB]at p1
 rw[aC9 (b:=10) (by decide)]at p2
 refine aK8 a n b c hc fO (dh n b).1 (dh n 10).1 hn hw (am1 a) N3 (okO.fk (k:=0) (by decide)).mem (okO.fk (k:=0) (by decide)).each p1 p2 ⟨by omega,by omega⟩ fun q=>?_
 obtain⟨fX,aX,eX⟩:=aN4 iB hn q
 obtain⟨fY,aY,eY⟩:=aN1 iB hn q
 obtain⟨pX,kX⟩:=Fg a aN7 (by simp only[List.length_append,List.length_cons];omega) (by decide) eX
 obtain⟨pY,kY⟩:=Fg a aN7 (by simp only[List.length_append,List.length_cons,List.length_nil];omega) (by decide) eY
 have e1:(dh n b).1++[32,35]++(dh n 10).1=(dh n b).1++(32::35::(dh n 10).1):=by simp
 have e2:[58,32,122,122,57,32]++(dh n b).1++[32,35]++(dh n 10).1++[32,59,32,122,122,57]=[58,32,122,122,57,32]++((dh n b).1++(32::35::((dh n 10).1++[32,59,32,122,122,57]))):=by simp
 refine⟨fX,fY,50,45,?_,?_,(Jc aX).2.1,(Jc aY).2.1⟩
 ·rw[e1];exact pX
 rw[e2];exact pY
def walk_OuterNumbers(a:Addr)(v0 v1:Value)(w:World)(h0:w.cell? ⟨1,0,none⟩=some (haltV a))(h1:w.cell? ⟨0,0,none⟩=some etV)(r0:YV w 3 v0)(r1:YV w 5 v1):
  Calls prog 5 #[v0,v1] w fun e w'=>e=.returned (.bool true)/\Below w.heap.size w w':=by
 obtain⟨n,hn,p0⟩:=am6 r0
 obtain⟨k,hk,p1⟩:=aM6 r1
 exact aj6 (args:=[i64 n,.val (.int .u8 (k:Int))]) (by simp[aw,aU]) (aJ7 a n hn k hk) h0 h1 (aj.2 ⟨p0,aj.2 ⟨p1,az.2 rfl⟩⟩)
end Go.Proofs.YtjcminooghmpeaaGreatDoor
