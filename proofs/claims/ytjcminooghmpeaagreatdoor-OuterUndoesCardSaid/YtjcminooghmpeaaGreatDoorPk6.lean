import Derived.ArgAppend
import Derived.Test.YtjcminooghmpeaaGreatDoorPk5
set_option linter.all false
set_option maxRecDepth 100000
set_option maxHeartbeats 40000000
open Go.Proofs.Tryz
namespace Go.Proofs.YtjcminooghmpeaaGreatDoor
open Go.RowKit
structure VCf where
 kind:Int
 at_:Int
 leaves:List Int
def zCf:VCf:=⟨0,0,[]⟩
def cCf(c:VCf):List PV:=[i64 c.kind,i64 c.at_,sq au c.leaves]
@[simp] theorem S3 (c : VCf) : aG (cCf c) := by simp [cCf]
@[simp] theorem as5 (l : List VCf) : aQ (sq cCf l) := gl S3 l
structure CW where
 v:VVm
 l:List VCf
 bad:Int
def cCw(w:CW):List PV:=cVm w.v++[sq cCf w.l,i64 w.bad]
@[simp] theorem ap4 (w : CW) : aG (cCw w) := by simp [cCw, cVm]
def CW.fail(w:CW)(e:Int):CW:=if w.bad=0 then {w with bad:=e} else w
def cf0{w:CW}{e:Int}(h:w.bad=0):w.fail e={w with bad:=e}:=by unfold CW.fail;rw[if_pos h]
def cf1{w:CW}{e:Int}(h:w.bad≠0):w.fail e=w:=by unfold CW.fail;rw[if_neg h]
def lE(w:CW)(e:Int):∀(H:List Ob) (i:Nat),H[i]?=some (.cells (cCw w) 175)->HC prog 153 (.ptr i 0::[i64 e]) H (.tup []) (H.set i (.cells (cCw (w.fail e)) 175)):=by
 refine zM func153 fun B=>?_
 refine zu5 ?_
 refine Wi rfl (fun hi1=>?_) (fun hi1=>?_)
 ·have h0:w.bad=0:=by simpa using hi1
  refine aa rfl ?_
  refine zs5 ?_
  refine aS rfl rfl ?_ ?_
  ·rfl
  (rw[cf0 h0];rfl)
 have h0:w.bad≠0:=by simpa using hi1
 refine Wj<|aS rfl rfl ?_ ?_
 ·rfl
 (rw[cf1 h0];rfl)
def lT(v:VVm)(n:Int):VVm×Int:=({v with mem:=(bW v.mem v.here n).1,here:=(bW v.mem v.here n).2.1},(bW v.mem v.here n).2.2)
def vU(v:VVm)(n:Int)(hm:cy v.mem)(hh:fG v.mem v.here):af prog 99 [eVm v,i64 n] (tVm (lT v n)):=by
 refine zY func99 fun B=>?_
 refine zu3 ?_
 refine zp5 ?_
 refine zc rfl func127 ((B2 v.mem v.here n hm hh) _) ?_
 refine zy5 ?_
 refine zs3 ?_
 refine zp5 ?_
 refine zs1 ?_
 refine zu4 ?_
 refine zR ?_
 rfl
def gi(w:CW)(n:Int):CW:=if w.bad=0 then {w with v:=(lT w.v n).1,bad:=(lT w.v n).2} else w
def QM{w:CW}{n:Int}(h:w.bad=0):gi w n={w with v:=(lT w.v n).1,bad:=(lT w.v n).2}:=by unfold gi;rw[if_pos h]
def Yf{w:CW}{n:Int}(h:w.bad≠0):gi w n=w:=by unfold gi;rw[if_neg h]
def qS(w:CW)(n:Int)(hm:cy w.v.mem)(hh:fG w.v.mem w.v.here):∀(H:List Ob) (i:Nat),H[i]?=some (.cells (cCw w) 175)->HC prog 105 (.ptr i 0::[i64 n]) H (i64 w.v.here) (H.set i (.cells (cCw (gi w n)) 175)):=by
 refine zM func105 fun B=>?_
 refine zu1 ?_
 refine zp5 ?_
 refine zs1 ?_
 refine Ws<|zu5 ?_
 refine Wi rfl (fun hi1=>?_) (fun hi1=>?_)
 ·have h0:w.bad=0:=by simpa using hi1
  refine zp5 ?_
  refine zc rfl func99 ((vU w.v n hm hh) _) ?_
  refine zy5 ?_
  refine zs1 ?_
  refine zu5 ?_
  refine aa rfl ?_
  refine zy2 ?_
  refine zc rfl func153 ((lE {w with v:=(lT w.v n).1} (lT w.v n).2) _ _ rfl) ?_
  refine Wn<|zu2 ?_
  refine Wq<|aP rfl rfl ?_ ?_
  ·rfl
  (rw[QM h0,cf0 (by exact h0)];rfl)
 have h0:w.bad≠0:=by simpa using hi1
 refine Wj<|zu2 ?_
 refine Wq<|aP rfl rfl ?_ ?_
 ·rfl
 (rw[Yf h0];rfl)
def ma(name:Str):Int:=32+8*tf aq name aq.length 0
def ce(w:CW)(name:Str):CW:=gi w (ma name)
def mO(w:CW)(name:Str)(hm:cy w.v.mem)(hh:fG w.v.mem w.v.here):∀(H:List Ob) (i:Nat),H[i]?=some (.cells (cCw w) 175)->HC prog 104 (.ptr i 0::[str name]) H (.tup []) (H.set i (.cells (cCw (ce w name)) 175)):=by
 have hn:=lf
 have hx:=yx aq name aq.length 0 (by rw[hn];omega)
 have w1:IntKind.i64.wrap (32+IntKind.i64.wrap (8*tf aq name aq.length 0))=ma name:=by unfold ma;rw[gq (n:=8*_) (by omega) (by omega),gq (by omega) (by omega)]
 refine zM func104 fun B=>?_
 refine aa rfl ?_
 refine z1 ?_
 refine zc rfl func98 ((ny) _) ?_
 refine z1 ?_
 refine zc rfl func113 ((sZ aq name (by rw[hn];omega)) _) ?_
 refine zy2 ?_
 refine Wa 9 rfl (zI9 w1) ?_
 refine zc rfl func105 ((qS w (ma name) hm hh) _ _ rfl) ?_
 refine Wn<|aS rfl rfl ?_ ?_
 ·rfl
 rfl
def gV(w:CW)(a:Int):CW:=if w.bad=0 then {w with v:={w.v with mem:=(aH w.v.mem a w.v.here).1},bad:=(aH w.v.mem a w.v.here).2} else w
def ju{w:CW}{a:Int}(h:w.bad=0):gV w a={w with v:={w.v with mem:=(aH w.v.mem a w.v.here).1},bad:=(aH w.v.mem a w.v.here).2}:=by unfold gV;rw[if_pos h]
def jx{w:CW}{a:Int}(h:w.bad≠0):gV w a=w:=by unfold gV;rw[if_neg h]
def yd(w:CW)(a:Int)(hm:cy w.v.mem)(ha:ab a):∀(H:List Ob) (i:Nat),H[i]?=some (.cells (cCw w) 175)->HC prog 266 (.ptr i 0::[i64 a]) H (.tup []) (H.set i (.cells (cCw (gV w a)) 175)):=by
 refine zM func266 fun B=>?_
 refine zu5 ?_
 refine Wi rfl (fun hi1=>?_) (fun hi1=>?_)
 ·have h0:w.bad=0:=by simpa using hi1
  refine Ws<|am [0,0,0,0,1,0,0,0,0,0,1,0,0,0,0,2,3,0] [0,1,2,3,4,5,6,7,8,9,10,11,12,13,14,15,16,17] mG rfl (by kernel_rfl) ?_
  iterate 4 refine z3 ?_
  refine z5 ?_
  iterate 5 refine z3 ?_
  refine z5 ?_
  refine Xc rfl rfl rfl rfl (fun _=>dC rfl func92 rfl rfl ((jm w.v.mem a w.v.here hm ha) _)) ?_
  iterate 3 refine z3 ?_
  refine mj tG rfl rfl rfl rfl rfl trivial rfl ?_
  refine ct tG rfl rfl rfl rfl rfl trivial ?_
  refine z3 ?_
  refine ap ?_
  refine zp5 ?_
  refine zs1 ?_
  refine aa rfl ?_
  refine zy2 ?_
  refine zc rfl func153 ((lE {w with v:={w.v with mem:=(aH w.v.mem a w.v.here).1}} (aH w.v.mem a w.v.here).2) _ _ rfl) ?_
  refine Wn<|aS rfl rfl ?_ ?_
  ·rfl
  (rw[ju h0,cf0 (by exact h0)];rfl)
 have h0:w.bad≠0:=by simpa using hi1
 refine Wj<|aS rfl rfl ?_ ?_
 ·rfl
 (rw[jx h0];rfl)
def Sd(l:List VCf)(hl:l.length<=1000000):af prog 356 [sq cCf l] (sqc cCf l):=by
 refine bv tG (rs:=[.tmp 2]) func356 rfl rfl rfl (by(simp;done)) (by exact kQ (fun x=>by simp) _) (fun B=>?_)
 refine zu1 ?_
 refine zp5 ?_
 refine z2 ?_ (q:=(by(simp_all;done)))
 refine Wa 8 rfl (cF cCf 3 (fun _=>rfl) (by omega)) ?_
 refine zs1 ?_
 refine Wq ?_
 exact nE rfl (by simp[sqc];rfl)
def io(w:CW)(c:VCf):CW:=if 32<=w.l.length then w.fail (-22)else {w with l:=w.l++[c]}
def qv(w:CW)(c:VCf)(hl:w.l.length<=1000):∀(H:List Ob) (i:Nat),H[i]?=some (.cells (cCw w) 175)->HC prog 264 (.ptr i 0::[.agg (cCf c)]) H (.tup []) (H.set i (.cells (cCw (io w c)) 175)):=by
 refine zM func264 fun B=>?_
 refine zu1 ?_
 refine Ws<|zp5 ?_
 refine zs1 ?_
 refine Wi rfl (fun hi1=>?_) (fun hi1=>?_)
 ·have q:32<=w.l.length:=by have:=oT hi1;omega
  refine zp1 ?_
  refine zc rfl func153 ((lE w (-22)) _ _ rfl) ?_
  refine Wn<|Wq<|aP rfl rfl ?_ ?_
  ·rfl
  (rw[io,if_pos q];rfl)
 have q:¬32<=w.l.length:=by have:=oF hi1;omega
 refine Wj<|am [0,0,0,0,1,0,1,0,0,0,0,3] [0,1,2,3,4,5,6,7,8,9,10,11] mG rfl (by kernel_rfl) ?_
 iterate 4 refine z3 ?_
 refine z5 ?_
 refine Xc rfl rfl rfl rfl (fun _=>dC rfl func356 rfl rfl ((Sd w.l (by omega)) _)) ?_
 refine z5 ?_
 refine z3 ?_
 refine Xa 19 rfl ((show _=PV.seq (List.length [c]) (List.flatMap cCf [c]) .clip from rfl)) ?_
 refine fN rfl rfl rfl rfl (fun _=>cg (lO tG rfl) rfl (lO tG rfl) (lO tG rfl) rfl rfl (by exact⟨_,rfl⟩) (by exact⟨rfl,rfl,al _ 3 (fun _=>rfl) _,bi _ (fun _=>rfl) _⟩) (by exact al _ 3 (fun _=>rfl) _) (by((simp_all;omega))) (by((simp_all;omega))) (by exact fp (bo (fun x=>by simp) _) (bo (fun x=>by simp) _))) ?_
 refine Xa 20 rfl (bT cCf) ?_
 iterate 2 refine z3 ?_
 refine ct tG rfl rfl rfl rfl rfl trivial ?_
 refine ap ?_
 refine aS rfl rfl ?_ ?_
 ·rfl
 (rw[io,if_neg q];rfl)
def aZ(w:CW)(kind:Int):CW×VCf :=
 if w.l.length=0\/(w.l.getD (w.l.length-1) zCf).kind≠kind then(w.fail (-22),zCf)else({w with l:=w.l.take (w.l.length-1)},w.l.getD (w.l.length-1) zCf)
def nC(w:CW)(kind:Int)(hl:w.l.length<=1000):∀(H:List Ob) (i:Nat),H[i]?=some (.cells (cCw w) 175)->HC prog 265 (.ptr i 0::[i64 kind]) H (.agg (cCf (aZ w kind).2)) (H.set i (.cells (cCw (aZ w kind).1) 175)):=by
 have w1:w.l.length≠0->IntKind.i64.wrap ((w.l.length:Int)-1)=((w.l.length-1:Nat):Int):=fun h=>by rw[gq (by omega) (by omega)];omega
 refine zM func265 fun B=>?_
 refine zu1 ?_
 refine zp5 ?_
 refine zs1 ?_
 refine Ws<|zp3 ?_
 refine Wb 14 rfl (fun hg1=>?_) (fun hg1=>?_)
 ·have h0:w.l.length=0:=by have h:(w.l.length:Int)=0:=(by simpa using hg1);omega
  have q:w.l.length=0\/(w.l.getD (w.l.length-1) zCf).kind≠kind:=.inl h0
  iterate 11 refine z6 ?_
  refine zs1 ?_
  refine Wt rfl rfl ?_
  refine zp1 ?_
  refine zc rfl func153 ((lE w (-22)) _ _ rfl) ?_
  refine Wn<|zu2 ?_
  refine Wq<|aP rfl rfl ?_ ?_
  ·(rw[aZ,if_pos q];rfl)
  (rw[aZ,if_pos q];rfl)
 have h0:w.l.length≠0:=by have h:¬(w.l.length:Int)=0:=(by simpa using hg1);omega
 have w2:=w1 h0
 refine zy5 ?_
 refine z1 ?_
 refine Wa 20 rfl (zI9 w2) ?_
 refine Wv tG rfl rfl rfl (by omega) (iN cCf 3 (fun _=>rfl) zCf (by omega)) ?_
 refine zs5 ?_
 refine Wi rfl (fun hi1=>?_) (fun hi1=>?_)
 ·have q:w.l.length=0\/(w.l.getD (w.l.length-1) zCf).kind≠kind:=.inr (by simpa using hi1)
  refine zp1 ?_
  refine zc rfl func153 ((lE w (-22)) _ _ rfl) ?_
  refine Wn<|zu2 ?_
  refine Wq<|aP rfl rfl ?_ ?_
  ·(rw[aZ,if_pos q];rfl)
  (rw[aZ,if_pos q];rfl)
 have q:¬(w.l.length=0\/(w.l.getD (w.l.length-1) zCf).kind≠kind):=by rintro(h|h);exact h0 h;exact h (by simpa using hi1)
 refine Wj<|zp5 ?_
 refine z1 ?_
 refine Wa 35 rfl (zI9 w2) ?_
 refine Wv tG rfl rfl rfl (by omega) (iN cCf 3 (fun _=>rfl) zCf (by omega)) ?_
 refine zs3 ?_
 refine zp5 ?_
 refine zy2 ?_
 refine Wa 44 rfl (zI9 w2) ?_
 refine z2 ?_ (q:=(by(simp_all;done)))
 refine Wa 45 rfl (cF cCf 3 (fun _=>rfl) (by omega)) ?_
 refine zs3 ?_
 refine zu2 ?_
 refine Wq<|aP rfl rfl ?_ ?_
 ·(rw[aZ,if_neg q];rfl)
 (rw[aZ,if_neg q,Int.toNat_natCast];rfl)
def nS(w:CW)(v:VVm)(l:List VCf):VVm×List VCf×Int:=if w.bad≠0 then(v,l,w.bad)else(w.v,w.l,0)
def vE(w:CW)(v:VVm)(l:List VCf):∀(H:List Ob) (i:Nat),H[i]?=some (.cells (cCw w) 175)->HC prog 106 (.ptr i 0::[eVm v,sq cCf l]) H (.tup [eVm (nS w v l).1,sq cCf (nS w v l).2.1,i64 (nS w v l).2.2]) (H.set i (.cells (cCw w) 175)):=by
 refine zM func106 fun B=>?_
 refine zu4 ?_
 refine Ws<|zu5 ?_
 refine Wi rfl (fun hi1=>?_) (fun hi1=>?_)
 ·have q:w.bad≠0:=by simpa using hi1
  refine Ws<|am [6,0,0,0,0,4,9,0,0] [0,1,2,3,4,5,6,7,8] mG rfl (by kernel_rfl) ?_
  refine zU 1 ?_
  iterate 4 refine z3 ?_
  refine zU 0 ?_
  refine dK 2 tG rfl rfl rfl rfl rfl trivial rfl ?_
  iterate 2 refine z3 ?_
  refine ap ?_
  refine Wq<|aP rfl rfl ?_ ?_
  ·(rw[nS,if_pos q];rfl)
  rfl
 have q:¬w.bad≠0:=by simpa using hi1
 refine Wj<|Ws<|am [0,0,0,4,0,0,0,4,9,0,0] [0,1,2,3,4,5,6,7,8,9,10] mG rfl (by kernel_rfl) ?_
 iterate 3 refine z3 ?_
 refine zU 0 ?_
 iterate 3 refine z3 ?_
 refine zU 0 ?_
 refine dK 2 tG rfl rfl rfl rfl rfl trivial rfl ?_
 iterate 2 refine z3 ?_
 refine ap ?_
 refine Wq<|aP rfl rfl ?_ ?_
 ·(rw[nS,if_neg q];rfl)
 rfl
def RP(w:World)(size:Nat)(sl:Value)(n:Nat)(xs:List Value):Prop :=
 xs.length=n*size/\∃(a:Option Addr) (cap:Nat),sl=.slice a n cap/\(a=none->n=0/\cap=0)/\n<=cap/\∀b,a=some b->∀(j:Nat) (u:Value),xs[j]?=some u->w.cell? (b.add j)=some u
def vb(w:World)(sl:Value)(xs:List Int):Prop:=RP w 1 sl xs.length (xs.map (Value.int .u8))/\∀x∈xs,0<=x/\x<256
def G4{w w':World}{size n:Nat}{sl:Value}{xs:List Value}(h:RP w size sl n xs)(hb:Below w.heap.size w w'):RP w' size sl n xs:=by
 obtain⟨hl,a,cap,rfl,hn,hc,hx⟩:=h
 refine⟨hl,a,cap,rfl,hn,hc,fun b hb' j u hj=>?_⟩
 have h1:=hx b hb' j u hj
 rw[hb.cell (World.block_lt_of_cell? w (b.add j) h1)]
 exact h1
def Bf{w w':World}{sl:Value}{xs:List Int}(h:vb w sl xs)(hb:Below w.heap.size w w'):vb w' sl xs:=⟨G4 h.1 hb,h.2⟩
abbrev Y6:=List Int×Bool
def ap6(w:World)(v:Value)(p:Y6):Prop:=∃sl,v=.agg #[sl,.bool p.2]/\vb w sl p.1
def PP(w:World)(sl:Value)(xs:List Int)(h:vb w sl xs)(hl:xs.length<=140737488355328):
  Calls prog 382 #[sl] w fun e w'=>∃v',e=.returned v'/\w'.ownsRow w.heap.size 5 1 v' xs.length (xs.map (Value.int .u8))/\Below w.heap.size w w':=by
 obtain⟨⟨hlen,a,cap,rfl,hn,hc,hx⟩,_⟩:=h
 match a with
 | none =>
  obtain⟨h0,rfl⟩:=hn rfl
  refine(AnyE.slices_Clone_nil Tryz.lClone xs.length 0 w).mono ?_
  rintro e w' ⟨rfl,rfl⟩
  have hx0:xs=[]:=List.eq_nil_of_length_eq_zero h0
  subst hx0
  exact⟨_,rfl,⟨rfl,.inl ⟨rfl,rfl⟩⟩,Below.refl _ _⟩
 | some ad =>
  obtain⟨i0,hi,hz0,hz1,hz2⟩:=info_parts X1
  have q22:∀(w:World) (a:Option Addr) (n c n' c':Nat),(binOp .eql 22 (.slice a n c) (.slice none n' c')).run prog w=.ok (.bool a.isNone) w:=fun w a n c n' c'=>Lib.run_eql_slice_nil w _ _ a n c n' c' underlying22
  have HX:=Lib.hid (hx ad rfl)
  have HL:=Lib.hid hlen
  clear hx hlen
  go_enter func382,ntmps382
  go_wp2_with (at_builtin;refine wpList_append_own _ rfl _ _ 22 rfl w.heap.size 5 i0 (.int .u8 0) 1 1 underlying22 hi hz0 hz1 hz2 rfl (by decide) _ _ _ rfl (World.ownsRow_made w #[] 0 (Nat.le_refl _) (Nat.zero_le _) (by simp)) ad xs.length cap (xs.map (Value.int .u8)) rfl ?qc1 ?qc2 ?qc3 ?qc4 ?qc5 ?qc6 ?_)
  case qc1=>exact HL.out
  case qc2=>intro j u hj;exact Lib.cell?_alloc_some _ (HX.out j u hj)
  case qc3=>simp[Value.oneCell']
  case qc4=>unfold maxLen;omega
  case qc5=>omega
  case qc6=>simp
  intro v' w1 hown hgrow _
  go_wp2
  go_ret
  refine⟨v',rfl,by simpa using hown,?_⟩
  exact((Below.refl _ w).alloc (Nat.le_refl _) _).grown hgrow (by simp) (by intro k hk;simp[Value.ownBlock]at hk;omega)
def XW(p:Y6):List UInt8×Int:=if p.2 then((p.1.map (fun n=>UInt8.ofNat n.toNat)).reverse,0)else([],-17)
def S6(xs:List Int):strOfNums xs.reverse=⟨((xs.map (fun n=>UInt8.ofNat n.toNat)).reverse).toArray⟩:=by unfold strOfNums;rw[List.map_reverse]
def ao4(v:Value)(p:Y6)(w:World)(h:ap6 w v p)(hl:p.1.length<=140737488355328):Calls prog 345 #[v] w fun e w'=>e=.returned (.tuple #[.string ⟨(XW p).1.toArray⟩,.int .i64 (XW p).2])/\Below w.heap.size w w':=by
 obtain⟨sl,rfl,hs⟩:=h
 obtain⟨xs,on⟩:=p
 have b0:=fun o=>(Below.refl w.heap.size w).alloc (Nat.le_refl _) o
 cases on with
 | false =>
  go_enter func345,ntmps345
  go_wp2
  go_ret2
  exact⟨rfl,b0 _⟩
 | true =>
  have hC:=fun o=>PP (w.alloc o) sl xs (Bf hs (b0 o)) hl
  have HC:=Lib.hid hC
  have HL:=Lib.hid hl
  clear hC hs hl
  go_enter func345,ntmps345
  go_wp2_with fail
  refine(HC.out _).mono ?_
  rintro e w1 ⟨v',rfl,hown,hb1⟩
  have c1:=(b0 _).trans (hb1.mono (b0 _).size)
  have hown1:=Qa hown (b0 _).size
  have HR:=Lib.hid (L5 w1 _ v' _ xs hown1 (Nat.le_trans HL.out (by omega)))
  clear hown hown1 hb1 b0
  go_wp2_with fail
  refine HR.out.mono ?_
  rintro e w2 ⟨rfl,hown2,hb2⟩
  have c2:=hb2 w c1
  have hcv:=Fc hown2
  rw[S6]at hcv
  clear hown2 hb2 c1 HR
  go_wp2
  go_ret2
  exact⟨rfl,c2⟩
def Md{c:Cx}{l:List UInt8}{v:Value}(h:Rep c (sq ar l) v):vb c.w v (l.map fun b=>(b.toNat:Int)):=by
 unfold sq at h
 obtain⟨ad,cap,vs,hv,hle,hnil,hrl,hlies,hk⟩:=gc h
 have hvs:vs=(l.map fun b=>(b.toNat:Int)).map (Value.int .u8):=by
  rw[j7]at hrl
  have:((l.map fun b=>(b.toNat:Int)).map j0)=((l.map fun b=>(b.toNat:Int)).map (Value.int .u8)).map PV.val:=by simp only[List.map_map];rfl
  rw[this]at hrl
  exact so hrl
 refine⟨⟨by simp,ad,cap,by rw[hv];simp,(fun h=>by have:=hnil h;exact⟨by simpa using this.1,this.2.1⟩),by simpa using hle,fun b hb j u hj=>?_⟩,fun x hx=>?_⟩
 ·rw[<-hvs]at hj
  have hL:=(hlies b hb).resolve_right (by rintro⟨_,h3⟩;rw[h3]at hj;simp at hj)
  rw[gC hL,Addr.add_lit]
  exact(hL.2 j u hj).1
 obtain⟨b,_,rfl⟩:=List.mem_map.1 hx
 have:=b.toNat_lt
 omega
def UB(p:dL)(hp:p.b.length<=1000000):af prog 345 [xK p] (nW (lg p)):=by
 intro H B σ w vs s hr
 match vs,hr with
 | [],hr=>unfold ay at hr;obtain⟨u,us,h1,_⟩:=hr;cases h1
 | v::v2::vs,hr=>rw[ai]at hr;have:=ay.length hr.2;simp at this
 | [v],hr =>
 rw[ai]at hr
 have h1:=hr.1
 unfold xK Rep at h1
 obtain⟨us,rfl,h2⟩:=h1
 match us,h2 with
 | [],h2=>unfold tV ay at h2;obtain⟨u,us,h1,_⟩:=h2;cases h1
 | [a],h2=>have:=ay.length h2;simp[tV]at this
 | a::b::d::us,h2=>have:=ay.length h2;simp[tV]at this
 | [a,b],h2 =>
 unfold tV at h2
 rw[ai,ai]at h2
 have h3:=Md h2.1
 have h4:=h2.2.1
 unfold boo Rep at h4
 subst h4
 have hw:=ao4 (.agg #[a,.bool p.on]) (List.map (fun b:UInt8=>(b.toNat:Int)) p.b,p.on) w ⟨a,rfl,h3⟩ (by simp;omega)
 refine Calls.mono hw ?_
 rintro e w' ⟨rfl,hb⟩
 obtain⟨s',st⟩:=gu s (be.of_below hb)
 refine⟨_,σ,rfl,?_,s',st⟩
 have e1:XW (List.map (fun b:UInt8=>(b.toNat:Int)) p.b,p.on)=lg p:=by
  unfold XW lg
  cases p.on with
  | true=>simp[List.map_map,Function.comp_def]
  | false=>rfl
 rw[e1]
 unfold nW gY Rep
 exact⟨[_,_],rfl,ai.2 ⟨by unfold str;exact av _ _,ai.2 ⟨by unfold i64;exact av _ _,aF.2 rfl⟩⟩⟩
def FJ{p:dL}{c:Int}(h:(gm p c).2=0):(gm p c).1.b.length=p.b.length+1/\p.b.length<130:=by
 unfold gm at h ⊢
 split at h
 ·rename_i hc;rw[if_pos hc];simp[hc.2]
 cases h
def uz{q:dL}{lo hi base:Int}(h:(aN q lo hi base).2.2.2=0):(aN q lo hi base).1.b.length=q.b.length+1/\q.b.length<130:=by
 unfold aN at h ⊢
 split at h
 ·cases h
 rename_i hb
 rw[if_neg hb]
 split at h
 ·rename_i h0
  rw[if_pos h0]
  exact FJ h0
 rename_i h0;exact absurd h h0
def mT(q:dL)(lo hi base:Int):qW q lo hi base=if (aN q lo hi base).2.2.2≠0 then(q,(aN q lo hi base).2.2.2)else if (aN q lo hi base).2.1=0/\(aN q lo hi base).2.2.1=0 then((aN q lo hi base).1,0)else qW (aN q lo hi base).1 (aN q lo hi base).2.1 (aN q lo hi base).2.2.1 base:=by
 by_cases h:(aN q lo hi base).2.2.2=0
 ·obtain⟨h1,h2⟩:=uz h
  unfold qW
  rw[h1,show 131-q.b.length=(131-(q.b.length+1))+1 by omega]
  rfl
 rw[if_pos h]
 unfold qW
 cases hn:131-q.b.length with
 | zero=>rfl
 | succ n=>unfold qK;rw[if_pos h]
def OI:List PV:=[.seq 0 [] .clip,.val (.bool false)]
@[simp] theorem az5 {n : Nat} : qe n OI := by unfold OI; exact ⟨JS, OE (.bool false), trivial⟩
def TF(p q:dL)(lo hi base:Int)(hq:q.b.length<=1000000):
  HC prog 381 [.ptr 5 0,.ptr 1 0,.ptr 2 0,.ptr 3 0] [.cells (tV p) 33,.cells [i64 lo] 3,.cells [i64 hi] 3,.cells [i64 base] 3,.cells OI 33,.cells (tV q) 33] (i64 (aN q lo hi base).2.2.2)
   [.cells (tV p) 33,.cells [i64 (aN q lo hi base).2.1] 3,.cells [i64 (aN q lo hi base).2.2.1] 3,.cells [i64 base] 3,.cells OI 33,.cells (tV (aN q lo hi base).1) 33,.cells (tV (aN q lo hi base).1) 33]:=by
 refine lZ tG (rs:=[.tmp 4]) func381 rfl rfl rfl (fun B=>?_)
 refine zu1 ?_
 refine zp4 ?_
 refine zc rfl func339 ((Cr q lo hi base hq) _) ?_
 refine zy5 ?_
 refine zs5 ?_
 refine zp5 ?_
 refine zs1 ?_
 refine zu2 ?_
 refine Wq<|zH rfl ?_ ?_
 ·rfl
 rfl
def Xm(p:dL)(lo hi base:Int)(hp:p.b.length<=1000000):af prog 341 [xK p,i64 lo,i64 hi,i64 base] (Mk (tO p lo hi base)):=by
 refine zY func341 fun B=>?_
 refine zp5 ?_
 refine zs1 ?_
 refine zu3 ?_
 refine zu2 ?_
 refine Wl ?_
 show W _ _ _ _ _ _ _
 refine cQ (fun(v:dL×Int×Int)=>[(4,.ptr 0 0),(5,.ptr 1 0),(6,.ptr 2 0),(8,.ptr 4 0),(10,.ptr 5 0),(11,.fn (.func 381) [] [.ptr 5 0,.ptr 1 0,.ptr 2 0,.ptr 3 0])]) (fun(v:dL×Int×Int)=>[.cells (tV p) 33,.cells [i64 v.2.1] 3,.cells [i64 v.2.2] 3,.cells [i64 base] 3,.cells OI 33,.cells (tV v.1) 33]) (fun(v:dL×Int×Int)=>[]) (fun(v:dL×Int×Int)=>v.1.b.length<=1000000/\tO p lo hi base=OC p (qW v.1 v.2.1 v.2.2 base)) (fun(v:dL×Int×Int)=>131-v.1.b.length) ((p,lo,hi)) (by exact⟨hp,rfl⟩) [] ?_ ?_
 ·exact cV
 intro v hv
 refine Wl<|Ws<|zp1 ?_
 refine Wc rfl rfl (dQ rfl rfl func381 rfl rfl (TF p v.1 v.2.1 v.2.2 base hv.1)) ?_
 refine zs1 ?_
 refine zu2 ?_
 refine Wi rfl (fun hi1=>?_) (fun hi1=>?_)
 ·have h0:(aN v.1 v.2.1 v.2.2 base).2.2.2≠0:=by simpa using hi1
  refine zu4 ?_
  refine zR ?_
  rw[hv.2,mT,if_pos h0,OC,if_neg h0];rfl
 have h0:(aN v.1 v.2.1 v.2.2 base).2.2.2=0:=by simpa using hi1
 have hl:=uz h0
 refine Wj<|zp3 ?_
 refine Wb 23 rfl (fun hg1=>?_) (fun hg1=>?_)
 ·have h1:(aN v.1 v.2.1 v.2.2 base).2.1=0:=by simpa using hg1
  refine zs3 ?_
  refine Wi rfl (fun hi2=>?_) (fun hi2=>?_)
  ·have h2:(aN v.1 v.2.1 v.2.2 base).2.1=0/\(aN v.1 v.2.1 v.2.2 base).2.2.1=0:=by(try simp only[dnL]at *);exact⟨h1,hi2⟩
   refine zu3 ?_
   refine zR ?_
   rw[hv.2,mT,if_neg (by rw[h0];simp),if_pos h2,OC,if_pos rfl];rfl
  have h2:¬((aN v.1 v.2.1 v.2.2 base).2.1=0/\(aN v.1 v.2.1 v.2.2 base).2.2.1=0):=by rintro⟨q1,q2⟩;(try simp only[dnL]at *);exact hi2 q2
  refine Wj ?_
  exact⟨((aN v.1 v.2.1 v.2.2 base).1,(aN v.1 v.2.1 v.2.2 base).2.1,(aN v.1 v.2.1 v.2.2 base).2.2.1),[],(by exact⟨by show(aN v.1 v.2.1 v.2.2 base).1.b.length<=_;omega,by rw[hv.2,mT,if_neg (by rw[h0];simp),if_neg (by exact h2)]⟩),(by show 131-(aN v.1 v.2.1 v.2.2 base).1.b.length<_;omega),cV⟩
 have h1:¬(aN v.1 v.2.1 v.2.2 base).2.1=0:=by simpa using hg1
 iterate 2 refine z6 ?_
 refine zs1 ?_
 refine Wf rfl rfl ?_
 refine Wj ?_
 exact⟨((aN v.1 v.2.1 v.2.2 base).1,(aN v.1 v.2.1 v.2.2 base).2.1,(aN v.1 v.2.1 v.2.2 base).2.2.1),[],(by exact⟨by show(aN v.1 v.2.1 v.2.2 base).1.b.length<=_;omega,by rw[hv.2,mT,if_neg (by rw[h0];simp),if_neg (by(rintro⟨q1,q2⟩;exact h1 q1))]⟩),(by show 131-(aN v.1 v.2.1 v.2.2 base).1.b.length<_;omega),cV⟩
@[simp] theorem az6 {f : Fn} {a b : List PV} : aQ (.fn f a b) ↔ aG a /\ aG b := by rw [aQ]
@[simp] theorem ar5 {a : List PV} : aQ (.row a) ↔ aG a := by rw [aQ]
abbrev fnP(g:FuncId)(cap:List PV):PV:=.fn (.func g) [] cap
abbrev bm(k:Int)(f:FuncId)(cap:List PV):PV:=.agg [i64 k,fnP f cap]
abbrev tl(g:FuncId)(args:List PV)(res:PV):Prop:=∀H,nD prog g args H res H
def lx(l:List Int):af prog 245 [sq au l] (tLv (l,0)):=by
 refine zY func245 fun B=>?_
 refine zu2 ?_
 refine zu3 ?_
 refine zR ?_
 rfl
def Ct(b:Bool):af prog 292 [boo b] (i64 (eV b)):=by
 refine zY func292 fun B=>?_
 refine zu1 ?_
 refine Ws<|zu1 ?_
 refine Wi rfl (fun hi1=>?_) (fun hi1=>?_)
 ·refine zu1 ?_
  refine zR ?_
  rw[hi1];rfl
 refine Wj<|zu1 ?_
 refine zR ?_
 rw[hi1];rfl
def jq(k:Int)(g:FuncId)(cap:List PV)(hc:aG cap):af prog 240 [i64 k,fnP g cap] (bm k 271 [.row [fnP g cap]]):=by
 refine bv tG (rs:=[.cell 4 267]) func240 rfl rfl rfl (by simp[hc]) (by simp[hc]) (fun B=>?_)
 refine zp1 ?_
 refine bQ 3 _ rfl rfl rfl ?_
 refine zs1 ?_
 refine zu4 ?_
 refine zR ?_
 rfl
def lq(g:FuncId)(cap:List PV)(v:VVm)(x:List Int)(r:List Int×Int)(hc:aG cap)(hg:tl g ([sq au x]++cap) (tLv r)):
  ∀(H:List Ob) (i:Nat),H[i]?=some (.cells (cVm v) 37)->HC prog 271 (.ptr i 0::[sq au x,.row [fnP g cap]]) H (tLv r) (H.set i (.cells (cVm v) 37)):=by
 refine jb tG (rs:=[.tmp 5,.tmp 6]) func271 rfl rfl rfl (by simp[hc]) (by simp[hc]) (by simp[hc]) (by simp[hc]) (fun B=>?_)
 refine zu2 ?_
 refine zp2 ?_
 refine Wc rfl rfl (eQ rfl rfl (hg _)) ?_
 refine zs4 ?_
 refine Wq<|aP rfl rfl ?_ ?_
 ·rfl
 rfl
def rW(g:FuncId)(cap:List PV)(hc:aG cap):af prog 313 [fnP g cap] (bm 0 370 [.row [fnP g cap]]):=by
 refine bv tG (rs:=[.cell 2 267]) func313 rfl rfl rfl (by simp[hc]) (by simp[hc]) (fun B=>?_)
 refine zp1 ?_
 refine bQ 1 _ rfl rfl rfl ?_
 refine zs1 ?_
 refine zu3 ?_
 refine zR ?_
 rfl
def mV(g:FuncId)(cap:List PV)(v:VVm)(x:List Int)(n:Int)(hc:aG cap)(hg:tl g ([eVm v]++cap) (i64 n)):
  ∀(H:List Ob) (i:Nat),H[i]?=some (.cells (cVm v) 37)->HC prog 370 (.ptr i 0::[sq au x,.row [fnP g cap]]) H (tLv ([n],0)) (H.set i (.cells (cVm v) 37)):=by
 refine jb tG (rs:=[.tmp 5,.tmp 6]) func370 rfl rfl rfl (by simp[hc]) (by simp[hc]) (by simp[hc]) (by simp[hc]) (fun B=>?_)
 refine zu2 ?_
 refine Ws<|am [1,0,0,1,0,0,0,0,0,0,0] [0,1,2,3,4,5,6,7,8,9,10] mG rfl (by kernel_rfl) ?_
 refine z5 ?_
 iterate 2 refine z3 ?_
 refine z5 ?_
 refine Xc rfl rfl rfl rfl (fun _=>eQ rfl rfl (hg _)) ?_
 refine z3 ?_
 refine Xa 12 rfl (bsL au [_] rfl rfl) ?_
 refine Xc rfl rfl rfl rfl (fun _=>dC rfl func245 rfl rfl ((lx [n]) _)) ?_
 iterate 4 refine z3 ?_
 refine ap ?_
 refine Wq<|aP rfl rfl ?_ ?_
 ·rfl
 rfl
def uj(g:FuncId)(cap:List PV)(hc:aG cap):af prog 295 [fnP g cap] (bm 1 367 [.row [fnP g cap]]):=by
 refine bv tG (rs:=[.cell 2 267]) func295 rfl rfl rfl (by simp[hc]) (by simp[hc]) (fun B=>?_)
 refine zp1 ?_
 refine bQ 1 _ rfl rfl rfl ?_
 refine zs1 ?_
 refine zu3 ?_
 refine zR ?_
 rfl
def we(g:FuncId)(cap:List PV)(v:VVm)(x:List Int)(r:Int×Int)(hx:1<=x.length)(hc:aG cap)(hg:tl g ([gH v.mem,i64 (xat x 0)]++cap) (qq r)):
  ∀(H:List Ob) (i:Nat),H[i]?=some (.cells (cVm v) 37)->HC prog 367 (.ptr i 0::[sq au x,.row [fnP g cap]]) H (tLv ([r.1],r.2)) (H.set i (.cells (cVm v) 37)):=by
 refine jb tG (rs:=[.tmp 5,.tmp 6]) func367 rfl rfl rfl (by simp[hc]) (by simp[hc]) (by simp[hc]) (by simp[hc]) (fun B=>?_)
 refine zu2 ?_
 refine Ws<|am [1,0,0,0,1,0,0,1,0,0,0,0,0,0] [0,1,2,3,4,5,6,7,8,9,10,11,12,13] mG rfl (by kernel_rfl) ?_
 refine z5 ?_
 iterate 3 refine z3 ?_
 refine z5 ?_
 refine z3 ?_
 refine z9i ?_
 refine z5 ?_
 refine Xc rfl rfl rfl rfl (fun _=>eQ rfl rfl (hg _)) ?_
 iterate 5 refine z3 ?_
 refine ap ?_
 refine zp2 ?_
 refine Wa 22 rfl (bsL au [_] rfl rfl) ?_
 refine zs3 ?_
 refine Wq<|aP rfl rfl ?_ ?_
 ·rfl
 rfl
def lp(k:Int)(g:FuncId)(cap:List PV)(hc:aG cap):af prog 297 [i64 k,fnP g cap] (bm k 368 [.row [fnP g cap]]):=by
 refine bv tG (rs:=[.cell 4 267]) func297 rfl rfl rfl (by simp[hc]) (by simp[hc]) (fun B=>?_)
 refine zp1 ?_
 refine bQ 3 _ rfl rfl rfl ?_
 refine zs1 ?_
 refine zu4 ?_
 refine zR ?_
 rfl
def na(g:FuncId)(cap:List PV)(v:VVm)(x:List Int)(r:bf×Int)(hc:aG cap)(hg:tl g ([gH v.mem,sq au x]++cap) (tQ r)):
  ∀(H:List Ob) (i:Nat),H[i]?=some (.cells (cVm v) 37)->HC prog 368 (.ptr i 0::[sq au x,.row [fnP g cap]]) H (tLv ([],r.2)) (H.set i (.cells (cVm (r6 v r.1)) 37)):=by
 refine jb tG (rs:=[.tmp 5,.tmp 6]) func368 rfl rfl rfl (by simp[hc]) (by simp[hc]) (by simp[hc]) (by simp[hc]) (fun B=>?_)
 refine zu2 ?_
 refine Ws<|am [1,0,0,0,1,0,0,0,0,0,2,3,0] [0,1,2,3,4,5,6,7,8,9,10,11,12] mG rfl (by kernel_rfl) ?_
 refine z5 ?_
 iterate 3 refine z3 ?_
 refine z5 ?_
 refine z3 ?_
 refine Xc rfl rfl rfl rfl (fun _=>eQ rfl rfl (hg _)) ?_
 iterate 3 refine z3 ?_
 refine mj tG rfl rfl rfl rfl rfl trivial rfl ?_
 refine ct tG rfl rfl rfl rfl rfl trivial ?_
 refine z3 ?_
 refine ap ?_
 refine zu5 ?_
 refine zu3 ?_
 refine Wq<|aP rfl rfl ?_ ?_
 ·rfl
 rfl
def xS(k:Int)(g:FuncId)(cap:List PV)(hc:aG cap):af prog 316 [i64 k,fnP g cap] (bm k 371 [.row [fnP g cap]]):=by
 refine bv tG (rs:=[.cell 4 267]) func316 rfl rfl rfl (by simp[hc]) (by simp[hc]) (fun B=>?_)
 refine zp1 ?_
 refine bQ 3 _ rfl rfl rfl ?_
 refine zs1 ?_
 refine zu4 ?_
 refine zR ?_
 rfl
def Es(g:FuncId)(cap:List PV)(v:VVm)(x:List Int)(r:bf×Int×Int)(hc:aG cap)(hg:tl g ([gH v.mem,i64 v.here,sq au x]++cap) (wL r)):
  ∀(H:List Ob) (i:Nat),H[i]?=some (.cells (cVm v) 37)->HC prog 371 (.ptr i 0::[sq au x,.row [fnP g cap]]) H (tLv ([],r.2.2)) (H.set i (.cells (cVm (ei v r).1) 37)):=by
 refine jb tG (rs:=[.tmp 5,.tmp 6]) func371 rfl rfl rfl (by simp[hc]) (by simp[hc]) (by simp[hc]) (by simp[hc]) (fun B=>?_)
 refine zu2 ?_
 refine Ws<|am [1,0,0,0,1,0,0,0,1,0,0,0,0,0,0,2,3,0,0] [0,1,2,3,4,5,6,7,8,9,10,11,12,13,14,15,16,17,18] mG rfl (by kernel_rfl) ?_
 refine z5 ?_
 iterate 3 refine z3 ?_
 refine z5 ?_
 iterate 3 refine z3 ?_
 refine z5 ?_
 refine z3 ?_
 refine Xc rfl rfl rfl rfl (fun _=>eQ rfl rfl (hg _)) ?_
 iterate 4 refine z3 ?_
 refine mj tG rfl rfl rfl rfl rfl trivial rfl ?_
 refine ct tG rfl rfl rfl rfl rfl trivial ?_
 iterate 2 refine z3 ?_
 refine ap ?_
 refine zp5 ?_
 refine zs5 ?_
 refine zu3 ?_
 refine Wq<|aP rfl rfl ?_ ?_
 ·rfl
 rfl
def vd(k:Int)(g:FuncId)(cap:List PV)(hc:aG cap):af prog 323 [i64 k,fnP g cap] (bm k 372 [.row [fnP g cap]]):=by
 refine bv tG (rs:=[.cell 4 267]) func323 rfl rfl rfl (by simp[hc]) (by simp[hc]) (fun B=>?_)
 refine zp1 ?_
 refine bQ 3 _ rfl rfl rfl ?_
 refine zs1 ?_
 refine zu4 ?_
 refine zR ?_
 rfl
def t8(g:FuncId)(cap:List PV)(v:VVm)(x:List Int)(r:Str×Int)(ho:0<=v.conf.out/\v.conf.out<=1000000)(hl:v.out.length<=1000000)(hr:r.1.length<=140737488355328)(hc:aG cap)(hg:tl g ([eVm v,sq au x]++cap) (nW r)):
  ∀(H:List Ob) (i:Nat),H[i]?=some (.cells (cVm v) 37)->HC prog 372 (.ptr i 0::[sq au x,.row [fnP g cap]]) H (tLv (dm v r).2) (H.set i (.cells (cVm (dm v r).1) 37)):=by
 refine jb tG (rs:=[.tmp 5,.tmp 6]) func372 rfl rfl rfl (by simp[hc]) (by simp[hc]) (by simp[hc]) (by simp[hc]) (fun B=>?_)
 refine zu2 ?_
 refine Ws<|am [1,0,0,1,0,0,0,0,0,0,0] [0,1,2,3,4,5,6,7,8,9,10] mG rfl (by kernel_rfl) ?_
 refine z5 ?_
 iterate 2 refine z3 ?_
 refine z5 ?_
 refine z3 ?_
 refine Xc rfl rfl rfl rfl (fun _=>eQ rfl rfl (hg _)) ?_
 iterate 5 refine z3 ?_
 refine ap ?_
 refine Ws<|zu2 ?_
 refine Wi rfl (fun hi1=>?_) (fun hi1=>?_)
 ·have h0:¬r.2=0:=by simpa using hi1
  refine zu3 ?_
  refine Wq<|aP rfl rfl ?_ ?_
  ·rw[dm,if_neg h0];rfl
  rw[dm,if_neg h0];rfl
 have h0:r.2=0:=by simpa using hi1
 refine Wj<|zp4 ?_
 refine zc rfl func190 ((GW v r.1 ho hl hr) _) ?_
 refine zy5 ?_
 refine zs1 ?_
 refine zu4 ?_
 refine zu3 ?_
 refine Wq<|aP rfl rfl ?_ ?_
 ·rw[dm,if_pos h0];rfl
 rw[dm,if_pos h0];rfl
def wO(v:VVm)(hm:v.mem.b.length<=140737488355328):af prog 325 [eVm v] (i64 (j5 v)):=by
 refine zY func325 fun B=>?_
 refine zu2 ?_
 refine zp2 ?_
 refine zc rfl func39 ((fX v.mem 0 hm (by unfold ab;omega)) _) ?_
 refine zs5 ?_
 refine zu2 ?_
 refine zR ?_
 rfl
def CX(g:FuncId)(cap:List PV)(hc:aG cap):af prog 322 [fnP g cap] (bm 1 372 [.row [fnP 324 [.row [fnP g cap]]]]):=by
 refine bv tG (rs:=[.cell 2 267]) func322 rfl rfl rfl (by simp[hc]) (by simp[hc]) (fun B=>?_)
 refine zp1 ?_
 refine bQ 1 _ rfl rfl rfl ?_
 refine zs1 ?_
 refine zp1 ?_
 refine zc rfl func323 ((vd 1 324 [.row [fnP g cap]] (by simp[hc])) _) ?_
 refine zs1 ?_
 refine zR ?_
 rfl
def E7(g:FuncId)(cap:List PV)(v:VVm)(x:List Int)(r:Str×Int)(hx:1<=x.length)(hm:v.mem.b.length<=140737488355328)(hr:r.1.length<=140737488355328)(hc:aG cap)(hg:tl g ([i64 (xat x 0),i64 (j5 v)]++cap) (nW r)):
  af prog 324 [eVm v,sq au x,.row [fnP g cap]] (nW (rh r)):=by
 refine bv tG (rs:=[.tmp 5,.tmp 6]) func324 rfl rfl rfl (by simp[hc]) (by simp[hc]) (fun B=>?_)
 refine zu3 ?_
 refine Ws<|am [1,0,0,1,1,0,0,0,0,0,0,0] [0,1,2,3,4,5,6,7,8,9,10,11] mG rfl (by kernel_rfl) ?_
 refine z5 ?_
 refine z3 ?_
 refine z9i ?_
 iterate 2 refine z5 ?_
 refine Xc rfl rfl rfl rfl (fun _=>dC rfl func325 rfl rfl ((wO v hm) _)) ?_
 refine Xc rfl rfl rfl rfl (fun _=>eQ rfl rfl (hg _)) ?_
 iterate 5 refine z3 ?_
 refine ap ?_
 refine zp1 ?_
 refine z2 ?_ (q:=(by simp only[cE];((simp_all;omega))))
 refine Wa 20 rfl (jS _ _) ?_
 refine zs3 ?_
 refine zR ?_
 rfl
def LG(s:Str):af prog 326 [str s] (bm 0 372 [.row [fnP 327 [.row [str s]]]]):=by
 refine zY func326 fun B=>?_
 refine zp1 ?_
 refine bQ 1 _ rfl rfl rfl ?_
 refine zs1 ?_
 refine zp1 ?_
 refine zc rfl func323 ((vd 0 327 [.row [str s]] (by simp)) _) ?_
 refine zs1 ?_
 refine zR ?_
 rfl
def PN(s:Str)(v:VVm)(x:List Int):af prog 327 [eVm v,sq au x,.row [str s]] (nW (s,0)):=by
 refine zY func327 fun B=>?_
 refine zu3 ?_
 refine zu3 ?_
 refine zR ?_
 rfl
def RL(g:FuncId)(cap:List PV)(hc:aG cap):af prog 334 [fnP g cap] (bm 1 335 [.row [fnP g cap]]):=by
 refine bv tG (rs:=[.cell 2 267]) func334 rfl rfl rfl (by simp[hc]) (by simp[hc]) (fun B=>?_)
 refine zp1 ?_
 refine bQ 1 _ rfl rfl rfl ?_
 refine zs1 ?_
 refine zu3 ?_
 refine zR ?_
 rfl
def Yz(g:FuncId)(cap:List PV)(v:VVm)(x:List Int)(r:dL×Int)(hx:1<=x.length)(hc:aG cap)(hg:tl g ([xK v.pic,i64 (xat x 0)]++cap) (Mk r)):
  ∀(H:List Ob) (i:Nat),H[i]?=some (.cells (cVm v) 37)->HC prog 335 (.ptr i 0::[sq au x,.row [fnP g cap]]) H (tLv ([],r.2)) (H.set i (.cells (cVm (tp v r.1)) 37)):=by
 refine jb tG (rs:=[.tmp 5,.tmp 6]) func335 rfl rfl rfl (by simp[hc]) (by simp[hc]) (by simp[hc]) (by simp[hc]) (fun B=>?_)
 refine zu2 ?_
 refine Ws<|am [1,0,0,0,1,0,0,1,0,0,0,0,2,3,0] [0,1,2,3,4,5,6,7,8,9,10,11,12,13,14] mG rfl (by kernel_rfl) ?_
 refine z5 ?_
 iterate 3 refine z3 ?_
 refine z5 ?_
 refine z3 ?_
 refine z9i ?_
 refine z5 ?_
 refine Xc rfl rfl rfl rfl (fun _=>eQ rfl rfl (hg _)) ?_
 iterate 3 refine z3 ?_
 refine mj tG rfl rfl rfl rfl rfl trivial rfl ?_
 refine ct tG rfl rfl rfl rfl rfl trivial ?_
 refine z3 ?_
 refine ap ?_
 refine zu5 ?_
 refine zu3 ?_
 refine Wq<|aP rfl rfl ?_ ?_
 ·rfl
 rfl
def tR(v:VVm)(a n:Int)(hm:cy v.mem)(ha:ab a):∀(H:List Ob) (i:Nat),H[i]?=some (.cells (cVm v) 37)->HC prog 311 (.ptr i 0::[i64 a,i64 n]) H (i64 (aH v.mem a n).2) (H.set i (.cells (cVm (r6 v (aH v.mem a n).1)) 37)):=by
 refine zM func311 fun B=>?_
 refine zu1 ?_
 refine zp5 ?_
 refine z1 ?_
 refine zc rfl func92 ((jm v.mem a n hm ha) _) ?_
 refine zy5 ?_
 refine zs1 ?_
 refine zu5 ?_
 refine zu2 ?_
 refine Wq<|aP rfl rfl ?_ ?_
 ·rfl
 rfl
def KN(n:Int):af prog 309 [i64 n] (bm 0 310 [.row [i64 n]]):=by
 refine zY func309 fun B=>?_
 refine zp1 ?_
 refine bQ 1 _ rfl rfl rfl ?_
 refine zs1 ?_
 refine zu3 ?_
 refine zR ?_
 rfl
def Sz(v:VVm)(x:List Int)(n:Int)(hm:cy v.mem):∀(H:List Ob) (i:Nat),H[i]?=some (.cells (cVm v) 37)->HC prog 310 (.ptr i 0::[sq au x,.row [i64 n]]) H (tLv (di v (aH v.mem 0 n)).2) (H.set i (.cells (cVm (di v (aH v.mem 0 n)).1) 37)):=by
 refine zM func310 fun B=>?_
 refine zu2 ?_
 refine zp2 ?_
 refine zc rfl func311 ((tR v 0 n hm (by unfold ab;omega)) _ _ rfl) ?_
 refine zs2 ?_
 refine Wq<|aP rfl rfl ?_ ?_
 ·rfl
 rfl
def oM(n:Int):af prog 312 [i64 n] (bm 0 370 [.row [fnP 314 [.row [i64 n]]]]):=by
 refine zY func312 fun B=>?_
 refine zp1 ?_
 refine bQ 1 _ rfl rfl rfl ?_
 refine zs1 ?_
 refine zp1 ?_
 refine zc rfl func313 ((rW 314 [.row [i64 n]] (by simp)) _) ?_
 refine zs1 ?_
 refine zR ?_
 rfl
def rN(v:VVm)(n:Int):af prog 314 [eVm v,.row [i64 n]] (i64 n):=by
 refine zY func314 fun B=>?_
 refine zu2 ?_
 refine zu2 ?_
 refine zR ?_
 rfl
def w5(v:VVm)(s b:Int)(hm:v.mem.b.length<=140737488355328)(hs:ab s):∀(H:List Ob) (i:Nat),H[i]?=some (.cells (cVm v) 37)->HC prog 353 (.ptr i 0::[i64 s,i64 b]) H (i64 (jW v s b)) (H.set i (.cells (cVm v) 37)):=by
 have hb:ab (W64 (b+8)):=by unfold ab W64;rw[bB];unfold wrap64;omega
 refine zM func353 fun B=>?_
 refine zu1 ?_
 refine zp5 ?_
 refine z1 ?_
 refine zc rfl func39 ((fX v.mem _ hm hb) _) ?_
 refine zs5 ?_
 refine Ws<|zp3 ?_
 refine Wb 21 rfl (fun hg1=>?_) (fun hg1=>?_)
 ·have h0:(an v.mem (W64 (b+8))).2=0:=by simpa using hg1
  refine zy3 ?_
  refine Wb 24 rfl (fun hg2=>?_) (fun hg2=>?_)
  ·have h1:s<0:=by simpa using hg2
   iterate 3 refine z6 ?_
   refine zs2 ?_
   refine Wt rfl rfl ?_
   refine zu1 ?_
   refine Wq<|aP rfl rfl ?_ ?_
   ·rw[jW,if_pos h0,if_pos (.inl h1)];rfl
   rfl
  have h1:¬s<0:=by simpa using hg2
  refine zs5 ?_
  refine Wi rfl (fun hi1=>?_) (fun hi1=>?_)
  ·have h2:(an v.mem (W64 (b+8))).1<=s:=by simpa using hi1
   refine zu1 ?_
   refine Wq<|aP rfl rfl ?_ ?_
   ·rw[jW,if_pos h0,if_pos (.inr h2)];rfl
   rfl
  have h2:¬(an v.mem (W64 (b+8))).1<=s:=by simpa using hi1
  refine Wj<|zu2 ?_
  refine Wq<|aP rfl rfl ?_ ?_
  ·rw[jW,if_pos h0,if_neg (by rintro(h|h)<;>contradiction),<-h0];rfl
  rfl
 have h0:¬(an v.mem (W64 (b+8))).2=0:=by simpa using hg1
 iterate 7 refine z6 ?_
 refine zs1 ?_
 refine Wf rfl rfl ?_
 refine Wj<|zu2 ?_
 refine Wq<|aP rfl rfl ?_ ?_
 ·rw[jW,if_neg h0];rfl
 rfl
def zk{a b:Int}(ha:Fit a)(hb:Fit b):Fit (wB a b).1/\Fit (wB a b).2:=by
 have h:(a*b).natAbs<=9223372036854775808*9223372036854775808:=by rw[Int.natAbs_mul];exact Nat.mul_le_mul (by omega) (by omega)
 refine⟨by show Fit (wrap64 _);unfold wrap64;omega,?_⟩
 show Fit (a*b/18446744073709551616)
 omega
def XOk(k:Nat)(x:List Int):Prop:=k<=x.length/\∀a∈x,ab a
def XOk.fit{k:Nat}{x:List Int}(h:XOk k x)(i:Nat):ab (xat x i):=by
 unfold xat List.getD
 cases hi:x[i]? with
 | none=>simp[ab]
 | some a=>exact h.2 a (List.mem_of_getElem? hi)
def XOk.len{k:Nat}{x:List Int}(h:XOk k x):k<=x.length:=h.1
def PX(q r e:Int):af prog 276 [i64 q,i64 r,i64 e] (tLv ([r,q],e)):=by
 refine zY func276 fun B=>?_
 refine zu2 ?_
 refine zp3 ?_
 refine Wa 10 rfl (bsL au [_,_] rfl rfl) ?_
 refine zs3 ?_
 refine zR ?_
 rfl
def XF(x:List Int)(hx:XOk 3 x):af prog 277 [sq au x] (t3i (yu x)):=by
 have hl:=hx.len
 have hf:=zk (hx.fit 0) (hx.fit 1)
 refine zY func277 fun B=>?_
 refine zu3 ?_
 refine Ws<|am [0,0,1,0,0,1,0,0,0,0,0,0] [0,1,2,3,4,5,6,7,8,9,10,11] mG rfl (by kernel_rfl) ?_
 refine z3 ?_
 refine z9i ?_
 refine z5 ?_
 refine z3 ?_
 refine z9i ?_
 refine z5 ?_
 refine Xc rfl rfl rfl rfl (fun _=>dC rfl func278 rfl rfl ((Yu _ _ (hx.fit 0) (hx.fit 1)) _)) ?_
 iterate 5 refine z3 ?_
 refine ap ?_
 refine zp3 ?_
 refine Wv tG rfl rfl rfl (by omega) (iN au 1 (fun _=>rfl) 0 (by(simp only[dnL]at *;omega))) ?_
 refine z1 ?_
 refine zc rfl func279 ((PO _ _ _ hf.2 (hx.fit 2)) _) ?_
 refine zy5 ?_
 refine zs1 ?_
 refine zR ?_
 rfl
def sb(q r e:Int):tl 276 [i64 q,i64 r,i64 e] (tLv ([r,q],e)):=fun H=>⟨⟨_,func276,rfl,rfl⟩,PX q r e H⟩
def K1(x:List Int)(hx:XOk 3 x):tl 277 [sq au x] (t3i (yu x)):=fun H=>⟨⟨_,func277,rfl,rfl⟩,XF x hx H⟩
abbrev oQ:List PV:=[.row [fnP 276 []]]
abbrev RI:List PV:=[.row [fnP 277 []]]
abbrev Fu:List PV:=[.row [fnP 276 []],.row [fnP 277 []]]
def aC7(x:List Int)(hx:XOk 2 x):af prog 280 ([sq au x]++oQ) (tLv (bz x)):=by
 have hl:=hx.len
 refine zY func280 fun B=>?_
 refine zu2 ?_
 refine Ws<|am [1,0,0,1,0,0,1,0,0,0,0,0,0,0,0,0] [0,1,2,3,4,5,6,7,8,9,10,11,12,13,14,15] mG rfl (by kernel_rfl) ?_
 refine z5 ?_
 refine z3 ?_
 refine z9i ?_
 refine z5 ?_
 refine z3 ?_
 refine z9i ?_
 refine z5 ?_
 refine Xc rfl rfl rfl rfl (fun _=>dC rfl func272 rfl rfl ((Q6 _ _ (hx.fit 1)) _)) ?_
 iterate 3 refine z3 ?_
 refine Xc rfl rfl rfl rfl (fun _=>eQ rfl rfl (sb _ _ _ _)) ?_
 iterate 4 refine z3 ?_
 refine ap ?_
 refine zR ?_
 rfl
def aD4(x:List Int)(hx:XOk 3 x):af prog 281 ([sq au x]++Fu) (tLv (bc x)):=by
 refine zY func281 fun B=>?_
 refine zu2 ?_
 refine Ws<|am [1,1,0,0,0,0,0,0,0,0,0,0] [0,1,2,3,4,5,6,7,8,9,10,11] mG rfl (by kernel_rfl) ?_
 iterate 2 refine z5 ?_
 refine z3 ?_
 refine Xc rfl rfl rfl rfl (fun _=>eQ rfl rfl (K1 x hx _)) ?_
 iterate 3 refine z3 ?_
 refine Xc rfl rfl rfl rfl (fun _=>eQ rfl rfl (sb _ _ _ _)) ?_
 iterate 4 refine z3 ?_
 refine ap ?_
 refine zR ?_
 rfl
def aC0(x:List Int)(hx:XOk 3 x):af prog 282 ([sq au x]++RI) (tLv (cZ x)):=by
 refine zY func282 fun B=>?_
 refine zu2 ?_
 refine zp2 ?_
 refine Wc rfl rfl (eQ rfl rfl (K1 x hx _)) ?_
 refine zy5 ?_
 refine zs2 ?_
 refine zp2 ?_
 refine Wa 16 rfl (bsL au [_] rfl rfl) ?_
 refine zs3 ?_
 refine zR ?_
 rfl
def aA8(x:List Int)(hx:XOk 2 x):af prog 283 [sq au x] (tLv (pUM x)):=by
 have hl:=hx.len
 refine zY func283 fun B=>?_
 refine zu2 ?_
 refine Ws<|am [0,0,1,0,0,1,0,0,0,0,0,0] [0,1,2,3,4,5,6,7,8,9,10,11] mG rfl (by kernel_rfl) ?_
 refine z3 ?_
 refine z9i ?_
 refine z5 ?_
 refine z3 ?_
 refine z9i ?_
 refine z5 ?_
 refine Xc rfl rfl rfl rfl (fun _=>dC rfl func284 rfl rfl ((ZR _ _) _)) ?_
 iterate 5 refine z3 ?_
 refine ap ?_
 refine zp3 ?_
 refine Wa 18 rfl (bsL au [_,_] rfl rfl) ?_
 refine zc rfl func245 ((lx _) _) ?_
 refine zs4 ?_
 refine zR ?_
 rfl
def aB2(x:List Int)(hx:XOk 2 x):af prog 285 [sq au x] (tLv (pM x)):=by
 have hl:=hx.len
 refine zY func285 fun B=>?_
 refine zu2 ?_
 refine Ws<|am [0,0,1,0,0,1,0,0,0,0,0,0] [0,1,2,3,4,5,6,7,8,9,10,11] mG rfl (by kernel_rfl) ?_
 refine z3 ?_
 refine z9i ?_
 refine z5 ?_
 refine z3 ?_
 refine z9i ?_
 refine z5 ?_
 refine Xc rfl rfl rfl rfl (fun _=>dC rfl func278 rfl rfl ((Yu _ _ (hx.fit 0) (hx.fit 1)) _)) ?_
 iterate 5 refine z3 ?_
 refine ap ?_
 refine zp3 ?_
 refine Wa 18 rfl (bsL au [_,_] rfl rfl) ?_
 refine zc rfl func245 ((lx _) _) ?_
 refine zs4 ?_
 refine zR ?_
 rfl
def aC2(x:List Int)(hx:XOk 3 x):af prog 286 ([sq au x]++oQ) (tLv (cX x)):=by
 have hl:=hx.len
 refine zY func286 fun B=>?_
 refine zu2 ?_
 refine Ws<|am [1,0,0,1,0,0,1,0,0,1,0,0,0,0,0,0,0,0,0] [0,1,2,3,4,5,6,7,8,9,10,11,12,13,14,15,16,17,18] mG rfl (by kernel_rfl) ?_
 refine z5 ?_
 refine z3 ?_
 refine z9i ?_
 refine z5 ?_
 refine z3 ?_
 refine z9i ?_
 refine z5 ?_
 refine z3 ?_
 refine z9i ?_
 refine z5 ?_
 refine Xc rfl rfl rfl rfl (fun _=>dC rfl func287 rfl rfl ((IJ _ _ _) _)) ?_
 iterate 3 refine z3 ?_
 refine Xc rfl rfl rfl rfl (fun _=>eQ rfl rfl (sb _ _ _ _)) ?_
 iterate 4 refine z3 ?_
 refine ap ?_
 refine zR ?_
 rfl
def aD8(x:List Int)(hx:XOk 3 x):af prog 288 ([sq au x]++oQ) (tLv (da x)):=by
 have hl:=hx.len
 refine zY func288 fun B=>?_
 refine zu2 ?_
 refine Ws<|am [1,0,0,1,0,0,1,0,0,1,0,0,0,0,0,0,0,0,0] [0,1,2,3,4,5,6,7,8,9,10,11,12,13,14,15,16,17,18] mG rfl (by kernel_rfl) ?_
 refine z5 ?_
 refine z3 ?_
 refine z9i ?_
 refine z5 ?_
 refine z3 ?_
 refine z9i ?_
 refine z5 ?_
 refine z3 ?_
 refine z9i ?_
 refine z5 ?_
 refine Xc rfl rfl rfl rfl (fun _=>dC rfl func289 rfl rfl ((aa7 _ _ _ (hx.fit 1) (hx.fit 2)) _)) ?_
 iterate 3 refine z3 ?_
 refine Xc rfl rfl rfl rfl (fun _=>eQ rfl rfl (sb _ _ _ _)) ?_
 iterate 4 refine z3 ?_
 refine ap ?_
 refine zR ?_
 rfl
def ay6(x:List Int)(hx:XOk 3 x):af prog 290 ([sq au x]++oQ) (tLv (cY x)):=by
 have hl:=hx.len
 refine zY func290 fun B=>?_
 refine zu2 ?_
 refine Ws<|am [1,0,0,1,0,0,1,0,0,1,0,0,0,0,0,0,0,0,0] [0,1,2,3,4,5,6,7,8,9,10,11,12,13,14,15,16,17,18] mG rfl (by kernel_rfl) ?_
 refine z5 ?_
 refine z3 ?_
 refine z9i ?_
 refine z5 ?_
 refine z3 ?_
 refine z9i ?_
 refine z5 ?_
 refine z3 ?_
 refine z9i ?_
 refine z5 ?_
 refine Xc rfl rfl rfl rfl (fun _=>dC rfl func279 rfl rfl ((PO _ _ _ (hx.fit 1) (hx.fit 2)) _)) ?_
 iterate 3 refine z3 ?_
 refine Xc rfl rfl rfl rfl (fun _=>eQ rfl rfl (sb _ _ _ _)) ?_
 iterate 4 refine z3 ?_
 refine ap ?_
 refine zR ?_
 rfl
def az4(x:List Int)(hx:XOk 1 x):af prog 291 [sq au x] (tLv (pSD x)):=by
 have hl:=hx.len
 refine zY func291 fun B=>?_
 refine zu2 ?_
 refine Ws<|am [0,0,1,0,0,1,0,0,0,0,0,0,0,0] [0,1,2,3,4,5,6,7,8,9,10,11,12,13] mG rfl (by kernel_rfl) ?_
 refine z3 ?_
 refine z9i ?_
 refine z5 ?_
 refine z3 ?_
 refine z9i ?_
 refine z5 ?_
 refine z3 ?_
 refine Xc rfl rfl rfl rfl (fun _=>dC rfl func292 rfl rfl ((Ct _) _)) ?_
 refine z3 ?_
 refine Xa 12 rfl (bsL au [_,_] rfl rfl) ?_
 refine Xc rfl rfl rfl rfl (fun _=>dC rfl func245 rfl rfl ((lx _) _)) ?_
 iterate 4 refine z3 ?_
 refine ap ?_
 refine zR ?_
 rfl
def av2(x:List Int)(hx:XOk 3 x):af prog 293 [sq au x] (tLv (bx x)):=by
 have hl:=hx.len
 refine zY func293 fun B=>?_
 refine zu2 ?_
 refine Ws<|am [0,0,1,0,0,1,0,0,1,0,0,0,0,0,0,0,0] [0,1,2,3,4,5,6,7,8,9,10,11,12,13,14,15,16] mG rfl (by kernel_rfl) ?_
 refine z3 ?_
 refine z9i ?_
 refine z5 ?_
 refine z3 ?_
 refine z9i ?_
 refine z5 ?_
 refine z3 ?_
 refine z9i ?_
 refine z5 ?_
 refine Xc rfl rfl rfl rfl (fun _=>dC rfl func294 rfl rfl ((JY _ _ _) _)) ?_
 refine Xc rfl rfl rfl rfl (fun _=>dC rfl func292 rfl rfl ((Ct _) _)) ?_
 refine z3 ?_
 refine Xa 15 rfl (bsL au [_] rfl rfl) ?_
 refine Xc rfl rfl rfl rfl (fun _=>dC rfl func245 rfl rfl ((lx _) _)) ?_
 iterate 4 refine z3 ?_
 refine ap ?_
 refine zR ?_
 rfl
def aE3(v:VVm)(x:List Int)(hm:cy v.mem)(hx:XOk 2 x):af prog 298 [gH v.mem,sq au x] (tQ (aH v.mem (xat x 1) (xat x 0))):=by
 have hl:=hx.len
 refine zY func298 fun B=>?_
 refine zu3 ?_
 refine Ws<|am [1,0,0,1,0,0,1,0,0,0,3,0] [0,1,2,3,4,5,6,7,8,9,10,11] mG rfl (by kernel_rfl) ?_
 refine z5 ?_
 refine z3 ?_
 refine z9i ?_
 refine z5 ?_
 refine z3 ?_
 refine z9i ?_
 refine z5 ?_
 refine Xc rfl rfl rfl rfl (fun _=>dC rfl func92 rfl rfl ((jm _ _ _ hm (hx.fit 1)) _)) ?_
 iterate 2 refine z3 ?_
 refine ct tG rfl rfl rfl rfl rfl trivial ?_
 refine z3 ?_
 refine ap ?_
 refine zR ?_
 rfl
def aF4(v:VVm)(x:List Int)(hm:cy v.mem)(hx:XOk 2 x):af prog 299 [gH v.mem,sq au x] (tQ (mN v.mem (xat x 1) (xat x 0))):=by
 have hl:=hx.len
 refine zY func299 fun B=>?_
 refine zu3 ?_
 refine Ws<|am [1,0,0,1,0,0,1,0,0,0,3,0] [0,1,2,3,4,5,6,7,8,9,10,11] mG rfl (by kernel_rfl) ?_
 refine z5 ?_
 refine z3 ?_
 refine z9i ?_
 refine z5 ?_
 refine z3 ?_
 refine z9i ?_
 refine z5 ?_
 refine Xc rfl rfl rfl rfl (fun _=>dC rfl func300 rfl rfl ((A9 _ _ _ hm (hx.fit 1)) _)) ?_
 iterate 2 refine z3 ?_
 refine ct tG rfl rfl rfl rfl rfl trivial ?_
 refine z3 ?_
 refine ap ?_
 refine zR ?_
 rfl
def fY{m:bf}(hm:cy m):m.b.length<=140737488355328:=by have:=hm.b;omega
def aC1(v:VVm)(x:List Int)(hm:cy v.mem)(hx:XOk 2 x):af prog 301 [gH v.mem,sq au x] (tQ (ro v x)):=by
 have hl:=hx.len
 refine zY func301 fun B=>?_
 refine zu3 ?_
 refine Ws<|am [1,0,0,1,0,0,0,0,0,0] [0,1,2,3,4,5,6,7,8,9] mG rfl (by kernel_rfl) ?_
 refine z5 ?_
 refine z3 ?_
 refine z9i ?_
 refine z5 ?_
 refine Xc rfl rfl rfl rfl (fun _=>dC rfl func39 rfl rfl ((fX _ _ (fY hm) (hx.fit 1)) _)) ?_
 iterate 5 refine z3 ?_
 refine ap ?_
 refine Ws<|zu2 ?_
 refine Wi rfl (fun hi1=>?_) (fun hi1=>?_)
 ·have h0:¬(an v.mem (xat x 1)).2=0:=bne_iff_ne.1 hi1
  refine zu4 ?_
  refine zR ?_
  rw[ro,if_neg h0];rfl
 have h0:(an v.mem (xat x 1)).2=0:=bne_eq_false_iff_eq.1 hi1
 refine Wj<|Ws<|am [1,0,0,1,0,0,0,1,0,0,0,0,3,0] [0,1,2,3,4,5,6,7,8,9,10,11,12,13] mG rfl (by kernel_rfl) ?_
 refine z5 ?_
 refine z3 ?_
 refine z9i ?_
 refine z5 ?_
 iterate 2 refine z3 ?_
 refine z9i ?_
 refine z5 ?_
 refine z3 ?_
 refine Xc rfl rfl rfl rfl (fun _=>dC rfl func92 rfl rfl ((jm _ _ _ hm (hx.fit 1)) _)) ?_
 iterate 2 refine z3 ?_
 refine ct tG rfl rfl rfl rfl rfl trivial ?_
 refine z3 ?_
 refine ap ?_
 refine zR ?_
 rw[ro,if_pos h0];rfl
def pI(n:Int):ab (W64 n):=by unfold ab W64;rw[bB];unfold wrap64;omega
def aE7(v:VVm)(x:List Int)(hm:cy v.mem)(hx:XOk 1 x):∀(H:List Ob) (i:Nat),H[i]?=some (.cells (cVm v) 37)->HC prog 302 (.ptr i 0::[sq au x]) H (tLv (kK v x).2) (H.set i (.cells (cVm (kK v x).1) 37)):=by
 have hl:=hx.len
 refine zM func302 fun B=>?_
 refine zu2 ?_
 refine Ws<|am [0,0,0,1,0,0,1,0,0,0,0,0,0] [0,1,2,3,4,5,6,7,8,9,10,11,12] mG rfl (by kernel_rfl) ?_
 iterate 3 refine z3 ?_
 refine z5 ?_
 refine z3 ?_
 refine z9i ?_
 refine z5 ?_
 refine Xc rfl rfl rfl rfl (fun _=>dC rfl func39 rfl rfl ((fX _ _ (fY hm) (hx.fit 0)) _)) ?_
 iterate 5 refine z3 ?_
 refine ap ?_
 refine Ws<|zu2 ?_
 refine Wi rfl (fun hi1=>?_) (fun hi1=>?_)
 ·have h0:¬(an v.mem (xat x 0)).2=0:=bne_iff_ne.1 hi1
  refine zu3 ?_
  refine Wq<|aP rfl rfl ?_ ?_
  ·rw[kK,if_neg h0];rfl
  rw[kK,if_neg h0];rfl
 have h0:(an v.mem (xat x 0)).2=0:=bne_eq_false_iff_eq.1 hi1
 refine Wj<|Ws<|am [0,0,0,1,0,0,1,0,0,0,0,0,0,0] [0,1,2,3,4,5,6,7,8,9,10,11,12,13] mG rfl (by kernel_rfl) ?_
 iterate 3 refine z3 ?_
 refine z5 ?_
 refine z3 ?_
 refine z9i ?_
 refine z5 ?_
 refine z3 ?_
 refine Xc rfl rfl rfl rfl (fun _=>dC rfl func39 rfl rfl ((fX _ _ (fY hm) (pI _)) _)) ?_
 iterate 5 refine z3 ?_
 refine ap ?_
 refine zp3 ?_
 refine Wa 37 rfl (bsL au [_,_] rfl rfl) ?_
 refine zs3 ?_
 refine Wq<|aP rfl rfl ?_ ?_
 ·rw[kK,if_pos h0];rfl
 rw[kK,if_pos h0];rfl
def u6{m:bf}{a n:Int}(h:aV m a n=true):n=0\/(0<n/\0<=a/\a+n<=m.b.length):=by unfold aV at h;exact oT h
def JU{l b:List UInt8}{k:Nat}(h:k+b.length<=l.length):(d7 l k b).length=l.length:=by unfold d7;simp only[List.length_append,List.length_take,List.length_drop];omega
def vg(m:bf)(a:Int)(b:List UInt8):(bV m a b).1.b.length=m.b.length:=by
 unfold bV
 split
 ·rename_i h
  split
  ·rfl
  rename_i hb
  have:=List.length_pos_iff.2 hb
  rcases u6 h with h|⟨h1,h2,h3⟩
  ·omega
  exact JU (by omega)
 rfl
def vA(m:bf)(a:Int)(b:List UInt8):(bV m a b).1.old.length<=m.old.length+1:=by
 unfold bV
 split
 ·split
  ·exact Nat.le_succ _
  simp
 exact Nat.le_succ _
def GX{m:bf}(hm:cy m)(a:Int)(b:List UInt8)(h:m.old.length+1<=1000000):cy (bV m a b).1 :=
 ⟨by rw[vg];exact hm.b,Nat.le_trans (vA m a b) h⟩
def E5{m:bf}(hm:cy m)(a n:Int)(h:m.old.length+1<=1000000):cy (aH m a n).1:=by
 unfold aH
 split
 ·exact GX hm _ _ h
 exact hm
def aA2(v:VVm)(x:List Int)(hm:cy v.mem)(ho:v.mem.old.length+1<=1000000)(hx:XOk 3 x):af prog 303 [gH v.mem,sq au x] (tQ (oe v x)):=by
 have hl:=hx.len
 refine zY func303 fun B=>?_
 refine zu3 ?_
 refine Ws<|am [1,0,0,1,0,0,1,0,0,0,0,3,0] [0,1,2,3,4,5,6,7,8,9,10,11,12] mG rfl (by kernel_rfl) ?_
 refine z5 ?_
 refine z3 ?_
 refine z9i ?_
 refine z5 ?_
 refine z3 ?_
 refine z9i ?_
 refine z5 ?_
 refine Xc rfl rfl rfl rfl (fun _=>dC rfl func92 rfl rfl ((jm _ _ _ hm (hx.fit 2)) _)) ?_
 iterate 3 refine z3 ?_
 refine ct tG rfl rfl rfl rfl rfl trivial ?_
 refine z3 ?_
 refine ap ?_
 refine Ws<|zu2 ?_
 refine Wi rfl (fun hi1=>?_) (fun hi1=>?_)
 ·have h0:¬(aH v.mem (xat x 2) (xat x 1)).2=0:=bne_iff_ne.1 hi1
  refine zu4 ?_
  refine zR ?_
  rw[oe,if_neg h0];rfl
 have h0:(aH v.mem (xat x 2) (xat x 1)).2=0:=bne_eq_false_iff_eq.1 hi1
 refine Wj<|Ws<|am [1,0,0,1,0,0,0,1,0,0,0,3,0] [0,1,2,3,4,5,6,7,8,9,10,11,12] mG rfl (by kernel_rfl) ?_
 refine z5 ?_
 refine z3 ?_
 refine z9i ?_
 refine z5 ?_
 iterate 2 refine z3 ?_
 refine z9i ?_
 refine z5 ?_
 refine Xc rfl rfl rfl rfl (fun _=>dC rfl func92 rfl rfl ((jm _ _ _ (E5 hm _ _ ho) (pI _)) _)) ?_
 iterate 2 refine z3 ?_
 refine ct tG rfl rfl rfl rfl rfl trivial ?_
 refine z3 ?_
 refine ap ?_
 refine zR ?_
 rw[oe,if_pos h0];rfl
def aA7(v:VVm)(x:List Int)(hm:cy v.mem)(hx:XOk 3 x):af prog 304 [gH v.mem,sq au x] (tQ (mM v.mem (xat x 0) (xat x 1) (xat x 2))):=by
 have hl:=hx.len
 refine zY func304 fun B=>?_
 refine zu3 ?_
 refine Ws<|am [1,0,0,1,0,0,1,0,0,1,0,0,0,3,0] [0,1,2,3,4,5,6,7,8,9,10,11,12,13,14] mG rfl (by kernel_rfl) ?_
 refine z5 ?_
 refine z3 ?_
 refine z9i ?_
 refine z5 ?_
 refine z3 ?_
 refine z9i ?_
 refine z5 ?_
 refine z3 ?_
 refine z9i ?_
 refine z5 ?_
 refine Xc rfl rfl rfl rfl (fun _=>dC rfl func305 rfl rfl ((RK _ _ _ _ hm (hx.fit 0) (hx.fit 1)) _)) ?_
 iterate 2 refine z3 ?_
 refine ct tG rfl rfl rfl rfl rfl trivial ?_
 refine z3 ?_
 refine ap ?_
 refine zR ?_
 rfl
def aA6(v:VVm)(x:List Int)(hm:cy v.mem)(hx:XOk 3 x):af prog 306 [gH v.mem,sq au x] (tQ (mL v.mem (xat x 0) (xat x 1) (xat x 2))):=by
 have hl:=hx.len
 refine zY func306 fun B=>?_
 refine zu3 ?_
 refine Ws<|am [1,0,0,1,0,0,1,0,0,1,0,0,0,3,0] [0,1,2,3,4,5,6,7,8,9,10,11,12,13,14] mG rfl (by kernel_rfl) ?_
 refine z5 ?_
 refine z3 ?_
 refine z9i ?_
 refine z5 ?_
 refine z3 ?_
 refine z9i ?_
 refine z5 ?_
 refine z3 ?_
 refine z9i ?_
 refine z5 ?_
 refine Xc rfl rfl rfl rfl (fun _=>dC rfl func307 rfl rfl ((S7 _ _ _ _ hm (hx.fit 0) (hx.fit 1) (hx.fit 2)) _)) ?_
 iterate 2 refine z3 ?_
 refine ct tG rfl rfl rfl rfl rfl trivial ?_
 refine z3 ?_
 refine ap ?_
 refine zR ?_
 rfl
def aC5(v:VVm)(x:List Int)(hm:cy v.mem)(hx:XOk 1 x):∀(H:List Ob) (i:Nat),H[i]?=some (.cells (cVm v) 37)->HC prog 308 (.ptr i 0::[sq au x]) H (tLv (b7 v x).2) (H.set i (.cells (cVm v) 37)):=by
 have hl:=hx.len
 refine zM func308 fun B=>?_
 refine zu2 ?_
 refine Ws<|am [0,0,0,1,0,0,1,0,0,0,0,0,0] [0,1,2,3,4,5,6,7,8,9,10,11,12] mG rfl (by kernel_rfl) ?_
 iterate 3 refine z3 ?_
 refine z5 ?_
 refine z3 ?_
 refine z9i ?_
 refine z5 ?_
 refine Xc rfl rfl rfl rfl (fun _=>dC rfl func296 rfl rfl ((tv _ _ hm (hx.fit 0)) _)) ?_
 iterate 5 refine z3 ?_
 refine ap ?_
 refine zp1 ?_
 refine Wv tG rfl rfl rfl (by omega) (iN au 1 (fun _=>rfl) 0 (by(simp only[dnL]at *;omega))) ?_
 refine zy4 ?_
 refine Wa 24 rfl (bsL au [_,_] rfl rfl) ?_
 refine zs3 ?_
 refine Wq<|aP rfl rfl ?_ ?_
 ·rfl
 rfl
def aF3(v:VVm):af prog 315 [eVm v] (i64 v.here):=by
 refine zY func315 fun B=>?_
 refine zu2 ?_
 refine zu3 ?_
 refine zR ?_
 rfl
def aB7(v:VVm)(x:List Int)(hm:cy v.mem)(hh:fG v.mem v.here)(hx:XOk 1 x):af prog 317 [gH v.mem,i64 v.here,sq au x] (wL (tH v x)):=by
 have hl:=hx.len
 refine zY func317 fun B=>?_
 refine zu4 ?_
 refine Ws<|am [1,0,0,0,0,1,0,0,0,0,0,0] [0,1,2,3,4,5,6,7,8,9,10,11] mG rfl (by kernel_rfl) ?_
 refine z5 ?_
 refine Xc rfl rfl rfl rfl (fun _=>dC rfl func218 rfl rfl ((zn) _)) ?_
 iterate 2 refine z3 ?_
 refine z9i ?_
 refine z5 ?_
 refine Xc rfl rfl rfl rfl (fun _=>dC rfl func318 rfl rfl ((Ny _ _ _ _ hm hh (by unfold ab;omega) (hx.fit 0)) _)) ?_
 iterate 5 refine z3 ?_
 refine ap ?_
 refine zp5 ?_
 refine zs1 ?_
 refine zR ?_
 rfl
def aD7(v:VVm)(x:List Int)(hm:cy v.mem)(hh:fG v.mem v.here)(hx:XOk 1 x):af prog 319 [gH v.mem,i64 v.here,sq au x] (wL (bW v.mem v.here (xat x 0))):=by
 have hl:=hx.len
 refine zY func319 fun B=>?_
 refine zu4 ?_
 refine Ws<|am [1,0,0,0,1,0,0,0,0,3,0,0] [0,1,2,3,4,5,6,7,8,9,10,11] mG rfl (by kernel_rfl) ?_
 refine z5 ?_
 iterate 2 refine z3 ?_
 refine z9i ?_
 refine z5 ?_
 refine Xc rfl rfl rfl rfl (fun _=>dC rfl func127 rfl rfl ((B2 _ _ _ hm hh) _)) ?_
 iterate 3 refine z3 ?_
 refine ct tG rfl rfl rfl rfl rfl trivial ?_
 iterate 2 refine z3 ?_
 refine ap ?_
 refine zR ?_
 rfl
def aF6(v:VVm)(x:List Int)(hm:cy v.mem)(hh:fG v.mem v.here)(hx:XOk 1 x):af prog 320 [gH v.mem,i64 v.here,sq au x] (wL (cJ v.mem v.here [loB (xat x 0)])):=by
 have hl:=hx.len
 refine zY func320 fun B=>?_
 refine zu4 ?_
 refine Ws<|am [1,0,0,0,1,0,0,0,0,0,0,3,0,0] [0,1,2,3,4,5,6,7,8,9,10,11,12,13] mG rfl (by kernel_rfl) ?_
 refine z5 ?_
 iterate 2 refine z3 ?_
 refine z9i ?_
 refine z5 ?_
 refine z3 ?_
 refine Xa 14 rfl (zf _) ?_
 refine z3 ?_
 refine Xa 15 rfl (bsL ar [_] rfl rfl) ?_
 refine Xc rfl rfl rfl rfl (fun _=>dC rfl func174 rfl rfl ((xQ _ _ [loB (xat x 0)] hm hh (by simp)) _)) ?_
 iterate 3 refine z3 ?_
 refine ct tG rfl rfl rfl rfl rfl trivial ?_
 iterate 2 refine z3 ?_
 refine ap ?_
 refine zR ?_
 rfl
def aD0(v:VVm)(x:List Int)(hm:cy v.mem)(hh:fG v.mem v.here):af prog 321 [gH v.mem,i64 v.here,sq au x] (wL (aM v.mem v.here)):=by
 refine zY func321 fun B=>?_
 refine zu4 ?_
 refine zp2 ?_
 refine zc rfl func220 ((rH _ _ hm hh) _) ?_
 refine zy5 ?_
 refine zs1 ?_
 refine zR ?_
 rfl
def aC8(v:VVm)(x:List Int)(hx:XOk 1 x):af prog 328 [eVm v,sq au x] (nW ([loB (xat x 0)],0)):=by
 have hl:=hx.len
 refine zY func328 fun B=>?_
 refine zu3 ?_
 refine zp1 ?_
 refine Wv tG rfl rfl rfl (by omega) (iN au 1 (fun _=>rfl) 0 (by(simp only[dnL]at *;omega))) ?_
 refine zy2 ?_
 refine Wa 9 rfl (zf _) ?_
 refine z1 ?_
 refine Wa 10 rfl (bsL ar [_] rfl rfl) ?_
 refine Wd rfl rfl (i6 (lO tG rfl) rfl (lO tG rfl) rfl (lO tG rfl) rfl rfl rfl) ?_
 refine zs2 ?_
 refine zR ?_
 rfl
def DZ(n:Nat):Lib.repeatL [32] n=List.replicate n 32:=by
 induction n with
 | zero=>rfl
 | succ n ih=>show [32]++Lib.repeatL [32] n=_;rw[ih];rfl
def yK(n:Nat)(hn:n<=1000000):af prog 330 [str [32],i64 n] (str (List.replicate n 32)):=by
 refine dM (args:=[.string ⟨#[32]⟩,.int .i64 n]) (fun c=>av _ _) fun w=>Calls.mono (Tryz.strings_Repeat ⟨#[32]⟩ n w (by omega) (by show 1*n<=_;omega)) ?_
 rintro e w' ⟨rfl,hb⟩
 have h1:(⟨#[32]⟩:ByteArray).data.toList=[32]:=rfl
 rw[h1,DZ]
 exact⟨rfl,be.of_below hb⟩
def MS(a b:Int):(if b<if 0>a then 0 else a then b else if 0>a then 0 else a)=min (max a 0) b:=by
 by_cases h:0>a
 ·simp only[if_pos h];split<;>omega
 simp only[if_neg h];split<;>omega
def aB5(v:VVm)(x:List Int)(ho:0<=v.conf.out/\v.conf.out<=900000)(hx:XOk 1 x):af prog 329 [eVm v,sq au x] (nW (vc v x,0)):=by
 have hl:=hx.len
 have h0:=hx.fit 0
 have w1:IntKind.i64.wrap (v.conf.out+1)=v.conf.out+1:=by((rw[bB];unfold wrap64;(try simp only[dnL]at *);omega))
 have w2:min (max (xat x 0) 0) (v.conf.out+1)=((min (max (xat x 0) 0) (v.conf.out+1)).toNat:Int):=by omega
 refine zY func329 fun B=>?_
 refine zu3 ?_
 refine Ws<|am [0,0,1,0,0,0,1,0,0,0,0,0] [0,1,2,3,4,5,6,7,8,9,10,11] mG rfl (by kernel_rfl) ?_
 refine z3 ?_
 refine z9i ?_
 refine z5 ?_
 iterate 3 refine z3 ?_
 refine z5 ?_
 refine z3 ?_
 refine Xa 13 rfl (zI9 w1) ?_
 refine z3 ?_
 refine Xa 14 rfl (zI9 ((MS (xat x 0) (v.conf.out+1)).trans w2)) ?_
 refine Xc rfl rfl rfl rfl (fun _=>dC rfl func330 rfl rfl ((yK _ (by omega)) _)) ?_
 iterate 2 refine z3 ?_
 refine ap ?_
 refine zR ?_
 rfl
def aC4(v:VVm)(x:List Int)(hm:cy v.mem)(hx:XOk 2 x):af prog 331 [eVm v,sq au x] (nW (cv v.mem (xat x 0) (xat x 1))):=by
 have hl:=hx.len
 refine zY func331 fun B=>?_
 refine zu3 ?_
 refine Ws<|am [0,1,0,0,1,0,0,1,0,0,0,0,0,0] [0,1,2,3,4,5,6,7,8,9,10,11,12,13] mG rfl (by kernel_rfl) ?_
 refine z3 ?_
 refine z5 ?_
 refine z3 ?_
 refine z9i ?_
 refine z5 ?_
 refine z3 ?_
 refine z9i ?_
 refine z5 ?_
 refine Xc rfl rfl rfl rfl (fun _=>dC rfl func257 rfl rfl ((yZ _ _ _ hm (hx.fit 0) (hx.fit 1)) _)) ?_
 iterate 5 refine z3 ?_
 refine ap ?_
 refine zp1 ?_
 refine Wd rfl rfl (i6 (lO tG rfl) rfl (lO tG rfl) rfl (lO tG rfl) rfl rfl rfl) ?_
 refine zs3 ?_
 refine zR ?_
 rfl
def aE5(v:VVm)(x:List Int):∀(H:List Ob) (i:Nat),H[i]?=some (.cells (cVm v) 37)->HC prog 336 (.ptr i 0::[sq au x]) H (tLv ([],0)) (H.set i (.cells (cVm (tp v ⟨[],true⟩)) 37)):=by
 refine zM func336 fun B=>?_
 refine zu2 ?_
 refine zp1 ?_
 refine zc rfl func337 ((NY) _) ?_
 refine zs3 ?_
 refine zu2 ?_
 refine Wq<|aP rfl rfl ?_ ?_
 ·rfl
 rfl
def aB4(v:VVm)(x:List Int)(hp:v.pic.b.length<=1000000)(hm:v.mem.b.length<=140737488355328)(hx:XOk 2 x):∀(H:List Ob) (i:Nat),H[i]?=some (.cells (cVm v) 37)->HC prog 338 (.ptr i 0::[sq au x]) H (tLv (fR v x).2) (H.set i (.cells (cVm (fR v x).1) 37)):=by
 have hl:=hx.len
 refine zM func338 fun B=>?_
 refine zu2 ?_
 refine Ws<|am [0,0,0,1,0,0,1,0,0,1,0,0,1,0,0,0,0,0,0,0,2,3,0,0,0] [0,1,2,3,4,5,6,7,8,9,10,11,12,13,14,15,16,17,18,19,20,21,22,23,24] mG rfl (by kernel_rfl) ?_
 iterate 3 refine z3 ?_
 refine z5 ?_
 refine z3 ?_
 refine z9i ?_
 refine z5 ?_
 refine z3 ?_
 refine z9i ?_
 refine z5 ?_
 iterate 2 refine z3 ?_
 refine z5 ?_
 refine Xc rfl rfl rfl rfl (fun _=>dC rfl func325 rfl rfl ((wO v hm) _)) ?_
 refine Xc rfl rfl rfl rfl (fun _=>dC rfl func339 rfl rfl ((Cr _ _ _ _ hp) _)) ?_
 iterate 5 refine z3 ?_
 refine mj tG rfl rfl rfl rfl rfl trivial rfl ?_
 refine ct tG rfl rfl rfl rfl rfl trivial ?_
 iterate 3 refine z3 ?_
 refine ap ?_
 refine zu5 ?_
 refine zp3 ?_
 refine Wa 36 rfl (bsL au [_,_] rfl rfl) ?_
 refine zs3 ?_
 refine Wq<|aP rfl rfl ?_ ?_
 ·rfl
 rfl
def aB1(v:VVm)(x:List Int)(hp:v.pic.b.length<=1000000)(hm:v.mem.b.length<=140737488355328)(hx:XOk 2 x):∀(H:List Ob) (i:Nat),H[i]?=some (.cells (cVm v) 37)->HC prog 340 (.ptr i 0::[sq au x]) H (tLv (fF v x).2) (H.set i (.cells (cVm (fF v x).1) 37)):=by
 have hl:=hx.len
 refine zM func340 fun B=>?_
 refine zu2 ?_
 refine Ws<|am [0,0,0,1,0,0,1,0,0,1,0,0,1,0,0,0,0,0,2,3,0] [0,1,2,3,4,5,6,7,8,9,10,11,12,13,14,15,16,17,18,19,20] mG rfl (by kernel_rfl) ?_
 iterate 3 refine z3 ?_
 refine z5 ?_
 refine z3 ?_
 refine z9i ?_
 refine z5 ?_
 refine z3 ?_
 refine z9i ?_
 refine z5 ?_
 iterate 2 refine z3 ?_
 refine z5 ?_
 refine Xc rfl rfl rfl rfl (fun _=>dC rfl func325 rfl rfl ((wO v hm) _)) ?_
 refine Xc rfl rfl rfl rfl (fun _=>dC rfl func341 rfl rfl ((Xm _ _ _ _ hp) _)) ?_
 iterate 3 refine z3 ?_
 refine mj tG rfl rfl rfl rfl rfl trivial rfl ?_
 refine ct tG rfl rfl rfl rfl rfl trivial ?_
 refine z3 ?_
 refine ap ?_
 refine zu5 ?_
 refine zp1 ?_
 refine Wa 30 rfl (bsL au [_,_] rfl rfl) ?_
 refine zs3 ?_
 refine Wq<|aP rfl rfl ?_ ?_
 ·rfl
 rfl
def zj(p:dL):(lg p).1.length<=p.b.length:=by unfold lg;split<;>simp
def aB6(v:VVm)(x:List Int)(hp:v.pic.b.length<=1000000)(hm:cy v.mem):∀(H:List Ob) (i:Nat),H[i]?=some (.cells (cVm v) 37)->HC prog 344 (.ptr i 0::[sq au x]) H (tLv (wV v).2) (H.set i (.cells (cVm (wV v).1) 37)):=by
 have hl:=zj v.pic
 refine zM func344 fun B=>?_
 refine zu2 ?_
 refine zp4 ?_
 refine zc rfl func345 ((UB _ hp) _) ?_
 refine zs5 ?_
 refine Ws<|zu2 ?_
 refine Wi rfl (fun hi1=>?_) (fun hi1=>?_)
 ·have h0:¬(lg v.pic).2=0:=bne_iff_ne.1 hi1
  refine zu3 ?_
  refine Wq<|aP rfl rfl ?_ ?_
  ·rw[wV,if_neg h0];rfl
  rw[wV,if_neg h0];rfl
 have h0:(lg v.pic).2=0:=bne_eq_false_iff_eq.1 hi1
 refine Wj<|zp5 ?_
 refine zs2 ?_
 refine zp5 ?_
 refine zy3 ?_
 refine Wa 34 rfl (vR _) ?_
 refine zc rfl func123 ((nc _ _ _ hm (pI _) (by omega)) _) ?_
 refine zy5 ?_
 refine zs2 ?_
 refine zu5 ?_
 refine zp3 ?_
 refine Wa 46 rfl (eM _) ?_
 refine z1 ?_
 refine Wa 47 rfl (bsL au [_,_] rfl rfl) ?_
 refine zs3 ?_
 refine Wq<|aP rfl rfl ?_ ?_
 ·rw[wV,if_pos h0];rfl
 rw[wV,if_pos h0];rfl
def bI(v:VVm)(x:List Int):List Int×Int:=([W64 (xat x 0+16)],if (az v (xat x 0)).2=0/\((az v (xat x 0)).1<257\/260<(az v (xat x 0)).1)then -31 else(az v (xat x 0)).2)
def aE8(v:VVm)(x:List Int)(hm:v.mem.b.length<=140737488355328)(hx:XOk 1 x):∀(H:List Ob) (i:Nat),H[i]?=some (.cells (cVm v) 37)->HC prog 346 (.ptr i 0::[sq au x]) H (tLv (bI v x)) (H.set i (.cells (cVm v) 37)):=by
 have hl:=hx.len
 refine zM func346 fun B=>?_
 refine zu2 ?_
 refine Ws<|am [0,0,1,0,0,1,0,0,0,0,0,0] [0,1,2,3,4,5,6,7,8,9,10,11] mG rfl (by kernel_rfl) ?_
 iterate 2 refine z3 ?_
 refine z5 ?_
 refine z3 ?_
 refine z9i ?_
 refine z5 ?_
 refine Xc rfl rfl rfl rfl (fun _=>dC rfl func67 rfl rfl ((qh v _ hm (hx.fit 0)) _)) ?_
 iterate 5 refine z3 ?_
 refine ap ?_
 refine Ws<|zp3 ?_
 refine Wb 20 rfl (fun hg1=>?_) (fun hg1=>?_)
 ·have h0:(az v (xat x 0)).2=0:=beq_iff_eq.1 hg1
  refine zy3 ?_
  refine Wb 23 rfl (fun hg2=>?_) (fun hg2=>?_)
  ·have h1:(az v (xat x 0)).1<257:=oT hg2
   iterate 2 refine z6 ?_
   refine zs2 ?_
   refine Wt rfl rfl ?_
   refine aa rfl ?_
   refine zs1 ?_
   refine zp1 ?_
   refine Wv tG rfl rfl rfl (by omega) (iN au 1 (fun _=>rfl) 0 (by(simp only[dnL]at *;omega))) ?_
   refine zy3 ?_
   refine Wa 32 rfl (bsL au [_] rfl rfl) ?_
   refine zs3 ?_
   refine Wq<|aP rfl rfl ?_ ?_
   ·(rw[bI,if_pos ⟨h0,by omega⟩];rfl)
   rfl
  have h1:¬(az v (xat x 0)).1<257:=oF hg2
  refine zs4 ?_
  refine Wi rfl (fun hi1=>?_) (fun hi1=>?_)
  ·have h2:260<(az v (xat x 0)).1:=oT hi1
   refine aa rfl ?_
   refine zs1 ?_
   refine zp1 ?_
   refine Wv tG rfl rfl rfl (by omega) (iN au 1 (fun _=>rfl) 0 (by(simp only[dnL]at *;omega))) ?_
   refine zy3 ?_
   refine Wa 32 rfl (bsL au [_] rfl rfl) ?_
   refine zs3 ?_
   refine Wq<|aP rfl rfl ?_ ?_
   ·(rw[bI,if_pos ⟨h0,by omega⟩];rfl)
   rfl
  have h2:¬260<(az v (xat x 0)).1:=oF hi1
  refine Wj<|zp1 ?_
  refine Wv tG rfl rfl rfl (by omega) (iN au 1 (fun _=>rfl) 0 (by(simp only[dnL]at *;omega))) ?_
  refine zy3 ?_
  refine Wa 32 rfl (bsL au [_] rfl rfl) ?_
  refine zs3 ?_
  refine Wq<|aP rfl rfl ?_ ?_
  ·(rw[bI,if_neg (fun h=>by omega)];rfl)
  rfl
 have h0:¬(az v (xat x 0)).2=0:=beq_eq_false_iff_ne.1 hg1
 iterate 6 refine z6 ?_
 refine zs1 ?_
 refine Wf rfl rfl ?_
 refine Wj<|zp1 ?_
 refine Wv tG rfl rfl rfl (by omega) (iN au 1 (fun _=>rfl) 0 (by(simp only[dnL]at *;omega))) ?_
 refine zy3 ?_
 refine Wa 32 rfl (bsL au [_] rfl rfl) ?_
 refine zs3 ?_
 refine Wq<|aP rfl rfl ?_ ?_
 ·(rw[bI,if_neg (fun h=>by omega)];rfl)
 rfl
def aD1(x:List Int):af prog 347 [sq au x] (tLv ([],-1)):=by
 refine zY func347 fun B=>?_
 refine zu2 ?_
 refine zu2 ?_
 refine zR ?_
 rfl
def az8(v:VVm):af prog 349 [eVm v] (i64 v.arg):=by
 refine zY func349 fun B=>?_
 refine zu2 ?_
 refine zu3 ?_
 refine zR ?_
 rfl
def aE4(v:VVm):af prog 350 [eVm v] (i64 v.self):=by
 refine zY func350 fun B=>?_
 refine zu2 ?_
 refine zu3 ?_
 refine zR ?_
 rfl
def aD3(v:VVm):af prog 351 [eVm v] (i64 v.now):=by
 refine zY func351 fun B=>?_
 refine zu2 ?_
 refine zu3 ?_
 refine zR ?_
 rfl
def aF9(v:VVm)(x:List Int)(hm:cy v.mem)(hx:XOk 2 x):∀(H:List Ob) (i:Nat),H[i]?=some (.cells (cVm v) 37)->HC prog 352 (.ptr i 0::[sq au x]) H (tLv (gB v x).2) (H.set i (.cells (cVm (gB v x).1) 37)):=by
 have hl:=hx.len
 refine zM func352 fun B=>?_
 refine zu2 ?_
 iterate 2 refine Ws ?_
 refine am [0,0,0,1,0,0,1,3,0] [0,1,2,3,4,5,6,7,8] mG rfl (by kernel_rfl) ?_
 iterate 2 refine z3 ?_
 refine z9i ?_
 refine z5 ?_
 refine z3 ?_
 refine z9i ?_
 refine z5 ?_
 refine uR rfl rfl rfl rfl (dC rfl func353 rfl rfl ((w5 v _ _ (fY hm) (hx.fit 0)) _ _ rfl)) ?_
 refine z3 ?_
 refine ap ?_
 refine zu2 ?_
 refine Wi rfl (fun hi1=>?_) (fun hi1=>?_)
 ·have h0:¬jW v (xat x 0) (xat x 1)=0:=bne_iff_ne.1 hi1
  refine zu3 ?_
  refine Wq<|aP rfl rfl ?_ ?_
  ·rw[gB,if_neg h0];rfl
  rw[gB,if_neg h0];rfl
 have h0:jW v (xat x 0) (xat x 1)=0:=bne_eq_false_iff_eq.1 hi1
 refine Wj<|Ws<|am [0,0,0,1,0,0,1,3,0,0] [0,1,2,3,4,5,6,7,8,9] mG rfl (by kernel_rfl) ?_
 iterate 2 refine z3 ?_
 refine z9i ?_
 refine z5 ?_
 refine z3 ?_
 refine z9i ?_
 refine z5 ?_
 refine uR rfl rfl rfl rfl (dC rfl func311 rfl rfl ((tR v _ _ hm (hx.fit 1)) _ _ rfl)) ?_
 iterate 2 refine z3 ?_
 refine ap ?_
 refine Wq<|aP rfl rfl ?_ ?_
 ·rw[gB,if_pos h0];rfl
 rw[gB,if_pos h0];rfl
def aD9(v:VVm)(x:List Int)(hm:cy v.mem)(hx:XOk 3 x):∀(H:List Ob) (i:Nat),H[i]?=some (.cells (cVm v) 37)->HC prog 354 (.ptr i 0::[sq au x]) H (tLv (iY v x).2) (H.set i (.cells (cVm (iY v x).1) 37)):=by
 have hl:=hx.len
 refine zM func354 fun B=>?_
 refine zu2 ?_
 iterate 2 refine Ws ?_
 refine am [0,0,0,1,0,0,1,3,0] [0,1,2,3,4,5,6,7,8] mG rfl (by kernel_rfl) ?_
 iterate 2 refine z3 ?_
 refine z9i ?_
 refine z5 ?_
 refine z3 ?_
 refine z9i ?_
 refine z5 ?_
 refine uR rfl rfl rfl rfl (dC rfl func353 rfl rfl ((w5 v _ _ (fY hm) (hx.fit 1)) _ _ rfl)) ?_
 refine z3 ?_
 refine ap ?_
 refine zu2 ?_
 refine Wi rfl (fun hi1=>?_) (fun hi1=>?_)
 ·have h0:¬jW v (xat x 1) (xat x 2)=0:=bne_iff_ne.1 hi1
  refine zu3 ?_
  refine Wq<|aP rfl rfl ?_ ?_
  ·rw[iY,if_neg h0];rfl
  rw[iY,if_neg h0];rfl
 have h0:jW v (xat x 1) (xat x 2)=0:=bne_eq_false_iff_eq.1 hi1
 refine Wj<|Ws<|am [0,0,0,0,0,0,0,0,0,0,0,0,0,3,0,0] [0,1,2,3,4,5,6,7,8,9,10,11,12,13,14,15] mG rfl (by kernel_rfl) ?_
 iterate 2 refine z3 ?_
 refine z9i ?_
 iterate 3 refine z3 ?_
 refine z9i ?_
 iterate 4 refine z3 ?_
 refine z9i ?_
 refine z3 ?_
 refine uR rfl rfl rfl rfl (dC rfl func311 rfl rfl ((tR v _ _ hm (pI _)) _ _ rfl)) ?_
 iterate 2 refine z3 ?_
 refine ap ?_
 refine Wq<|aP rfl rfl ?_ ?_
 ·rw[iY,if_pos h0];rfl
 rw[iY,if_pos h0];rfl
def Qh:af prog 348 [i64 1] (bm 3 383 [.row [i64 1],.row [i64 3]]):=by
 refine zY func348 fun B=>?_
 refine zp1 ?_
 refine bQ 1 _ rfl rfl rfl ?_
 refine zs1 ?_
 refine z8 ?_
 refine Wd rfl rfl (dc rfl) ?_
 refine zD 3 (.n (1)) ?_
 refine zD 3 (.n (2)) ?_
 refine zD 3 (.n (3)) ?_
 refine zD 3 (.n (4)) ?_
 refine z1 ?_
 refine dZ 5 _ rfl rfl rfl ?_
 refine z1 ?_
 refine Wd rfl rfl (ba (b:=false) (e:=3) (key:=.n 1) (by kernel_rfl) (lO tG rfl) (by kernel_rfl) rfl rfl rfl rfl (by kernel_rfl) (rfl)) ?_
 refine zy2 ?_
 refine bQ 3 _ rfl rfl rfl ?_
 refine Wn<|zu4 ?_
 refine zR ?_
 rfl
def Pr:af prog 348 [i64 2] (bm 4 383 [.row [i64 2],.row [i64 4]]):=by
 refine zY func348 fun B=>?_
 refine zp1 ?_
 refine bQ 1 _ rfl rfl rfl ?_
 refine zs1 ?_
 refine z8 ?_
 refine Wd rfl rfl (dc rfl) ?_
 refine zD 3 (.n (1)) ?_
 refine zD 3 (.n (2)) ?_
 refine zD 3 (.n (3)) ?_
 refine zD 3 (.n (4)) ?_
 refine z1 ?_
 refine dZ 5 _ rfl rfl rfl ?_
 refine z1 ?_
 refine Wd rfl rfl (ba (b:=false) (e:=3) (key:=.n 2) (by kernel_rfl) (lO tG rfl) (by kernel_rfl) rfl rfl rfl rfl (by kernel_rfl) (rfl)) ?_
 refine zy2 ?_
 refine bQ 3 _ rfl rfl rfl ?_
 refine Wn<|zu4 ?_
 refine zR ?_
 rfl
def OR:af prog 348 [i64 3] (bm 4 383 [.row [i64 3],.row [i64 4]]):=by
 refine zY func348 fun B=>?_
 refine zp1 ?_
 refine bQ 1 _ rfl rfl rfl ?_
 refine zs1 ?_
 refine z8 ?_
 refine Wd rfl rfl (dc rfl) ?_
 refine zD 3 (.n (1)) ?_
 refine zD 3 (.n (2)) ?_
 refine zD 3 (.n (3)) ?_
 refine zD 3 (.n (4)) ?_
 refine z1 ?_
 refine dZ 5 _ rfl rfl rfl ?_
 refine z1 ?_
 refine Wd rfl rfl (ba (b:=false) (e:=3) (key:=.n 3) (by kernel_rfl) (lO tG rfl) (by kernel_rfl) rfl rfl rfl rfl (by kernel_rfl) (rfl)) ?_
 refine zy2 ?_
 refine bQ 3 _ rfl rfl rfl ?_
 refine Wn<|zu4 ?_
 refine zR ?_
 rfl
def OY:af prog 348 [i64 4] (bm 1 383 [.row [i64 4],.row [i64 1]]):=by
 refine zY func348 fun B=>?_
 refine zp1 ?_
 refine bQ 1 _ rfl rfl rfl ?_
 refine zs1 ?_
 refine z8 ?_
 refine Wd rfl rfl (dc rfl) ?_
 refine zD 3 (.n (1)) ?_
 refine zD 3 (.n (2)) ?_
 refine zD 3 (.n (3)) ?_
 refine zD 3 (.n (4)) ?_
 refine z1 ?_
 refine dZ 5 _ rfl rfl rfl ?_
 refine z1 ?_
 refine Wd rfl rfl (ba (b:=false) (e:=3) (key:=.n 4) (by kernel_rfl) (lO tG rfl) (by kernel_rfl) rfl rfl rfl rfl (by kernel_rfl) (rfl)) ?_
 refine zy2 ?_
 refine bQ 3 _ rfl rfl rfl ?_
 refine Wn<|zu4 ?_
 refine zR ?_
 rfl
def QR(v:VVm)(x:List Int)(hr:v.req.length<=100000)(hx:XOk 1 x):∀(H:List Ob) (i:Nat),H[i]?=some (.cells (cVm v) 37)->HC prog 383 (.ptr i 0::[sq au x,.row [i64 4],.row [i64 1]]) H (tLv (jo v x).2) (H.set i (.cells (cVm (jo v x).1) 37)):=by
 have hl:=hx.len
 refine zM func383 fun B=>?_
 refine zu2 ?_
 refine zu4 ?_
 refine Ws<|zu2 ?_
 refine Wt rfl (by decide) ?_
 refine aa rfl ?_
 refine z1 ?_
 refine Wv tG rfl rfl rfl (by omega) (iN au 1 (fun _=>rfl) 0 (by(simp only[dnL]at *;omega))) ?_
 refine zs3 ?_
 refine zu3 ?_
 refine Ws<|zp2 ?_
 refine nB 56 rfl (by decide) ?_
 iterate 10 refine z6 ?_
 refine zs1 ?_
 refine Wf rfl rfl ?_
 refine Wj<|Ws<|zp5 ?_
 refine zs1 ?_
 refine Wi rfl (fun hi2=>?_) (fun hi2=>?_)
 ·have h5:16<=(v.req.length:Int):=oT hi2
  refine zu2 ?_
  refine Wq<|aP rfl rfl ?_ ?_
  ·rw[jo,if_pos h5];rfl
  rw[jo,if_pos h5];rfl
 have h5:¬16<=(v.req.length:Int):=oF hi2
 refine Wj<|Ws<|zu2 ?_
 refine Wt rfl (by decide) ?_
 refine Ws<|am [0,0,0,0,1,0,1,0,0,0,0,3] [0,1,2,3,4,5,6,7,8,9,10,11] mG rfl (by kernel_rfl) ?_
 iterate 4 refine z3 ?_
 refine z5 ?_
 refine Xc rfl rfl rfl rfl (fun _=>dC rfl func384 rfl rfl ((wi _ (by omega)) _)) ?_
 refine z5 ?_
 refine z3 ?_
 refine Xa 83 rfl ((show PV.seq 1 _ .clip=.seq (List.length [(⟨4,0,0,0,0,xat x 0⟩:u4)]) (List.flatMap vk [(⟨4,0,0,0,0,xat x 0⟩:u4)]) .clip from rfl)) ?_
 refine fN rfl rfl rfl rfl (fun _=>cg (lO tG rfl) rfl (lO tG rfl) (lO tG rfl) rfl rfl (by exact⟨_,rfl⟩) (by exact⟨rfl,rfl,al _ 6 (fun _=>rfl) _,bi _ (fun _=>rfl) _⟩) (by exact al _ 6 (fun _=>rfl) _) (by((simp_all;omega))) (by((simp_all;omega))) (by exact fp (bo (fun x=>by simp) _) (bo (fun x=>by simp) _))) ?_
 refine Xa 84 rfl (bT vk) ?_
 iterate 2 refine z3 ?_
 refine ct tG rfl rfl rfl rfl rfl trivial ?_
 refine ap ?_
 refine zu2 ?_
 refine Wq<|aP rfl rfl ?_ ?_
 ·rw[jo,if_neg h5];rfl
 rw[jo,if_neg h5];rfl
def Z3(v:VVm)(x:List Int)(hr:v.req.length<=100000)(hd:v.hand.length<=1000000)(hx:XOk 3 x):∀(H:List Ob) (i:Nat),H[i]?=some (.cells (cVm v) 37)->HC prog 383 (.ptr i 0::[sq au x,.row [i64 1],.row [i64 3]]) H (tLv (jJ v x).2) (H.set i (.cells (cVm (jJ v x).1) 37)):=by
 have hl:=hx.len
 refine zM func383 fun B=>?_
 refine zu2 ?_
 refine zu4 ?_
 refine Ws<|zu2 ?_
 refine Wf rfl (by decide) ?_
 refine Ws<|am [0,0,0,0,0,0,0,0,0,0,3,0,3,0,3] [0,1,2,3,4,5,6,7,8,9,10,11,12,13,14] mG rfl (by kernel_rfl) ?_
 refine z3 ?_
 refine z9i ?_
 iterate 2 refine z3 ?_
 refine z9i ?_
 iterate 2 refine z3 ?_
 refine z9i ?_
 iterate 2 refine z3 ?_
 refine ct tG rfl rfl rfl rfl rfl trivial ?_
 refine z3 ?_
 refine ct tG rfl rfl rfl rfl rfl trivial ?_
 refine z3 ?_
 refine ct tG rfl rfl rfl rfl rfl trivial ?_
 refine ap ?_
 refine Ws<|am [0,1,0,0,0,1,0,0,0,1,0,0,0,0,0,1,0,0,0,0,1,0,0] [0,1,2,3,4,5,6,7,8,9,10,11,12,13,14,15,16,17,18,19,20,21,22] mG rfl (by kernel_rfl) ?_
 refine z3 ?_
 refine z5 ?_
 iterate 2 refine z3 ?_
 refine i5 33 rfl (fun hg1=>?_) (fun hg1=>?_)
 ·have h1:xat x 1<0:=oT hg1
  have hb:iW v x:=.inl h1
  iterate 8 refine z7 ?_
  iterate 2 refine z3 ?_
  iterate 3 refine z7 ?_
  iterate 2 refine z3 ?_
  iterate 3 refine z7 ?_
  refine z3 ?_
  refine ap ?_
  refine Wt rfl rfl ?_
  refine zu2 ?_
  refine Wq<|aP rfl rfl ?_ ?_
  ·rw[jJ,if_pos hb];rfl
  rw[jJ,if_pos hb];rfl
 have h1:¬xat x 1<0:=oF hg1
 refine z3 ?_
 refine z5 ?_
 iterate 3 refine z3 ?_
 refine z5 ?_
 iterate 4 refine z3 ?_
 refine i5 43 rfl (fun hg2=>?_) (fun hg2=>?_)
 ·have h2:(v.hand.length:Int)<=xat x 1:=oT hg2
  have hb:iW v x:=.inr (.inl h2)
  iterate 3 refine z7 ?_
  iterate 2 refine z3 ?_
  iterate 3 refine z7 ?_
  refine z3 ?_
  refine ap ?_
  refine Wt rfl rfl ?_
  refine zu2 ?_
  refine Wq<|aP rfl rfl ?_ ?_
  ·rw[jJ,if_pos hb];rfl
  rw[jJ,if_pos hb];rfl
 have h2:¬(v.hand.length:Int)<=xat x 1:=oF hg2
 refine z3 ?_
 refine z5 ?_
 iterate 3 refine z3 ?_
 refine i5 48 rfl (fun hg3=>?_) (fun hg3=>?_)
 ·have h3:xat x 2<0:=oT hg3
  have hb:iW v x:=.inr (.inr (.inl h3))
  iterate 3 refine z7 ?_
  refine z3 ?_
  refine ap ?_
  refine Wt rfl rfl ?_
  refine zu2 ?_
  refine Wq<|aP rfl rfl ?_ ?_
  ·rw[jJ,if_pos hb];rfl
  rw[jJ,if_pos hb];rfl
 have h3:¬xat x 2<0:=oF hg3
 refine z3 ?_
 refine z5 ?_
 iterate 2 refine z3 ?_
 refine ap ?_
 refine Wi rfl (fun hi2=>?_) (fun hi2=>?_)
 ·have h4:4<=xat x 2:=oT hi2
  have hb:iW v x:=.inr (.inr (.inr (by omega)))
  refine zu2 ?_
  refine Wq<|aP rfl rfl ?_ ?_
  ·rw[jJ,if_pos hb];rfl
  rw[jJ,if_pos hb];rfl
 have h4:¬4<=xat x 2:=oF hi2
 have hb:¬iW v x:=by rintro(h|h|h|h)<;>omega
 refine Wj<|zu3 ?_
 refine Ws<|zp2 ?_
 refine nB 56 rfl (by decide) ?_
 iterate 10 refine z6 ?_
 refine zs1 ?_
 refine Wf rfl rfl ?_
 refine Wj<|Ws<|zp5 ?_
 refine zs1 ?_
 refine Wi rfl (fun hi3=>?_) (fun hi3=>?_)
 ·have h5:16<=(v.req.length:Int):=oT hi3
  refine zu2 ?_
  refine Wq<|aP rfl rfl ?_ ?_
  ·rw[jJ,if_neg hb,if_pos h5];rfl
  rw[jJ,if_neg hb,if_pos h5];rfl
 have h5:¬16<=(v.req.length:Int):=oF hi3
 refine Wj<|Ws<|zu2 ?_
 refine Wt rfl (by decide) ?_
 refine Ws<|am [0,0,0,0,1,0,1,0,0,0,0,3] [0,1,2,3,4,5,6,7,8,9,10,11] mG rfl (by kernel_rfl) ?_
 iterate 4 refine z3 ?_
 refine z5 ?_
 refine Xc rfl rfl rfl rfl (fun _=>dC rfl func384 rfl rfl ((wi _ (by omega)) _)) ?_
 refine z5 ?_
 refine z3 ?_
 refine Xa 83 rfl ((show PV.seq 1 _ .clip=.seq (List.length [(⟨1,xat x 0,xat x 1,xat x 2,0,0⟩:u4)]) (List.flatMap vk [(⟨1,xat x 0,xat x 1,xat x 2,0,0⟩:u4)]) .clip from rfl)) ?_
 refine fN rfl rfl rfl rfl (fun _=>cg (lO tG rfl) rfl (lO tG rfl) (lO tG rfl) rfl rfl (by exact⟨_,rfl⟩) (by exact⟨rfl,rfl,al _ 6 (fun _=>rfl) _,bi _ (fun _=>rfl) _⟩) (by exact al _ 6 (fun _=>rfl) _) (by((simp_all;omega))) (by((simp_all;omega))) (by exact fp (bo (fun x=>by simp) _) (bo (fun x=>by simp) _))) ?_
 refine Xa 84 rfl (bT vk) ?_
 iterate 2 refine z3 ?_
 refine ct tG rfl rfl rfl rfl rfl trivial ?_
 refine ap ?_
 refine zu2 ?_
 refine Wq<|aP rfl rfl ?_ ?_
 ·rw[jJ,if_neg hb,if_neg h5];rfl
 rw[jJ,if_neg hb,if_neg h5];rfl
def LO(k:Int)(hk:k≠4)(v:VVm)(x:List Int)(hr:v.req.length<=100000)(hd:v.hand.length<=1000000)(hx:XOk 4 x):∀(H:List Ob) (i:Nat),H[i]?=some (.cells (cVm v) 37)->HC prog 383 (.ptr i 0::[sq au x,.row [i64 k],.row [i64 4]]) H (tLv (dk k v x).2) (H.set i (.cells (cVm (dk k v x).1) 37)):=by
 have hl:=hx.len
 refine zM func383 fun B=>?_
 refine zu2 ?_
 refine zu4 ?_
 refine Ws<|zu2 ?_
 refine Wf rfl (by exact beq_eq_false_iff_ne.2 hk) ?_
 refine Ws<|am [0,0,0,0,0,0,0,0,0,0,3,0,3,0,3] [0,1,2,3,4,5,6,7,8,9,10,11,12,13,14] mG rfl (by kernel_rfl) ?_
 refine z3 ?_
 refine z9i ?_
 iterate 2 refine z3 ?_
 refine z9i ?_
 iterate 2 refine z3 ?_
 refine z9i ?_
 iterate 2 refine z3 ?_
 refine ct tG rfl rfl rfl rfl rfl trivial ?_
 refine z3 ?_
 refine ct tG rfl rfl rfl rfl rfl trivial ?_
 refine z3 ?_
 refine ct tG rfl rfl rfl rfl rfl trivial ?_
 refine ap ?_
 refine Ws<|am [0,1,0,0,0,1,0,0,0,1,0,0,0,0,0,1,0,0,0,0,1,0,0] [0,1,2,3,4,5,6,7,8,9,10,11,12,13,14,15,16,17,18,19,20,21,22] mG rfl (by kernel_rfl) ?_
 refine z3 ?_
 refine z5 ?_
 iterate 2 refine z3 ?_
 refine i5 33 rfl (fun hg1=>?_) (fun hg1=>?_)
 ·have h1:xat x 1<0:=oT hg1
  have hb:iW v x:=.inl h1
  iterate 8 refine z7 ?_
  iterate 2 refine z3 ?_
  iterate 3 refine z7 ?_
  iterate 2 refine z3 ?_
  iterate 3 refine z7 ?_
  refine z3 ?_
  refine ap ?_
  refine Wt rfl rfl ?_
  refine zu2 ?_
  refine Wq<|aP rfl rfl ?_ ?_
  ·rw[dk,if_pos hb];rfl
  rw[dk,if_pos hb];rfl
 have h1:¬xat x 1<0:=oF hg1
 refine z3 ?_
 refine z5 ?_
 iterate 3 refine z3 ?_
 refine z5 ?_
 iterate 4 refine z3 ?_
 refine i5 43 rfl (fun hg2=>?_) (fun hg2=>?_)
 ·have h2:(v.hand.length:Int)<=xat x 1:=oT hg2
  have hb:iW v x:=.inr (.inl h2)
  iterate 3 refine z7 ?_
  iterate 2 refine z3 ?_
  iterate 3 refine z7 ?_
  refine z3 ?_
  refine ap ?_
  refine Wt rfl rfl ?_
  refine zu2 ?_
  refine Wq<|aP rfl rfl ?_ ?_
  ·rw[dk,if_pos hb];rfl
  rw[dk,if_pos hb];rfl
 have h2:¬(v.hand.length:Int)<=xat x 1:=oF hg2
 refine z3 ?_
 refine z5 ?_
 iterate 3 refine z3 ?_
 refine i5 48 rfl (fun hg3=>?_) (fun hg3=>?_)
 ·have h3:xat x 2<0:=oT hg3
  have hb:iW v x:=.inr (.inr (.inl h3))
  iterate 3 refine z7 ?_
  refine z3 ?_
  refine ap ?_
  refine Wt rfl rfl ?_
  refine zu2 ?_
  refine Wq<|aP rfl rfl ?_ ?_
  ·rw[dk,if_pos hb];rfl
  rw[dk,if_pos hb];rfl
 have h3:¬xat x 2<0:=oF hg3
 refine z3 ?_
 refine z5 ?_
 iterate 2 refine z3 ?_
 refine ap ?_
 refine Wi rfl (fun hi2=>?_) (fun hi2=>?_)
 ·have h4:4<=xat x 2:=oT hi2
  have hb:iW v x:=.inr (.inr (.inr (by omega)))
  refine zu2 ?_
  refine Wq<|aP rfl rfl ?_ ?_
  ·rw[dk,if_pos hb];rfl
  rw[dk,if_pos hb];rfl
 have h4:¬4<=xat x 2:=oF hi2
 have hb:¬iW v x:=by rintro(h|h|h|h)<;>omega
 refine Wj<|zu3 ?_
 refine Ws<|zp2 ?_
 refine dF 56 rfl (by decide) ?_
 refine z1 ?_
 refine Wv tG rfl rfl rfl (by omega) (iN au 1 (fun _=>rfl) 0 (by(simp only[dnL]at *;omega))) ?_
 refine zy3 ?_
 refine Wb 61 rfl (fun hg5=>?_) (fun hg5=>?_)
 ·have h6:xat x 3<1:=oT hg5
  have hq:xat x 3<1\/4294967295<xat x 3:=.inl h6
  iterate 4 refine z6 ?_
  refine zs2 ?_
  refine Wt rfl rfl ?_
  refine zu2 ?_
  refine Wq<|aP rfl rfl ?_ ?_
  ·rw[dk,if_neg hb,if_pos hq];rfl
  rw[dk,if_neg hb,if_pos hq];rfl
 have h6:¬xat x 3<1:=oF hg5
 refine z1 ?_
 refine Wv tG rfl rfl rfl (by omega) (iN au 1 (fun _=>rfl) 0 (by(simp only[dnL]at *;omega))) ?_
 refine zs4 ?_
 refine Wi rfl (fun hi3=>?_) (fun hi3=>?_)
 ·have h7:4294967296<=xat x 3:=oT hi3
  have hq:xat x 3<1\/4294967295<xat x 3:=.inr (by omega)
  refine zu2 ?_
  refine Wq<|aP rfl rfl ?_ ?_
  ·rw[dk,if_neg hb,if_pos hq];rfl
  rw[dk,if_neg hb,if_pos hq];rfl
 have h7:¬4294967296<=xat x 3:=oF hi3
 have hq:¬(xat x 3<1\/4294967295<xat x 3):=by omega
 refine Wj<|Ws<|zp5 ?_
 refine zs1 ?_
 refine Wi rfl (fun hi4=>?_) (fun hi4=>?_)
 ·have h5:16<=(v.req.length:Int):=oT hi4
  refine zu2 ?_
  refine Wq<|aP rfl rfl ?_ ?_
  ·rw[dk,if_neg hb,if_neg hq,if_pos h5];rfl
  rw[dk,if_neg hb,if_neg hq,if_pos h5];rfl
 have h5:¬16<=(v.req.length:Int):=oF hi4
 refine Wj<|Ws<|zu2 ?_
 refine Wf rfl (by decide) ?_
 refine Wj<|Ws<|zp5 ?_
 refine z1 ?_
 refine Wb 92 rfl (fun hg6=>?_) (fun hg6=>?_)
 ·have h8:v.free=0:=beq_iff_eq.1 hg6
  have hw:v.free=0\/v.next=4611686018427387904:=.inl h8
  iterate 5 refine z6 ?_
  refine zs1 ?_
  refine Wt rfl rfl ?_
  refine zu2 ?_
  refine Wq<|aP rfl rfl ?_ ?_
  ·rw[dk,if_neg hb,if_neg hq,if_neg h5,if_pos hw];rfl
  rw[dk,if_neg hb,if_neg hq,if_neg h5,if_pos hw];rfl
 have h8:¬v.free=0:=beq_eq_false_iff_ne.1 hg6
 refine zy5 ?_
 refine zs1 ?_
 refine Wi rfl (fun hi6=>?_) (fun hi6=>?_)
 ·have h9:v.next=4611686018427387904:=beq_iff_eq.1 hi6
  have hw:v.free=0\/v.next=4611686018427387904:=.inr h9
  refine zu2 ?_
  refine Wq<|aP rfl rfl ?_ ?_
  ·rw[dk,if_neg hb,if_neg hq,if_neg h5,if_pos hw];rfl
  rw[dk,if_neg hb,if_neg hq,if_neg h5,if_pos hw];rfl
 have h9:¬v.next=4611686018427387904:=beq_eq_false_iff_ne.1 hi6
 have hw:¬(v.free=0\/v.next=4611686018427387904):=by rintro(h|h)<;>contradiction
 refine Wj<|Ws<|am [0,0,0,0,0,0,4,0,7,0,7] [0,1,2,3,4,5,6,7,8,9,10] mG rfl (by kernel_rfl) ?_
 refine z3 ?_
 refine z9i ?_
 iterate 4 refine z3 ?_
 refine zU 0 ?_
 refine z3 ?_
 refine dK 1 tG rfl rfl rfl rfl rfl trivial rfl ?_
 refine z3 ?_
 refine dK 1 tG rfl rfl rfl rfl rfl trivial rfl ?_
 refine ap ?_
 refine Ws<|am [0,0,0,0,1,0,1,0,0,0,0,3] [0,1,2,3,4,5,6,7,8,9,10,11] mG rfl (by kernel_rfl) ?_
 iterate 4 refine z3 ?_
 refine z5 ?_
 refine Xc rfl rfl rfl rfl (fun _=>dC rfl func384 rfl rfl ((wi _ (by omega)) _)) ?_
 refine z5 ?_
 refine z3 ?_
 refine Xa 115 rfl ((show PV.seq 1 _ .clip=.seq (List.length [(⟨k,xat x 0,xat x 1,xat x 2,xat x 3,v.next⟩:u4)]) (List.flatMap vk [(⟨k,xat x 0,xat x 1,xat x 2,xat x 3,v.next⟩:u4)]) .clip from rfl)) ?_
 refine fN rfl rfl rfl rfl (fun _=>cg (lO tG rfl) rfl (lO tG rfl) (lO tG rfl) rfl rfl (by exact⟨_,rfl⟩) (by exact⟨rfl,rfl,al _ 6 (fun _=>rfl) _,bi _ (fun _=>rfl) _⟩) (by exact al _ 6 (fun _=>rfl) _) (by((simp_all;omega))) (by((simp_all;omega))) (by exact fp (bo (fun x=>by simp) _) (bo (fun x=>by simp) _))) ?_
 refine Xa 116 rfl (bT vk) ?_
 iterate 2 refine z3 ?_
 refine ct tG rfl rfl rfl rfl rfl trivial ?_
 refine ap ?_
 refine zp5 ?_
 refine zs3 ?_
 refine zp5 ?_
 refine zs3 ?_
 refine zp3 ?_
 refine Wa 135 rfl (bsL au [_] rfl rfl) ?_
 refine zc rfl func245 ((lx [v.next]) _) ?_
 refine zs4 ?_
 refine Wq<|aP rfl rfl ?_ ?_
 ·rw[dk,if_neg hb,if_neg hq,if_neg h5,if_neg hw];rfl
 rw[dk,if_neg hb,if_neg hq,if_neg h5,if_neg hw];rfl
def rkK:List fv:=[.s [47,77,79,68],.s [42,47,77,79,68],.s [42,47],.s [85,77,42],.s [77,42],.s [85,77,47,77,79,68],.s [83,77,47,82,69,77],.s [70,77,47,77,79,68],.s [83,62,68],.s [87,73,84,72,73,78]]
def rkV:List PV:=[bm 2 271 [.row [fnP 280 oQ]],bm 3 271 [.row [fnP 281 Fu]],bm 3 271 [.row [fnP 282 RI]],bm 2 271 [.row [fnP 283 []]],bm 2 271 [.row [fnP 285 []]],bm 3 271 [.row [fnP 286 oQ]],bm 3 271 [.row [fnP 288 oQ]],bm 3 271 [.row [fnP 290 oQ]],bm 1 271 [.row [fnP 291 []]],bm 3 271 [.row [fnP 293 []]]]
def W9:aQ (.smap rkK rkV):=by
 unfold aQ rkV
 simp
def jf:af prog 246 [] (.smap rkK rkV):=by
 refine bv tG (rs:=[.tmp 0]) func246 rfl rfl rfl (by simp;done) (by exact W9) (fun B=>?_)
 refine zu1 ?_
 refine zp2 ?_
 refine bQ 1 _ rfl rfl rfl ?_
 refine Wn<|zp2 ?_
 refine bQ 2 _ rfl rfl rfl ?_
 refine z0 ?_
 refine Wd rfl rfl (dc rfl) ?_
 refine z1 ?_
 refine zc rfl func240 ((jq 2 280 oQ (by simp)) _) ?_
 refine zD 267 (.s [47,77,79,68]) ?_
 refine z1 ?_
 refine zc rfl func240 ((jq 3 281 Fu (by simp)) _) ?_
 refine zD 267 (.s [42,47,77,79,68]) ?_
 refine z1 ?_
 refine zc rfl func240 ((jq 3 282 RI (by simp)) _) ?_
 refine zD 267 (.s [42,47]) ?_
 refine zc rfl func240 ((jq 2 283 [] (by simp)) _) ?_
 refine zD 267 (.s [85,77,42]) ?_
 refine zc rfl func240 ((jq 2 285 [] (by simp)) _) ?_
 refine zD 267 (.s [77,42]) ?_
 refine z1 ?_
 refine zc rfl func240 ((jq 3 286 oQ (by simp)) _) ?_
 refine zD 267 (.s [85,77,47,77,79,68]) ?_
 refine z1 ?_
 refine zc rfl func240 ((jq 3 288 oQ (by simp)) _) ?_
 refine zD 267 (.s [83,77,47,82,69,77]) ?_
 refine z1 ?_
 refine zc rfl func240 ((jq 3 290 oQ (by simp)) _) ?_
 refine zD 267 (.s [70,77,47,77,79,68]) ?_
 refine zc rfl func240 ((jq 1 291 [] (by simp)) _) ?_
 refine zD 267 (.s [83,62,68]) ?_
 refine zc rfl func240 ((jq 3 293 [] (by simp)) _) ?_
 refine zD 267 (.s [87,73,84,72,73,78]) ?_
 refine z1 ?_
 refine dZ 20 _ rfl rfl rfl ?_
 refine zs1 ?_
 refine zR ?_
 rfl
def meK:List fv:=[.s [64],.s [67,64],.s [33],.s [67,33],.s [43,33],.s [50,64],.s [50,33],.s [70,73,76,76],.s [77,79,86,69],.s [67,79,85,78,84]]
def meV:List PV:=[bm 1 367 [.row [fnP 39 []]],bm 1 367 [.row [fnP 296 []]],bm 2 368 [.row [fnP 298 []]],bm 2 368 [.row [fnP 299 []]],bm 2 368 [.row [fnP 301 []]],bm 1 302 [],bm 3 368 [.row [fnP 303 []]],bm 3 368 [.row [fnP 304 []]],bm 3 368 [.row [fnP 306 []]],bm 1 308 []]
def Wp:aQ (.smap meK meV):=by
 unfold aQ meV
 simp
def iD:af prog 247 [] (.smap meK meV):=by
 refine bv tG (rs:=[.tmp 0]) func247 rfl rfl rfl (by simp;done) (by exact Wp) (fun B=>?_)
 refine zu1 ?_
 refine z8 ?_
 refine Wd rfl rfl (dc rfl) ?_
 refine zc rfl func295 ((uj 39 [] (by simp)) _) ?_
 refine zD 267 (.s [64]) ?_
 refine zc rfl func295 ((uj 296 [] (by simp)) _) ?_
 refine zD 267 (.s [67,64]) ?_
 refine zc rfl func297 ((lp 2 298 [] (by simp)) _) ?_
 refine zD 267 (.s [33]) ?_
 refine zc rfl func297 ((lp 2 299 [] (by simp)) _) ?_
 refine zD 267 (.s [67,33]) ?_
 refine zc rfl func297 ((lp 2 301 [] (by simp)) _) ?_
 refine zD 267 (.s [43,33]) ?_
 refine z1 ?_
 refine zD 267 (.s [50,64]) ?_
 refine zc rfl func297 ((lp 3 303 [] (by simp)) _) ?_
 refine zD 267 (.s [50,33]) ?_
 refine zc rfl func297 ((lp 3 304 [] (by simp)) _) ?_
 refine zD 267 (.s [70,73,76,76]) ?_
 refine zc rfl func297 ((lp 3 306 [] (by simp)) _) ?_
 refine zD 267 (.s [77,79,86,69]) ?_
 refine z1 ?_
 refine zD 267 (.s [67,79,85,78,84]) ?_
 refine z1 ?_
 refine dZ 12 _ rfl rfl rfl ?_
 refine zs1 ?_
 refine zR ?_
 rfl
def spK:List fv:=[.s [72,69,82,69],.s [65,76,76,79,84],.s [44],.s [67,44],.s [65,76,73,71,78],.s [66,65,83,69],.s [83,84,65,84,69],.s [84,82,85,69],.s [70,65,76,83,69],.s [66,76],.s [68,69,67,73,77,65,76],.s [72,69,88]]
def spV:List PV:=[bm 0 370 [.row [fnP 315 []]],bm 1 371 [.row [fnP 317 []]],bm 1 371 [.row [fnP 319 []]],bm 1 371 [.row [fnP 320 []]],bm 0 371 [.row [fnP 321 []]],bm 0 370 [.row [fnP 314 [.row [i64 (0)]]]],bm 0 370 [.row [fnP 314 [.row [i64 (8)]]]],bm 0 370 [.row [fnP 314 [.row [i64 (-1)]]]],bm 0 370 [.row [fnP 314 [.row [i64 (0)]]]],bm 0 370 [.row [fnP 314 [.row [i64 (32)]]]],bm 0 310 [.row [i64 10]],bm 0 310 [.row [i64 16]]]
def Xh:aQ (.smap spK spV):=by
 unfold aQ spV
 simp
def j4:af prog 248 [] (.smap spK spV):=by
 refine bv tG (rs:=[.tmp 0]) func248 rfl rfl rfl (by simp;done) (by exact Xh) (fun B=>?_)
 refine zu1 ?_
 refine zu1 ?_
 refine zu1 ?_
 refine z8 ?_
 refine Wd rfl rfl (dc rfl) ?_
 refine zc rfl func313 ((rW 315 [] (by simp)) _) ?_
 refine zD 267 (.s [72,69,82,69]) ?_
 refine zc rfl func316 ((xS 1 317 [] (by simp)) _) ?_
 refine zD 267 (.s [65,76,76,79,84]) ?_
 refine zc rfl func316 ((xS 1 319 [] (by simp)) _) ?_
 refine zD 267 (.s [44]) ?_
 refine zc rfl func316 ((xS 1 320 [] (by simp)) _) ?_
 refine zD 267 (.s [67,44]) ?_
 refine zc rfl func316 ((xS 0 321 [] (by simp)) _) ?_
 refine zD 267 (.s [65,76,73,71,78]) ?_
 refine z1 ?_
 refine Wc rfl rfl (dQ rfl rfl func312 rfl rfl (oM (0) _)) ?_
 refine zD 267 (.s [66,65,83,69]) ?_
 refine z1 ?_
 refine Wc rfl rfl (dQ rfl rfl func312 rfl rfl (oM (8) _)) ?_
 refine zD 267 (.s [83,84,65,84,69]) ?_
 refine z1 ?_
 refine Wc rfl rfl (dQ rfl rfl func312 rfl rfl (oM (-1) _)) ?_
 refine zD 267 (.s [84,82,85,69]) ?_
 refine z1 ?_
 refine Wc rfl rfl (dQ rfl rfl func312 rfl rfl (oM (0) _)) ?_
 refine zD 267 (.s [70,65,76,83,69]) ?_
 refine z1 ?_
 refine Wc rfl rfl (dQ rfl rfl func312 rfl rfl (oM (32) _)) ?_
 refine zD 267 (.s [66,76]) ?_
 refine z1 ?_
 refine Wc rfl rfl (dQ rfl rfl func309 rfl rfl (KN 10 _)) ?_
 refine zD 267 (.s [68,69,67,73,77,65,76]) ?_
 refine z1 ?_
 refine Wc rfl rfl (dQ rfl rfl func309 rfl rfl (KN 16 _)) ?_
 refine zD 267 (.s [72,69,88]) ?_
 refine z1 ?_
 refine dZ 23 _ rfl rfl rfl ?_
 refine zs1 ?_
 refine zR ?_
 rfl
def prK:List fv:=[.s [69,77,73,84],.s [67,82],.s [83,80,65,67,69],.s [83,80,65,67,69,83],.s [84,89,80,69],.s [46],.s [85,46]]
def prV:List PV:=[bm 1 372 [.row [fnP 328 []]],bm 0 372 [.row [fnP 327 [.row [str [10]]]]],bm 0 372 [.row [fnP 327 [.row [str [32]]]]],bm 1 372 [.row [fnP 329 []]],bm 2 372 [.row [fnP 331 []]],bm 1 372 [.row [fnP 324 [.row [fnP 332 []]]]],bm 1 372 [.row [fnP 324 [.row [fnP 333 []]]]]]
def Ww:aQ (.smap prK prV):=by
 unfold aQ prV
 simp
def jZ:af prog 249 [] (.smap prK prV):=by
 refine bv tG (rs:=[.tmp 0]) func249 rfl rfl rfl (by simp;done) (by exact Ww) (fun B=>?_)
 refine zu1 ?_
 refine zu1 ?_
 refine zu1 ?_
 refine z8 ?_
 refine Wd rfl rfl (dc rfl) ?_
 refine zc rfl func323 ((vd 1 328 [] (by simp)) _) ?_
 refine zD 267 (.s [69,77,73,84]) ?_
 refine z1 ?_
 refine Wc rfl rfl (dQ rfl rfl func326 rfl rfl (LG [10] _)) ?_
 refine zD 267 (.s [67,82]) ?_
 refine z1 ?_
 refine Wc rfl rfl (dQ rfl rfl func326 rfl rfl (LG [32] _)) ?_
 refine zD 267 (.s [83,80,65,67,69]) ?_
 refine zc rfl func323 ((vd 1 329 [] (by simp)) _) ?_
 refine zD 267 (.s [83,80,65,67,69,83]) ?_
 refine zc rfl func323 ((vd 2 331 [] (by simp)) _) ?_
 refine zD 267 (.s [84,89,80,69]) ?_
 refine z1 ?_
 refine Wc rfl rfl (dQ rfl rfl func322 rfl rfl (CX 332 [] (by simp) _)) ?_
 refine zD 267 (.s [46]) ?_
 refine z1 ?_
 refine Wc rfl rfl (dQ rfl rfl func322 rfl rfl (CX 333 [] (by simp) _)) ?_
 refine zD 267 (.s [85,46]) ?_
 refine z1 ?_
 refine dZ 15 _ rfl rfl rfl ?_
 refine zs1 ?_
 refine zR ?_
 rfl
def piK:List fv:=[.s [60,35],.s [35],.s [35,83],.s [72,79,76,68],.s [83,73,71,78],.s [35,62]]
def piV:List PV:=[bm 0 336 [],bm 2 338 [],bm 2 340 [],bm 1 335 [.row [fnP 342 []]],bm 1 335 [.row [fnP 343 []]],bm 2 344 []]
def Wh:aQ (.smap piK piV):=by
 unfold aQ piV
 simp
def mW:af prog 250 [] (.smap piK piV):=by
 refine bv tG (rs:=[.tmp 0]) func250 rfl rfl rfl (by simp;done) (by exact Wh) (fun B=>?_)
 refine zu1 ?_
 refine zu1 ?_
 refine z8 ?_
 refine Wd rfl rfl (dc rfl) ?_
 refine z1 ?_
 refine zD 267 (.s [60,35]) ?_
 refine z1 ?_
 refine zD 267 (.s [35]) ?_
 refine z1 ?_
 refine zD 267 (.s [35,83]) ?_
 refine z1 ?_
 refine Wc rfl rfl (dQ rfl rfl func334 rfl rfl (RL 342 [] (by simp) _)) ?_
 refine zD 267 (.s [72,79,76,68]) ?_
 refine z1 ?_
 refine Wc rfl rfl (dQ rfl rfl func334 rfl rfl (RL 343 [] (by simp) _)) ?_
 refine zD 267 (.s [83,73,71,78]) ?_
 refine z1 ?_
 refine zD 267 (.s [35,62]) ?_
 refine z1 ?_
 refine dZ 11 _ rfl rfl rfl ?_
 refine zs1 ?_
 refine zR ?_
 rfl
def otK:List fv:=[.s [62,66,79,68,89],.s [65,66,79,82,84],.s [80,79,83,84],.s [65,70,84,69,82],.s [69,86,69,82,89],.s [67,65,78,67,69,76],.s [65,82,71],.s [83,69,76,70],.s [78,79,87],.s [83,69,84,45,83,84,65,84,69],.s [65,84,45,83,84,65,84,69],.s [71,69,84,45,83,84,65,84,69]]
def otV:List PV:=[bm 1 346 [],bm 0 271 [.row [fnP 347 []]],bm 3 383 [.row [i64 1],.row [i64 3]],bm 4 383 [.row [i64 2],.row [i64 4]],bm 4 383 [.row [i64 3],.row [i64 4]],bm 1 383 [.row [i64 4],.row [i64 1]],bm 0 370 [.row [fnP 349 []]],bm 0 370 [.row [fnP 350 []]],bm 0 370 [.row [fnP 351 []]],bm 2 352 [],bm 3 354 [],bm 1 367 [.row [fnP 39 []]]]
def U2:aQ (.smap otK otV):=by
 unfold aQ otV
 simp
def G6:af prog 251 [] (.smap otK otV):=by
 refine bv tG (rs:=[.tmp 0]) func251 rfl rfl rfl (by simp;done) (by exact U2) (fun B=>?_)
 refine zu1 ?_
 refine z8 ?_
 refine Wd rfl rfl (dc rfl) ?_
 refine z1 ?_
 refine zD 267 (.s [62,66,79,68,89]) ?_
 refine zc rfl func240 ((jq 0 347 [] (by simp)) _) ?_
 refine zD 267 (.s [65,66,79,82,84]) ?_
 refine zc rfl func348 ((Qh) _) ?_
 refine zD 267 (.s [80,79,83,84]) ?_
 refine zc rfl func348 ((Pr) _) ?_
 refine zD 267 (.s [65,70,84,69,82]) ?_
 refine zc rfl func348 ((OR) _) ?_
 refine zD 267 (.s [69,86,69,82,89]) ?_
 refine zc rfl func348 ((OY) _) ?_
 refine zD 267 (.s [67,65,78,67,69,76]) ?_
 refine zc rfl func313 ((rW 349 [] (by simp)) _) ?_
 refine zD 267 (.s [65,82,71]) ?_
 refine zc rfl func313 ((rW 350 [] (by simp)) _) ?_
 refine zD 267 (.s [83,69,76,70]) ?_
 refine zc rfl func313 ((rW 351 [] (by simp)) _) ?_
 refine zD 267 (.s [78,79,87]) ?_
 refine z1 ?_
 refine zD 267 (.s [83,69,84,45,83,84,65,84,69]) ?_
 refine z1 ?_
 refine zD 267 (.s [65,84,45,83,84,65,84,69]) ?_
 refine zc rfl func295 ((uj 39 [] (by simp)) _) ?_
 refine zD 267 (.s [71,69,84,45,83,84,65,84,69]) ?_
 refine z1 ?_
 refine dZ 14 _ rfl rfl rfl ?_
 refine zs1 ?_
 refine zR ?_
 rfl
abbrev d8:PV:=.agg [i64 0,.val .nilFunc]
def jE(n:Int)(name:Str)(k:Int)(f:FuncId)(cap:List PV)(hn:72<n)(hc:aG cap)(h0:gJ rkK rkV (.s name) d8=(bm k f cap,true)):af prog 200 [i64 n,str name] (bm k f cap):=by
 refine bv tG (rs:=[.cell 4 267]) func200 rfl rfl rfl (by simp[hc]) (by simp[hc]) (fun B=>?_)
 refine zu2 ?_
 refine Ws<|Wl<|zu3 ?_
 refine Wf rfl (by exact decide_eq_false (by omega)) ?_
 refine zu3 ?_
 refine Wf rfl (by exact decide_eq_false (by omega)) ?_
 refine Wj<|Ws<|z8 ?_
 refine zc rfl func246 ((jf) _) ?_
 refine zc rfl func247 ((iD) _) ?_
 refine zc rfl func248 ((j4) _) ?_
 refine zc rfl func249 ((jZ) _) ?_
 refine zc rfl func250 ((mW) _) ?_
 refine zs2 ?_
 refine Wl<|jF 7 ?_
 show W _ _ _ _ _ _ _
 refine zu1 ?_
 refine Ws<|Wt rfl (by rfl) ?_
 refine Wj<|Ws<|Wl<|z8 ?_
 refine z2 ?_ (q:=(by decide))
 refine zs1 ?_
 refine zp2 ?_
 refine Wd rfl rfl (ba (b:=true) (e:=267) (key:=.s name) (by kernel_rfl) (lO tG rfl) (by kernel_rfl) rfl rfl rfl rfl (by kernel_rfl) ((by exact h0))) ?_
 refine zy5 ?_
 refine zs1 ?_
 refine zu1 ?_
 refine Wt rfl (by rfl) ?_
 refine zu2 ?_
 refine zR ?_
 rfl
def jH(n:Int)(name:Str)(k:Int)(f:FuncId)(cap:List PV)(hn:72<n)(hc:aG cap)(h0:gJ rkK rkV (.s name) d8=(d8,false))(h1:gJ meK meV (.s name) d8=(bm k f cap,true)):af prog 200 [i64 n,str name] (bm k f cap):=by
 refine bv tG (rs:=[.cell 4 267]) func200 rfl rfl rfl (by simp[hc]) (by simp[hc]) (fun B=>?_)
 refine zu2 ?_
 refine Ws<|Wl<|zu3 ?_
 refine Wf rfl (by exact decide_eq_false (by omega)) ?_
 refine zu3 ?_
 refine Wf rfl (by exact decide_eq_false (by omega)) ?_
 refine Wj<|Ws<|z8 ?_
 refine zc rfl func246 ((jf) _) ?_
 refine zc rfl func247 ((iD) _) ?_
 refine zc rfl func248 ((j4) _) ?_
 refine zc rfl func249 ((jZ) _) ?_
 refine zc rfl func250 ((mW) _) ?_
 refine zs2 ?_
 refine Wl<|jF 7 ?_
 show W _ _ _ _ _ _ _
 refine zu1 ?_
 refine Ws<|Wt rfl (by rfl) ?_
 refine Wj<|Ws<|Wl<|z8 ?_
 refine z2 ?_ (q:=(by decide))
 refine zs1 ?_
 refine zp2 ?_
 refine Wd rfl rfl (ba (b:=true) (e:=267) (key:=.s name) (by kernel_rfl) (lO tG rfl) (by kernel_rfl) rfl rfl rfl rfl (by kernel_rfl) ((by exact h0))) ?_
 refine zy5 ?_
 refine zs1 ?_
 refine zu1 ?_
 refine Wf rfl (by rfl) ?_
 refine Wj<|aa rfl ?_
 refine z1 ?_
 refine Wa 36 rfl (show _=PV.val (.int .i64 1) from rfl) ?_
 refine zs1 ?_
 show W _ _ _ _ _ _ _
 refine zu1 ?_
 refine Ws<|Wt rfl (by rfl) ?_
 refine Wj<|Ws<|Wl<|z8 ?_
 refine z2 ?_ (q:=(by decide))
 refine zs1 ?_
 refine zp2 ?_
 refine Wd rfl rfl (ba (b:=true) (e:=267) (key:=.s name) (by kernel_rfl) (lO tG rfl) (by kernel_rfl) rfl rfl rfl rfl (by kernel_rfl) ((by exact h1))) ?_
 refine zy5 ?_
 refine zs1 ?_
 refine zu1 ?_
 refine Wt rfl (by rfl) ?_
 refine zu2 ?_
 refine zR ?_
 rfl
def ir(n:Int)(name:Str)(k:Int)(f:FuncId)(cap:List PV)(hn:72<n)(hc:aG cap)(h0:gJ rkK rkV (.s name) d8=(d8,false))(h1:gJ meK meV (.s name) d8=(d8,false))(h2:gJ spK spV (.s name) d8=(bm k f cap,true)):af prog 200 [i64 n,str name] (bm k f cap):=by
 refine bv tG (rs:=[.cell 4 267]) func200 rfl rfl rfl (by simp[hc]) (by simp[hc]) (fun B=>?_)
 refine zu2 ?_
 refine Ws<|Wl<|zu3 ?_
 refine Wf rfl (by exact decide_eq_false (by omega)) ?_
 refine zu3 ?_
 refine Wf rfl (by exact decide_eq_false (by omega)) ?_
 refine Wj<|Ws<|z8 ?_
 refine zc rfl func246 ((jf) _) ?_
 refine zc rfl func247 ((iD) _) ?_
 refine zc rfl func248 ((j4) _) ?_
 refine zc rfl func249 ((jZ) _) ?_
 refine zc rfl func250 ((mW) _) ?_
 refine zs2 ?_
 refine Wl<|jF 7 ?_
 show W _ _ _ _ _ _ _
 refine zu1 ?_
 refine Ws<|Wt rfl (by rfl) ?_
 refine Wj<|Ws<|Wl<|z8 ?_
 refine z2 ?_ (q:=(by decide))
 refine zs1 ?_
 refine zp2 ?_
 refine Wd rfl rfl (ba (b:=true) (e:=267) (key:=.s name) (by kernel_rfl) (lO tG rfl) (by kernel_rfl) rfl rfl rfl rfl (by kernel_rfl) ((by exact h0))) ?_
 refine zy5 ?_
 refine zs1 ?_
 refine zu1 ?_
 refine Wf rfl (by rfl) ?_
 refine Wj<|aa rfl ?_
 refine z1 ?_
 refine Wa 36 rfl (show _=PV.val (.int .i64 1) from rfl) ?_
 refine zs1 ?_
 show W _ _ _ _ _ _ _
 refine zu1 ?_
 refine Ws<|Wt rfl (by rfl) ?_
 refine Wj<|Ws<|Wl<|z8 ?_
 refine z2 ?_ (q:=(by decide))
 refine zs1 ?_
 refine zp2 ?_
 refine Wd rfl rfl (ba (b:=true) (e:=267) (key:=.s name) (by kernel_rfl) (lO tG rfl) (by kernel_rfl) rfl rfl rfl rfl (by kernel_rfl) ((by exact h1))) ?_
 refine zy5 ?_
 refine zs1 ?_
 refine zu1 ?_
 refine Wf rfl (by rfl) ?_
 refine Wj<|aa rfl ?_
 refine z1 ?_
 refine Wa 36 rfl (show _=PV.val (.int .i64 2) from rfl) ?_
 refine zs1 ?_
 show W _ _ _ _ _ _ _
 refine zu1 ?_
 refine Ws<|Wt rfl (by rfl) ?_
 refine Wj<|Ws<|Wl<|z8 ?_
 refine z2 ?_ (q:=(by decide))
 refine zs1 ?_
 refine zp2 ?_
 refine Wd rfl rfl (ba (b:=true) (e:=267) (key:=.s name) (by kernel_rfl) (lO tG rfl) (by kernel_rfl) rfl rfl rfl rfl (by kernel_rfl) ((by exact h2))) ?_
 refine zy5 ?_
 refine zs1 ?_
 refine zu1 ?_
 refine Wt rfl (by rfl) ?_
 refine zu2 ?_
 refine zR ?_
 rfl
def ng(n:Int)(name:Str)(k:Int)(f:FuncId)(cap:List PV)(hn:72<n)(hc:aG cap)(h0:gJ rkK rkV (.s name) d8=(d8,false))(h1:gJ meK meV (.s name) d8=(d8,false))(h2:gJ spK spV (.s name) d8=(d8,false))(h3:gJ prK prV (.s name) d8=(bm k f cap,true)):af prog 200 [i64 n,str name] (bm k f cap):=by
 refine bv tG (rs:=[.cell 4 267]) func200 rfl rfl rfl (by simp[hc]) (by simp[hc]) (fun B=>?_)
 refine zu2 ?_
 refine Ws<|Wl<|zu3 ?_
 refine Wf rfl (by exact decide_eq_false (by omega)) ?_
 refine zu3 ?_
 refine Wf rfl (by exact decide_eq_false (by omega)) ?_
 refine Wj<|Ws<|z8 ?_
 refine zc rfl func246 ((jf) _) ?_
 refine zc rfl func247 ((iD) _) ?_
 refine zc rfl func248 ((j4) _) ?_
 refine zc rfl func249 ((jZ) _) ?_
 refine zc rfl func250 ((mW) _) ?_
 refine zs2 ?_
 refine Wl<|jF 7 ?_
 show W _ _ _ _ _ _ _
 refine zu1 ?_
 refine Ws<|Wt rfl (by rfl) ?_
 refine Wj<|Ws<|Wl<|z8 ?_
 refine z2 ?_ (q:=(by decide))
 refine zs1 ?_
 refine zp2 ?_
 refine Wd rfl rfl (ba (b:=true) (e:=267) (key:=.s name) (by kernel_rfl) (lO tG rfl) (by kernel_rfl) rfl rfl rfl rfl (by kernel_rfl) ((by exact h0))) ?_
 refine zy5 ?_
 refine zs1 ?_
 refine zu1 ?_
 refine Wf rfl (by rfl) ?_
 refine Wj<|aa rfl ?_
 refine z1 ?_
 refine Wa 36 rfl (show _=PV.val (.int .i64 1) from rfl) ?_
 refine zs1 ?_
 show W _ _ _ _ _ _ _
 refine zu1 ?_
 refine Ws<|Wt rfl (by rfl) ?_
 refine Wj<|Ws<|Wl<|z8 ?_
 refine z2 ?_ (q:=(by decide))
 refine zs1 ?_
 refine zp2 ?_
 refine Wd rfl rfl (ba (b:=true) (e:=267) (key:=.s name) (by kernel_rfl) (lO tG rfl) (by kernel_rfl) rfl rfl rfl rfl (by kernel_rfl) ((by exact h1))) ?_
 refine zy5 ?_
 refine zs1 ?_
 refine zu1 ?_
 refine Wf rfl (by rfl) ?_
 refine Wj<|aa rfl ?_
 refine z1 ?_
 refine Wa 36 rfl (show _=PV.val (.int .i64 2) from rfl) ?_
 refine zs1 ?_
 show W _ _ _ _ _ _ _
 refine zu1 ?_
 refine Ws<|Wt rfl (by rfl) ?_
 refine Wj<|Ws<|Wl<|z8 ?_
 refine z2 ?_ (q:=(by decide))
 refine zs1 ?_
 refine zp2 ?_
 refine Wd rfl rfl (ba (b:=true) (e:=267) (key:=.s name) (by kernel_rfl) (lO tG rfl) (by kernel_rfl) rfl rfl rfl rfl (by kernel_rfl) ((by exact h2))) ?_
 refine zy5 ?_
 refine zs1 ?_
 refine zu1 ?_
 refine Wf rfl (by rfl) ?_
 refine Wj<|aa rfl ?_
 refine z1 ?_
 refine Wa 36 rfl (show _=PV.val (.int .i64 3) from rfl) ?_
 refine zs1 ?_
 show W _ _ _ _ _ _ _
 refine zu1 ?_
 refine Ws<|Wt rfl (by rfl) ?_
 refine Wj<|Ws<|Wl<|z8 ?_
 refine z2 ?_ (q:=(by decide))
 refine zs1 ?_
 refine zp2 ?_
 refine Wd rfl rfl (ba (b:=true) (e:=267) (key:=.s name) (by kernel_rfl) (lO tG rfl) (by kernel_rfl) rfl rfl rfl rfl (by kernel_rfl) ((by exact h3))) ?_
 refine zy5 ?_
 refine zs1 ?_
 refine zu1 ?_
 refine Wt rfl (by rfl) ?_
 refine zu2 ?_
 refine zR ?_
 rfl
def oW(n:Int)(name:Str)(k:Int)(f:FuncId)(cap:List PV)(hn:72<n)(hc:aG cap)(h0:gJ rkK rkV (.s name) d8=(d8,false))(h1:gJ meK meV (.s name) d8=(d8,false))(h2:gJ spK spV (.s name) d8=(d8,false))(h3:gJ prK prV (.s name) d8=(d8,false))(h4:gJ piK piV (.s name) d8=(bm k f cap,true)):af prog 200 [i64 n,str name] (bm k f cap):=by
 refine bv tG (rs:=[.cell 4 267]) func200 rfl rfl rfl (by simp[hc]) (by simp[hc]) (fun B=>?_)
 refine zu2 ?_
 refine Ws<|Wl<|zu3 ?_
 refine Wf rfl (by exact decide_eq_false (by omega)) ?_
 refine zu3 ?_
 refine Wf rfl (by exact decide_eq_false (by omega)) ?_
 refine Wj<|Ws<|z8 ?_
 refine zc rfl func246 ((jf) _) ?_
 refine zc rfl func247 ((iD) _) ?_
 refine zc rfl func248 ((j4) _) ?_
 refine zc rfl func249 ((jZ) _) ?_
 refine zc rfl func250 ((mW) _) ?_
 refine zs2 ?_
 refine Wl<|jF 7 ?_
 show W _ _ _ _ _ _ _
 refine zu1 ?_
 refine Ws<|Wt rfl (by rfl) ?_
 refine Wj<|Ws<|Wl<|z8 ?_
 refine z2 ?_ (q:=(by decide))
 refine zs1 ?_
 refine zp2 ?_
 refine Wd rfl rfl (ba (b:=true) (e:=267) (key:=.s name) (by kernel_rfl) (lO tG rfl) (by kernel_rfl) rfl rfl rfl rfl (by kernel_rfl) ((by exact h0))) ?_
 refine zy5 ?_
 refine zs1 ?_
 refine zu1 ?_
 refine Wf rfl (by rfl) ?_
 refine Wj<|aa rfl ?_
 refine z1 ?_
 refine Wa 36 rfl (show _=PV.val (.int .i64 1) from rfl) ?_
 refine zs1 ?_
 show W _ _ _ _ _ _ _
 refine zu1 ?_
 refine Ws<|Wt rfl (by rfl) ?_
 refine Wj<|Ws<|Wl<|z8 ?_
 refine z2 ?_ (q:=(by decide))
 refine zs1 ?_
 refine zp2 ?_
 refine Wd rfl rfl (ba (b:=true) (e:=267) (key:=.s name) (by kernel_rfl) (lO tG rfl) (by kernel_rfl) rfl rfl rfl rfl (by kernel_rfl) ((by exact h1))) ?_
 refine zy5 ?_
 refine zs1 ?_
 refine zu1 ?_
 refine Wf rfl (by rfl) ?_
 refine Wj<|aa rfl ?_
 refine z1 ?_
 refine Wa 36 rfl (show _=PV.val (.int .i64 2) from rfl) ?_
 refine zs1 ?_
 show W _ _ _ _ _ _ _
 refine zu1 ?_
 refine Ws<|Wt rfl (by rfl) ?_
 refine Wj<|Ws<|Wl<|z8 ?_
 refine z2 ?_ (q:=(by decide))
 refine zs1 ?_
 refine zp2 ?_
 refine Wd rfl rfl (ba (b:=true) (e:=267) (key:=.s name) (by kernel_rfl) (lO tG rfl) (by kernel_rfl) rfl rfl rfl rfl (by kernel_rfl) ((by exact h2))) ?_
 refine zy5 ?_
 refine zs1 ?_
 refine zu1 ?_
 refine Wf rfl (by rfl) ?_
 refine Wj<|aa rfl ?_
 refine z1 ?_
 refine Wa 36 rfl (show _=PV.val (.int .i64 3) from rfl) ?_
 refine zs1 ?_
 show W _ _ _ _ _ _ _
 refine zu1 ?_
 refine Ws<|Wt rfl (by rfl) ?_
 refine Wj<|Ws<|Wl<|z8 ?_
 refine z2 ?_ (q:=(by decide))
 refine zs1 ?_
 refine zp2 ?_
 refine Wd rfl rfl (ba (b:=true) (e:=267) (key:=.s name) (by kernel_rfl) (lO tG rfl) (by kernel_rfl) rfl rfl rfl rfl (by kernel_rfl) ((by exact h3))) ?_
 refine zy5 ?_
 refine zs1 ?_
 refine zu1 ?_
 refine Wf rfl (by rfl) ?_
 refine Wj<|aa rfl ?_
 refine z1 ?_
 refine Wa 36 rfl (show _=PV.val (.int .i64 4) from rfl) ?_
 refine zs1 ?_
 show W _ _ _ _ _ _ _
 refine zu1 ?_
 refine Ws<|Wt rfl (by rfl) ?_
 refine Wj<|Ws<|Wl<|z8 ?_
 refine z2 ?_ (q:=(by decide))
 refine zs1 ?_
 refine zp2 ?_
 refine Wd rfl rfl (ba (b:=true) (e:=267) (key:=.s name) (by kernel_rfl) (lO tG rfl) (by kernel_rfl) rfl rfl rfl rfl (by kernel_rfl) ((by exact h4))) ?_
 refine zy5 ?_
 refine zs1 ?_
 refine zu1 ?_
 refine Wt rfl (by rfl) ?_
 refine zu2 ?_
 refine zR ?_
 rfl
def iC(n:Int)(name:Str)(k:Int)(f:FuncId)(cap:List PV)(hn:72<n)(hc:aG cap)(h0:gJ rkK rkV (.s name) d8=(d8,false))(h1:gJ meK meV (.s name) d8=(d8,false))(h2:gJ spK spV (.s name) d8=(d8,false))(h3:gJ prK prV (.s name) d8=(d8,false))(h4:gJ piK piV (.s name) d8=(d8,false))(h5:gJ otK otV (.s name) d8=(bm k f cap,true)):af prog 200 [i64 n,str name] (bm k f cap):=by
 refine bv tG (rs:=[.cell 4 267]) func200 rfl rfl rfl (by simp[hc]) (by simp[hc]) (fun B=>?_)
 refine zu2 ?_
 refine Ws<|Wl<|zu3 ?_
 refine Wf rfl (by exact decide_eq_false (by omega)) ?_
 refine zu3 ?_
 refine Wf rfl (by exact decide_eq_false (by omega)) ?_
 refine Wj<|Ws<|z8 ?_
 refine zc rfl func246 ((jf) _) ?_
 refine zc rfl func247 ((iD) _) ?_
 refine zc rfl func248 ((j4) _) ?_
 refine zc rfl func249 ((jZ) _) ?_
 refine zc rfl func250 ((mW) _) ?_
 refine zs2 ?_
 refine Wl<|jF 7 ?_
 show W _ _ _ _ _ _ _
 refine zu1 ?_
 refine Ws<|Wt rfl (by rfl) ?_
 refine Wj<|Ws<|Wl<|z8 ?_
 refine z2 ?_ (q:=(by decide))
 refine zs1 ?_
 refine zp2 ?_
 refine Wd rfl rfl (ba (b:=true) (e:=267) (key:=.s name) (by kernel_rfl) (lO tG rfl) (by kernel_rfl) rfl rfl rfl rfl (by kernel_rfl) ((by exact h0))) ?_
 refine zy5 ?_
 refine zs1 ?_
 refine zu1 ?_
 refine Wf rfl (by rfl) ?_
 refine Wj<|aa rfl ?_
 refine z1 ?_
 refine Wa 36 rfl (show _=PV.val (.int .i64 1) from rfl) ?_
 refine zs1 ?_
 show W _ _ _ _ _ _ _
 refine zu1 ?_
 refine Ws<|Wt rfl (by rfl) ?_
 refine Wj<|Ws<|Wl<|z8 ?_
 refine z2 ?_ (q:=(by decide))
 refine zs1 ?_
 refine zp2 ?_
 refine Wd rfl rfl (ba (b:=true) (e:=267) (key:=.s name) (by kernel_rfl) (lO tG rfl) (by kernel_rfl) rfl rfl rfl rfl (by kernel_rfl) ((by exact h1))) ?_
 refine zy5 ?_
 refine zs1 ?_
 refine zu1 ?_
 refine Wf rfl (by rfl) ?_
 refine Wj<|aa rfl ?_
 refine z1 ?_
 refine Wa 36 rfl (show _=PV.val (.int .i64 2) from rfl) ?_
 refine zs1 ?_
 show W _ _ _ _ _ _ _
 refine zu1 ?_
 refine Ws<|Wt rfl (by rfl) ?_
 refine Wj<|Ws<|Wl<|z8 ?_
 refine z2 ?_ (q:=(by decide))
 refine zs1 ?_
 refine zp2 ?_
 refine Wd rfl rfl (ba (b:=true) (e:=267) (key:=.s name) (by kernel_rfl) (lO tG rfl) (by kernel_rfl) rfl rfl rfl rfl (by kernel_rfl) ((by exact h2))) ?_
 refine zy5 ?_
 refine zs1 ?_
 refine zu1 ?_
 refine Wf rfl (by rfl) ?_
 refine Wj<|aa rfl ?_
 refine z1 ?_
 refine Wa 36 rfl (show _=PV.val (.int .i64 3) from rfl) ?_
 refine zs1 ?_
 show W _ _ _ _ _ _ _
 refine zu1 ?_
 refine Ws<|Wt rfl (by rfl) ?_
 refine Wj<|Ws<|Wl<|z8 ?_
 refine z2 ?_ (q:=(by decide))
 refine zs1 ?_
 refine zp2 ?_
 refine Wd rfl rfl (ba (b:=true) (e:=267) (key:=.s name) (by kernel_rfl) (lO tG rfl) (by kernel_rfl) rfl rfl rfl rfl (by kernel_rfl) ((by exact h3))) ?_
 refine zy5 ?_
 refine zs1 ?_
 refine zu1 ?_
 refine Wf rfl (by rfl) ?_
 refine Wj<|aa rfl ?_
 refine z1 ?_
 refine Wa 36 rfl (show _=PV.val (.int .i64 4) from rfl) ?_
 refine zs1 ?_
 show W _ _ _ _ _ _ _
 refine zu1 ?_
 refine Ws<|Wt rfl (by rfl) ?_
 refine Wj<|Ws<|Wl<|z8 ?_
 refine z2 ?_ (q:=(by decide))
 refine zs1 ?_
 refine zp2 ?_
 refine Wd rfl rfl (ba (b:=true) (e:=267) (key:=.s name) (by kernel_rfl) (lO tG rfl) (by kernel_rfl) rfl rfl rfl rfl (by kernel_rfl) ((by exact h4))) ?_
 refine zy5 ?_
 refine zs1 ?_
 refine zu1 ?_
 refine Wf rfl (by rfl) ?_
 refine Wj<|aa rfl ?_
 refine z1 ?_
 refine Wa 36 rfl (show _=PV.val (.int .i64 5) from rfl) ?_
 refine zs1 ?_
 show W _ _ _ _ _ _ _
 refine zu1 ?_
 refine Ws<|Wf rfl (by rfl) ?_
 refine aU ?_
 refine Ws<|am [0,1,0,3] [0,1,2,3] mG rfl (by kernel_rfl) ?_
 refine Xc rfl rfl rfl rfl (fun _=>dC rfl func251 rfl rfl ((G6) _)) ?_
 refine z5 ?_
 refine fN rfl rfl rfl rfl (fun _=>ba (b:=false) (e:=267) (key:=.s name) (by kernel_rfl) (lO tG rfl) (by kernel_rfl) rfl rfl rfl rfl (by kernel_rfl) ((by exact h5))) ?_
 refine ct tG rfl rfl rfl rfl rfl trivial ?_
 refine ap ?_
 refine zR ?_
 rfl
def MA(l:List Int)(hl:l.length<=1000000):RC prog 201 [sq au l] l.length (l.flatMap au) 1:=by
 refine N1 tG (rs:=[.tmp 2]) func201 rfl rfl rfl (by simp) (bo (fun x=>by simp) _) (fun B=>?_)
 refine zp1 ?_
 refine wo 2 0 1 rfl rfl ?_
 refine Wn<|Ws<|zp1 ?_
 refine vJ (lO tG rfl) rfl rfl rfl rfl rfl (fun bn1 hn1=>?_)
 refine Wn<|Wi rfl (fun hi1=>?_) (fun hi1=>?_)
 ·refine zp1 ?_
  refine wo 2 0 1 rfl rfl ?_
  refine Wn<|Wq ?_
  exact Yd rfl (hn1 hi1).1.symm (hn1 hi1).2.symm rfl (by omega)
 refine Wj<|zp2 ?_
 refine Wd rfl rfl (bK (lO tG rfl) rfl (lO tG rfl) (lO tG rfl) rfl rfl (by exact⟨_,rfl⟩) (by exact⟨rfl,rfl,al _ 1 (fun _=>rfl) _,bi _ (fun _=>rfl) _⟩) (by rfl) (by(dsimp only;omega)) (by(omega))) ?_
 refine Wa 7 rfl (sr au) ?_
 refine z1 ?_
 skip
 refine Wn<|Wq ?_
 exact Yd rfl rfl rfl rfl (by show(0+l.length)*1<=_;omega)
def jh(s:List Int)(roll:Bool)(limit:Int):List Int×Bool×Int :=
 if (bk s).2.2≠0\/(bk s).1<0\/((bk s).2.1.length:Int)<=(bk s).1 then(s,true,-4)else
  if roll then lD s ((bk s).1.toNat+2) ((bk s).2.1.drop ((bk s).2.1.length-1-(bk s).1.toNat+1)++[(bk s).2.1.getD ((bk s).2.1.length-1-(bk s).1.toNat) 0]) limit
  else lD s 1 [(bk s).2.1.getD ((bk s).2.1.length-1-(bk s).1.toNat) 0] limit
def Js{s:List Int}(h:(bk s).2.2=0):(bk s).2.1.length+1=s.length:=by
 unfold bk at h ⊢
 split at h
 ·cases h
 rename_i h0
 rw[if_neg h0]
 simp only[List.length_take];omega
def GJ(s:List Int)(roll:Bool)(limit:Int)(hs:s.length<=100000)(hm : -9223372036854775808<=limit/\limit<=9223372036854775807):
  af prog 238 [sq au s,boo roll,i64 limit] (A6 (jh s roll limit)):=by
 refine zY func238 fun B=>?_
 refine zu3 ?_
 refine zp1 ?_
 refine zc rfl func259 ((Da s hs) _) ?_
 refine zy5 ?_
 refine zs2 ?_
 refine Ws<|zp3 ?_
 refine Wb 21 rfl (fun hg1=>?_) (fun hg1=>?_)
 ·have h0:(bk s).2.2≠0:=by simpa using hg1
  iterate 2 refine z6 ?_
  refine zy2 ?_
  iterate 4 refine z6 ?_
  refine zs1 ?_
  refine Wt rfl rfl ?_
  refine zu4 ?_
  refine zR ?_
  rw[jh,if_pos (.inl h0)];rfl
 have h0:(bk s).2.2=0:=by simpa using hg1
 have hl:=Js h0
 refine zy4 ?_
 refine Wb 25 rfl (fun hg2=>?_) (fun hg2=>?_)
 ·have h1:(bk s).1<0:=by simpa using hg2
  iterate 4 refine z6 ?_
  refine zs1 ?_
  refine Wt rfl rfl ?_
  refine zu4 ?_
  refine zR ?_
  rw[jh,if_pos (.inr (.inl h1))];rfl
 have h1:¬(bk s).1<0:=by simpa using hg2
 refine zs5 ?_
 refine Wi rfl (fun hi1=>?_) (fun hi1=>?_)
 ·have h2:((bk s).2.1.length:Int)<=(bk s).1:=by simpa using hi1
  refine zu4 ?_
  refine zR ?_
  rw[jh,if_pos (.inr (.inr h2))];rfl
 have h2:¬((bk s).2.1.length:Int)<=(bk s).1:=by simpa using hi1
 have hc:¬((bk s).2.2≠0\/(bk s).1<0\/((bk s).2.1.length:Int)<=(bk s).1):=by rintro(h|h|h)<;>contradiction
 have w1:IntKind.i64.wrap (IntKind.i64.wrap (((bk s).2.1.length:Int)-1)-(bk s).1)=(((bk s).2.1.length-1-(bk s).1.toNat:Nat):Int):=by simp only[bB];unfold wrap64;omega
 have w2:IntKind.i64.wrap ((((bk s).2.1.length-1-(bk s).1.toNat:Nat):Int)+1)=(((bk s).2.1.length-1-(bk s).1.toNat+1:Nat):Int):=by simp only[bB];unfold wrap64;omega
 have w3:IntKind.i64.wrap ((bk s).1+2)=(((bk s).1.toNat+2:Nat):Int):=by simp only[bB];unfold wrap64;omega
 refine Wj<|zp5 ?_
 refine Wa 36 rfl (zI9 w1) ?_
 refine zs1 ?_
 refine Ws<|zu1 ?_
 refine Wi rfl (fun hi2=>?_) (fun hi2=>?_)
 ·refine Ws<|am [0,0,0,0,0,0,0,2,0,0,0,0,0,3,0,0,0,0,0,0,0,0] [0,1,2,3,4,5,6,8,9,10,11,12,14,7,13,15,16,17,18,19,20,21] mG rfl (by kernel_rfl) ?_
  iterate 3 refine z3 ?_
  refine Xa 40 rfl (zI9 w3) ?_
  iterate 3 refine z3 ?_
  refine Xa 43 rfl (zI9 w2) ?_
  refine z4 ?_ (q:=(by(simp_all;omega)))
  refine Xa 44 rfl (cF au 1 (fun _=>rfl) (by omega)) ?_
  refine Xa 44 rfl ((show _=sq au ((bk s).2.1.drop ((bk s).2.1.length-1-(bk s).1.toNat+1)) by rw[List.take_length,Int.toNat_natCast];rfl)) ?_
  iterate 2 refine z3 ?_
  refine Xi tG rfl rfl rfl rfl (fun _=>rfl) (by omega) (iN au 1 (fun _=>rfl) 0 (by omega)) ?_
  iterate 2 refine z3 ?_
  refine Xa 50 rfl (bsL au [_] rfl rfl) ?_
  refine z3 ?_
  refine iA rfl rfl rfl rfl (dC rfl func201 rfl rfl (MA _ (by simp;omega) _)) ?_
  refine kM rfl rfl rfl rfl (cH (lO tG rfl) rfl (lO tG rfl) (lO tG rfl) rfl rfl rfl rfl (by simp) (by exact⟨_,rfl⟩) (by exact⟨rfl,rfl,al _ 1 (fun _=>rfl) _,bi _ (fun _=>rfl) _⟩) (by(simp;omega)) (by(simp;omega))) ?_
  refine Xa 51 rfl (bT au) ?_
  refine Xc rfl rfl rfl rfl (fun _=>dC rfl func237 rfl rfl ((pr s _ _ _ hs (by omega) (by simp;omega) hm) _)) ?_
  iterate 6 refine z3 ?_
  refine ap ?_
  refine zR ?_
  rw[jh,if_neg hc,if_pos hi2];rfl
 refine Wj<|zp3 ?_
 refine Wv tG rfl rfl rfl (by omega) (iN au 1 (fun _=>rfl) 0 (by omega)) ?_
 refine zy2 ?_
 refine Wa 62 rfl (bsL au [_] rfl rfl) ?_
 refine z1 ?_
 refine zc rfl func237 ((pr s 1 _ _ hs (by omega) (by simp) hm) _) ?_
 refine zy5 ?_
 refine zs1 ?_
 refine zR ?_
 rw[jh,if_neg hc,if_neg (by rw[hi2];simp)];rfl
def Ro:List (Str×Nat×Str):=[([68,85,80],1,[97,97]),([68,82,79,80],1,[]),([83,87,65,80],2,[98,97]),([79,86,69,82],2,[97,98,97]),([78,73,80],2,[98]),([84,85,67,75],2,[98,97,98]),([82,79,84],3,[98,99,97]),([45,82,79,84],3,[99,97,98]),([50,68,85,80],2,[97,98,97,98]),([50,68,82,79,80],2,[]),([50,83,87,65,80],4,[99,100,97,98]),([50,79,86,69,82],4,[97,98,99,100,97,98])]
def Ew:List fv:=Ro.map fun q=>.s q.1
def AT:List PV:=Ro.map fun q=>.agg [i64 q.2.1,str q.2.2]
def Gu:aQ (.smap Ew AT):=by
 unfold aQ AT
 exact CL _ (fun q=>by simp) _
def yr:af prog 239 [] (.smap Ew AT):=by
 refine bv tG (rs:=[.tmp 0]) func239 rfl rfl rfl (by simp;done) (by exact Gu) (fun B=>?_)
 refine zu1 ?_
 refine z8 ?_
 refine Wd rfl rfl (dc rfl) ?_
 refine z1 ?_
 refine zD 292 (.s [68,85,80]) ?_
 refine z1 ?_
 refine zD 292 (.s [68,82,79,80]) ?_
 refine z1 ?_
 refine zD 292 (.s [83,87,65,80]) ?_
 refine z1 ?_
 refine zD 292 (.s [79,86,69,82]) ?_
 refine z1 ?_
 refine zD 292 (.s [78,73,80]) ?_
 refine z1 ?_
 refine zD 292 (.s [84,85,67,75]) ?_
 refine z1 ?_
 refine zD 292 (.s [82,79,84]) ?_
 refine z1 ?_
 refine zD 292 (.s [45,82,79,84]) ?_
 refine z1 ?_
 refine zD 292 (.s [50,68,85,80]) ?_
 refine z1 ?_
 refine zD 292 (.s [50,68,82,79,80]) ?_
 refine z1 ?_
 refine zD 292 (.s [50,83,87,65,80]) ?_
 refine z1 ?_
 refine zD 292 (.s [50,79,86,69,82]) ?_
 refine z1 ?_
 refine dZ 14 _ rfl rfl rfl ?_
 refine zs1 ?_
 refine zR ?_
 rfl
def JG(s:List Int)(tk:Nat)(lv:Str)(limit:Int):List Int×Bool×Int :=
 if s.length<tk then(s,true,-4)else lD s tk (lv.map fun c=>(s.drop (s.length-tk)).getD (c.toNat-97) 0) limit
def F9{lv:Str}{f:UInt8->Int}{k:Nat}{q:SK}(hk:k<lv.length):PV.seq ((lv.take k).map f++[f (lv.getD k 0)]).length (((lv.take k).map f++[f (lv.getD k 0)]).flatMap au) q=.seq ((lv.take (k+1)).map f).length (((lv.take (k+1)).map f).flatMap au) q:=by
 rw[fI lv k 0 hk,List.map_append];rfl
def iz(name:Str)(s:List Int)(limit:Int)(tk:Nat)(lv:Str)(hs:s.length<=100000)(hm : -9223372036854775808<=limit/\limit<=9223372036854775807)(h1:name≠[68,69,80,84,72])(h2:name≠[80,73,67,75])(h3:name≠[82,79,76,76])(h4:name≠[63,68,85,80])
  (hk:gJ Ew AT (.s name) (.agg [i64 0,str []])=(.agg [i64 tk,str lv],true)) (hl:∀c∈lv,97<=c.toNat/\c.toNat<97+tk) (hlen:lv.length<=10) (htk:tk<=4) :
  af prog 199 [str name,sq au s,i64 limit] (A6 (JG s tk lv limit)):=by
 refine zY func199 fun B=>?_
 refine zu3 ?_
 refine Ws<|zu1 ?_
 refine Wl<|zp1 ?_
 refine zq 17 ?_
 refine zs1 ?_
 refine Wf rfl (by exact decide_eq_false h1) ?_
 refine Ws<|zp1 ?_
 refine zq 28 ?_
 refine zs1 ?_
 refine Wf rfl (by exact decide_eq_false h2) ?_
 refine aa rfl ?_
 refine z1 ?_
 refine zq 29 ?_
 refine zs1 ?_
 refine Wf rfl (by exact decide_eq_false h3) ?_
 refine Wj<|z8 ?_
 refine zc rfl func239 ((yr) _) ?_
 refine z1 ?_
 refine Wd rfl rfl (ba (b:=true) (e:=292) (key:=.s name) (by kernel_rfl) (lO tG rfl) (by kernel_rfl) rfl rfl rfl rfl (by kernel_rfl) (hk)) ?_
 refine zy5 ?_
 refine zs1 ?_
 refine Ws<|zp2 ?_
 refine zq 45 ?_
 refine Wn<|Wf rfl (by exact decide_eq_false h4) ?_
 refine Wj<|Ws<|zu2 ?_
 refine Wf rfl (by rfl) ?_
 refine Wj<|Ws<|zu5 ?_
 refine Wi rfl (fun hi6=>?_) (fun hi6=>?_)
 ·have h0:s.length<tk:=by(try simp only[dnL]at *);omega
  refine zu4 ?_
  refine zR ?_
  rw[JG,if_pos h0];rfl
 have h0:¬s.length<tk:=by(try simp only[dnL]at *);omega
 have w1:IntKind.i64.wrap ((s.length:Int)-(tk:Int))=((s.length-tk:Nat):Int):=by((rw[bB];unfold wrap64;(try simp only[dnL]at *);omega))
 refine Wj<|zp5 ?_
 refine z1 ?_
 refine Wa 74 rfl (zI9 w1) ?_
 refine z2 ?_ (q:=(by(simp_all;done)))
 refine Wa 75 rfl (cF au 1 (fun _=>rfl) (by omega)) ?_
 refine Wa 75 rfl ((show _=sq au (s.drop (s.length-tk)) by rw[List.take_length,Int.toNat_natCast];rfl)) ?_
 refine zs1 ?_
 refine zp1 ?_
 refine wo 12 0 1 rfl rfl ?_
 refine Wn<|Ws<|zp2 ?_
 refine Wd rfl rfl (oI (lO tG rfl) rfl rfl rfl) ?_
 refine Wn<|Wl ?_
 show W _ _ _ _ _ _ _
 refine cQ (fun(k:Nat)=>[(1,sq au s),(2,i64 limit),(9,.ptr 0 0),(11,sq au (s.drop (s.length-tk))),(78,.ptr 3 0),(12,.seq ((lv.take k).map fun c=>(s.drop (s.length-tk)).getD (c.toNat-97) 0).length (((lv.take k).map fun c=>(s.drop (s.length-tk)).getD (c.toNat-97) 0).flatMap au) (.own 4 1))]) (fun(k:Nat)=>[.cells [i64 tk,str lv] 292,.dead,.dead]) (fun(k:Nat)=>[.iter lv k,.free (((lv.take k).map fun c=>(s.drop (s.length-tk)).getD (c.toNat-97) 0).length*1)]) (fun(k:Nat)=>k<=lv.length) (fun(k:Nat)=>lv.length-k) (0) (by omega) [2,1] ?_ ?_
 ·exact cV
 intro k hk
 refine z8 ?_
 by_cases hx1:k<lv.length
 ·have hc:=hl (lv.getD k 0) (by simp only[List.getD,List.getElem?_eq_getElem hx1,Option.getD_some];exact List.getElem_mem hx1)
  have w2:IntKind.i32.wrap (((lv.getD k 0).toNat:Int)-97)=(((lv.getD k 0).toNat-97:Nat):Int):=by rw[IntWalk.i32_left];unfold wrap32;omega
  refine Wd rfl rfl (sS rfl rfl rfl (by exact hx1) (by omega)) ?_
  refine zs1 ?_
  refine Ws<|Wt rfl rfl ?_
  refine Wj<|Wl<|zu2 ?_
  refine aa rfl ?_
  refine zy4 ?_
  refine Wa 85 rfl (congrArg (fun z=>PV.val (Value.int .i32 z)) w2) ?_
  refine Wv tG rfl rfl rfl (by simp only[List.length_drop,Int.toNat_natCast];omega) (iN au 1 (fun _=>rfl) 0 (by simp only[List.length_drop,Int.toNat_natCast];omega)) ?_
  refine zy2 ?_
  refine Wa 88 rfl (bsL au [_] rfl rfl) ?_
  refine Wd rfl rfl (cH (lO tG rfl) rfl (lO tG rfl) (lO tG rfl) rfl rfl rfl rfl (by simp) (by exact⟨_,rfl⟩) (by exact⟨rfl,rfl,al _ 1 (fun _=>rfl) _,bi _ (fun _=>rfl) _⟩) (by((simp_all;omega))) (by((simp_all;omega)))) ?_
  refine Wa 89 rfl (bT au) ?_
  refine z1 ?_
  skip
  refine Wn ?_
  exact⟨k+1,[3,5],(by omega),(by omega),(cV (sub:=by repeat (first|exact ez|refine dA (by first|exact cq rfl|exact cq (F9 hx1)) ?_)))⟩
 refine Wd rfl rfl (oJ rfl rfl rfl (by omega)) ?_
 refine zs1 ?_
 refine Ws<|Wf rfl rfl ?_
 refine aU ?_
 refine zp5 ?_
 refine zc rfl func237 ((pr s tk _ limit hs (by omega) (by simp;omega) hm) _) ?_
 refine zy5 ?_
 refine zs1 ?_
 refine zR ?_
 rw[JG,if_neg h0,lj lv k (by omega)];rfl
def zd(s:List Int):Int:=if s.length=0\/s.getD (s.length-1) 0<0\/(s.length:Int)-1<=s.getD (s.length-1) 0 then(s.length:Int)+1 else s.getD (s.length-1) 0+2
end Go.Proofs.YtjcminooghmpeaaGreatDoor
