import Derived.ArgAppend
import Derived.Test.YtjcminooghmpeaaGreatDoorPk5
set_option linter.all false
set_option maxRecDepth 100000
set_option maxHeartbeats 40000000
open Go.Proofs.Tryz
namespace Go.Proofs.YtjcminooghmpeaaGreatDoor
open Go.RowKit
structure VCf where
 kind:Int
 at_:Int
 leaves:List Int
def zCf:VCf:=⟨0,0,[]⟩
def cCf(c:VCf):List PV:=[i64 c.kind,i64 c.at_,sq ao c.leaves]
@[simp] theorem U1 (c : VCf) : aF (cCf c) := by simp [cCf]
@[simp] theorem aH4 (l : List VCf) : aR (sq cCf l) := gQ U1 l
structure CW where
 v:VVm
 l:List VCf
 bad:Int
def cCw(w:CW):List PV:=cVm w.v++[sq cCf w.l,i64 w.bad]
@[simp] theorem aE1 (w : CW) : aF (cCw w) := by simp [cCw, cVm]
def CW.fail(w:CW)(e:Int):CW:=if w.bad=0 then {w with bad:=e} else w
def cf0{w:CW}{e:Int}(h:w.bad=0):w.fail e={w with bad:=e}:=by unfold CW.fail;rw[if_pos h]
def cf1{w:CW}{e:Int}(h:w.bad≠0):w.fail e=w:=by unfold CW.fail;rw[if_neg h]
def mp(w:CW)(e:Int):k_ 153 [i64 e] (cCw w) 175 (.tup []) (cCw (w.fail e)):=by
 refine zL func153 fun B=>?_
 refine Wi rfl ?_ ?_<;>intro hi1
 ·have h0:w.bad=0:=by simpa using hi1
  refine zd ?_
  refine aV rfl rfl ?_ ?_
  ·rfl
  (rw[cf0 h0];rfl)
 have h0:w.bad≠0:=by simpa using hi1
 refine zd ?_
 refine aV rfl rfl ?_ ?_
 ·rfl
 (rw[cf1 h0];rfl)
def q9(v:VVm)(n:Int):VVm×Int:=({v with mem:=(ct v.mem v.here n).1,here:=(ct v.mem v.here n).2.1},(ct v.mem v.here n).2.2)
def wR(v:VVm)(n:Int)(hm:cX v.mem)(hh:iu v.mem v.here):ab prog 99 [eVm v,i64 n] (tVm (q9 v n)):=by
 refine zH func99 fun B=>?_
 refine zC rfl func127 ((C6 v.mem v.here n hm hh) _) ?_
 rfl
def gN(w:CW)(n:Int):CW:=if w.bad=0 then {w with v:=(q9 w.v n).1,bad:=(q9 w.v n).2} else w
def SI{w:CW}{n:Int}(h:w.bad=0):gN w n={w with v:=(q9 w.v n).1,bad:=(q9 w.v n).2}:=by unfold gN;rw[if_pos h]
def ab5{w:CW}{n:Int}(h:w.bad≠0):gN w n=w:=by unfold gN;rw[if_neg h]
def rE(w:CW)(n:Int)(hm:cX w.v.mem)(hh:iu w.v.mem w.v.here):k_ 105 [i64 n] (cCw w) 175 (i64 w.v.here) (cCw (gN w n)):=by
 refine zL func105 fun B=>?_
 refine Wi rfl ?_ ?_<;>intro hi1
 ·have h0:w.bad=0:=by simpa using hi1
  refine zd ?_
  refine zC rfl func99 ((wR w.v n hm hh) _) ?_
  refine zC rfl func153 ((mp {w with v:=(q9 w.v n).1} (q9 w.v n).2) _ _ rfl) ?_
  refine Wq<|aQ rfl rfl ?_ ?_
  ·rfl
  (rw[SI h0,cf0 (by exact h0)];rfl)
 have h0:w.bad≠0:=by simpa using hi1
 refine zd ?_
 refine Wq<|aQ rfl rfl ?_ ?_
 ·rfl
 (rw[ab5 h0];rfl)
def oP(name:Str):Int:=32+8*tP aq name aq.length 0
def cv(w:CW)(name:Str):CW:=gN w (oP name)
def nz(w:CW)(name:Str)(hm:cX w.v.mem)(hh:iu w.v.mem w.v.here):k_ 104 [str name] (cCw w) 175 (.tup []) (cCw (cv w name)):=by
 have hn:=lS
 have hx:=zu aq name aq.length 0 (by rw[hn];omega)
 have w1:IntKind.i64.wrap (32+IntKind.i64.wrap (8*tP aq name aq.length 0))=oP name:=by unfold oP;rw[gS (n:=8*_) (by omega) (by omega),gS (by omega) (by omega)]
 refine zL func104 fun B=>?_
 refine zC rfl func98 ((oh) _) ?_
 refine zc rfl func113 ((tF aq name (by rw[hn];omega)) _) ?_
 refine zy2 ?_
 refine Wa 9 rfl (j_ w1) ?_
 refine zC rfl func105 ((rE w (oP name) hm hh) _ _ rfl) ?_
 refine aV rfl rfl ?_ ?_
 ·rfl
 rfl
def iU(w:CW)(a:Int):CW:=if w.bad=0 then {w with v:={w.v with mem:=(aJ w.v.mem a w.v.here).1},bad:=(aJ w.v.mem a w.v.here).2} else w
def jM{w:CW}{a:Int}(h:w.bad=0):iU w a={w with v:={w.v with mem:=(aJ w.v.mem a w.v.here).1},bad:=(aJ w.v.mem a w.v.here).2}:=by unfold iU;rw[if_pos h]
def jP{w:CW}{a:Int}(h:w.bad≠0):iU w a=w:=by unfold iU;rw[if_neg h]
def y5(w:CW)(a:Int)(hm:cX w.v.mem)(ha:ae a):k_ 266 [i64 a] (cCw w) 175 (.tup []) (cCw (iU w a)):=by
 refine zL func266 fun B=>?_
 refine Wi rfl ?_ ?_<;>intro hi1
 ·have h0:w.bad=0:=by simpa using hi1
  refine zd ?_
  refine zW [0,0,0,0,1,0,0,0,0,0,1,0,0,0,0,2,3,0] [0,1,2,3,4,5,6,7,8,9,10,11,12,13,14,15,16,17] ?_
  refine Xc rfl rfl rfl rfl (fun _=>dC rfl func92 rfl rfl ((jE w.v.mem a w.v.here hm ha) _)) ?_
  refine zd ?_
  refine lE tG rfl rfl rfl rfl rfl trivial rfl ?_
  refine cr tG rfl rfl rfl rfl rfl trivial ?_
  refine zd ?_
  refine zC rfl func153 ((mp {w with v:={w.v with mem:=(aJ w.v.mem a w.v.here).1}} (aJ w.v.mem a w.v.here).2) _ _ rfl) ?_
  refine aV rfl rfl ?_ ?_
  ·rfl
  (rw[jM h0,cf0 (by exact h0)];rfl)
 have h0:w.bad≠0:=by simpa using hi1
 refine zd ?_
 refine aV rfl rfl ?_ ?_
 ·rfl
 (rw[jP h0];rfl)
def Ui(l:List VCf)(hl:l.length<=1000000):ab prog 356 [sq cCf l] (sqc cCf l):=by
 refine bw tG (rs:=[.tmp 2]) func356 rfl rfl rfl (by(simp;done)) (by exact lG (fun x=>by simp) _) (fun B=>?_)
 refine zd ?_
 refine z2 ?_ (q:=(by(simp_all;done)))
 refine Wa 8 rfl (cK cCf 3 (fun _=>rfl) (by omega)) ?_
 refine zs1 ?_
 refine Wq ?_
 exact oq rfl (by simp[sqc];rfl)
def jZ(w:CW)(c:VCf):CW:=if 32<=w.l.length then w.fail (-22)else {w with l:=w.l++[c]}
def qY(w:CW)(c:VCf)(hl:w.l.length<=1000):k_ 264 [.agg (cCf c)] (cCw w) 175 (.tup []) (cCw (jZ w c)):=by
 refine zL func264 fun B=>?_
 refine Wi rfl ?_ ?_<;>intro hi1
 ·have q:32<=w.l.length:=by have:=oT hi1;omega
  refine zd ?_
  refine zC rfl func153 ((mp w (-22)) _ _ rfl) ?_
  refine Wq<|aQ rfl rfl ?_ ?_
  ·rfl
  (rw[jZ,if_pos q];rfl)
 have q:¬32<=w.l.length:=by have:=oF hi1;omega
 refine zd ?_
 refine zW [0,0,0,0,1,0,1,0,0,0,0,3] [0,1,2,3,4,5,6,7,8,9,10,11] ?_
 refine Xc rfl rfl rfl rfl (fun _=>dC rfl func356 rfl rfl ((Ui w.l (by omega)) _)) ?_
 refine z5 ?_
 refine z3 ?_
 refine Xa 19 rfl ((show _=PV.seq (List.length [c]) (List.flatMap cCf [c]) .clip from rfl)) ?_
 refine ew rfl rfl rfl rfl (fun _=>co (lO tG rfl) rfl (lO tG rfl) (lO tG rfl) rfl rfl (by exact⟨_,rfl⟩) (by exact⟨rfl,rfl,an _ 3 (fun _=>rfl) _,bD _ (fun _=>rfl) _⟩) (by exact an _ 3 (fun _=>rfl) _) (by((simp_all;omega))) (by((simp_all;omega))) (by exact fU (bs (fun x=>by simp) _) (bs (fun x=>by simp) _))) ?_
 refine zO 20 rfl (cw cCf) ?_
 refine cr tG rfl rfl rfl rfl rfl trivial ?_
 refine zd ?_
 refine aV rfl rfl ?_ ?_
 ·rfl
 (rw[jZ,if_neg q];rfl)
def bb(w:CW)(kind:Int):CW×VCf :=
 if w.l.length=0\/(w.l.getD (w.l.length-1) zCf).kind≠kind then(w.fail (-22),zCf)else({w with l:=w.l.take (w.l.length-1)},w.l.getD (w.l.length-1) zCf)
def om(w:CW)(kind:Int)(hl:w.l.length<=1000):k_ 265 [i64 kind] (cCw w) 175 (.agg (cCf (bb w kind).2)) (cCw (bb w kind).1):=by
 have w1:w.l.length≠0->IntKind.i64.wrap ((w.l.length:Int)-1)=((w.l.length-1:Nat):Int):=fun h=>by rw[gS (by omega) (by omega)];omega
 refine zM func265 fun B=>?_
 refine zu1 ?_
 refine zp5 ?_
 refine zs1 ?_
 refine Ws<|zp3 ?_
 refine Wb 14 rfl ?_ ?_<;>intro hg1
 ·have h0:w.l.length=0:=by have h:(w.l.length:Int)=0:=(by simpa using hg1);omega
  have q:w.l.length=0\/(w.l.getD (w.l.length-1) zCf).kind≠kind:=.inl h0
  refine zd ?_
  refine Wt rfl rfl ?_
  refine zd ?_
  refine zC rfl func153 ((mp w (-22)) _ _ rfl) ?_
  refine Wq<|aQ rfl rfl ?_ ?_
  ·(rw[bb,if_pos q];rfl)
  (rw[bb,if_pos q];rfl)
 have h0:w.l.length≠0:=by have h:¬(w.l.length:Int)=0:=(by simpa using hg1);omega
 have w2:=w1 h0
 refine zy5 ?_
 refine z1 ?_
 refine Wa 20 rfl (j_ w2) ?_
 refine zJ cCf 3 zCf ?_
 refine Wi rfl ?_ ?_<;>intro hi1
 ·have q:w.l.length=0\/(w.l.getD (w.l.length-1) zCf).kind≠kind:=.inr (by simpa using hi1)
  refine zd ?_
  refine zC rfl func153 ((mp w (-22)) _ _ rfl) ?_
  refine Wq<|aQ rfl rfl ?_ ?_
  ·(rw[bb,if_pos q];rfl)
  (rw[bb,if_pos q];rfl)
 have q:¬(w.l.length=0\/(w.l.getD (w.l.length-1) zCf).kind≠kind):=by rintro(h|h);exact h0 h;exact h (by simpa using hi1)
 refine Wj<|zp5 ?_
 refine z1 ?_
 refine Wa 35 rfl (j_ w2) ?_
 refine Wv tG rfl rfl rfl (by omega) (iN cCf 3 (fun _=>rfl) zCf (by omega)) ?_
 refine zs3 ?_
 refine zp5 ?_
 refine zy2 ?_
 refine Wa 44 rfl (j_ w2) ?_
 refine z2 ?_ (q:=(by(simp_all;done)))
 refine zA 45 rfl (cK cCf 3 (fun _=>rfl) (by omega)) ?_
 refine Wq<|aQ rfl rfl ?_ ?_
 ·(rw[bb,if_neg q];rfl)
 (rw[bb,if_neg q,Int.toNat_natCast];rfl)
def oH(w:CW)(v:VVm)(l:List VCf):VVm×List VCf×Int:=if w.bad≠0 then(v,l,w.bad)else(w.v,w.l,0)
def wu(w:CW)(v:VVm)(l:List VCf):k_ 106 [eVm v,sq cCf l] (cCw w) 175 (.tup [eVm (oH w v l).1,sq cCf (oH w v l).2.1,i64 (oH w v l).2.2]) (cCw w):=by
 refine zL func106 fun B=>?_
 refine Wi rfl ?_ ?_<;>intro hi1
 ·have q:w.bad≠0:=by simpa using hi1
  refine zd ?_
  refine zW [6,0,0,0,0,4,9,0,0] [0,1,2,3,4,5,6,7,8] ?_
  refine zU 1 ?_
  refine zd ?_
  refine zU 0 ?_
  refine dW 2 tG rfl rfl rfl rfl rfl trivial rfl ?_
  refine zd ?_
  refine Wq<|aQ rfl rfl ?_ ?_
  ·(rw[oH,if_pos q];rfl)
  rfl
 have q:¬w.bad≠0:=by simpa using hi1
 refine zd ?_
 refine zW [0,0,0,4,0,0,0,4,9,0,0] [0,1,2,3,4,5,6,7,8,9,10] ?_
 refine zU 0 ?_
 refine zd ?_
 refine zU 0 ?_
 refine dW 2 tG rfl rfl rfl rfl rfl trivial rfl ?_
 refine zd ?_
 refine Wq<|aQ rfl rfl ?_ ?_
 ·(rw[oH,if_neg q];rfl)
 rfl
def TP(w:World)(size:Nat)(sl:Value)(n:Nat)(xs:List Value):Prop :=
 xs.length=n*size/\∃(a:Option Addr) (cap:Nat),sl=.slice a n cap/\(a=none->n=0/\cap=0)/\n<=cap/\∀b,a=some b->∀(j:Nat) (u:Value),xs[j]?=some u->w.cell? (b.add j)=some u
def vJ(w:World)(sl:Value)(xs:List Int):Prop:=TP w 1 sl xs.length (xs.map (Value.int .u8))/\∀x∈xs,0<=x/\x<256
def IX{w w':World}{size n:Nat}{sl:Value}{xs:List Value}(h:TP w size sl n xs)(hb:Below w.heap.size w w'):TP w' size sl n xs:=by
 obtain⟨hl,a,cap,rfl,hn,hc,hx⟩:=h
 refine⟨hl,a,cap,rfl,hn,hc,fun b hb' j u hj=>?_⟩
 have h1:=hx b hb' j u hj
 rw[hb.cell (World.block_lt_of_cell? w (b.add j) h1)]
 exact h1
def Ci{w w':World}{sl:Value}{xs:List Int}(h:vJ w sl xs)(hb:Below w.heap.size w w'):vJ w' sl xs:=⟨IX h.1 hb,h.2⟩
abbrev ag9:=List Int×Bool
def aE4(w:World)(v:Value)(p:ag9):Prop:=∃sl,v=.agg #[sl,.bool p.2]/\vJ w sl p.1
def RD(w:World)(sl:Value)(xs:List Int)(h:vJ w sl xs)(hl:xs.length<=140737488355328):
  Calls prog 382 #[sl] w fun e w'=>∃v',e=.returned v'/\w'.ownsRow w.heap.size 5 1 v' xs.length (xs.map (Value.int .u8))/\Below w.heap.size w w':=by
 obtain⟨⟨hlen,a,cap,rfl,hn,hc,hx⟩,_⟩:=h
 match a with
 | none =>
  obtain⟨h0,rfl⟩:=hn rfl
  refine(AnyE.slices_Clone_nil Tryz.lClone xs.length 0 w).mono ?_
  rintro e w' ⟨rfl,rfl⟩
  have hx0:xs=[]:=List.eq_nil_of_length_eq_zero h0
  subst hx0
  exact⟨_,rfl,⟨rfl,.inl ⟨rfl,rfl⟩⟩,Below.refl _ _⟩
 | some ad =>
  obtain⟨i0,hi,hz0,hz1,hz2⟩:=info_parts Z9
  have q22:∀(w:World) (a:Option Addr) (n c n' c':Nat),(binOp .eql 22 (.slice a n c) (.slice none n' c')).run prog w=.ok (.bool a.isNone) w:=fun w a n c n' c'=>Lib.run_eql_slice_nil w _ _ a n c n' c' underlying22
  have HX:=Lib.hid (hx ad rfl)
  have HL:=Lib.hid hlen
  clear hx hlen
  go_enter func382,ntmps382
  go_wp2_with (at_builtin;refine wpList_append_own _ rfl _ _ 22 rfl w.heap.size 5 i0 (.int .u8 0) 1 1 underlying22 hi hz0 hz1 hz2 rfl (by decide) _ _ _ rfl (World.ownsRow_made w #[] 0 (Nat.le_refl _) (Nat.zero_le _) (by simp)) ad xs.length cap (xs.map (Value.int .u8)) rfl ?qc1 ?qc2 ?qc3 ?qc4 ?qc5 ?qc6 ?_)
  case qc1=>exact HL.out
  case qc2=>intro j u hj;exact Lib.cell?_alloc_some _ (HX.out j u hj)
  case qc3=>simp[Value.oneCell']
  case qc4=>unfold maxLen;omega
  case qc5=>omega
  case qc6=>simp
  intro v' w1 hown hgrow _
  go_wp2
  go_ret
  refine⟨v',rfl,by simpa using hown,?_⟩
  exact((Below.refl _ w).alloc (Nat.le_refl _) _).grown hgrow (by simp) (by intro k hk;simp[Value.ownBlock]at hk;omega)
def Z5(p:ag9):List UInt8×Int:=if p.2 then((p.1.map (fun n=>UInt8.ofNat n.toNat)).reverse,0)else([],-17)
def U4(xs:List Int):strOfNums xs.reverse=⟨((xs.map (fun n=>UInt8.ofNat n.toNat)).reverse).toArray⟩:=by unfold strOfNums;rw[List.map_reverse]
def aD2(v:Value)(p:ag9)(w:World)(h:aE4 w v p)(hl:p.1.length<=140737488355328):Calls prog 345 #[v] w fun e w'=>e=.returned (.tuple #[.string ⟨(Z5 p).1.toArray⟩,.int .i64 (Z5 p).2])/\Below w.heap.size w w':=by
 obtain⟨sl,rfl,hs⟩:=h
 obtain⟨xs,on⟩:=p
 have b0:=fun o=>(Below.refl w.heap.size w).alloc (Nat.le_refl _) o
 cases on with
 | false =>
  go_enter func345,ntmps345
  go_wp2
  go_ret2
  exact⟨rfl,b0 _⟩
 | true =>
  have hC:=fun o=>RD (w.alloc o) sl xs (Ci hs (b0 o)) hl
  have HC:=Lib.hid hC
  have HL:=Lib.hid hl
  clear hC hs hl
  go_enter func345,ntmps345
  go_wp2_with fail
  refine(HC.out _).mono ?_
  rintro e w1 ⟨v',rfl,hown,hb1⟩
  have c1:=(b0 _).trans (hb1.mono (b0 _).size)
  have hown1:=RU hown (b0 _).size
  have HR:=Lib.hid (NP w1 _ v' _ xs hown1 (Nat.le_trans HL.out (by omega)))
  clear hown hown1 hb1 b0
  go_wp2_with fail
  refine HR.out.mono ?_
  rintro e w2 ⟨rfl,hown2,hb2⟩
  have c2:=hb2 w c1
  have hcv:=GI hown2
  rw[U4]at hcv
  clear hown2 hb2 c1 HR
  go_wp2
  go_ret2
  exact⟨rfl,c2⟩
def NX{c:Cx}{l:List UInt8}{v:Value}(h:Rep c (sq aH l) v):vJ c.w v (l.map fun b=>(b.toNat:Int)):=by
 unfold sq at h
 obtain⟨ad,cap,vs,hv,hle,hnil,hrl,hlies,hk⟩:=gJ h
 have hvs:vs=(l.map fun b=>(b.toNat:Int)).map (Value.int .u8):=by
  rw[kK]at hrl
  have:((l.map fun b=>(b.toNat:Int)).map kH)=((l.map fun b=>(b.toNat:Int)).map (Value.int .u8)).map PV.val:=by simp only[List.map_map];rfl
  rw[this]at hrl
  exact sZ hrl
 refine⟨⟨by simp,ad,cap,by rw[hv];simp,(fun h=>by have:=hnil h;exact⟨by simpa using this.1,this.2.1⟩),by simpa using hle,fun b hb j u hj=>?_⟩,fun x hx=>?_⟩
 ·rw[<-hvs]at hj
  have hL:=(hlies b hb).resolve_right (by rintro⟨_,h3⟩;rw[h3]at hj;simp at hj)
  rw[gY hL,Addr.add_lit]
  exact(hL.2 j u hj).1
 obtain⟨b,_,rfl⟩:=List.mem_map.1 hx
 have:=b.toNat_lt
 omega
def WV(p:dV)(hp:p.b.length<=1000000):ab prog 345 [wt p] (oK (lU p)):=by
 intro H B σ w vs s hr
 match vs,hr with
 | [],hr=>unfold au at hr;obtain⟨u,us,h1,_⟩:=hr;cases h1
 | v::v2::vs,hr=>rw[af]at hr;have:=au.length hr.2;simp at this
 | [v],hr =>
 rw[af]at hr
 have h1:=hr.1
 unfold wt Rep at h1
 obtain⟨us,rfl,h2⟩:=h1
 match us,h2 with
 | [],h2=>unfold ut au at h2;obtain⟨u,us,h1,_⟩:=h2;cases h1
 | [a],h2=>have:=au.length h2;simp[ut]at this
 | a::b::d::us,h2=>have:=au.length h2;simp[ut]at this
 | [a,b],h2 =>
 unfold ut at h2
 rw[af,af]at h2
 have h3:=NX h2.1
 have h4:=h2.2.1
 unfold boo Rep at h4
 subst h4
 have hw:=aD2 (.agg #[a,.bool p.on]) (List.map (fun b:UInt8=>(b.toNat:Int)) p.b,p.on) w ⟨a,rfl,h3⟩ (by simp;omega)
 refine Calls.mono hw ?_
 rintro e w' ⟨rfl,hb⟩
 obtain⟨s',st⟩:=gU s (bj.of_below hb)
 refine⟨_,σ,rfl,?_,s',st⟩
 have e1:Z5 (List.map (fun b:UInt8=>(b.toNat:Int)) p.b,p.on)=lU p:=by
  unfold Z5 lU
  cases p.on with
  | true=>simp[List.map_map,Function.comp_def]
  | false=>rfl
 rw[e1]
 unfold oK iy Rep
 exact⟨[_,_],rfl,af.2 ⟨by unfold str;exact ar _ _,af.2 ⟨by unfold i64;exact ar _ _,aG.2 rfl⟩⟩⟩
def Hp{p:dV}{c:Int}(h:(gR p c).2=0):(gR p c).1.b.length=p.b.length+1/\p.b.length<130:=by
 unfold gR at h ⊢
 split at h
 ·rename_i hc;rw[if_pos hc];simp[hc.2]
 cases h
def u6{q:dV}{lo hi base:Int}(h:(aL q lo hi base).2.2.2=0):(aL q lo hi base).1.b.length=q.b.length+1/\q.b.length<130:=by
 unfold aL at h ⊢
 split at h
 ·cases h
 rename_i hb
 rw[if_neg hb]
 split at h
 ·rename_i h0
  rw[if_pos h0]
  exact Hp h0
 rename_i h0;exact absurd h h0
def nH(q:dV)(lo hi base:Int):rI q lo hi base=if (aL q lo hi base).2.2.2≠0 then(q,(aL q lo hi base).2.2.2)else if (aL q lo hi base).2.1=0/\(aL q lo hi base).2.2.1=0 then((aL q lo hi base).1,0)else rI (aL q lo hi base).1 (aL q lo hi base).2.1 (aL q lo hi base).2.2.1 base:=by
 by_cases h:(aL q lo hi base).2.2.2=0
 ·obtain⟨h1,h2⟩:=u6 h
  unfold rI
  rw[h1,show 131-q.b.length=(131-(q.b.length+1))+1 by omega]
  rfl
 rw[if_pos h]
 unfold rI
 cases hn:131-q.b.length with
 | zero=>rfl
 | succ n=>unfold rr;rw[if_pos h]
def Qt:List PV:=[.seq 0 [] .clip,.val (.bool false)]
@[simp] theorem aO6 {n : Nat} : qI n Qt := by unfold Qt; exact ⟨LE, Qq (.bool false), trivial⟩
def VG(p q:dV)(lo hi base:Int)(hq:q.b.length<=1000000):
  HC prog 381 [.ptr 5 0,.ptr 1 0,.ptr 2 0,.ptr 3 0] [.cells (ut p) 33,.cells [i64 lo] 3,.cells [i64 hi] 3,.cells [i64 base] 3,.cells Qt 33,.cells (ut q) 33] (i64 (aL q lo hi base).2.2.2)
   [.cells (ut p) 33,.cells [i64 (aL q lo hi base).2.1] 3,.cells [i64 (aL q lo hi base).2.2.1] 3,.cells [i64 base] 3,.cells Qt 33,.cells (ut (aL q lo hi base).1) 33,.cells (ut (aL q lo hi base).1) 33]:=by
 refine mQ tG (rs:=[.tmp 4]) func381 rfl rfl rfl (fun B=>?_)
 refine zd ?_
 refine zc rfl func339 ((Dx q lo hi base hq) _) ?_
 refine zy5 ?_
 refine zs5 ?_
 refine zp5 ?_
 refine zs1 ?_
 refine zu2 ?_
 refine Wq<|AV rfl ?_ ?_
 ·rfl
 rfl
def Zy(p:dV)(lo hi base:Int)(hp:p.b.length<=1000000):ab prog 341 [wt p,i64 lo,i64 hi,i64 base] (N6 (um p lo hi base)):=by
 refine zY func341 fun B=>?_
 refine zp5 ?_
 refine zs1 ?_
 refine zu3 ?_
 refine zu2 ?_
 refine Wl ?_
 show W _ _ _ _ _ _ _
 refine dJ (fun(v:dV×Int×Int)=>[(4,.ptr 0 0),(5,.ptr 1 0),(6,.ptr 2 0),(8,.ptr 4 0),(10,.ptr 5 0),(11,.fn (.func 381) [] [.ptr 5 0,.ptr 1 0,.ptr 2 0,.ptr 3 0])]) (fun(v:dV×Int×Int)=>[.cells (ut p) 33,.cells [i64 v.2.1] 3,.cells [i64 v.2.2] 3,.cells [i64 base] 3,.cells Qt 33,.cells (ut v.1) 33]) (fun(v:dV×Int×Int)=>[]) (fun(v:dV×Int×Int)=>v.1.b.length<=1000000/\um p lo hi base=Qo p (rI v.1 v.2.1 v.2.2 base)) (fun(v:dV×Int×Int)=>131-v.1.b.length) ((p,lo,hi)) (by exact⟨hp,rfl⟩) [] ?_ ?_
 ·exact dK
 intro v hv
 refine zd ?_
 refine zG rfl rfl (ey rfl rfl func381 rfl rfl (VG p v.1 v.2.1 v.2.2 base hv.1)) ?_
 refine Wi rfl ?_ ?_<;>intro hi1
 ·have h0:(aL v.1 v.2.1 v.2.2 base).2.2.2≠0:=by simpa using hi1
  refine zd ?_
  rw[hv.2,nH,if_pos h0,Qo,if_neg h0];rfl
 have h0:(aL v.1 v.2.1 v.2.2 base).2.2.2=0:=by simpa using hi1
 have hl:=u6 h0
 refine Wj<|zp3 ?_
 refine Wb 23 rfl ?_ ?_<;>intro hg1
 ·have h1:(aL v.1 v.2.1 v.2.2 base).2.1=0:=by simpa using hg1
  refine zd ?_
  refine Wi rfl ?_ ?_<;>intro hi2
  ·have h2:(aL v.1 v.2.1 v.2.2 base).2.1=0/\(aL v.1 v.2.1 v.2.2 base).2.2.1=0:=by(try simp only[dnL]at *);exact⟨h1,hi2⟩
   refine zd ?_
   rw[hv.2,nH,if_neg (by rw[h0];simp),if_pos h2,Qo,if_pos rfl];rfl
  have h2:¬((aL v.1 v.2.1 v.2.2 base).2.1=0/\(aL v.1 v.2.1 v.2.2 base).2.2.1=0):=by rintro⟨q1,q2⟩;(try simp only[dnL]at *);exact hi2 q2
  refine zd ?_
  exact⟨((aL v.1 v.2.1 v.2.2 base).1,(aL v.1 v.2.1 v.2.2 base).2.1,(aL v.1 v.2.1 v.2.2 base).2.2.1),[],(by exact⟨by show(aL v.1 v.2.1 v.2.2 base).1.b.length<=_;omega,by rw[hv.2,nH,if_neg (by rw[h0];simp),if_neg (by exact h2)]⟩),(by show 131-(aL v.1 v.2.1 v.2.2 base).1.b.length<_;omega),dK⟩
 have h1:¬(aL v.1 v.2.1 v.2.2 base).2.1=0:=by simpa using hg1
 refine zd ?_
 refine Wf rfl rfl ?_
 refine zd ?_
 exact⟨((aL v.1 v.2.1 v.2.2 base).1,(aL v.1 v.2.1 v.2.2 base).2.1,(aL v.1 v.2.1 v.2.2 base).2.2.1),[],(by exact⟨by show(aL v.1 v.2.1 v.2.2 base).1.b.length<=_;omega,by rw[hv.2,nH,if_neg (by rw[h0];simp),if_neg (by(rintro⟨q1,q2⟩;exact h1 q1))]⟩),(by show 131-(aL v.1 v.2.1 v.2.2 base).1.b.length<_;omega),dK⟩
@[simp] theorem aO7 {f : Fn} {a b : List PV} : aR (.fn f a b) ↔ aF a /\ aF b := by rw [aR]
@[simp] theorem aG3 {a : List PV} : aR (.row a) ↔ aF a := by rw [aR]
abbrev fnP(g:FuncId)(cap:List PV):PV:=.fn (.func g) [] cap
abbrev bp(k:Int)(f:FuncId)(cap:List PV):PV:=.agg [i64 k,fnP f cap]
abbrev tU(g:FuncId)(args:List PV)(res:PV):Prop:=∀H,oo prog g args H res H
def ma(l:List Int):ab prog 245 [sq ao l] (tLv (l,0)):=by
 refine zH func245 fun B=>?_
 rfl
def Dz(b:Bool):ab prog 292 [boo b] (i64 (fG b)):=by
 refine zH func292 fun B=>?_
 refine zI ?_ ?_<;>intro hi1
 ·rw[hi1];rfl
 rw[hi1];rfl
def jI(k:Int)(g:FuncId)(cap:List PV)(hc:aF cap):ab prog 240 [i64 k,fnP g cap] (bp k 271 [.row [fnP g cap]]):=by
 refine bw tG (rs:=[.cell 4 267]) func240 rfl rfl rfl (by simp[hc]) (by simp[hc]) (fun B=>?_)
 refine zp1 ?_
 refine bT 3 _ rfl rfl rfl ?_
 refine zd ?_
 rfl
def lX(g:FuncId)(cap:List PV)(v:VVm)(x:List Int)(r:List Int×Int)(hc:aF cap)(hg:tU g ([sq ao x]++cap) (tLv r)):
  k_ 271 [sq ao x,.row [fnP g cap]] (cVm v) 37 (tLv r) (cVm v):=by
 refine jt tG (rs:=[.tmp 5,.tmp 6]) func271 rfl rfl rfl (by simp[hc]) (by simp[hc]) (by simp[hc]) (by simp[hc]) (fun B=>?_)
 refine zd ?_
 refine zG rfl rfl (fq rfl rfl (hg _)) ?_
 refine Wq<|aQ rfl rfl ?_ ?_
 ·rfl
 rfl
def sE(g:FuncId)(cap:List PV)(hc:aF cap):ab prog 313 [fnP g cap] (bp 0 370 [.row [fnP g cap]]):=by
 refine bw tG (rs:=[.cell 2 267]) func313 rfl rfl rfl (by simp[hc]) (by simp[hc]) (fun B=>?_)
 refine zp1 ?_
 refine bT 1 _ rfl rfl rfl ?_
 refine zd ?_
 rfl
def nI(g:FuncId)(cap:List PV)(v:VVm)(x:List Int)(n:Int)(hc:aF cap)(hg:tU g ([eVm v]++cap) (i64 n)):
  k_ 370 [sq ao x,.row [fnP g cap]] (cVm v) 37 (tLv ([n],0)) (cVm v):=by
 refine jt tG (rs:=[.tmp 5,.tmp 6]) func370 rfl rfl rfl (by simp[hc]) (by simp[hc]) (by simp[hc]) (by simp[hc]) (fun B=>?_)
 refine zd ?_
 refine zW [1,0,0,1,0,0,0,0,0,0,0] [0,1,2,3,4,5,6,7,8,9,10] ?_
 refine Xc rfl rfl rfl rfl (fun _=>fq rfl rfl (hg _)) ?_
 refine z3 ?_
 refine Xa 12 rfl (bsL ao [_] rfl rfl) ?_
 refine Xc rfl rfl rfl rfl (fun _=>dC rfl func245 rfl rfl ((ma [n]) _)) ?_
 refine zd ?_
 refine Wq<|aQ rfl rfl ?_ ?_
 ·rfl
 rfl
def uQ(g:FuncId)(cap:List PV)(hc:aF cap):ab prog 295 [fnP g cap] (bp 1 367 [.row [fnP g cap]]):=by
 refine bw tG (rs:=[.cell 2 267]) func295 rfl rfl rfl (by simp[hc]) (by simp[hc]) (fun B=>?_)
 refine zp1 ?_
 refine bT 1 _ rfl rfl rfl ?_
 refine zd ?_
 rfl
def xb(g:FuncId)(cap:List PV)(v:VVm)(x:List Int)(r:Int×Int)(hx:1<=x.length)(hc:aF cap)(hg:tU g ([jj v.mem,i64 (xat x 0)]++cap) (qR r)):
  k_ 367 [sq ao x,.row [fnP g cap]] (cVm v) 37 (tLv ([r.1],r.2)) (cVm v):=by
 refine jt tG (rs:=[.tmp 5,.tmp 6]) func367 rfl rfl rfl (by simp[hc]) (by simp[hc]) (by simp[hc]) (by simp[hc]) (fun B=>?_)
 refine zd ?_
 refine zW [1,0,0,0,1,0,0,1,0,0,0,0,0,0] [0,1,2,3,4,5,6,7,8,9,10,11,12,13] ?_
 refine zK ao 1 0 ?_
 refine Xc rfl rfl rfl rfl (fun _=>fq rfl rfl (hg _)) ?_
 iterate 5 refine z3 ?_
 refine fS ?_
 refine zp2 ?_
 refine zA 22 rfl (bsL ao [_] rfl rfl) ?_
 refine Wq<|aQ rfl rfl ?_ ?_
 ·rfl
 rfl
def lW(k:Int)(g:FuncId)(cap:List PV)(hc:aF cap):ab prog 297 [i64 k,fnP g cap] (bp k 368 [.row [fnP g cap]]):=by
 refine bw tG (rs:=[.cell 4 267]) func297 rfl rfl rfl (by simp[hc]) (by simp[hc]) (fun B=>?_)
 refine zp1 ?_
 refine bT 3 _ rfl rfl rfl ?_
 refine zd ?_
 rfl
def nV(g:FuncId)(cap:List PV)(v:VVm)(x:List Int)(r:bh×Int)(hc:aF cap)(hg:tU g ([jj v.mem,sq ao x]++cap) (vl r)):
  k_ 368 [sq ao x,.row [fnP g cap]] (cVm v) 37 (tLv ([],r.2)) (cVm (aU v r.1)):=by
 refine jt tG (rs:=[.tmp 5,.tmp 6]) func368 rfl rfl rfl (by simp[hc]) (by simp[hc]) (by simp[hc]) (by simp[hc]) (fun B=>?_)
 refine zd ?_
 refine zW [1,0,0,0,1,0,0,0,0,0,2,3,0] [0,1,2,3,4,5,6,7,8,9,10,11,12] ?_
 refine Xc rfl rfl rfl rfl (fun _=>fq rfl rfl (hg _)) ?_
 refine zd ?_
 refine lE tG rfl rfl rfl rfl rfl trivial rfl ?_
 refine cr tG rfl rfl rfl rfl rfl trivial ?_
 refine zd ?_
 refine Wq<|aQ rfl rfl ?_ ?_
 ·rfl
 rfl
def yP(k:Int)(g:FuncId)(cap:List PV)(hc:aF cap):ab prog 316 [i64 k,fnP g cap] (bp k 371 [.row [fnP g cap]]):=by
 refine bw tG (rs:=[.cell 4 267]) func316 rfl rfl rfl (by simp[hc]) (by simp[hc]) (fun B=>?_)
 refine zp1 ?_
 refine bT 3 _ rfl rfl rfl ?_
 refine zd ?_
 rfl
def FM(g:FuncId)(cap:List PV)(v:VVm)(x:List Int)(r:bh×Int×Int)(hc:aF cap)(hg:tU g ([jj v.mem,i64 v.here,sq ao x]++cap) (Co r)):
  k_ 371 [sq ao x,.row [fnP g cap]] (cVm v) 37 (tLv ([],r.2.2)) (cVm (fc v r).1):=by
 refine jt tG (rs:=[.tmp 5,.tmp 6]) func371 rfl rfl rfl (by simp[hc]) (by simp[hc]) (by simp[hc]) (by simp[hc]) (fun B=>?_)
 refine zd ?_
 refine zW [1,0,0,0,1,0,0,0,1,0,0,0,0,0,0,2,3,0,0] [0,1,2,3,4,5,6,7,8,9,10,11,12,13,14,15,16,17,18] ?_
 refine Xc rfl rfl rfl rfl (fun _=>fq rfl rfl (hg _)) ?_
 refine zd ?_
 refine lE tG rfl rfl rfl rfl rfl trivial rfl ?_
 refine cr tG rfl rfl rfl rfl rfl trivial ?_
 refine zd ?_
 refine Wq<|aQ rfl rfl ?_ ?_
 ·rfl
 rfl
def vL(k:Int)(g:FuncId)(cap:List PV)(hc:aF cap):ab prog 323 [i64 k,fnP g cap] (bp k 372 [.row [fnP g cap]]):=by
 refine bw tG (rs:=[.cell 4 267]) func323 rfl rfl rfl (by simp[hc]) (by simp[hc]) (fun B=>?_)
 refine zp1 ?_
 refine bT 3 _ rfl rfl rfl ?_
 refine zd ?_
 rfl
def uE(g:FuncId)(cap:List PV)(v:VVm)(x:List Int)(r:Str×Int)(ho:0<=v.conf.out/\v.conf.out<=1000000)(hl:v.out.length<=1000000)(hr:r.1.length<=140737488355328)(hc:aF cap)(hg:tU g ([eVm v,sq ao x]++cap) (oK r)):
  k_ 372 [sq ao x,.row [fnP g cap]] (cVm v) 37 (tLv (cG v r).2) (cVm (cG v r).1):=by
 refine jt tG (rs:=[.tmp 5,.tmp 6]) func372 rfl rfl rfl (by simp[hc]) (by simp[hc]) (by simp[hc]) (by simp[hc]) (fun B=>?_)
 refine zd ?_
 refine zW [1,0,0,1,0,0,0,0,0,0,0] [0,1,2,3,4,5,6,7,8,9,10] ?_
 refine Xc rfl rfl rfl rfl (fun _=>fq rfl rfl (hg _)) ?_
 refine zd ?_
 refine Wi rfl ?_ ?_<;>intro hi1
 ·have h0:¬r.2=0:=by simpa using hi1
  refine zd ?_
  refine Wq<|aQ rfl rfl ?_ ?_
  ·rw[cG,if_neg h0];rfl
  rw[cG,if_neg h0];rfl
 have h0:r.2=0:=by simpa using hi1
 refine zd ?_
 refine zC rfl func190 ((IP v r.1 ho hl hr) _) ?_
 refine Wq<|aQ rfl rfl ?_ ?_
 ·rw[cG,if_pos h0];rfl
 rw[cG,if_pos h0];rfl
def xD(v:VVm)(hm:v.mem.b.length<=140737488355328):ab prog 325 [eVm v] (i64 (jO v)):=by
 refine zH func325 fun B=>?_
 refine zC rfl func39 ((gy v.mem 0 hm (by unfold ae;omega)) _) ?_
 rfl
def D5(g:FuncId)(cap:List PV)(hc:aF cap):ab prog 322 [fnP g cap] (bp 1 372 [.row [fnP 324 [.row [fnP g cap]]]]):=by
 refine bw tG (rs:=[.cell 2 267]) func322 rfl rfl rfl (by simp[hc]) (by simp[hc]) (fun B=>?_)
 refine zp1 ?_
 refine bT 1 _ rfl rfl rfl ?_
 refine zd ?_
 refine zC rfl func323 ((vL 1 324 [.row [fnP g cap]] (by simp[hc])) _) ?_
 rfl
def GB(g:FuncId)(cap:List PV)(v:VVm)(x:List Int)(r:Str×Int)(hx:1<=x.length)(hm:v.mem.b.length<=140737488355328)(hr:r.1.length<=140737488355328)(hc:aF cap)(hg:tU g ([i64 (xat x 0),i64 (jO v)]++cap) (oK r)):
  ab prog 324 [eVm v,sq ao x,.row [fnP g cap]] (oK (pu r)):=by
 refine bw tG (rs:=[.tmp 5,.tmp 6]) func324 rfl rfl rfl (by simp[hc]) (by simp[hc]) (fun B=>?_)
 refine zd ?_
 refine zW [1,0,0,1,1,0,0,0,0,0,0,0] [0,1,2,3,4,5,6,7,8,9,10,11] ?_
 refine zK ao 1 0 ?_
 refine Xc rfl rfl rfl rfl (fun _=>dC rfl func325 rfl rfl ((xD v hm) _)) ?_
 refine Xc rfl rfl rfl rfl (fun _=>fq rfl rfl (hg _)) ?_
 refine zd ?_
 refine z2 ?_ (q:=(by simp only[dc];((simp_all;omega))))
 refine zA 20 rfl (ou _ _) ?_
 rfl
def Nt(s:Str):ab prog 326 [str s] (bp 0 372 [.row [fnP 327 [.row [str s]]]]):=by
 refine zY func326 fun B=>?_
 refine zp1 ?_
 refine bT 1 _ rfl rfl rfl ?_
 refine zd ?_
 refine zC rfl func323 ((vL 0 327 [.row [str s]] (by simp)) _) ?_
 rfl
def RB(s:Str)(v:VVm)(x:List Int):ab prog 327 [eVm v,sq ao x,.row [str s]] (oK (s,0)):=by
 refine zH func327 fun B=>?_
 rfl
def TM(g:FuncId)(cap:List PV)(hc:aF cap):ab prog 334 [fnP g cap] (bp 1 335 [.row [fnP g cap]]):=by
 refine bw tG (rs:=[.cell 2 267]) func334 rfl rfl rfl (by simp[hc]) (by simp[hc]) (fun B=>?_)
 refine zp1 ?_
 refine bT 1 _ rfl rfl rfl ?_
 refine zd ?_
 rfl
def ad7(g:FuncId)(cap:List PV)(v:VVm)(x:List Int)(r:dV×Int)(hx:1<=x.length)(hc:aF cap)(hg:tU g ([wt v.pic,i64 (xat x 0)]++cap) (N6 r)):
  k_ 335 [sq ao x,.row [fnP g cap]] (cVm v) 37 (tLv ([],r.2)) (cVm (tY v r.1)):=by
 refine jt tG (rs:=[.tmp 5,.tmp 6]) func335 rfl rfl rfl (by simp[hc]) (by simp[hc]) (by simp[hc]) (by simp[hc]) (fun B=>?_)
 refine zd ?_
 refine zW [1,0,0,0,1,0,0,1,0,0,0,0,2,3,0] [0,1,2,3,4,5,6,7,8,9,10,11,12,13,14] ?_
 refine zK ao 1 0 ?_
 refine Xc rfl rfl rfl rfl (fun _=>fq rfl rfl (hg _)) ?_
 refine zd ?_
 refine lE tG rfl rfl rfl rfl rfl trivial rfl ?_
 refine cr tG rfl rfl rfl rfl rfl trivial ?_
 refine zd ?_
 refine Wq<|aQ rfl rfl ?_ ?_
 ·rfl
 rfl
def uo(v:VVm)(a n:Int)(hm:cX v.mem)(ha:ae a):k_ 311 [i64 a,i64 n] (cVm v) 37 (i64 (aJ v.mem a n).2) (cVm (aU v (aJ v.mem a n).1)):=by
 refine zL func311 fun B=>?_
 refine zC rfl func92 ((jE v.mem a n hm ha) _) ?_
 refine Wq<|aQ rfl rfl ?_ ?_
 ·rfl
 rfl
def MC(n:Int):ab prog 309 [i64 n] (bp 0 310 [.row [i64 n]]):=by
 refine zY func309 fun B=>?_
 refine zp1 ?_
 refine bT 1 _ rfl rfl rfl ?_
 refine zd ?_
 rfl
def UC(v:VVm)(x:List Int)(n:Int)(hm:cX v.mem):k_ 310 [sq ao x,.row [i64 n]] (cVm v) 37 (tLv (du v (aJ v.mem 0 n)).2) (cVm (du v (aJ v.mem 0 n)).1):=by
 refine zL func310 fun B=>?_
 refine zC rfl func311 ((uo v 0 n hm (by unfold ae;omega)) _ _ rfl) ?_
 refine Wq<|aQ rfl rfl ?_ ?_
 ·rfl
 rfl
def pp(n:Int):ab prog 312 [i64 n] (bp 0 370 [.row [fnP 314 [.row [i64 n]]]]):=by
 refine zY func312 fun B=>?_
 refine zp1 ?_
 refine bT 1 _ rfl rfl rfl ?_
 refine zd ?_
 refine zC rfl func313 ((sE 314 [.row [i64 n]] (by simp)) _) ?_
 rfl
def ss(v:VVm)(n:Int):ab prog 314 [eVm v,.row [i64 n]] (i64 n):=by
 refine zH func314 fun B=>?_
 rfl
def xR(v:VVm)(s b:Int)(hm:v.mem.b.length<=140737488355328)(hs:ae s):k_ 353 [i64 s,i64 b] (cVm v) 37 (i64 (kz v s b)) (cVm v):=by
 have hb:ae (W64 (b+8)):=by unfold ae W64;rw[bU];unfold wrap64;omega
 refine zL func353 fun B=>?_
 refine zc rfl func39 ((gy v.mem _ hm hb) _) ?_
 refine zs5 ?_
 refine Ws<|zp3 ?_
 refine Wb 21 rfl ?_ ?_<;>intro hg1
 ·have h0:(am v.mem (W64 (b+8))).2=0:=by simpa using hg1
  refine zy3 ?_
  refine Wb 24 rfl ?_ ?_<;>intro hg2
  ·have h1:s<0:=by simpa using hg2
   refine zd ?_
   refine Wt rfl rfl ?_
   refine zd ?_
   refine Wq<|aQ rfl rfl ?_ ?_
   ·rw[kz,if_pos h0,if_pos (.inl h1)];rfl
   rfl
  have h1:¬s<0:=by simpa using hg2
  refine zd ?_
  refine Wi rfl ?_ ?_<;>intro hi1
  ·have h2:(am v.mem (W64 (b+8))).1<=s:=by simpa using hi1
   refine zd ?_
   refine Wq<|aQ rfl rfl ?_ ?_
   ·rw[kz,if_pos h0,if_pos (.inr h2)];rfl
   rfl
  have h2:¬(am v.mem (W64 (b+8))).1<=s:=by simpa using hi1
  refine zd ?_
  refine Wq<|aQ rfl rfl ?_ ?_
  ·rw[kz,if_pos h0,if_neg (by rintro(h|h)<;>contradiction),<-h0];rfl
  rfl
 have h0:¬(am v.mem (W64 (b+8))).2=0:=by simpa using hg1
 refine zd ?_
 refine Wf rfl rfl ?_
 refine zd ?_
 refine Wq<|aQ rfl rfl ?_ ?_
 ·rw[kz,if_neg h0];rfl
 rfl
def AH{a b:Int}(ha:Fit a)(hb:Fit b):Fit (xq a b).1/\Fit (xq a b).2:=by
 have h:(a*b).natAbs<=9223372036854775808*9223372036854775808:=by rw[Int.natAbs_mul];exact Nat.mul_le_mul (by omega) (by omega)
 refine⟨by show Fit (wrap64 _);unfold wrap64;omega,?_⟩
 show Fit (a*b/18446744073709551616)
 omega
def XOk(k:Nat)(x:List Int):Prop:=k<=x.length/\∀a∈x,ae a
def XOk.fit{k:Nat}{x:List Int}(h:XOk k x)(i:Nat):ae (xat x i):=by
 unfold xat List.getD
 cases hi:x[i]? with
 | none=>simp[ae]
 | some a=>exact h.2 a (List.mem_of_getElem? hi)
def XOk.len{k:Nat}{x:List Int}(h:XOk k x):k<=x.length:=h.1
def RH(q r e:Int):ab prog 276 [i64 q,i64 r,i64 e] (tLv ([r,q],e)):=by
 refine zY func276 fun B=>?_
 refine zu2 ?_
 refine zp3 ?_
 refine zA 10 rfl (bsL ao [_,_] rfl rfl) ?_
 rfl
def ZR(x:List Int)(hx:XOk 3 x):ab prog 277 [sq ao x] (t3i (zm x)):=by
 have hl:=hx.len
 have hf:=AH (hx.fit 0) (hx.fit 1)
 refine zH func277 fun B=>?_
 refine zW [0,0,1,0,0,1,0,0,0,0,0,0] [0,1,2,3,4,5,6,7,8,9,10,11] ?_
 refine zK ao 1 0 ?_
 refine zK ao 1 0 ?_
 refine Xc rfl rfl rfl rfl (fun _=>dC rfl func278 rfl rfl ((ad0 _ _ (hx.fit 0) (hx.fit 1)) _)) ?_
 refine zd ?_
 refine zJ ao 1 0 ?_
 refine zC rfl func279 ((RC _ _ _ hf.2 (hx.fit 2)) _) ?_
 rfl
def sT(q r e:Int):tU 276 [i64 q,i64 r,i64 e] (tLv ([r,q],e)):=fun H=>⟨⟨_,func276,rfl,rfl⟩,RH q r e H⟩
def MO(x:List Int)(hx:XOk 3 x):tU 277 [sq ao x] (t3i (zm x)):=fun H=>⟨⟨_,func277,rfl,rfl⟩,ZR x hx H⟩
abbrev pt:List PV:=[.row [fnP 276 []]]
abbrev TK:List PV:=[.row [fnP 277 []]]
abbrev G5:List PV:=[.row [fnP 276 []],.row [fnP 277 []]]
def aR9(x:List Int)(hx:XOk 2 x):ab prog 280 ([sq ao x]++pt) (tLv (bB x)):=by
 have hl:=hx.len
 refine zH func280 fun B=>?_
 refine zW [1,0,0,1,0,0,1,0,0,0,0,0,0,0,0,0] [0,1,2,3,4,5,6,7,8,9,10,11,12,13,14,15] ?_
 refine zK ao 1 0 ?_
 refine zK ao 1 0 ?_
 refine Xc rfl rfl rfl rfl (fun _=>dC rfl func272 rfl rfl ((S4 _ _ (hx.fit 1)) _)) ?_
 refine zd ?_
 refine Xc rfl rfl rfl rfl (fun _=>fq rfl rfl (sT _ _ _ _)) ?_
 refine zd ?_
 rfl
def aS6(x:List Int)(hx:XOk 3 x):ab prog 281 ([sq ao x]++G5) (tLv (bi x)):=by
 refine zH func281 fun B=>?_
 refine zW [1,1,0,0,0,0,0,0,0,0,0,0] [0,1,2,3,4,5,6,7,8,9,10,11] ?_
 refine Xc rfl rfl rfl rfl (fun _=>fq rfl rfl (MO x hx _)) ?_
 refine zd ?_
 refine Xc rfl rfl rfl rfl (fun _=>fq rfl rfl (sT _ _ _ _)) ?_
 refine zd ?_
 rfl
def aR2(x:List Int)(hx:XOk 3 x):ab prog 282 ([sq ao x]++TK) (tLv (dj x)):=by
 refine zH func282 fun B=>?_
 refine Wc rfl rfl (fq rfl rfl (MO x hx _)) ?_
 refine zy5 ?_
 refine zs2 ?_
 refine zp2 ?_
 refine zA 16 rfl (bsL ao [_] rfl rfl) ?_
 rfl
def aQ1(x:List Int)(hx:XOk 2 x):ab prog 283 [sq ao x] (tLv (pUM x)):=by
 have hl:=hx.len
 refine zH func283 fun B=>?_
 refine zW [0,0,1,0,0,1,0,0,0,0,0,0] [0,1,2,3,4,5,6,7,8,9,10,11] ?_
 refine zK ao 1 0 ?_
 refine zK ao 1 0 ?_
 refine Xc rfl rfl rfl rfl (fun _=>dC rfl func284 rfl rfl ((al4 _ _) _)) ?_
 iterate 5 refine z3 ?_
 refine fS ?_
 refine zp3 ?_
 refine Wa 18 rfl (bsL ao [_,_] rfl rfl) ?_
 refine zC rfl func245 ((ma _) _) ?_
 rfl
def aQ5(x:List Int)(hx:XOk 2 x):ab prog 285 [sq ao x] (tLv (pM x)):=by
 have hl:=hx.len
 refine zH func285 fun B=>?_
 refine zW [0,0,1,0,0,1,0,0,0,0,0,0] [0,1,2,3,4,5,6,7,8,9,10,11] ?_
 refine zK ao 1 0 ?_
 refine zK ao 1 0 ?_
 refine Xc rfl rfl rfl rfl (fun _=>dC rfl func278 rfl rfl ((ad0 _ _ (hx.fit 0) (hx.fit 1)) _)) ?_
 iterate 5 refine z3 ?_
 refine fS ?_
 refine zp3 ?_
 refine Wa 18 rfl (bsL ao [_,_] rfl rfl) ?_
 refine zC rfl func245 ((ma _) _) ?_
 rfl
def aR4(x:List Int)(hx:XOk 3 x):ab prog 286 ([sq ao x]++pt) (tLv (dh x)):=by
 have hl:=hx.len
 refine zH func286 fun B=>?_
 refine zW [1,0,0,1,0,0,1,0,0,1,0,0,0,0,0,0,0,0,0] [0,1,2,3,4,5,6,7,8,9,10,11,12,13,14,15,16,17,18] ?_
 refine zK ao 1 0 ?_
 refine zK ao 1 0 ?_
 refine zK ao 1 0 ?_
 refine Xc rfl rfl rfl rfl (fun _=>dC rfl func287 rfl rfl ((Kl _ _ _) _)) ?_
 refine zd ?_
 refine Xc rfl rfl rfl rfl (fun _=>fq rfl rfl (sT _ _ _ _)) ?_
 refine zd ?_
 rfl
def aT0(x:List Int)(hx:XOk 3 x):ab prog 288 ([sq ao x]++pt) (tLv (dk x)):=by
 have hl:=hx.len
 refine zH func288 fun B=>?_
 refine zW [1,0,0,1,0,0,1,0,0,1,0,0,0,0,0,0,0,0,0] [0,1,2,3,4,5,6,7,8,9,10,11,12,13,14,15,16,17,18] ?_
 refine zK ao 1 0 ?_
 refine zK ao 1 0 ?_
 refine zK ao 1 0 ?_
 refine Xc rfl rfl rfl rfl (fun _=>dC rfl func289 rfl rfl ((ao6 _ _ _ (hx.fit 1) (hx.fit 2)) _)) ?_
 refine zd ?_
 refine Xc rfl rfl rfl rfl (fun _=>fq rfl rfl (sT _ _ _ _)) ?_
 refine zd ?_
 rfl
def aN8(x:List Int)(hx:XOk 3 x):ab prog 290 ([sq ao x]++pt) (tLv (di x)):=by
 have hl:=hx.len
 refine zH func290 fun B=>?_
 refine zW [1,0,0,1,0,0,1,0,0,1,0,0,0,0,0,0,0,0,0] [0,1,2,3,4,5,6,7,8,9,10,11,12,13,14,15,16,17,18] ?_
 refine zK ao 1 0 ?_
 refine zK ao 1 0 ?_
 refine zK ao 1 0 ?_
 refine Xc rfl rfl rfl rfl (fun _=>dC rfl func279 rfl rfl ((RC _ _ _ (hx.fit 1) (hx.fit 2)) _)) ?_
 refine zd ?_
 refine Xc rfl rfl rfl rfl (fun _=>fq rfl rfl (sT _ _ _ _)) ?_
 refine zd ?_
 rfl
def aO5(x:List Int)(hx:XOk 1 x):ab prog 291 [sq ao x] (tLv (pSD x)):=by
 have hl:=hx.len
 refine zH func291 fun B=>?_
 refine zW [0,0,1,0,0,1,0,0,0,0,0,0,0,0] [0,1,2,3,4,5,6,7,8,9,10,11,12,13] ?_
 refine zK ao 1 0 ?_
 refine zK ao 1 0 ?_
 refine Xc rfl rfl rfl rfl (fun _=>dC rfl func292 rfl rfl ((Dz _) _)) ?_
 refine z3 ?_
 refine Xa 12 rfl (bsL ao [_,_] rfl rfl) ?_
 refine Xc rfl rfl rfl rfl (fun _=>dC rfl func245 rfl rfl ((ma _) _)) ?_
 refine zd ?_
 rfl
def aK2(x:List Int)(hx:XOk 3 x):ab prog 293 [sq ao x] (tLv (bA x)):=by
 have hl:=hx.len
 refine zH func293 fun B=>?_
 refine zW [0,0,1,0,0,1,0,0,1,0,0,0,0,0,0,0,0] [0,1,2,3,4,5,6,7,8,9,10,11,12,13,14,15,16] ?_
 refine zK ao 1 0 ?_
 refine zK ao 1 0 ?_
 refine zK ao 1 0 ?_
 refine Xc rfl rfl rfl rfl (fun _=>dC rfl func294 rfl rfl ((LL _ _ _) _)) ?_
 refine Xc rfl rfl rfl rfl (fun _=>dC rfl func292 rfl rfl ((Dz _) _)) ?_
 refine z3 ?_
 refine Xa 15 rfl (bsL ao [_] rfl rfl) ?_
 refine Xc rfl rfl rfl rfl (fun _=>dC rfl func245 rfl rfl ((ma _) _)) ?_
 refine zd ?_
 rfl
def aT6(v:VVm)(x:List Int)(hm:cX v.mem)(hx:XOk 2 x):ab prog 298 [jj v.mem,sq ao x] (vl (aJ v.mem (xat x 1) (xat x 0))):=by
 have hl:=hx.len
 refine zH func298 fun B=>?_
 refine zW [1,0,0,1,0,0,1,0,0,0,3,0] [0,1,2,3,4,5,6,7,8,9,10,11] ?_
 refine zK ao 1 0 ?_
 refine zK ao 1 0 ?_
 refine Xc rfl rfl rfl rfl (fun _=>dC rfl func92 rfl rfl ((jE _ _ _ hm (hx.fit 1)) _)) ?_
 refine zd ?_
 refine cr tG rfl rfl rfl rfl rfl trivial ?_
 refine zd ?_
 rfl
def aU7(v:VVm)(x:List Int)(hm:cX v.mem)(hx:XOk 2 x):ab prog 299 [jj v.mem,sq ao x] (vl (ny v.mem (xat x 1) (xat x 0))):=by
 have hl:=hx.len
 refine zH func299 fun B=>?_
 refine zW [1,0,0,1,0,0,1,0,0,0,3,0] [0,1,2,3,4,5,6,7,8,9,10,11] ?_
 refine zK ao 1 0 ?_
 refine zK ao 1 0 ?_
 refine Xc rfl rfl rfl rfl (fun _=>dC rfl func300 rfl rfl ((Cc _ _ _ hm (hx.fit 1)) _)) ?_
 refine zd ?_
 refine cr tG rfl rfl rfl rfl rfl trivial ?_
 refine zd ?_
 rfl
def gA{m:bh}(hm:cX m):m.b.length<=140737488355328:=by have:=hm.b;omega
def aR3(v:VVm)(x:List Int)(hm:cX v.mem)(hx:XOk 2 x):ab prog 301 [jj v.mem,sq ao x] (vl (rZ v x)):=by
 have hl:=hx.len
 refine zH func301 fun B=>?_
 refine zW [1,0,0,1,0,0,0,0,0,0] [0,1,2,3,4,5,6,7,8,9] ?_
 refine zK ao 1 0 ?_
 refine Xc rfl rfl rfl rfl (fun _=>dC rfl func39 rfl rfl ((gy _ _ (gA hm) (hx.fit 1)) _)) ?_
 refine zd ?_
 refine Wi rfl ?_ ?_<;>intro hi1
 ·have h0:¬(am v.mem (xat x 1)).2=0:=bne_iff_ne.1 hi1
  refine zd ?_
  rw[rZ,if_neg h0];rfl
 have h0:(am v.mem (xat x 1)).2=0:=bne_eq_false_iff_eq.1 hi1
 refine zd ?_
 refine zW [1,0,0,1,0,0,0,1,0,0,0,0,3,0] [0,1,2,3,4,5,6,7,8,9,10,11,12,13] ?_
 refine zK ao 1 0 ?_
 refine zK ao 1 0 ?_
 refine Xc rfl rfl rfl rfl (fun _=>dC rfl func92 rfl rfl ((jE _ _ _ hm (hx.fit 1)) _)) ?_
 refine zd ?_
 refine cr tG rfl rfl rfl rfl rfl trivial ?_
 refine zd ?_
 rw[rZ,if_pos h0];rfl
def qn(n:Int):ae (W64 n):=by unfold ae W64;rw[bU];unfold wrap64;omega
def aU0(v:VVm)(x:List Int)(hm:cX v.mem)(hx:XOk 1 x):k_ 302 [sq ao x] (cVm v) 37 (tLv (lx v x).2) (cVm (lx v x).1):=by
 have hl:=hx.len
 refine zL func302 fun B=>?_
 refine zW [0,0,0,1,0,0,1,0,0,0,0,0,0] [0,1,2,3,4,5,6,7,8,9,10,11,12] ?_
 refine zK ao 1 0 ?_
 refine Xc rfl rfl rfl rfl (fun _=>dC rfl func39 rfl rfl ((gy _ _ (gA hm) (hx.fit 0)) _)) ?_
 refine zd ?_
 refine Wi rfl ?_ ?_<;>intro hi1
 ·have h0:¬(am v.mem (xat x 0)).2=0:=bne_iff_ne.1 hi1
  refine zd ?_
  refine Wq<|aQ rfl rfl ?_ ?_
  ·rw[lx,if_neg h0];rfl
  rw[lx,if_neg h0];rfl
 have h0:(am v.mem (xat x 0)).2=0:=bne_eq_false_iff_eq.1 hi1
 refine zd ?_
 refine zW [0,0,0,1,0,0,1,0,0,0,0,0,0,0] [0,1,2,3,4,5,6,7,8,9,10,11,12,13] ?_
 refine zK ao 1 0 ?_
 refine Xc rfl rfl rfl rfl (fun _=>dC rfl func39 rfl rfl ((gy _ _ (gA hm) (qn _)) _)) ?_
 iterate 5 refine z3 ?_
 refine fS ?_
 refine zp3 ?_
 refine zA 37 rfl (bsL ao [_,_] rfl rfl) ?_
 refine Wq<|aQ rfl rfl ?_ ?_
 ·rw[lx,if_pos h0];rfl
 rw[lx,if_pos h0];rfl
def vH{m:bh}{a n:Int}(h:bq m a n=true):n=0\/(0<n/\0<=a/\a+n<=m.b.length):=by unfold bq at h;exact oT h
def LG{l b:List UInt8}{k:Nat}(h:k+b.length<=l.length):(jR l k b).length=l.length:=by unfold jR;simp only[List.length_append,List.length_take,List.length_drop];omega
def vM(m:bh)(a:Int)(b:List UInt8):(cg m a b).1.b.length=m.b.length:=by
 unfold cg
 split
 ·rename_i h
  split
  ·rfl
  rename_i hb
  have:=List.length_pos_iff.2 hb
  rcases vH h with h|⟨h1,h2,h3⟩
  ·omega
  exact LG (by omega)
 rfl
def wj(m:bh)(a:Int)(b:List UInt8):(cg m a b).1.old.length<=m.old.length+1:=by
 unfold cg
 split
 ·split
  ·exact Nat.le_succ _
  simp
 exact Nat.le_succ _
def IR{m:bh}(hm:cX m)(a:Int)(b:List UInt8)(h:m.old.length+1<=1000000):cX (cg m a b).1 :=
 ⟨by rw[vM];exact hm.b,Nat.le_trans (wj m a b) h⟩
def Gz{m:bh}(hm:cX m)(a n:Int)(h:m.old.length+1<=1000000):cX (aJ m a n).1:=by
 unfold aJ
 split
 ·exact IR hm _ _ h
 exact hm
def aP4(v:VVm)(x:List Int)(hm:cX v.mem)(ho:v.mem.old.length+1<=1000000)(hx:XOk 3 x):ab prog 303 [jj v.mem,sq ao x] (vl (oS v x)):=by
 have hl:=hx.len
 refine zH func303 fun B=>?_
 refine zW [1,0,0,1,0,0,1,0,0,0,0,3,0] [0,1,2,3,4,5,6,7,8,9,10,11,12] ?_
 refine zK ao 1 0 ?_
 refine zK ao 1 0 ?_
 refine Xc rfl rfl rfl rfl (fun _=>dC rfl func92 rfl rfl ((jE _ _ _ hm (hx.fit 2)) _)) ?_
 refine zd ?_
 refine cr tG rfl rfl rfl rfl rfl trivial ?_
 refine zd ?_
 refine Wi rfl ?_ ?_<;>intro hi1
 ·have h0:¬(aJ v.mem (xat x 2) (xat x 1)).2=0:=bne_iff_ne.1 hi1
  refine zd ?_
  rw[oS,if_neg h0];rfl
 have h0:(aJ v.mem (xat x 2) (xat x 1)).2=0:=bne_eq_false_iff_eq.1 hi1
 refine zd ?_
 refine zW [1,0,0,1,0,0,0,1,0,0,0,3,0] [0,1,2,3,4,5,6,7,8,9,10,11,12] ?_
 refine zK ao 1 0 ?_
 refine zK ao 1 0 ?_
 refine Xc rfl rfl rfl rfl (fun _=>dC rfl func92 rfl rfl ((jE _ _ _ (Gz hm _ _ ho) (qn _)) _)) ?_
 refine zd ?_
 refine cr tG rfl rfl rfl rfl rfl trivial ?_
 refine zd ?_
 rw[oS,if_pos h0];rfl
def aQ0(v:VVm)(x:List Int)(hm:cX v.mem)(hx:XOk 3 x):ab prog 304 [jj v.mem,sq ao x] (vl (nv v.mem (xat x 0) (xat x 1) (xat x 2))):=by
 have hl:=hx.len
 refine zH func304 fun B=>?_
 refine zW [1,0,0,1,0,0,1,0,0,1,0,0,0,3,0] [0,1,2,3,4,5,6,7,8,9,10,11,12,13,14] ?_
 refine zK ao 1 0 ?_
 refine zK ao 1 0 ?_
 refine zK ao 1 0 ?_
 refine Xc rfl rfl rfl rfl (fun _=>dC rfl func305 rfl rfl ((TL _ _ _ _ hm (hx.fit 0) (hx.fit 1)) _)) ?_
 refine zd ?_
 refine cr tG rfl rfl rfl rfl rfl trivial ?_
 refine zd ?_
 rfl
def aP9(v:VVm)(x:List Int)(hm:cX v.mem)(hx:XOk 3 x):ab prog 306 [jj v.mem,sq ao x] (vl (nu v.mem (xat x 0) (xat x 1) (xat x 2))):=by
 have hl:=hx.len
 refine zH func306 fun B=>?_
 refine zW [1,0,0,1,0,0,1,0,0,1,0,0,0,3,0] [0,1,2,3,4,5,6,7,8,9,10,11,12,13,14] ?_
 refine zK ao 1 0 ?_
 refine zK ao 1 0 ?_
 refine zK ao 1 0 ?_
 refine Xc rfl rfl rfl rfl (fun _=>dC rfl func307 rfl rfl ((U6 _ _ _ _ hm (hx.fit 0) (hx.fit 1) (hx.fit 2)) _)) ?_
 refine zd ?_
 refine cr tG rfl rfl rfl rfl rfl trivial ?_
 refine zd ?_
 rfl
def aR7(v:VVm)(x:List Int)(hm:cX v.mem)(hx:XOk 1 x):k_ 308 [sq ao x] (cVm v) 37 (tLv (b7 v x).2) (cVm v):=by
 have hl:=hx.len
 refine zL func308 fun B=>?_
 refine zW [0,0,0,1,0,0,1,0,0,0,0,0,0] [0,1,2,3,4,5,6,7,8,9,10,11,12] ?_
 refine zK ao 1 0 ?_
 refine Xc rfl rfl rfl rfl (fun _=>dC rfl func296 rfl rfl ((t7 _ _ hm (hx.fit 0)) _)) ?_
 refine zd ?_
 refine Wv tG rfl rfl rfl (by omega) (iN ao 1 (fun _=>rfl) 0 (by(simp only[dnL]at *;omega))) ?_
 refine zy4 ?_
 refine zA 24 rfl (bsL ao [_,_] rfl rfl) ?_
 refine Wq<|aQ rfl rfl ?_ ?_
 ·rfl
 rfl
def aU6(v:VVm):ab prog 315 [eVm v] (i64 v.here):=by
 refine zH func315 fun B=>?_
 rfl
def aR0(v:VVm)(x:List Int)(hm:cX v.mem)(hh:iu v.mem v.here)(hx:XOk 1 x):ab prog 317 [jj v.mem,i64 v.here,sq ao x] (Co (uf v x)):=by
 have hl:=hx.len
 refine zH func317 fun B=>?_
 refine zW [1,0,0,0,0,1,0,0,0,0,0,0] [0,1,2,3,4,5,6,7,8,9,10,11] ?_
 refine Xc rfl rfl rfl rfl (fun _=>dC rfl func218 rfl rfl ((AJ) _)) ?_
 refine zd ?_
 refine zK ao 1 0 ?_
 refine Xc rfl rfl rfl rfl (fun _=>dC rfl func318 rfl rfl ((Pl _ _ _ _ hm hh (by unfold ae;omega) (hx.fit 0)) _)) ?_
 refine zd ?_
 rfl
def aS9(v:VVm)(x:List Int)(hm:cX v.mem)(hh:iu v.mem v.here)(hx:XOk 1 x):ab prog 319 [jj v.mem,i64 v.here,sq ao x] (Co (ct v.mem v.here (xat x 0))):=by
 have hl:=hx.len
 refine zH func319 fun B=>?_
 refine zW [1,0,0,0,1,0,0,0,0,3,0,0] [0,1,2,3,4,5,6,7,8,9,10,11] ?_
 refine zK ao 1 0 ?_
 refine Xc rfl rfl rfl rfl (fun _=>dC rfl func127 rfl rfl ((C6 _ _ _ hm hh) _)) ?_
 refine zd ?_
 refine cr tG rfl rfl rfl rfl rfl trivial ?_
 refine zd ?_
 rfl
def aU9(v:VVm)(x:List Int)(hm:cX v.mem)(hh:iu v.mem v.here)(hx:XOk 1 x):ab prog 320 [jj v.mem,i64 v.here,sq ao x] (Co (cZ v.mem v.here [loB (xat x 0)])):=by
 have hl:=hx.len
 refine zH func320 fun B=>?_
 refine zW [1,0,0,0,1,0,0,0,0,0,0,3,0,0] [0,1,2,3,4,5,6,7,8,9,10,11,12,13] ?_
 refine z9i ?_
 refine z5 ?_
 refine z3 ?_
 refine Xa 14 rfl (AC _) ?_
 refine z3 ?_
 refine Xa 15 rfl (bsL aH [_] rfl rfl) ?_
 refine Xc rfl rfl rfl rfl (fun _=>dC rfl func174 rfl rfl ((yN _ _ [loB (xat x 0)] hm hh (by simp)) _)) ?_
 refine zd ?_
 refine cr tG rfl rfl rfl rfl rfl trivial ?_
 refine zd ?_
 rfl
def aS2(v:VVm)(x:List Int)(hm:cX v.mem)(hh:iu v.mem v.here):ab prog 321 [jj v.mem,i64 v.here,sq ao x] (Co (aO v.mem v.here)):=by
 refine zH func321 fun B=>?_
 refine zC rfl func220 ((si _ _ hm hh) _) ?_
 rfl
def aS0(v:VVm)(x:List Int)(hx:XOk 1 x):ab prog 328 [eVm v,sq ao x] (oK ([loB (xat x 0)],0)):=by
 have hl:=hx.len
 refine zH func328 fun B=>?_
 refine Wv tG rfl rfl rfl (by omega) (iN ao 1 (fun _=>rfl) 0 (by(simp only[dnL]at *;omega))) ?_
 refine zy2 ?_
 refine Wa 9 rfl (AC _) ?_
 refine z1 ?_
 refine Wa 10 rfl (bsL aH [_] rfl rfl) ?_
 refine zX rfl rfl (cY (lO tG rfl) rfl (lO tG rfl) rfl (lO tG rfl) rfl rfl rfl) ?_
 rfl
def Fo(n:Nat):Lib.repeatL [32] n=List.replicate n 32:=by
 induction n with
 | zero=>rfl
 | succ n ih=>show [32]++Lib.repeatL [32] n=_;rw[ih];rfl
def Aa(n:Nat)(hn:n<=1000000):ab prog 330 [str [32],i64 n] (str (List.replicate n 32)):=by
 refine dY (args:=[.string ⟨#[32]⟩,.int .i64 n]) (fun c=>ar _ _) fun w=>Calls.mono (Tryz.strings_Repeat ⟨#[32]⟩ n w (by omega) (by show 1*n<=_;omega)) ?_
 rintro e w' ⟨rfl,hb⟩
 have h1:(⟨#[32]⟩:ByteArray).data.toList=[32]:=rfl
 rw[h1,Fo]
 exact⟨rfl,bj.of_below hb⟩
def OI(a b:Int):(if b<if 0>a then 0 else a then b else if 0>a then 0 else a)=min (max a 0) b:=by
 by_cases h:0>a
 ·simp only[if_pos h];split<;>omega
 simp only[if_neg h];split<;>omega
def aQ8(v:VVm)(x:List Int)(ho:0<=v.conf.out/\v.conf.out<=900000)(hx:XOk 1 x):ab prog 329 [eVm v,sq ao x] (oK (vK v x,0)):=by
 have hl:=hx.len
 have h0:=hx.fit 0
 have w1:IntKind.i64.wrap (v.conf.out+1)=v.conf.out+1:=by((rw[bU];unfold wrap64;(try simp only[dnL]at *);omega))
 have w2:min (max (xat x 0) 0) (v.conf.out+1)=((min (max (xat x 0) 0) (v.conf.out+1)).toNat:Int):=by omega
 refine zH func329 fun B=>?_
 refine zW [0,0,1,0,0,0,1,0,0,0,0,0] [0,1,2,3,4,5,6,7,8,9,10,11] ?_
 refine z9i ?_
 refine z5 ?_
 iterate 3 refine z3 ?_
 refine z5 ?_
 refine z3 ?_
 refine Xa 13 rfl (j_ w1) ?_
 refine z3 ?_
 refine Xa 14 rfl (j_ ((OI (xat x 0) (v.conf.out+1)).trans w2)) ?_
 refine Xc rfl rfl rfl rfl (fun _=>dC rfl func330 rfl rfl ((Aa _ (by omega)) _)) ?_
 refine zd ?_
 rfl
def aR6(v:VVm)(x:List Int)(hm:cX v.mem)(hx:XOk 2 x):ab prog 331 [eVm v,sq ao x] (oK (dP v.mem (xat x 0) (xat x 1))):=by
 have hl:=hx.len
 refine zH func331 fun B=>?_
 refine zW [0,1,0,0,1,0,0,1,0,0,0,0,0,0] [0,1,2,3,4,5,6,7,8,9,10,11,12,13] ?_
 refine zK ao 1 0 ?_
 refine zK ao 1 0 ?_
 refine Xc rfl rfl rfl rfl (fun _=>dC rfl func257 rfl rfl ((Ap _ _ _ hm (hx.fit 0) (hx.fit 1)) _)) ?_
 refine zd ?_
 refine zX rfl rfl (cY (lO tG rfl) rfl (lO tG rfl) rfl (lO tG rfl) rfl rfl rfl) ?_
 rfl
def aT8(v:VVm)(x:List Int):k_ 336 [sq ao x] (cVm v) 37 (tLv ([],0)) (cVm (tY v ⟨[],true⟩)):=by
 refine zL func336 fun B=>?_
 refine zC rfl func337 ((PL) _) ?_
 refine Wq<|aQ rfl rfl ?_ ?_
 ·rfl
 rfl
def aQ7(v:VVm)(x:List Int)(hp:v.pic.b.length<=1000000)(hm:v.mem.b.length<=140737488355328)(hx:XOk 2 x):k_ 338 [sq ao x] (cVm v) 37 (tLv (gn v x).2) (cVm (gn v x).1):=by
 have hl:=hx.len
 refine zL func338 fun B=>?_
 refine zW [0,0,0,1,0,0,1,0,0,1,0,0,1,0,0,0,0,0,0,0,2,3,0,0,0] [0,1,2,3,4,5,6,7,8,9,10,11,12,13,14,15,16,17,18,19,20,21,22,23,24] ?_
 refine zK ao 1 0 ?_
 refine zK ao 1 0 ?_
 refine Xc rfl rfl rfl rfl (fun _=>dC rfl func325 rfl rfl ((xD v hm) _)) ?_
 refine Xc rfl rfl rfl rfl (fun _=>dC rfl func339 rfl rfl ((Dx _ _ _ _ hp) _)) ?_
 refine zd ?_
 refine lE tG rfl rfl rfl rfl rfl trivial rfl ?_
 refine cr tG rfl rfl rfl rfl rfl trivial ?_
 iterate 3 refine z3 ?_
 refine fS ?_
 refine zu5 ?_
 refine zp3 ?_
 refine zA 36 rfl (bsL ao [_,_] rfl rfl) ?_
 refine Wq<|aQ rfl rfl ?_ ?_
 ·rfl
 rfl
def aQ4(v:VVm)(x:List Int)(hp:v.pic.b.length<=1000000)(hm:v.mem.b.length<=140737488355328)(hx:XOk 2 x):k_ 340 [sq ao x] (cVm v) 37 (tLv (ga v x).2) (cVm (ga v x).1):=by
 have hl:=hx.len
 refine zL func340 fun B=>?_
 refine zW [0,0,0,1,0,0,1,0,0,1,0,0,1,0,0,0,0,0,2,3,0] [0,1,2,3,4,5,6,7,8,9,10,11,12,13,14,15,16,17,18,19,20] ?_
 refine zK ao 1 0 ?_
 refine zK ao 1 0 ?_
 refine Xc rfl rfl rfl rfl (fun _=>dC rfl func325 rfl rfl ((xD v hm) _)) ?_
 refine Xc rfl rfl rfl rfl (fun _=>dC rfl func341 rfl rfl ((Zy _ _ _ _ hp) _)) ?_
 refine zd ?_
 refine lE tG rfl rfl rfl rfl rfl trivial rfl ?_
 refine cr tG rfl rfl rfl rfl rfl trivial ?_
 refine z3 ?_
 refine fS ?_
 refine zu5 ?_
 refine zp1 ?_
 refine zA 30 rfl (bsL ao [_,_] rfl rfl) ?_
 refine Wq<|aQ rfl rfl ?_ ?_
 ·rfl
 rfl
def AG(p:dV):(lU p).1.length<=p.b.length:=by unfold lU;split<;>simp
def aQ9(v:VVm)(x:List Int)(hp:v.pic.b.length<=1000000)(hm:cX v.mem):k_ 344 [sq ao x] (cVm v) 37 (tLv (xL v).2) (cVm (xL v).1):=by
 have hl:=AG v.pic
 refine zL func344 fun B=>?_
 refine zC rfl func345 ((WV _ hp) _) ?_
 refine Wi rfl ?_ ?_<;>intro hi1
 ·have h0:¬(lU v.pic).2=0:=bne_iff_ne.1 hi1
  refine zd ?_
  refine Wq<|aQ rfl rfl ?_ ?_
  ·rw[xL,if_neg h0];rfl
  rw[xL,if_neg h0];rfl
 have h0:(lU v.pic).2=0:=bne_eq_false_iff_eq.1 hi1
 refine Wj<|zp5 ?_
 refine zs2 ?_
 refine zp5 ?_
 refine zy3 ?_
 refine Wa 34 rfl (wO _) ?_
 refine zc rfl func123 ((nW _ _ _ hm (qn _) (by omega)) _) ?_
 refine zy5 ?_
 refine zs2 ?_
 refine zu5 ?_
 refine zp3 ?_
 refine Wa 46 rfl (gC _) ?_
 refine z1 ?_
 refine zA 47 rfl (bsL ao [_,_] rfl rfl) ?_
 refine Wq<|aQ rfl rfl ?_ ?_
 ·rw[xL,if_pos h0];rfl
 rw[xL,if_pos h0];rfl
def bO(v:VVm)(x:List Int):List Int×Int:=([W64 (xat x 0+16)],if (az v (xat x 0)).2=0/\((az v (xat x 0)).1<257\/260<(az v (xat x 0)).1)then -31 else(az v (xat x 0)).2)
def aU1(v:VVm)(x:List Int)(hm:v.mem.b.length<=140737488355328)(hx:XOk 1 x):k_ 346 [sq ao x] (cVm v) 37 (tLv (bO v x)) (cVm v):=by
 have hl:=hx.len
 refine zL func346 fun B=>?_
 refine zW [0,0,1,0,0,1,0,0,0,0,0,0] [0,1,2,3,4,5,6,7,8,9,10,11] ?_
 refine zK ao 1 0 ?_
 refine Xc rfl rfl rfl rfl (fun _=>dC rfl func67 rfl rfl ((qK v _ hm (hx.fit 0)) _)) ?_
 iterate 5 refine z3 ?_
 refine fS ?_
 refine Ws<|zp3 ?_
 refine Wb 20 rfl ?_ ?_<;>intro hg1
 ·have h0:(az v (xat x 0)).2=0:=beq_iff_eq.1 hg1
  refine zy3 ?_
  refine Wb 23 rfl ?_ ?_<;>intro hg2
  ·have h1:(az v (xat x 0)).1<257:=oT hg2
   refine zd ?_
   refine Wt rfl rfl ?_
   refine zd ?_
   refine Wv tG rfl rfl rfl (by omega) (iN ao 1 (fun _=>rfl) 0 (by(simp only[dnL]at *;omega))) ?_
   refine zy3 ?_
   refine zA 32 rfl (bsL ao [_] rfl rfl) ?_
   refine Wq<|aQ rfl rfl ?_ ?_
   ·(rw[bO,if_pos ⟨h0,by omega⟩];rfl)
   rfl
  have h1:¬(az v (xat x 0)).1<257:=oF hg2
  refine zd ?_
  refine Wi rfl ?_ ?_<;>intro hi1
  ·have h2:260<(az v (xat x 0)).1:=oT hi1
   refine zd ?_
   refine Wv tG rfl rfl rfl (by omega) (iN ao 1 (fun _=>rfl) 0 (by(simp only[dnL]at *;omega))) ?_
   refine zy3 ?_
   refine zA 32 rfl (bsL ao [_] rfl rfl) ?_
   refine Wq<|aQ rfl rfl ?_ ?_
   ·(rw[bO,if_pos ⟨h0,by omega⟩];rfl)
   rfl
  have h2:¬260<(az v (xat x 0)).1:=oF hi1
  refine zd ?_
  refine Wv tG rfl rfl rfl (by omega) (iN ao 1 (fun _=>rfl) 0 (by(simp only[dnL]at *;omega))) ?_
  refine zy3 ?_
  refine zA 32 rfl (bsL ao [_] rfl rfl) ?_
  refine Wq<|aQ rfl rfl ?_ ?_
  ·(rw[bO,if_neg (fun h=>by omega)];rfl)
  rfl
 have h0:¬(az v (xat x 0)).2=0:=beq_eq_false_iff_ne.1 hg1
 refine zd ?_
 refine Wf rfl rfl ?_
 refine zd ?_
 refine Wv tG rfl rfl rfl (by omega) (iN ao 1 (fun _=>rfl) 0 (by(simp only[dnL]at *;omega))) ?_
 refine zy3 ?_
 refine zA 32 rfl (bsL ao [_] rfl rfl) ?_
 refine Wq<|aQ rfl rfl ?_ ?_
 ·(rw[bO,if_neg (fun h=>by omega)];rfl)
 rfl
def aS3(x:List Int):ab prog 347 [sq ao x] (tLv ([],-1)):=by
 refine zH func347 fun B=>?_
 rfl
def aO9(v:VVm):ab prog 349 [eVm v] (i64 v.arg):=by
 refine zH func349 fun B=>?_
 rfl
def aT7(v:VVm):ab prog 350 [eVm v] (i64 v.self):=by
 refine zH func350 fun B=>?_
 rfl
def aS5(v:VVm):ab prog 351 [eVm v] (i64 v.now):=by
 refine zH func351 fun B=>?_
 rfl
def aV2(v:VVm)(x:List Int)(hm:cX v.mem)(hx:XOk 2 x):k_ 352 [sq ao x] (cVm v) 37 (tLv (gX v x).2) (cVm (gX v x).1):=by
 have hl:=hx.len
 refine zL func352 fun B=>?_
 refine zW [0,0,0,1,0,0,1,3,0] [0,1,2,3,4,5,6,7,8] ?_
 refine zK ao 1 0 ?_
 refine zK ao 1 0 ?_
 refine vx rfl rfl rfl rfl (dC rfl func353 rfl rfl ((xR v _ _ (gA hm) (hx.fit 0)) _ _ rfl)) ?_
 refine zd ?_
 refine Wi rfl ?_ ?_<;>intro hi1
 ·have h0:¬kz v (xat x 0) (xat x 1)=0:=bne_iff_ne.1 hi1
  refine zd ?_
  refine Wq<|aQ rfl rfl ?_ ?_
  ·rw[gX,if_neg h0];rfl
  rw[gX,if_neg h0];rfl
 have h0:kz v (xat x 0) (xat x 1)=0:=bne_eq_false_iff_eq.1 hi1
 refine zd ?_
 refine zW [0,0,0,1,0,0,1,3,0,0] [0,1,2,3,4,5,6,7,8,9] ?_
 refine zK ao 1 0 ?_
 refine zK ao 1 0 ?_
 refine vx rfl rfl rfl rfl (dC rfl func311 rfl rfl ((uo v _ _ hm (hx.fit 1)) _ _ rfl)) ?_
 refine zd ?_
 refine Wq<|aQ rfl rfl ?_ ?_
 ·rw[gX,if_pos h0];rfl
 rw[gX,if_pos h0];rfl
def aT1(v:VVm)(x:List Int)(hm:cX v.mem)(hx:XOk 3 x):k_ 354 [sq ao x] (cVm v) 37 (tLv (jm v x).2) (cVm (jm v x).1):=by
 have hl:=hx.len
 refine zL func354 fun B=>?_
 refine zW [0,0,0,1,0,0,1,3,0] [0,1,2,3,4,5,6,7,8] ?_
 refine zK ao 1 0 ?_
 refine zK ao 1 0 ?_
 refine vx rfl rfl rfl rfl (dC rfl func353 rfl rfl ((xR v _ _ (gA hm) (hx.fit 1)) _ _ rfl)) ?_
 refine zd ?_
 refine Wi rfl ?_ ?_<;>intro hi1
 ·have h0:¬kz v (xat x 1) (xat x 2)=0:=bne_iff_ne.1 hi1
  refine zd ?_
  refine Wq<|aQ rfl rfl ?_ ?_
  ·rw[jm,if_neg h0];rfl
  rw[jm,if_neg h0];rfl
 have h0:kz v (xat x 1) (xat x 2)=0:=bne_eq_false_iff_eq.1 hi1
 refine zd ?_
 refine zW [0,0,0,0,0,0,0,0,0,0,0,0,0,3,0,0] [0,1,2,3,4,5,6,7,8,9,10,11,12,13,14,15] ?_
 refine zK ao 1 0 ?_
 refine zK ao 1 0 ?_
 refine zK ao 1 0 ?_
 refine vx rfl rfl rfl rfl (dC rfl func311 rfl rfl ((uo v _ _ hm (qn _)) _ _ rfl)) ?_
 refine zd ?_
 refine Wq<|aQ rfl rfl ?_ ?_
 ·rw[jm,if_pos h0];rfl
 rw[jm,if_pos h0];rfl
def Sa:ab prog 348 [i64 1] (bp 3 383 [.row [i64 1],.row [i64 3]]):=by
 refine zY func348 fun B=>?_
 refine zp1 ?_
 refine bT 1 _ rfl rfl rfl ?_
 refine zd ?_
 refine Wd rfl rfl (dn rfl) ?_
 refine zD 3 (.n (1)) ?_
 refine zD 3 (.n (2)) ?_
 refine zD 3 (.n (3)) ?_
 refine zD 3 (.n (4)) ?_
 refine z1 ?_
 refine eV 5 _ rfl rfl rfl ?_
 refine z1 ?_
 refine Wd rfl rfl (bc (b:=false) (e:=3) (key:=.n 1) (by kernel_rfl) (lO tG rfl) (by kernel_rfl) rfl rfl rfl rfl (by kernel_rfl) (rfl)) ?_
 refine zy2 ?_
 refine bT 3 _ rfl rfl rfl ?_
 refine zd ?_
 rfl
def Rl:ab prog 348 [i64 2] (bp 4 383 [.row [i64 2],.row [i64 4]]):=by
 refine zY func348 fun B=>?_
 refine zp1 ?_
 refine bT 1 _ rfl rfl rfl ?_
 refine zd ?_
 refine Wd rfl rfl (dn rfl) ?_
 refine zD 3 (.n (1)) ?_
 refine zD 3 (.n (2)) ?_
 refine zD 3 (.n (3)) ?_
 refine zD 3 (.n (4)) ?_
 refine z1 ?_
 refine eV 5 _ rfl rfl rfl ?_
 refine z1 ?_
 refine Wd rfl rfl (bc (b:=false) (e:=3) (key:=.n 2) (by kernel_rfl) (lO tG rfl) (by kernel_rfl) rfl rfl rfl rfl (by kernel_rfl) (rfl)) ?_
 refine zy2 ?_
 refine bT 3 _ rfl rfl rfl ?_
 refine zd ?_
 rfl
def QC:ab prog 348 [i64 3] (bp 4 383 [.row [i64 3],.row [i64 4]]):=by
 refine zY func348 fun B=>?_
 refine zp1 ?_
 refine bT 1 _ rfl rfl rfl ?_
 refine zd ?_
 refine Wd rfl rfl (dn rfl) ?_
 refine zD 3 (.n (1)) ?_
 refine zD 3 (.n (2)) ?_
 refine zD 3 (.n (3)) ?_
 refine zD 3 (.n (4)) ?_
 refine z1 ?_
 refine eV 5 _ rfl rfl rfl ?_
 refine z1 ?_
 refine Wd rfl rfl (bc (b:=false) (e:=3) (key:=.n 3) (by kernel_rfl) (lO tG rfl) (by kernel_rfl) rfl rfl rfl rfl (by kernel_rfl) (rfl)) ?_
 refine zy2 ?_
 refine bT 3 _ rfl rfl rfl ?_
 refine zd ?_
 rfl
def QL:ab prog 348 [i64 4] (bp 1 383 [.row [i64 4],.row [i64 1]]):=by
 refine zY func348 fun B=>?_
 refine zp1 ?_
 refine bT 1 _ rfl rfl rfl ?_
 refine zd ?_
 refine Wd rfl rfl (dn rfl) ?_
 refine zD 3 (.n (1)) ?_
 refine zD 3 (.n (2)) ?_
 refine zD 3 (.n (3)) ?_
 refine zD 3 (.n (4)) ?_
 refine z1 ?_
 refine eV 5 _ rfl rfl rfl ?_
 refine z1 ?_
 refine Wd rfl rfl (bc (b:=false) (e:=3) (key:=.n 4) (by kernel_rfl) (lO tG rfl) (by kernel_rfl) rfl rfl rfl rfl (by kernel_rfl) (rfl)) ?_
 refine zy2 ?_
 refine bT 3 _ rfl rfl rfl ?_
 refine zd ?_
 rfl
def SM(v:VVm)(x:List Int)(hr:v.req.length<=100000)(hx:XOk 1 x):k_ 383 [sq ao x,.row [i64 4],.row [i64 1]] (cVm v) 37 (tLv (jG v x).2) (cVm (jG v x).1):=by
 have hl:=hx.len
 refine zL func383 fun B=>?_
 refine Wt rfl (by decide) ?_
 refine zd ?_
 refine Wv tG rfl rfl rfl (by omega) (iN ao 1 (fun _=>rfl) 0 (by(simp only[dnL]at *;omega))) ?_
 refine zs3 ?_
 refine zu3 ?_
 refine Ws<|zp2 ?_
 refine pJ 56 rfl (by decide) ?_
 refine zd ?_
 refine Wf rfl rfl ?_
 refine zd ?_
 refine Wi rfl ?_ ?_<;>intro hi2
 ·have h5:16<=(v.req.length:Int):=oT hi2
  refine zd ?_
  refine Wq<|aQ rfl rfl ?_ ?_
  ·rw[jG,if_pos h5];rfl
  rw[jG,if_pos h5];rfl
 have h5:¬16<=(v.req.length:Int):=oF hi2
 refine zd ?_
 refine Wt rfl (by decide) ?_
 refine zd ?_
 refine zW [0,0,0,0,1,0,1,0,0,0,0,3] [0,1,2,3,4,5,6,7,8,9,10,11] ?_
 refine Xc rfl rfl rfl rfl (fun _=>dC rfl func384 rfl rfl ((xd _ (by omega)) _)) ?_
 refine z5 ?_
 refine z3 ?_
 refine Xa 83 rfl ((show PV.seq 1 _ .clip=.seq (List.length [(⟨4,0,0,0,0,xat x 0⟩:rQ)]) (List.flatMap pY [(⟨4,0,0,0,0,xat x 0⟩:rQ)]) .clip from rfl)) ?_
 refine ew rfl rfl rfl rfl (fun _=>co (lO tG rfl) rfl (lO tG rfl) (lO tG rfl) rfl rfl (by exact⟨_,rfl⟩) (by exact⟨rfl,rfl,an _ 6 (fun _=>rfl) _,bD _ (fun _=>rfl) _⟩) (by exact an _ 6 (fun _=>rfl) _) (by((simp_all;omega))) (by((simp_all;omega))) (by exact fU (bs (fun x=>by simp) _) (bs (fun x=>by simp) _))) ?_
 refine zO 84 rfl (cw pY) ?_
 refine cr tG rfl rfl rfl rfl rfl trivial ?_
 refine zd ?_
 refine Wq<|aQ rfl rfl ?_ ?_
 ·rw[jG,if_neg h5];rfl
 rw[jG,if_neg h5];rfl
def am9(v:VVm)(x:List Int)(hr:v.req.length<=100000)(hd:v.hand.length<=1000000)(hx:XOk 3 x):k_ 383 [sq ao x,.row [i64 1],.row [i64 3]] (cVm v) 37 (tLv (ka v x).2) (cVm (ka v x).1):=by
 have hl:=hx.len
 refine zL func383 fun B=>?_
 refine Wf rfl (by decide) ?_
 refine zd ?_
 refine zW [0,0,0,0,0,0,0,0,0,0,3,0,3,0,3] [0,1,2,3,4,5,6,7,8,9,10,11,12,13,14] ?_
 refine zK ao 1 0 ?_
 refine zK ao 1 0 ?_
 refine zK ao 1 0 ?_
 refine cr tG rfl rfl rfl rfl rfl trivial ?_
 refine z3 ?_
 refine cr tG rfl rfl rfl rfl rfl trivial ?_
 refine z3 ?_
 refine cr tG rfl rfl rfl rfl rfl trivial ?_
 refine zd ?_
 refine lg [0,1,0,0,0,1,0,0,0,1,0,0,0,0,0,1,0,0,0,0,1,0,0] [0,1,2,3,4,5,6,7,8,9,10,11,12,13,14,15,16,17,18,19,20,21,22] mG rfl (by kernel_rfl) ?_
 refine z3 ?_
 refine z5 ?_
 iterate 2 refine z3 ?_
 refine gI 33 rfl (fun hg1=>?_) (fun hg1=>?_)
 ·have h1:xat x 1<0:=oT hg1
  have hb:ji v x:=.inl h1
  refine zd ?_
  refine Wt rfl rfl ?_
  refine zd ?_
  refine Wq<|aQ rfl rfl ?_ ?_
  ·rw[ka,if_pos hb];rfl
  rw[ka,if_pos hb];rfl
 have h1:¬xat x 1<0:=oF hg1
 refine z3 ?_
 refine z5 ?_
 iterate 3 refine z3 ?_
 refine z5 ?_
 iterate 4 refine z3 ?_
 refine gI 43 rfl (fun hg2=>?_) (fun hg2=>?_)
 ·have h2:(v.hand.length:Int)<=xat x 1:=oT hg2
  have hb:ji v x:=.inr (.inl h2)
  refine zd ?_
  refine Wt rfl rfl ?_
  refine zd ?_
  refine Wq<|aQ rfl rfl ?_ ?_
  ·rw[ka,if_pos hb];rfl
  rw[ka,if_pos hb];rfl
 have h2:¬(v.hand.length:Int)<=xat x 1:=oF hg2
 refine z3 ?_
 refine z5 ?_
 iterate 3 refine z3 ?_
 refine gI 48 rfl (fun hg3=>?_) (fun hg3=>?_)
 ·have h3:xat x 2<0:=oT hg3
  have hb:ji v x:=.inr (.inr (.inl h3))
  refine zd ?_
  refine Wt rfl rfl ?_
  refine zd ?_
  refine Wq<|aQ rfl rfl ?_ ?_
  ·rw[ka,if_pos hb];rfl
  rw[ka,if_pos hb];rfl
 have h3:¬xat x 2<0:=oF hg3
 refine zd ?_
 refine Wi rfl ?_ ?_<;>intro hi2
 ·have h4:4<=xat x 2:=oT hi2
  have hb:ji v x:=.inr (.inr (.inr (by omega)))
  refine zd ?_
  refine Wq<|aQ rfl rfl ?_ ?_
  ·rw[ka,if_pos hb];rfl
  rw[ka,if_pos hb];rfl
 have h4:¬4<=xat x 2:=oF hi2
 have hb:¬ji v x:=by rintro(h|h|h|h)<;>omega
 refine Wj<|zu3 ?_
 refine Ws<|zp2 ?_
 refine pJ 56 rfl (by decide) ?_
 refine zd ?_
 refine Wf rfl rfl ?_
 refine zd ?_
 refine Wi rfl ?_ ?_<;>intro hi3
 ·have h5:16<=(v.req.length:Int):=oT hi3
  refine zd ?_
  refine Wq<|aQ rfl rfl ?_ ?_
  ·rw[ka,if_neg hb,if_pos h5];rfl
  rw[ka,if_neg hb,if_pos h5];rfl
 have h5:¬16<=(v.req.length:Int):=oF hi3
 refine zd ?_
 refine Wt rfl (by decide) ?_
 refine zd ?_
 refine zW [0,0,0,0,1,0,1,0,0,0,0,3] [0,1,2,3,4,5,6,7,8,9,10,11] ?_
 refine Xc rfl rfl rfl rfl (fun _=>dC rfl func384 rfl rfl ((xd _ (by omega)) _)) ?_
 refine z5 ?_
 refine z3 ?_
 refine Xa 83 rfl ((show PV.seq 1 _ .clip=.seq (List.length [(⟨1,xat x 0,xat x 1,xat x 2,0,0⟩:rQ)]) (List.flatMap pY [(⟨1,xat x 0,xat x 1,xat x 2,0,0⟩:rQ)]) .clip from rfl)) ?_
 refine ew rfl rfl rfl rfl (fun _=>co (lO tG rfl) rfl (lO tG rfl) (lO tG rfl) rfl rfl (by exact⟨_,rfl⟩) (by exact⟨rfl,rfl,an _ 6 (fun _=>rfl) _,bD _ (fun _=>rfl) _⟩) (by exact an _ 6 (fun _=>rfl) _) (by((simp_all;omega))) (by((simp_all;omega))) (by exact fU (bs (fun x=>by simp) _) (bs (fun x=>by simp) _))) ?_
 refine zO 84 rfl (cw pY) ?_
 refine cr tG rfl rfl rfl rfl rfl trivial ?_
 refine zd ?_
 refine Wq<|aQ rfl rfl ?_ ?_
 ·rw[ka,if_neg hb,if_neg h5];rfl
 rw[ka,if_neg hb,if_neg h5];rfl
def NB(k:Int)(hk:k≠4)(v:VVm)(x:List Int)(hr:v.req.length<=100000)(hd:v.hand.length<=1000000)(hx:XOk 4 x):k_ 383 [sq ao x,.row [i64 k],.row [i64 4]] (cVm v) 37 (tLv (dy k v x).2) (cVm (dy k v x).1):=by
 have hl:=hx.len
 refine zL func383 fun B=>?_
 refine Wf rfl (by exact beq_eq_false_iff_ne.2 hk) ?_
 refine zd ?_
 refine zW [0,0,0,0,0,0,0,0,0,0,3,0,3,0,3] [0,1,2,3,4,5,6,7,8,9,10,11,12,13,14] ?_
 refine zK ao 1 0 ?_
 refine zK ao 1 0 ?_
 refine zK ao 1 0 ?_
 refine cr tG rfl rfl rfl rfl rfl trivial ?_
 refine z3 ?_
 refine cr tG rfl rfl rfl rfl rfl trivial ?_
 refine z3 ?_
 refine cr tG rfl rfl rfl rfl rfl trivial ?_
 refine zd ?_
 refine lg [0,1,0,0,0,1,0,0,0,1,0,0,0,0,0,1,0,0,0,0,1,0,0] [0,1,2,3,4,5,6,7,8,9,10,11,12,13,14,15,16,17,18,19,20,21,22] mG rfl (by kernel_rfl) ?_
 refine z3 ?_
 refine z5 ?_
 iterate 2 refine z3 ?_
 refine gI 33 rfl (fun hg1=>?_) (fun hg1=>?_)
 ·have h1:xat x 1<0:=oT hg1
  have hb:ji v x:=.inl h1
  refine zd ?_
  refine Wt rfl rfl ?_
  refine zd ?_
  refine Wq<|aQ rfl rfl ?_ ?_
  ·rw[dy,if_pos hb];rfl
  rw[dy,if_pos hb];rfl
 have h1:¬xat x 1<0:=oF hg1
 refine z3 ?_
 refine z5 ?_
 iterate 3 refine z3 ?_
 refine z5 ?_
 iterate 4 refine z3 ?_
 refine gI 43 rfl (fun hg2=>?_) (fun hg2=>?_)
 ·have h2:(v.hand.length:Int)<=xat x 1:=oT hg2
  have hb:ji v x:=.inr (.inl h2)
  refine zd ?_
  refine Wt rfl rfl ?_
  refine zd ?_
  refine Wq<|aQ rfl rfl ?_ ?_
  ·rw[dy,if_pos hb];rfl
  rw[dy,if_pos hb];rfl
 have h2:¬(v.hand.length:Int)<=xat x 1:=oF hg2
 refine z3 ?_
 refine z5 ?_
 iterate 3 refine z3 ?_
 refine gI 48 rfl (fun hg3=>?_) (fun hg3=>?_)
 ·have h3:xat x 2<0:=oT hg3
  have hb:ji v x:=.inr (.inr (.inl h3))
  refine zd ?_
  refine Wt rfl rfl ?_
  refine zd ?_
  refine Wq<|aQ rfl rfl ?_ ?_
  ·rw[dy,if_pos hb];rfl
  rw[dy,if_pos hb];rfl
 have h3:¬xat x 2<0:=oF hg3
 refine zd ?_
 refine Wi rfl ?_ ?_<;>intro hi2
 ·have h4:4<=xat x 2:=oT hi2
  have hb:ji v x:=.inr (.inr (.inr (by omega)))
  refine zd ?_
  refine Wq<|aQ rfl rfl ?_ ?_
  ·rw[dy,if_pos hb];rfl
  rw[dy,if_pos hb];rfl
 have h4:¬4<=xat x 2:=oF hi2
 have hb:¬ji v x:=by rintro(h|h|h|h)<;>omega
 refine Wj<|zu3 ?_
 refine Ws<|zp2 ?_
 refine cT 56 rfl (by decide) ?_
 refine z1 ?_
 refine Wv tG rfl rfl rfl (by omega) (iN ao 1 (fun _=>rfl) 0 (by(simp only[dnL]at *;omega))) ?_
 refine zy3 ?_
 refine Wb 61 rfl ?_ ?_<;>intro hg5
 ·have h6:xat x 3<1:=oT hg5
  have hq:xat x 3<1\/4294967295<xat x 3:=.inl h6
  refine zd ?_
  refine Wt rfl rfl ?_
  refine zd ?_
  refine Wq<|aQ rfl rfl ?_ ?_
  ·rw[dy,if_neg hb,if_pos hq];rfl
  rw[dy,if_neg hb,if_pos hq];rfl
 have h6:¬xat x 3<1:=oF hg5
 refine z1 ?_
 refine zJ ao 1 0 ?_
 refine Wi rfl ?_ ?_<;>intro hi3
 ·have h7:4294967296<=xat x 3:=oT hi3
  have hq:xat x 3<1\/4294967295<xat x 3:=.inr (by omega)
  refine zd ?_
  refine Wq<|aQ rfl rfl ?_ ?_
  ·rw[dy,if_neg hb,if_pos hq];rfl
  rw[dy,if_neg hb,if_pos hq];rfl
 have h7:¬4294967296<=xat x 3:=oF hi3
 have hq:¬(xat x 3<1\/4294967295<xat x 3):=by omega
 refine zd ?_
 refine Wi rfl ?_ ?_<;>intro hi4
 ·have h5:16<=(v.req.length:Int):=oT hi4
  refine zd ?_
  refine Wq<|aQ rfl rfl ?_ ?_
  ·rw[dy,if_neg hb,if_neg hq,if_pos h5];rfl
  rw[dy,if_neg hb,if_neg hq,if_pos h5];rfl
 have h5:¬16<=(v.req.length:Int):=oF hi4
 refine zd ?_
 refine Wf rfl (by decide) ?_
 refine Wj<|Ws<|zp5 ?_
 refine z1 ?_
 refine Wb 92 rfl ?_ ?_<;>intro hg6
 ·have h8:v.free=0:=beq_iff_eq.1 hg6
  have hw:v.free=0\/v.next=4611686018427387904:=.inl h8
  refine zd ?_
  refine Wt rfl rfl ?_
  refine zd ?_
  refine Wq<|aQ rfl rfl ?_ ?_
  ·rw[dy,if_neg hb,if_neg hq,if_neg h5,if_pos hw];rfl
  rw[dy,if_neg hb,if_neg hq,if_neg h5,if_pos hw];rfl
 have h8:¬v.free=0:=beq_eq_false_iff_ne.1 hg6
 refine zd ?_
 refine Wi rfl ?_ ?_<;>intro hi6
 ·have h9:v.next=4611686018427387904:=beq_iff_eq.1 hi6
  have hw:v.free=0\/v.next=4611686018427387904:=.inr h9
  refine zd ?_
  refine Wq<|aQ rfl rfl ?_ ?_
  ·rw[dy,if_neg hb,if_neg hq,if_neg h5,if_pos hw];rfl
  rw[dy,if_neg hb,if_neg hq,if_neg h5,if_pos hw];rfl
 have h9:¬v.next=4611686018427387904:=beq_eq_false_iff_ne.1 hi6
 have hw:¬(v.free=0\/v.next=4611686018427387904):=by rintro(h|h)<;>contradiction
 refine zd ?_
 refine zW [0,0,0,0,0,0,4,0,7,0,7] [0,1,2,3,4,5,6,7,8,9,10] ?_
 refine zK ao 1 0 ?_
 refine zU 0 ?_
 refine z3 ?_
 refine dW 1 tG rfl rfl rfl rfl rfl trivial rfl ?_
 refine z3 ?_
 refine dW 1 tG rfl rfl rfl rfl rfl trivial rfl ?_
 refine zd ?_
 refine zW [0,0,0,0,1,0,1,0,0,0,0,3] [0,1,2,3,4,5,6,7,8,9,10,11] ?_
 refine Xc rfl rfl rfl rfl (fun _=>dC rfl func384 rfl rfl ((xd _ (by omega)) _)) ?_
 refine z5 ?_
 refine z3 ?_
 refine Xa 115 rfl ((show PV.seq 1 _ .clip=.seq (List.length [(⟨k,xat x 0,xat x 1,xat x 2,xat x 3,v.next⟩:rQ)]) (List.flatMap pY [(⟨k,xat x 0,xat x 1,xat x 2,xat x 3,v.next⟩:rQ)]) .clip from rfl)) ?_
 refine ew rfl rfl rfl rfl (fun _=>co (lO tG rfl) rfl (lO tG rfl) (lO tG rfl) rfl rfl (by exact⟨_,rfl⟩) (by exact⟨rfl,rfl,an _ 6 (fun _=>rfl) _,bD _ (fun _=>rfl) _⟩) (by exact an _ 6 (fun _=>rfl) _) (by((simp_all;omega))) (by((simp_all;omega))) (by exact fU (bs (fun x=>by simp) _) (bs (fun x=>by simp) _))) ?_
 refine zO 116 rfl (cw pY) ?_
 refine cr tG rfl rfl rfl rfl rfl trivial ?_
 refine fS ?_
 refine zp5 ?_
 refine zs3 ?_
 refine zp5 ?_
 refine zs3 ?_
 refine zp3 ?_
 refine Wa 135 rfl (bsL ao [_] rfl rfl) ?_
 refine zC rfl func245 ((ma [v.next]) _) ?_
 refine Wq<|aQ rfl rfl ?_ ?_
 ·rw[dy,if_neg hb,if_neg hq,if_neg h5,if_neg hw];rfl
 rw[dy,if_neg hb,if_neg hq,if_neg h5,if_neg hw];rfl
def rkK:List fX:=[.s [47,77,79,68],.s [42,47,77,79,68],.s [42,47],.s [85,77,42],.s [77,42],.s [85,77,47,77,79,68],.s [83,77,47,82,69,77],.s [70,77,47,77,79,68],.s [83,62,68],.s [87,73,84,72,73,78]]
def rkV:List PV:=[bp 2 271 [.row [fnP 280 pt]],bp 3 271 [.row [fnP 281 G5]],bp 3 271 [.row [fnP 282 TK]],bp 2 271 [.row [fnP 283 []]],bp 2 271 [.row [fnP 285 []]],bp 3 271 [.row [fnP 286 pt]],bp 3 271 [.row [fnP 288 pt]],bp 3 271 [.row [fnP 290 pt]],bp 1 271 [.row [fnP 291 []]],bp 3 271 [.row [fnP 293 []]]]
def Zo:aR (.smap rkK rkV):=by
 unfold aR rkV
 simp
def jw:ab prog 246 [] (.smap rkK rkV):=by
 refine bw tG (rs:=[.tmp 0]) func246 rfl rfl rfl (by simp;done) (by exact Zo) (fun B=>?_)
 refine zu1 ?_
 refine zp2 ?_
 refine bT 1 _ rfl rfl rfl ?_
 refine Wn<|zp2 ?_
 refine bT 2 _ rfl rfl rfl ?_
 refine zd ?_
 refine zX rfl rfl (dn rfl) ?_
 refine zc rfl func240 ((jI 2 280 pt (by simp)) _) ?_
 refine zD 267 (.s [47,77,79,68]) ?_
 refine z1 ?_
 refine zc rfl func240 ((jI 3 281 G5 (by simp)) _) ?_
 refine zD 267 (.s [42,47,77,79,68]) ?_
 refine z1 ?_
 refine zc rfl func240 ((jI 3 282 TK (by simp)) _) ?_
 refine zD 267 (.s [42,47]) ?_
 refine zc rfl func240 ((jI 2 283 [] (by simp)) _) ?_
 refine zD 267 (.s [85,77,42]) ?_
 refine zc rfl func240 ((jI 2 285 [] (by simp)) _) ?_
 refine zD 267 (.s [77,42]) ?_
 refine z1 ?_
 refine zc rfl func240 ((jI 3 286 pt (by simp)) _) ?_
 refine zD 267 (.s [85,77,47,77,79,68]) ?_
 refine z1 ?_
 refine zc rfl func240 ((jI 3 288 pt (by simp)) _) ?_
 refine zD 267 (.s [83,77,47,82,69,77]) ?_
 refine z1 ?_
 refine zc rfl func240 ((jI 3 290 pt (by simp)) _) ?_
 refine zD 267 (.s [70,77,47,77,79,68]) ?_
 refine zc rfl func240 ((jI 1 291 [] (by simp)) _) ?_
 refine zD 267 (.s [83,62,68]) ?_
 refine zc rfl func240 ((jI 3 293 [] (by simp)) _) ?_
 refine zD 267 (.s [87,73,84,72,73,78]) ?_
 refine z1 ?_
 refine eV 20 _ rfl rfl rfl ?_
 refine zd ?_
 rfl
def meK:List fX:=[.s [64],.s [67,64],.s [33],.s [67,33],.s [43,33],.s [50,64],.s [50,33],.s [70,73,76,76],.s [77,79,86,69],.s [67,79,85,78,84]]
def meV:List PV:=[bp 1 367 [.row [fnP 39 []]],bp 1 367 [.row [fnP 296 []]],bp 2 368 [.row [fnP 298 []]],bp 2 368 [.row [fnP 299 []]],bp 2 368 [.row [fnP 301 []]],bp 1 302 [],bp 3 368 [.row [fnP 303 []]],bp 3 368 [.row [fnP 304 []]],bp 3 368 [.row [fnP 306 []]],bp 1 308 []]
def YM:aR (.smap meK meV):=by
 unfold aR meV
 simp
def iX:ab prog 247 [] (.smap meK meV):=by
 refine bw tG (rs:=[.tmp 0]) func247 rfl rfl rfl (by simp;done) (by exact YM) (fun B=>?_)
 refine zd ?_
 refine Wd rfl rfl (dn rfl) ?_
 refine zc rfl func295 ((uQ 39 [] (by simp)) _) ?_
 refine zD 267 (.s [64]) ?_
 refine zc rfl func295 ((uQ 296 [] (by simp)) _) ?_
 refine zD 267 (.s [67,64]) ?_
 refine zc rfl func297 ((lW 2 298 [] (by simp)) _) ?_
 refine zD 267 (.s [33]) ?_
 refine zc rfl func297 ((lW 2 299 [] (by simp)) _) ?_
 refine zD 267 (.s [67,33]) ?_
 refine zc rfl func297 ((lW 2 301 [] (by simp)) _) ?_
 refine zD 267 (.s [43,33]) ?_
 refine z1 ?_
 refine zD 267 (.s [50,64]) ?_
 refine zc rfl func297 ((lW 3 303 [] (by simp)) _) ?_
 refine zD 267 (.s [50,33]) ?_
 refine zc rfl func297 ((lW 3 304 [] (by simp)) _) ?_
 refine zD 267 (.s [70,73,76,76]) ?_
 refine zc rfl func297 ((lW 3 306 [] (by simp)) _) ?_
 refine zD 267 (.s [77,79,86,69]) ?_
 refine z1 ?_
 refine zD 267 (.s [67,79,85,78,84]) ?_
 refine z1 ?_
 refine eV 12 _ rfl rfl rfl ?_
 refine zd ?_
 rfl
def spK:List fX:=[.s [72,69,82,69],.s [65,76,76,79,84],.s [44],.s [67,44],.s [65,76,73,71,78],.s [66,65,83,69],.s [83,84,65,84,69],.s [84,82,85,69],.s [70,65,76,83,69],.s [66,76],.s [68,69,67,73,77,65,76],.s [72,69,88]]
def spV:List PV:=[bp 0 370 [.row [fnP 315 []]],bp 1 371 [.row [fnP 317 []]],bp 1 371 [.row [fnP 319 []]],bp 1 371 [.row [fnP 320 []]],bp 0 371 [.row [fnP 321 []]],bp 0 370 [.row [fnP 314 [.row [i64 (0)]]]],bp 0 370 [.row [fnP 314 [.row [i64 (8)]]]],bp 0 370 [.row [fnP 314 [.row [i64 (-1)]]]],bp 0 370 [.row [fnP 314 [.row [i64 (0)]]]],bp 0 370 [.row [fnP 314 [.row [i64 (32)]]]],bp 0 310 [.row [i64 10]],bp 0 310 [.row [i64 16]]]
def Zt:aR (.smap spK spV):=by
 unfold aR spV
 simp
def kJ:ab prog 248 [] (.smap spK spV):=by
 refine bw tG (rs:=[.tmp 0]) func248 rfl rfl rfl (by simp;done) (by exact Zt) (fun B=>?_)
 refine zd ?_
 refine Wd rfl rfl (dn rfl) ?_
 refine zc rfl func313 ((sE 315 [] (by simp)) _) ?_
 refine zD 267 (.s [72,69,82,69]) ?_
 refine zc rfl func316 ((yP 1 317 [] (by simp)) _) ?_
 refine zD 267 (.s [65,76,76,79,84]) ?_
 refine zc rfl func316 ((yP 1 319 [] (by simp)) _) ?_
 refine zD 267 (.s [44]) ?_
 refine zc rfl func316 ((yP 1 320 [] (by simp)) _) ?_
 refine zD 267 (.s [67,44]) ?_
 refine zc rfl func316 ((yP 0 321 [] (by simp)) _) ?_
 refine zD 267 (.s [65,76,73,71,78]) ?_
 refine z1 ?_
 refine Wc rfl rfl (ey rfl rfl func312 rfl rfl (pp (0) _)) ?_
 refine zD 267 (.s [66,65,83,69]) ?_
 refine z1 ?_
 refine Wc rfl rfl (ey rfl rfl func312 rfl rfl (pp (8) _)) ?_
 refine zD 267 (.s [83,84,65,84,69]) ?_
 refine z1 ?_
 refine Wc rfl rfl (ey rfl rfl func312 rfl rfl (pp (-1) _)) ?_
 refine zD 267 (.s [84,82,85,69]) ?_
 refine z1 ?_
 refine Wc rfl rfl (ey rfl rfl func312 rfl rfl (pp (0) _)) ?_
 refine zD 267 (.s [70,65,76,83,69]) ?_
 refine z1 ?_
 refine Wc rfl rfl (ey rfl rfl func312 rfl rfl (pp (32) _)) ?_
 refine zD 267 (.s [66,76]) ?_
 refine z1 ?_
 refine Wc rfl rfl (ey rfl rfl func309 rfl rfl (MC 10 _)) ?_
 refine zD 267 (.s [68,69,67,73,77,65,76]) ?_
 refine z1 ?_
 refine Wc rfl rfl (ey rfl rfl func309 rfl rfl (MC 16 _)) ?_
 refine zD 267 (.s [72,69,88]) ?_
 refine z1 ?_
 refine eV 23 _ rfl rfl rfl ?_
 refine zd ?_
 rfl
def prK:List fX:=[.s [69,77,73,84],.s [67,82],.s [83,80,65,67,69],.s [83,80,65,67,69,83],.s [84,89,80,69],.s [46],.s [85,46]]
def prV:List PV:=[bp 1 372 [.row [fnP 328 []]],bp 0 372 [.row [fnP 327 [.row [str [10]]]]],bp 0 372 [.row [fnP 327 [.row [str [32]]]]],bp 1 372 [.row [fnP 329 []]],bp 2 372 [.row [fnP 331 []]],bp 1 372 [.row [fnP 324 [.row [fnP 332 []]]]],bp 1 372 [.row [fnP 324 [.row [fnP 333 []]]]]]
def YP:aR (.smap prK prV):=by
 unfold aR prV
 simp
def kE:ab prog 249 [] (.smap prK prV):=by
 refine bw tG (rs:=[.tmp 0]) func249 rfl rfl rfl (by simp;done) (by exact YP) (fun B=>?_)
 refine zd ?_
 refine Wd rfl rfl (dn rfl) ?_
 refine zc rfl func323 ((vL 1 328 [] (by simp)) _) ?_
 refine zD 267 (.s [69,77,73,84]) ?_
 refine z1 ?_
 refine Wc rfl rfl (ey rfl rfl func326 rfl rfl (Nt [10] _)) ?_
 refine zD 267 (.s [67,82]) ?_
 refine z1 ?_
 refine Wc rfl rfl (ey rfl rfl func326 rfl rfl (Nt [32] _)) ?_
 refine zD 267 (.s [83,80,65,67,69]) ?_
 refine zc rfl func323 ((vL 1 329 [] (by simp)) _) ?_
 refine zD 267 (.s [83,80,65,67,69,83]) ?_
 refine zc rfl func323 ((vL 2 331 [] (by simp)) _) ?_
 refine zD 267 (.s [84,89,80,69]) ?_
 refine z1 ?_
 refine Wc rfl rfl (ey rfl rfl func322 rfl rfl (D5 332 [] (by simp) _)) ?_
 refine zD 267 (.s [46]) ?_
 refine z1 ?_
 refine Wc rfl rfl (ey rfl rfl func322 rfl rfl (D5 333 [] (by simp) _)) ?_
 refine zD 267 (.s [85,46]) ?_
 refine z1 ?_
 refine eV 15 _ rfl rfl rfl ?_
 refine zd ?_
 rfl
def piK:List fX:=[.s [60,35],.s [35],.s [35,83],.s [72,79,76,68],.s [83,73,71,78],.s [35,62]]
def piV:List PV:=[bp 0 336 [],bp 2 338 [],bp 2 340 [],bp 1 335 [.row [fnP 342 []]],bp 1 335 [.row [fnP 343 []]],bp 2 344 []]
def YL:aR (.smap piK piV):=by
 unfold aR piV
 simp
def nJ:ab prog 250 [] (.smap piK piV):=by
 refine bw tG (rs:=[.tmp 0]) func250 rfl rfl rfl (by simp;done) (by exact YL) (fun B=>?_)
 refine zd ?_
 refine zX rfl rfl (dn rfl) ?_
 refine zD 267 (.s [60,35]) ?_
 refine z1 ?_
 refine zD 267 (.s [35]) ?_
 refine z1 ?_
 refine zD 267 (.s [35,83]) ?_
 refine z1 ?_
 refine Wc rfl rfl (ey rfl rfl func334 rfl rfl (TM 342 [] (by simp) _)) ?_
 refine zD 267 (.s [72,79,76,68]) ?_
 refine z1 ?_
 refine Wc rfl rfl (ey rfl rfl func334 rfl rfl (TM 343 [] (by simp) _)) ?_
 refine zD 267 (.s [83,73,71,78]) ?_
 refine z1 ?_
 refine zD 267 (.s [35,62]) ?_
 refine z1 ?_
 refine eV 11 _ rfl rfl rfl ?_
 refine zd ?_
 rfl
def otK:List fX:=[.s [62,66,79,68,89],.s [65,66,79,82,84],.s [80,79,83,84],.s [65,70,84,69,82],.s [69,86,69,82,89],.s [67,65,78,67,69,76],.s [65,82,71],.s [83,69,76,70],.s [78,79,87],.s [83,69,84,45,83,84,65,84,69],.s [65,84,45,83,84,65,84,69],.s [71,69,84,45,83,84,65,84,69]]
def otV:List PV:=[bp 1 346 [],bp 0 271 [.row [fnP 347 []]],bp 3 383 [.row [i64 1],.row [i64 3]],bp 4 383 [.row [i64 2],.row [i64 4]],bp 4 383 [.row [i64 3],.row [i64 4]],bp 1 383 [.row [i64 4],.row [i64 1]],bp 0 370 [.row [fnP 349 []]],bp 0 370 [.row [fnP 350 []]],bp 0 370 [.row [fnP 351 []]],bp 2 352 [],bp 3 354 [],bp 1 367 [.row [fnP 39 []]]]
def Xu:aR (.smap otK otV):=by
 unfold aR otV
 simp
def I0:ab prog 251 [] (.smap otK otV):=by
 refine bw tG (rs:=[.tmp 0]) func251 rfl rfl rfl (by simp;done) (by exact Xu) (fun B=>?_)
 refine zd ?_
 refine zX rfl rfl (dn rfl) ?_
 refine zD 267 (.s [62,66,79,68,89]) ?_
 refine zc rfl func240 ((jI 0 347 [] (by simp)) _) ?_
 refine zD 267 (.s [65,66,79,82,84]) ?_
 refine zc rfl func348 ((Sa) _) ?_
 refine zD 267 (.s [80,79,83,84]) ?_
 refine zc rfl func348 ((Rl) _) ?_
 refine zD 267 (.s [65,70,84,69,82]) ?_
 refine zc rfl func348 ((QC) _) ?_
 refine zD 267 (.s [69,86,69,82,89]) ?_
 refine zc rfl func348 ((QL) _) ?_
 refine zD 267 (.s [67,65,78,67,69,76]) ?_
 refine zc rfl func313 ((sE 349 [] (by simp)) _) ?_
 refine zD 267 (.s [65,82,71]) ?_
 refine zc rfl func313 ((sE 350 [] (by simp)) _) ?_
 refine zD 267 (.s [83,69,76,70]) ?_
 refine zc rfl func313 ((sE 351 [] (by simp)) _) ?_
 refine zD 267 (.s [78,79,87]) ?_
 refine z1 ?_
 refine zD 267 (.s [83,69,84,45,83,84,65,84,69]) ?_
 refine z1 ?_
 refine zD 267 (.s [65,84,45,83,84,65,84,69]) ?_
 refine zc rfl func295 ((uQ 39 [] (by simp)) _) ?_
 refine zD 267 (.s [71,69,84,45,83,84,65,84,69]) ?_
 refine z1 ?_
 refine eV 14 _ rfl rfl rfl ?_
 refine zd ?_
 rfl
abbrev eX:PV:=.agg [i64 0,.val .nilFunc]
def j0(n:Int)(name:Str)(k:Int)(f:FuncId)(cap:List PV)(hn:72<n)(hc:aF cap)(h0:g9 rkK rkV (.s name) eX=(bp k f cap,true)):ab prog 200 [i64 n,str name] (bp k f cap):=by
 refine bw tG (rs:=[.cell 4 267]) func200 rfl rfl rfl (by simp[hc]) (by simp[hc]) (fun B=>?_)
 refine zd ?_
 refine Wf rfl (by exact decide_eq_false (by omega)) ?_
 refine zd ?_
 refine Wf rfl (by exact decide_eq_false (by omega)) ?_
 refine zd ?_
 refine zc rfl func246 ((jw) _) ?_
 refine zc rfl func247 ((iX) _) ?_
 refine zc rfl func248 ((kJ) _) ?_
 refine zc rfl func249 ((kE) _) ?_
 refine zC rfl func250 ((nJ) _) ?_
 refine j3 7 ?_
 show W _ _ _ _ _ _ _
 refine zd ?_
 refine Wt rfl (by rfl) ?_
 refine zd ?_
 refine zP ?_ (q:=(by decide))
 refine Wd rfl rfl (bc (b:=true) (e:=267) (key:=.s name) (by kernel_rfl) (lO tG rfl) (by kernel_rfl) rfl rfl rfl rfl (by kernel_rfl) ((by exact h0))) ?_
 refine zd ?_
 refine Wt rfl (by rfl) ?_
 refine zd ?_
 rfl
def j7(n:Int)(name:Str)(k:Int)(f:FuncId)(cap:List PV)(hn:72<n)(hc:aF cap)(h0:g9 rkK rkV (.s name) eX=(eX,false))(h1:g9 meK meV (.s name) eX=(bp k f cap,true)):ab prog 200 [i64 n,str name] (bp k f cap):=by
 refine bw tG (rs:=[.cell 4 267]) func200 rfl rfl rfl (by simp[hc]) (by simp[hc]) (fun B=>?_)
 refine zd ?_
 refine Wf rfl (by exact decide_eq_false (by omega)) ?_
 refine zd ?_
 refine Wf rfl (by exact decide_eq_false (by omega)) ?_
 refine zd ?_
 refine zc rfl func246 ((jw) _) ?_
 refine zc rfl func247 ((iX) _) ?_
 refine zc rfl func248 ((kJ) _) ?_
 refine zc rfl func249 ((kE) _) ?_
 refine zC rfl func250 ((nJ) _) ?_
 refine j3 7 ?_
 show W _ _ _ _ _ _ _
 refine zd ?_
 refine Wt rfl (by rfl) ?_
 refine zd ?_
 refine zP ?_ (q:=(by decide))
 refine Wd rfl rfl (bc (b:=true) (e:=267) (key:=.s name) (by kernel_rfl) (lO tG rfl) (by kernel_rfl) rfl rfl rfl rfl (by kernel_rfl) ((by exact h0))) ?_
 refine zd ?_
 refine Wf rfl (by rfl) ?_
 refine Wj<|aI rfl ?_
 refine z1 ?_
 refine Wa 36 rfl (show _=PV.val (.int .i64 1) from rfl) ?_
 refine zs1 ?_
 show W _ _ _ _ _ _ _
 refine zd ?_
 refine Wt rfl (by rfl) ?_
 refine zd ?_
 refine zP ?_ (q:=(by decide))
 refine Wd rfl rfl (bc (b:=true) (e:=267) (key:=.s name) (by kernel_rfl) (lO tG rfl) (by kernel_rfl) rfl rfl rfl rfl (by kernel_rfl) ((by exact h1))) ?_
 refine zd ?_
 refine Wt rfl (by rfl) ?_
 refine zd ?_
 rfl
def iK(n:Int)(name:Str)(k:Int)(f:FuncId)(cap:List PV)(hn:72<n)(hc:aF cap)(h0:g9 rkK rkV (.s name) eX=(eX,false))(h1:g9 meK meV (.s name) eX=(eX,false))(h2:g9 spK spV (.s name) eX=(bp k f cap,true)):ab prog 200 [i64 n,str name] (bp k f cap):=by
 refine bw tG (rs:=[.cell 4 267]) func200 rfl rfl rfl (by simp[hc]) (by simp[hc]) (fun B=>?_)
 refine zd ?_
 refine Wf rfl (by exact decide_eq_false (by omega)) ?_
 refine zd ?_
 refine Wf rfl (by exact decide_eq_false (by omega)) ?_
 refine zd ?_
 refine zc rfl func246 ((jw) _) ?_
 refine zc rfl func247 ((iX) _) ?_
 refine zc rfl func248 ((kJ) _) ?_
 refine zc rfl func249 ((kE) _) ?_
 refine zC rfl func250 ((nJ) _) ?_
 refine j3 7 ?_
 show W _ _ _ _ _ _ _
 refine zd ?_
 refine Wt rfl (by rfl) ?_
 refine zd ?_
 refine zP ?_ (q:=(by decide))
 refine Wd rfl rfl (bc (b:=true) (e:=267) (key:=.s name) (by kernel_rfl) (lO tG rfl) (by kernel_rfl) rfl rfl rfl rfl (by kernel_rfl) ((by exact h0))) ?_
 refine zd ?_
 refine Wf rfl (by rfl) ?_
 refine Wj<|aI rfl ?_
 refine z1 ?_
 refine Wa 36 rfl (show _=PV.val (.int .i64 1) from rfl) ?_
 refine zs1 ?_
 show W _ _ _ _ _ _ _
 refine zd ?_
 refine Wt rfl (by rfl) ?_
 refine zd ?_
 refine zP ?_ (q:=(by decide))
 refine Wd rfl rfl (bc (b:=true) (e:=267) (key:=.s name) (by kernel_rfl) (lO tG rfl) (by kernel_rfl) rfl rfl rfl rfl (by kernel_rfl) ((by exact h1))) ?_
 refine zd ?_
 refine Wf rfl (by rfl) ?_
 refine Wj<|aI rfl ?_
 refine z1 ?_
 refine Wa 36 rfl (show _=PV.val (.int .i64 2) from rfl) ?_
 refine zs1 ?_
 show W _ _ _ _ _ _ _
 refine zd ?_
 refine Wt rfl (by rfl) ?_
 refine zd ?_
 refine zP ?_ (q:=(by decide))
 refine Wd rfl rfl (bc (b:=true) (e:=267) (key:=.s name) (by kernel_rfl) (lO tG rfl) (by kernel_rfl) rfl rfl rfl rfl (by kernel_rfl) ((by exact h2))) ?_
 refine zd ?_
 refine Wt rfl (by rfl) ?_
 refine zd ?_
 rfl
def nX(n:Int)(name:Str)(k:Int)(f:FuncId)(cap:List PV)(hn:72<n)(hc:aF cap)(h0:g9 rkK rkV (.s name) eX=(eX,false))(h1:g9 meK meV (.s name) eX=(eX,false))(h2:g9 spK spV (.s name) eX=(eX,false))(h3:g9 prK prV (.s name) eX=(bp k f cap,true)):ab prog 200 [i64 n,str name] (bp k f cap):=by
 refine bw tG (rs:=[.cell 4 267]) func200 rfl rfl rfl (by simp[hc]) (by simp[hc]) (fun B=>?_)
 refine zd ?_
 refine Wf rfl (by exact decide_eq_false (by omega)) ?_
 refine zd ?_
 refine Wf rfl (by exact decide_eq_false (by omega)) ?_
 refine zd ?_
 refine zc rfl func246 ((jw) _) ?_
 refine zc rfl func247 ((iX) _) ?_
 refine zc rfl func248 ((kJ) _) ?_
 refine zc rfl func249 ((kE) _) ?_
 refine zC rfl func250 ((nJ) _) ?_
 refine j3 7 ?_
 show W _ _ _ _ _ _ _
 refine zd ?_
 refine Wt rfl (by rfl) ?_
 refine zd ?_
 refine zP ?_ (q:=(by decide))
 refine Wd rfl rfl (bc (b:=true) (e:=267) (key:=.s name) (by kernel_rfl) (lO tG rfl) (by kernel_rfl) rfl rfl rfl rfl (by kernel_rfl) ((by exact h0))) ?_
 refine zd ?_
 refine Wf rfl (by rfl) ?_
 refine Wj<|aI rfl ?_
 refine z1 ?_
 refine Wa 36 rfl (show _=PV.val (.int .i64 1) from rfl) ?_
 refine zs1 ?_
 show W _ _ _ _ _ _ _
 refine zd ?_
 refine Wt rfl (by rfl) ?_
 refine zd ?_
 refine zP ?_ (q:=(by decide))
 refine Wd rfl rfl (bc (b:=true) (e:=267) (key:=.s name) (by kernel_rfl) (lO tG rfl) (by kernel_rfl) rfl rfl rfl rfl (by kernel_rfl) ((by exact h1))) ?_
 refine zd ?_
 refine Wf rfl (by rfl) ?_
 refine Wj<|aI rfl ?_
 refine z1 ?_
 refine Wa 36 rfl (show _=PV.val (.int .i64 2) from rfl) ?_
 refine zs1 ?_
 show W _ _ _ _ _ _ _
 refine zd ?_
 refine Wt rfl (by rfl) ?_
 refine zd ?_
 refine zP ?_ (q:=(by decide))
 refine Wd rfl rfl (bc (b:=true) (e:=267) (key:=.s name) (by kernel_rfl) (lO tG rfl) (by kernel_rfl) rfl rfl rfl rfl (by kernel_rfl) ((by exact h2))) ?_
 refine zd ?_
 refine Wf rfl (by rfl) ?_
 refine Wj<|aI rfl ?_
 refine z1 ?_
 refine Wa 36 rfl (show _=PV.val (.int .i64 3) from rfl) ?_
 refine zs1 ?_
 show W _ _ _ _ _ _ _
 refine zd ?_
 refine Wt rfl (by rfl) ?_
 refine zd ?_
 refine zP ?_ (q:=(by decide))
 refine Wd rfl rfl (bc (b:=true) (e:=267) (key:=.s name) (by kernel_rfl) (lO tG rfl) (by kernel_rfl) rfl rfl rfl rfl (by kernel_rfl) ((by exact h3))) ?_
 refine zd ?_
 refine Wt rfl (by rfl) ?_
 refine zd ?_
 rfl
def px(n:Int)(name:Str)(k:Int)(f:FuncId)(cap:List PV)(hn:72<n)(hc:aF cap)(h0:g9 rkK rkV (.s name) eX=(eX,false))(h1:g9 meK meV (.s name) eX=(eX,false))(h2:g9 spK spV (.s name) eX=(eX,false))(h3:g9 prK prV (.s name) eX=(eX,false))(h4:g9 piK piV (.s name) eX=(bp k f cap,true)):ab prog 200 [i64 n,str name] (bp k f cap):=by
 refine bw tG (rs:=[.cell 4 267]) func200 rfl rfl rfl (by simp[hc]) (by simp[hc]) (fun B=>?_)
 refine zd ?_
 refine Wf rfl (by exact decide_eq_false (by omega)) ?_
 refine zd ?_
 refine Wf rfl (by exact decide_eq_false (by omega)) ?_
 refine zd ?_
 refine zc rfl func246 ((jw) _) ?_
 refine zc rfl func247 ((iX) _) ?_
 refine zc rfl func248 ((kJ) _) ?_
 refine zc rfl func249 ((kE) _) ?_
 refine zC rfl func250 ((nJ) _) ?_
 refine j3 7 ?_
 show W _ _ _ _ _ _ _
 refine zd ?_
 refine Wt rfl (by rfl) ?_
 refine zd ?_
 refine zP ?_ (q:=(by decide))
 refine Wd rfl rfl (bc (b:=true) (e:=267) (key:=.s name) (by kernel_rfl) (lO tG rfl) (by kernel_rfl) rfl rfl rfl rfl (by kernel_rfl) ((by exact h0))) ?_
 refine zd ?_
 refine Wf rfl (by rfl) ?_
 refine Wj<|aI rfl ?_
 refine z1 ?_
 refine Wa 36 rfl (show _=PV.val (.int .i64 1) from rfl) ?_
 refine zs1 ?_
 show W _ _ _ _ _ _ _
 refine zd ?_
 refine Wt rfl (by rfl) ?_
 refine zd ?_
 refine zP ?_ (q:=(by decide))
 refine Wd rfl rfl (bc (b:=true) (e:=267) (key:=.s name) (by kernel_rfl) (lO tG rfl) (by kernel_rfl) rfl rfl rfl rfl (by kernel_rfl) ((by exact h1))) ?_
 refine zd ?_
 refine Wf rfl (by rfl) ?_
 refine Wj<|aI rfl ?_
 refine z1 ?_
 refine Wa 36 rfl (show _=PV.val (.int .i64 2) from rfl) ?_
 refine zs1 ?_
 show W _ _ _ _ _ _ _
 refine zd ?_
 refine Wt rfl (by rfl) ?_
 refine zd ?_
 refine zP ?_ (q:=(by decide))
 refine Wd rfl rfl (bc (b:=true) (e:=267) (key:=.s name) (by kernel_rfl) (lO tG rfl) (by kernel_rfl) rfl rfl rfl rfl (by kernel_rfl) ((by exact h2))) ?_
 refine zd ?_
 refine Wf rfl (by rfl) ?_
 refine Wj<|aI rfl ?_
 refine z1 ?_
 refine Wa 36 rfl (show _=PV.val (.int .i64 3) from rfl) ?_
 refine zs1 ?_
 show W _ _ _ _ _ _ _
 refine zd ?_
 refine Wt rfl (by rfl) ?_
 refine zd ?_
 refine zP ?_ (q:=(by decide))
 refine Wd rfl rfl (bc (b:=true) (e:=267) (key:=.s name) (by kernel_rfl) (lO tG rfl) (by kernel_rfl) rfl rfl rfl rfl (by kernel_rfl) ((by exact h3))) ?_
 refine zd ?_
 refine Wf rfl (by rfl) ?_
 refine Wj<|aI rfl ?_
 refine z1 ?_
 refine Wa 36 rfl (show _=PV.val (.int .i64 4) from rfl) ?_
 refine zs1 ?_
 show W _ _ _ _ _ _ _
 refine zd ?_
 refine Wt rfl (by rfl) ?_
 refine zd ?_
 refine zP ?_ (q:=(by decide))
 refine Wd rfl rfl (bc (b:=true) (e:=267) (key:=.s name) (by kernel_rfl) (lO tG rfl) (by kernel_rfl) rfl rfl rfl rfl (by kernel_rfl) ((by exact h4))) ?_
 refine zd ?_
 refine Wt rfl (by rfl) ?_
 refine zd ?_
 rfl
def iW(n:Int)(name:Str)(k:Int)(f:FuncId)(cap:List PV)(hn:72<n)(hc:aF cap)(h0:g9 rkK rkV (.s name) eX=(eX,false))(h1:g9 meK meV (.s name) eX=(eX,false))(h2:g9 spK spV (.s name) eX=(eX,false))(h3:g9 prK prV (.s name) eX=(eX,false))(h4:g9 piK piV (.s name) eX=(eX,false))(h5:g9 otK otV (.s name) eX=(bp k f cap,true)):ab prog 200 [i64 n,str name] (bp k f cap):=by
 refine bw tG (rs:=[.cell 4 267]) func200 rfl rfl rfl (by simp[hc]) (by simp[hc]) (fun B=>?_)
 refine zd ?_
 refine Wf rfl (by exact decide_eq_false (by omega)) ?_
 refine zd ?_
 refine Wf rfl (by exact decide_eq_false (by omega)) ?_
 refine zd ?_
 refine zc rfl func246 ((jw) _) ?_
 refine zc rfl func247 ((iX) _) ?_
 refine zc rfl func248 ((kJ) _) ?_
 refine zc rfl func249 ((kE) _) ?_
 refine zC rfl func250 ((nJ) _) ?_
 refine j3 7 ?_
 show W _ _ _ _ _ _ _
 refine zd ?_
 refine Wt rfl (by rfl) ?_
 refine zd ?_
 refine zP ?_ (q:=(by decide))
 refine Wd rfl rfl (bc (b:=true) (e:=267) (key:=.s name) (by kernel_rfl) (lO tG rfl) (by kernel_rfl) rfl rfl rfl rfl (by kernel_rfl) ((by exact h0))) ?_
 refine zd ?_
 refine Wf rfl (by rfl) ?_
 refine Wj<|aI rfl ?_
 refine z1 ?_
 refine Wa 36 rfl (show _=PV.val (.int .i64 1) from rfl) ?_
 refine zs1 ?_
 show W _ _ _ _ _ _ _
 refine zd ?_
 refine Wt rfl (by rfl) ?_
 refine zd ?_
 refine zP ?_ (q:=(by decide))
 refine Wd rfl rfl (bc (b:=true) (e:=267) (key:=.s name) (by kernel_rfl) (lO tG rfl) (by kernel_rfl) rfl rfl rfl rfl (by kernel_rfl) ((by exact h1))) ?_
 refine zd ?_
 refine Wf rfl (by rfl) ?_
 refine Wj<|aI rfl ?_
 refine z1 ?_
 refine Wa 36 rfl (show _=PV.val (.int .i64 2) from rfl) ?_
 refine zs1 ?_
 show W _ _ _ _ _ _ _
 refine zd ?_
 refine Wt rfl (by rfl) ?_
 refine zd ?_
 refine zP ?_ (q:=(by decide))
 refine Wd rfl rfl (bc (b:=true) (e:=267) (key:=.s name) (by kernel_rfl) (lO tG rfl) (by kernel_rfl) rfl rfl rfl rfl (by kernel_rfl) ((by exact h2))) ?_
 refine zd ?_
 refine Wf rfl (by rfl) ?_
 refine Wj<|aI rfl ?_
 refine z1 ?_
 refine Wa 36 rfl (show _=PV.val (.int .i64 3) from rfl) ?_
 refine zs1 ?_
 show W _ _ _ _ _ _ _
 refine zd ?_
 refine Wt rfl (by rfl) ?_
 refine zd ?_
 refine zP ?_ (q:=(by decide))
 refine Wd rfl rfl (bc (b:=true) (e:=267) (key:=.s name) (by kernel_rfl) (lO tG rfl) (by kernel_rfl) rfl rfl rfl rfl (by kernel_rfl) ((by exact h3))) ?_
 refine zd ?_
 refine Wf rfl (by rfl) ?_
 refine Wj<|aI rfl ?_
 refine z1 ?_
 refine Wa 36 rfl (show _=PV.val (.int .i64 4) from rfl) ?_
 refine zs1 ?_
 show W _ _ _ _ _ _ _
 refine zd ?_
 refine Wt rfl (by rfl) ?_
 refine zd ?_
 refine zP ?_ (q:=(by decide))
 refine Wd rfl rfl (bc (b:=true) (e:=267) (key:=.s name) (by kernel_rfl) (lO tG rfl) (by kernel_rfl) rfl rfl rfl rfl (by kernel_rfl) ((by exact h4))) ?_
 refine zd ?_
 refine Wf rfl (by rfl) ?_
 refine Wj<|aI rfl ?_
 refine z1 ?_
 refine Wa 36 rfl (show _=PV.val (.int .i64 5) from rfl) ?_
 refine zs1 ?_
 show W _ _ _ _ _ _ _
 refine zd ?_
 refine Wf rfl (by rfl) ?_
 refine aW ?_
 refine zd ?_
 refine zW [0,1,0,3] [0,1,2,3] ?_
 refine Xc rfl rfl rfl rfl (fun _=>dC rfl func251 rfl rfl ((I0) _)) ?_
 refine z5 ?_
 refine ew rfl rfl rfl rfl (fun _=>bc (b:=false) (e:=267) (key:=.s name) (by kernel_rfl) (lO tG rfl) (by kernel_rfl) rfl rfl rfl rfl (by kernel_rfl) ((by exact h5))) ?_
 refine cr tG rfl rfl rfl rfl rfl trivial ?_
 refine zd ?_
 rfl
def Om(l:List Int)(hl:l.length<=1000000):TA prog 201 [sq ao l] l.length (l.flatMap ao) 1:=by
 refine PN tG (rs:=[.tmp 2]) func201 rfl rfl rfl (by simp) (bs (fun x=>by simp) _) (fun B=>?_)
 refine zp1 ?_
 refine Fc 2 0 1 rfl rfl ?_
 refine Wn<|Ws<|zp1 ?_
 refine wE (lO tG rfl) rfl rfl rfl rfl rfl (fun bn1 hn1=>?_)
 refine zd ?_
 refine Wi rfl ?_ ?_<;>intro hi1
 ·refine zp1 ?_
  refine Fc 2 0 1 rfl rfl ?_
  refine Wn<|Wq ?_
  exact ab2 rfl (hn1 hi1).1.symm (hn1 hi1).2.symm rfl (by omega)
 refine zd ?_
 refine Wd rfl rfl (cd (lO tG rfl) rfl (lO tG rfl) (lO tG rfl) rfl rfl (by exact⟨_,rfl⟩) (by exact⟨rfl,rfl,an _ 1 (fun _=>rfl) _,bD _ (fun _=>rfl) _⟩) (by rfl) (by(dsimp only;omega)) (by(omega))) ?_
 refine Wa 7 rfl (yL ao) ?_
 refine z1 ?_
 skip
 refine Wn<|Wq ?_
 exact ab2 rfl rfl rfl rfl (by show(0+l.length)*1<=_;omega)
def jy(s:List Int)(roll:Bool)(limit:Int):List Int×Bool×Int :=
 if (bg s).2.2≠0\/(bg s).1<0\/((bg s).2.1.length:Int)<=(bg s).1 then(s,true,-4)else
  if roll then mj s ((bg s).1.toNat+2) ((bg s).2.1.drop ((bg s).2.1.length-1-(bg s).1.toNat+1)++[(bg s).2.1.getD ((bg s).2.1.length-1-(bg s).1.toNat) 0]) limit
  else mj s 1 [(bg s).2.1.getD ((bg s).2.1.length-1-(bg s).1.toNat) 0] limit
def Lf{s:List Int}(h:(bg s).2.2=0):(bg s).2.1.length+1=s.length:=by
 unfold bg at h ⊢
 split at h
 ·cases h
 rename_i h0
 rw[if_neg h0]
 simp only[List.length_take];omega
def IC(s:List Int)(roll:Bool)(limit:Int)(hs:s.length<=100000)(hm : -9223372036854775808<=limit/\limit<=9223372036854775807):
  ab prog 238 [sq ao s,boo roll,i64 limit] (B9 (jy s roll limit)):=by
 refine zH func238 fun B=>?_
 refine zc rfl func259 ((Ef s hs) _) ?_
 refine zy5 ?_
 refine zs2 ?_
 refine Ws<|zp3 ?_
 refine Wb 21 rfl ?_ ?_<;>intro hg1
 ·have h0:(bg s).2.2≠0:=by simpa using hg1
  refine zd ?_
  refine Wt rfl rfl ?_
  refine zd ?_
  rw[jy,if_pos (.inl h0)];rfl
 have h0:(bg s).2.2=0:=by simpa using hg1
 have hl:=Lf h0
 refine zy4 ?_
 refine Wb 25 rfl ?_ ?_<;>intro hg2
 ·have h1:(bg s).1<0:=by simpa using hg2
  refine zd ?_
  refine Wt rfl rfl ?_
  refine zd ?_
  rw[jy,if_pos (.inr (.inl h1))];rfl
 have h1:¬(bg s).1<0:=by simpa using hg2
 refine zd ?_
 refine Wi rfl ?_ ?_<;>intro hi1
 ·have h2:((bg s).2.1.length:Int)<=(bg s).1:=by simpa using hi1
  refine zd ?_
  rw[jy,if_pos (.inr (.inr h2))];rfl
 have h2:¬((bg s).2.1.length:Int)<=(bg s).1:=by simpa using hi1
 have hc:¬((bg s).2.2≠0\/(bg s).1<0\/((bg s).2.1.length:Int)<=(bg s).1):=by rintro(h|h|h)<;>contradiction
 have w1:IntKind.i64.wrap (IntKind.i64.wrap (((bg s).2.1.length:Int)-1)-(bg s).1)=(((bg s).2.1.length-1-(bg s).1.toNat:Nat):Int):=by simp only[bU];unfold wrap64;omega
 have w2:IntKind.i64.wrap ((((bg s).2.1.length-1-(bg s).1.toNat:Nat):Int)+1)=(((bg s).2.1.length-1-(bg s).1.toNat+1:Nat):Int):=by simp only[bU];unfold wrap64;omega
 have w3:IntKind.i64.wrap ((bg s).1+2)=(((bg s).1.toNat+2:Nat):Int):=by simp only[bU];unfold wrap64;omega
 refine Wj<|zp5 ?_
 refine zA 36 rfl (j_ w1) ?_
 refine zI ?_ ?_<;>intro hi2
 ·refine lg [0,0,0,0,0,0,0,2,0,0,0,0,0,3,0,0,0,0,0,0,0,0] [0,1,2,3,4,5,6,8,9,10,11,12,14,7,13,15,16,17,18,19,20,21] mG rfl (by kernel_rfl) ?_
  iterate 3 refine z3 ?_
  refine Xa 40 rfl (j_ w3) ?_
  iterate 3 refine z3 ?_
  refine Xa 43 rfl (j_ w2) ?_
  refine z4 ?_ (q:=(by(simp_all;omega)))
  refine Xa 44 rfl (cK ao 1 (fun _=>rfl) (by omega)) ?_
  refine zO 44 rfl ((show _=sq ao ((bg s).2.1.drop ((bg s).2.1.length-1-(bg s).1.toNat+1)) by rw[List.take_length,Int.toNat_natCast];rfl)) ?_
  refine Xi tG rfl rfl rfl rfl (fun _=>rfl) (by omega) (iN ao 1 (fun _=>rfl) 0 (by omega)) ?_
  iterate 2 refine z3 ?_
  refine zO 50 rfl (bsL ao [_] rfl rfl) ?_
  refine iV rfl rfl rfl rfl (dC rfl func201 rfl rfl (Om _ (by simp;omega) _)) ?_
  refine lD rfl rfl rfl rfl (fy (lO tG rfl) rfl (lO tG rfl) (lO tG rfl) rfl rfl rfl rfl (by simp) (by exact⟨_,rfl⟩) (by exact⟨rfl,rfl,an _ 1 (fun _=>rfl) _,bD _ (fun _=>rfl) _⟩) (by(simp;omega)) (by(simp;omega))) ?_
  refine Xa 51 rfl (cw ao) ?_
  refine Xc rfl rfl rfl rfl (fun _=>dC rfl func237 rfl rfl ((qb s _ _ _ hs (by omega) (by simp;omega) hm) _)) ?_
  refine zd ?_
  rw[jy,if_neg hc,if_pos hi2];rfl
 refine Wv tG rfl rfl rfl (by omega) (iN ao 1 (fun _=>rfl) 0 (by omega)) ?_
 refine zy2 ?_
 refine zA 62 rfl (bsL ao [_] rfl rfl) ?_
 refine zC rfl func237 ((qb s 1 _ _ hs (by omega) (by simp) hm) _) ?_
 rw[jy,if_neg hc,if_neg (by rw[hi2];simp)];rfl
def Ti:List (Str×Nat×Str):=[([68,85,80],1,[97,97]),([68,82,79,80],1,[]),([83,87,65,80],2,[98,97]),([79,86,69,82],2,[97,98,97]),([78,73,80],2,[98]),([84,85,67,75],2,[98,97,98]),([82,79,84],3,[98,99,97]),([45,82,79,84],3,[99,97,98]),([50,68,85,80],2,[97,98,97,98]),([50,68,82,79,80],2,[]),([50,83,87,65,80],4,[99,100,97,98]),([50,79,86,69,82],4,[97,98,99,100,97,98])]
def FR:List fX:=Ti.map fun q=>.s q.1
def BZ:List PV:=Ti.map fun q=>.agg [i64 q.2.1,str q.2.2]
def Il:aR (.smap FR BZ):=by
 unfold aR BZ
 exact DS _ (fun q=>by simp) _
def zl:ab prog 239 [] (.smap FR BZ):=by
 refine bw tG (rs:=[.tmp 0]) func239 rfl rfl rfl (by simp;done) (by exact Il) (fun B=>?_)
 refine zd ?_
 refine zX rfl rfl (dn rfl) ?_
 refine zD 292 (.s [68,85,80]) ?_
 refine z1 ?_
 refine zD 292 (.s [68,82,79,80]) ?_
 refine z1 ?_
 refine zD 292 (.s [83,87,65,80]) ?_
 refine z1 ?_
 refine zD 292 (.s [79,86,69,82]) ?_
 refine z1 ?_
 refine zD 292 (.s [78,73,80]) ?_
 refine z1 ?_
 refine zD 292 (.s [84,85,67,75]) ?_
 refine z1 ?_
 refine zD 292 (.s [82,79,84]) ?_
 refine z1 ?_
 refine zD 292 (.s [45,82,79,84]) ?_
 refine z1 ?_
 refine zD 292 (.s [50,68,85,80]) ?_
 refine z1 ?_
 refine zD 292 (.s [50,68,82,79,80]) ?_
 refine z1 ?_
 refine zD 292 (.s [50,83,87,65,80]) ?_
 refine z1 ?_
 refine zD 292 (.s [50,79,86,69,82]) ?_
 refine z1 ?_
 refine eV 14 _ rfl rfl rfl ?_
 refine zd ?_
 rfl
def Ls(s:List Int)(tk:Nat)(lv:Str)(limit:Int):List Int×Bool×Int :=
 if s.length<tk then(s,true,-4)else mj s tk (lv.map fun c=>(s.drop (s.length-tk)).getD (c.toNat-97) 0) limit
def HT{lv:Str}{f:UInt8->Int}{k:Nat}{q:SK}(hk:k<lv.length):PV.seq ((lv.take k).map f++[f (lv.getD k 0)]).length (((lv.take k).map f++[f (lv.getD k 0)]).flatMap ao) q=.seq ((lv.take (k+1)).map f).length (((lv.take (k+1)).map f).flatMap ao) q:=by
 rw[iA lv k 0 hk,List.map_append];rfl
def iS(name:Str)(s:List Int)(limit:Int)(tk:Nat)(lv:Str)(hs:s.length<=100000)(hm : -9223372036854775808<=limit/\limit<=9223372036854775807)(h1:name≠[68,69,80,84,72])(h2:name≠[80,73,67,75])(h3:name≠[82,79,76,76])(h4:name≠[63,68,85,80])
  (hk:g9 FR BZ (.s name) (.agg [i64 0,str []])=(.agg [i64 tk,str lv],true)) (hl:∀c∈lv,97<=c.toNat/\c.toNat<97+tk) (hlen:lv.length<=10) (htk:tk<=4) :
  ab prog 199 [str name,sq ao s,i64 limit] (B9 (Ls s tk lv limit)):=by
 refine zY func199 fun B=>?_
 refine zu3 ?_
 refine Ws<|zu1 ?_
 refine Wl<|zp1 ?_
 refine zQ 17 ?_
 refine Wf rfl (by exact decide_eq_false h1) ?_
 refine Ws<|zp1 ?_
 refine zQ 28 ?_
 refine Wf rfl (by exact decide_eq_false h2) ?_
 refine aI rfl ?_
 refine z1 ?_
 refine zQ 29 ?_
 refine Wf rfl (by exact decide_eq_false h3) ?_
 refine zd ?_
 refine zC rfl func239 ((zl) _) ?_
 refine Wd rfl rfl (bc (b:=true) (e:=292) (key:=.s name) (by kernel_rfl) (lO tG rfl) (by kernel_rfl) rfl rfl rfl rfl (by kernel_rfl) (hk)) ?_
 refine zy5 ?_
 refine zs1 ?_
 refine Ws<|zp2 ?_
 refine zQ 45 ?_
 refine Wf rfl (by exact decide_eq_false h4) ?_
 refine zd ?_
 refine Wf rfl (by rfl) ?_
 refine zd ?_
 refine Wi rfl ?_ ?_<;>intro hi6
 ·have h0:s.length<tk:=by(try simp only[dnL]at *);omega
  refine zd ?_
  rw[Ls,if_pos h0];rfl
 have h0:¬s.length<tk:=by(try simp only[dnL]at *);omega
 have w1:IntKind.i64.wrap ((s.length:Int)-(tk:Int))=((s.length-tk:Nat):Int):=by((rw[bU];unfold wrap64;(try simp only[dnL]at *);omega))
 refine Wj<|zp5 ?_
 refine z1 ?_
 refine Wa 74 rfl (j_ w1) ?_
 refine z2 ?_ (q:=(by(simp_all;done)))
 refine Wa 75 rfl (cK ao 1 (fun _=>rfl) (by omega)) ?_
 refine Wa 75 rfl ((show _=sq ao (s.drop (s.length-tk)) by rw[List.take_length,Int.toNat_natCast];rfl)) ?_
 refine zs1 ?_
 refine zp1 ?_
 refine Fc 12 0 1 rfl rfl ?_
 refine zd ?_
 refine Wd rfl rfl (pk (lO tG rfl) rfl rfl rfl) ?_
 refine Wn<|Wl ?_
 show W _ _ _ _ _ _ _
 refine dJ (fun(k:Nat)=>[(1,sq ao s),(2,i64 limit),(9,.ptr 0 0),(11,sq ao (s.drop (s.length-tk))),(78,.ptr 3 0),(12,.seq ((lv.take k).map fun c=>(s.drop (s.length-tk)).getD (c.toNat-97) 0).length (((lv.take k).map fun c=>(s.drop (s.length-tk)).getD (c.toNat-97) 0).flatMap ao) (.own 4 1))]) (fun(k:Nat)=>[.cells [i64 tk,str lv] 292,.dead,.dead]) (fun(k:Nat)=>[.iter lv k,.free (((lv.take k).map fun c=>(s.drop (s.length-tk)).getD (c.toNat-97) 0).length*1)]) (fun(k:Nat)=>k<=lv.length) (fun(k:Nat)=>lv.length-k) (0) (by omega) [2,1] ?_ ?_
 ·exact dK
 intro k hk
 refine z8 ?_
 by_cases hx1:k<lv.length
 ·have hc:=hl (lv.getD k 0) (by simp only[List.getD,List.getElem?_eq_getElem hx1,Option.getD_some];exact List.getElem_mem hx1)
  have w2:IntKind.i32.wrap (((lv.getD k 0).toNat:Int)-97)=(((lv.getD k 0).toNat-97:Nat):Int):=by rw[IntWalk.i32_left];unfold wrap32;omega
  refine Wd rfl rfl (tz rfl rfl rfl (by exact hx1) (by omega)) ?_
  refine zd ?_
  refine Wt rfl rfl ?_
  refine Wj<|Wl<|zu2 ?_
  refine aI rfl ?_
  refine zy4 ?_
  refine Wa 85 rfl (congrArg (fun z=>PV.val (Value.int .i32 z)) w2) ?_
  refine Wv tG rfl rfl rfl (by simp only[List.length_drop,Int.toNat_natCast];omega) (iN ao 1 (fun _=>rfl) 0 (by simp only[List.length_drop,Int.toNat_natCast];omega)) ?_
  refine zy2 ?_
  refine Wa 88 rfl (bsL ao [_] rfl rfl) ?_
  refine Wd rfl rfl (fy (lO tG rfl) rfl (lO tG rfl) (lO tG rfl) rfl rfl rfl rfl (by simp) (by exact⟨_,rfl⟩) (by exact⟨rfl,rfl,an _ 1 (fun _=>rfl) _,bD _ (fun _=>rfl) _⟩) (by((simp_all;omega))) (by((simp_all;omega)))) ?_
  refine Wa 89 rfl (cw ao) ?_
  refine z1 ?_
  skip
  refine zd ?_
  exact⟨k+1,[3,5],(by omega),(by omega),(dK (sub:=by repeat (first|exact gc|refine eU (by first|exact cP rfl|exact cP (HT hx1)) ?_)))⟩
 refine Wd rfl rfl (pm rfl rfl rfl (by omega)) ?_
 refine zd ?_
 refine Wf rfl rfl ?_
 refine aW ?_
 refine zd ?_
 refine zC rfl func237 ((qb s tk _ limit hs (by omega) (by simp;omega) hm) _) ?_
 rw[Ls,if_neg h0,eQ lv k (by omega)];rfl
def AB(s:List Int):Int:=if s.length=0\/s.getD (s.length-1) 0<0\/(s.length:Int)-1<=s.getD (s.length-1) 0 then(s.length:Int)+1 else s.getD (s.length-1) 0+2
def dM{name:Str}{s:List Int}{limit:Int}{tk:Nat}{lv:List Int}(h1:oM name s=(tk:Int))(h2:zS name (s.drop (s.length-tk)) s.length=lv):
  dz name s limit=if s.length<tk then(s,true,-4)else mj s tk lv limit:=by
 have e:(oM name s).toNat=tk:=by rw[h1];rfl
 unfold dz
 rw[e,h2,h1,if_neg (by omega)]
 by_cases h:s.length<tk
 ·rw[if_pos h,if_pos (by omega)]
 rw[if_neg h,if_neg (by omega)]
 unfold mj
 rfl
def OZ(s:List Int)(limit:Int)(hs:s.length<=100000)(hm : -9223372036854775808<=limit/\limit<=9223372036854775807):ab prog 199 [str [68,69,80,84,72],sq ao s,i64 limit] (B9 (dz [68,69,80,84,72] s limit)):=by
 refine zY func199 fun B=>?_
 refine zu3 ?_
 refine Ws<|zu1 ?_
 refine Wl<|zp1 ?_
 refine zQ 17 ?_
 refine Wt rfl (by decide) ?_
 refine zp4 ?_
 refine zA 21 rfl (bsL ao [_] rfl rfl) ?_
 refine zC rfl func237 ((qb s 0 _ limit hs (by omega) (by simp) hm) _) ?_
 rw[dM (tk:=0) (lv:=[(s.length:Int)]) rfl rfl,if_neg (by omega)];rfl
def B2{s:List Int}{k:Nat}:(s.drop k).getD 0 0=s.getD k 0:=by unfold List.getD;rw[List.getElem?_drop];rfl
def Ku{s:List Int}{k n:Nat}(h:k<n):(s.take n).getD k 0=s.getD k 0:=by unfold List.getD;rw[List.getElem?_take,if_pos h]
def V6{name:Str}{s:List Int}{limit:Int}{roll:Bool}(hp:oM name s=AB s)(hc:s.length=0\/s.getD (s.length-1) 0<0\/(s.length:Int)-1<=s.getD (s.length-1) 0):jy s roll limit=dz name s limit:=by
 have e:AB s=(s.length:Int)+1:=by rw[AB,if_pos hc]
 unfold dz
 rw[hp,e,if_neg (by omega),if_pos (by omega)]
 unfold jy
 rw[if_pos]
 unfold bg
 split
 ·exact .inl (by simp)
 rename_i h0
 refine .inr ?_
 rcases hc with hc|hc|hc
 ·exact absurd hc h0
 ·exact .inl hc
 refine .inr ?_
 simp only[List.length_take];omega
def PA{name:Str}{s:List Int}{limit:Int}{roll:Bool}(hp:oM name s=AB s)(hl:∀x d,zS name x d=if roll then(x.take (x.length-1)).drop 1++[xat x 0]else x.take (x.length-1)++[xat x 0])
  (hc:¬(s.length=0\/s.getD (s.length-1) 0<0\/(s.length:Int)-1<=s.getD (s.length-1) 0)):jy s roll limit=dz name s limit:=by
 have h0:s.length≠0:=fun h=>hc (.inl h)
 obtain⟨t,ht⟩:∃t:Nat,s.getD (s.length-1) 0=t:=⟨(s.getD (s.length-1) 0).toNat,by have:¬s.getD (s.length-1) 0<0:=fun h=>hc (.inr (.inl h));omega⟩
 have hlt:t+2<=s.length:=by have:¬((s.length:Int)-1<=s.getD (s.length-1) 0):=fun h=>hc (.inr (.inr h));omega
 have e:AB s=((t+2:Nat):Int):=by rw[AB,if_neg hc,ht];rfl
 have hd:(s.drop (s.length-(t+2))).length=t+2:=by rw[List.length_drop];omega
 have hx:xat (s.drop (s.length-(t+2))) 0=s.getD (s.length-(t+2)) 0:=B2
 have hpop:bg s=((t:Int),s.take (s.length-1),0):=by unfold bg;rw[if_neg h0,ht]
 rw[dM (tk:=t+2) (hp.trans e) (hl _ _),if_neg (by omega)]
 unfold jy
 rw[hpop]
 simp only[List.length_take,Int.toNat_natCast,Nat.min_eq_left (show s.length-1<=s.length by omega)]
 rw[if_neg (by rintro(h|h|h)<;>omega),hd,hx]
 have e1:s.length-1-1-t=s.length-(t+2):=by omega
 rw[e1,Ku (by omega)]
 cases roll with
 | true =>
  simp only[if_true]
  congr 2
  rw[List.drop_take,List.drop_take,List.drop_drop]
  have e2:s.length-(t+2)+1=s.length-(t+2)+1:=rfl
  have e3:s.length-1-(s.length-(t+2)+1)=t+2-1-1:=by omega
  rw[e3]
 | false =>
  simp only[Bool.false_eq_true,if_false]
  unfold mj
  have hl1:((s.drop (s.length-(t+2))).take (t+2-1)++[s.getD (s.length-(t+2)) 0]).length=t+2:=by rw[List.length_append,List.length_take,hd];simp
  have e2:s.length-(t+2)+((s.drop (s.length-(t+2))).take (t+2-1)++[s.getD (s.length-(t+2)) 0]).length=s.length-1+[s.getD (s.length-(t+2)) 0].length:=by rw[hl1];simp;omega
  rw[e2,<-List.append_assoc,<-List.take_add]
  have e3:s.length-(t+2)+(t+2-1)=s.length-1:=by omega
  rw[e3]
def wh{name:Str}{s:List Int}{limit:Int}{roll:Bool}(hp:oM name s=AB s)(hl:∀x d,zS name x d=if roll then(x.take (x.length-1)).drop 1++[xat x 0]else x.take (x.length-1)++[xat x 0]):
  jy s roll limit=dz name s limit:=by
 by_cases hc:s.length=0\/s.getD (s.length-1) 0<0\/(s.length:Int)-1<=s.getD (s.length-1) 0
 ·exact V6 hp hc
 exact PA hp hl hc
def Sf(s:List Int)(limit:Int)(hs:s.length<=100000)(hm : -9223372036854775808<=limit/\limit<=9223372036854775807):ab prog 199 [str [80,73,67,75],sq ao s,i64 limit] (B9 (jy s false limit)):=by
 refine zY func199 fun B=>?_
 refine zu3 ?_
 refine Ws<|zu1 ?_
 refine Wl<|zp1 ?_
 refine zQ 17 ?_
 refine Wf rfl (by decide) ?_
 refine Ws<|zp1 ?_
 refine zQ 28 ?_
 refine Wt rfl (by decide) ?_
 refine zd ?_
 refine Wt rfl (by decide) ?_
 refine zp3 ?_
 refine zQ 32 ?_
 refine zC rfl func238 ((IC s _ limit hs hm) _) ?_
 rfl
def Sz(s:List Int)(limit:Int)(hs:s.length<=100000)(hm : -9223372036854775808<=limit/\limit<=9223372036854775807):ab prog 199 [str [82,79,76,76],sq ao s,i64 limit] (B9 (jy s true limit)):=by
 refine zY func199 fun B=>?_
 refine zu3 ?_
 refine Ws<|zu1 ?_
 refine Wl<|zp1 ?_
 refine zQ 17 ?_
 refine Wf rfl (by decide) ?_
 refine Ws<|zp1 ?_
 refine zQ 28 ?_
 refine Wf rfl (by decide) ?_
 refine aI rfl ?_
 refine z1 ?_
 refine zQ 29 ?_
 refine Wt rfl (by decide) ?_
 refine zp3 ?_
 refine zQ 32 ?_
 refine zC rfl func238 ((IC s _ limit hs hm) _) ?_
 rfl
def Da(s:List Int)(limit:Int):List Int×Bool×Int :=
 if s.length=0 then(s,true,-4)else mj s 1 (if s.getD (s.length-1) 0=0 then [xat (s.drop (s.length-1)) 0]else [xat (s.drop (s.length-1)) 0,xat (s.drop (s.length-1)) 0]) limit
def Sc(s:List Int)(limit:Int)(hs:s.length<=100000)(hm : -9223372036854775808<=limit/\limit<=9223372036854775807):ab prog 199 [str [63,68,85,80],sq ao s,i64 limit] (B9 (Da s limit)):=by
 refine zY func199 fun B=>?_
 refine zu3 ?_
 refine Ws<|zu1 ?_
 refine Wl<|zp1 ?_
 refine zQ 17 ?_
 refine Wf rfl (by decide) ?_
 refine Ws<|zp1 ?_
 refine zQ 28 ?_
 refine Wf rfl (by decide) ?_
 refine aI rfl ?_
 refine z1 ?_
 refine zQ 29 ?_
 refine Wf rfl (by decide) ?_
 refine zd ?_
 refine zC rfl func239 ((zl) _) ?_
 refine Wd rfl rfl (bc (b:=true) (e:=292) (key:=.s [63,68,85,80]) (by kernel_rfl) (lO tG rfl) (by kernel_rfl) rfl rfl rfl rfl (by kernel_rfl) ((show g9 FR BZ (.s [63,68,85,80]) (PV.agg [i64 0,str []])=(PV.agg [i64 0,str []],false) from rfl))) ?_
 refine zy5 ?_
 refine zs1 ?_
 refine Ws<|zp2 ?_
 refine zQ 45 ?_
 refine Wt rfl (by decide) ?_
 refine zu3 ?_
 refine zp4 ?_
 refine Wb 50 rfl ?_ ?_<;>intro hg1
 ·have h0:¬s.length=0:=by(try simp only[dnL]at *);omega
  have w1:IntKind.i64.wrap ((s.length:Int)-1)=((s.length-1:Nat):Int):=by((rw[bU];unfold wrap64;(try simp only[dnL]at *);omega))
  refine zy4 ?_
  refine Wa 54 rfl (j_ w1) ?_
  refine zJ ao 1 0 ?_
  refine Wi rfl ?_ ?_<;>intro hi5
  ·have h1:s.getD (s.length-1) 0=0:=oT hi5
   refine zd ?_
   refine Wf rfl rfl ?_
   refine zd ?_
   refine Wf rfl (by(simp only[dnL]at *;omega)) ?_
   refine Wj<|zp5 ?_
   refine z1 ?_
   refine Wa 74 rfl (j_ w1) ?_
   refine z2 ?_ (q:=(by(simp_all;done)))
   refine Wa 75 rfl (cK ao 1 (fun _=>rfl) (by omega)) ?_
   refine zA 75 rfl ((show _=sq ao (s.drop (s.length-1)) by rw[List.take_length,Int.toNat_natCast];rfl)) ?_
   refine zX rfl rfl (pk (lO tG rfl) rfl rfl rfl) ?_
   refine j3 4 ?_
   show W _ _ _ _ _ _ _
   refine z8 ?_
   refine Wd rfl rfl (tz rfl rfl rfl (by decide) (by decide)) ?_
   refine zd ?_
   refine Wt rfl rfl ?_
   refine Wj<|Wl<|zu2 ?_
   refine aI rfl ?_
   refine zy4 ?_
   refine Wa 85 rfl ((show _=PV.val (.int .i32 0) from rfl)) ?_
   refine Wv tG rfl rfl rfl (by simp only[List.length_drop];omega) (iN ao 1 (fun _=>rfl) 0 (by simp only[List.length_drop];omega)) ?_
   refine zy2 ?_
   refine Wa 88 rfl (bsL ao [_] rfl rfl) ?_
   refine Wd rfl rfl (cd (lO tG rfl) rfl (lO tG rfl) (lO tG rfl) rfl rfl (by exact⟨_,rfl⟩) (by exact⟨rfl,rfl,an _ 1 (fun _=>rfl) _,bD _ (fun _=>rfl) _⟩) (by rfl) (by((simp_all;done))) (by((simp_all;done)))) ?_
   refine Wa 89 rfl (Vh ao _) ?_
   refine zs1 ?_
   show W _ _ _ _ _ _ _
   refine z8 ?_
   refine Wd rfl rfl (pm rfl rfl rfl (by decide)) ?_
   refine zd ?_
   refine Wf rfl rfl ?_
   refine aW ?_
   refine zd ?_
   refine zC rfl func237 ((qb s 1 _ limit hs (by omega) (by simp) hm) _) ?_
   rw[Da,if_neg h0,if_pos h1];rfl
  have h1:¬s.getD (s.length-1) 0=0:=oF hi5
  refine zd ?_
  refine Wf rfl rfl ?_
  refine zd ?_
  refine Wf rfl (by(simp only[dnL]at *;omega)) ?_
  refine Wj<|zp5 ?_
  refine z1 ?_
  refine Wa 74 rfl (j_ w1) ?_
  refine z2 ?_ (q:=(by(simp_all;done)))
  refine Wa 75 rfl (cK ao 1 (fun _=>rfl) (by omega)) ?_
  refine zA 75 rfl ((show _=sq ao (s.drop (s.length-1)) by rw[List.take_length,Int.toNat_natCast];rfl)) ?_
  refine zX rfl rfl (pk (lO tG rfl) rfl rfl rfl) ?_
  refine j3 4 ?_
  show W _ _ _ _ _ _ _
  refine z8 ?_
  refine Wd rfl rfl (tz rfl rfl rfl (by decide) (by decide)) ?_
  refine zd ?_
  refine Wt rfl rfl ?_
  refine Wj<|Wl<|zu2 ?_
  refine aI rfl ?_
  refine zy4 ?_
  refine Wa 85 rfl ((show _=PV.val (.int .i32 0) from rfl)) ?_
  refine Wv tG rfl rfl rfl (by simp only[List.length_drop];omega) (iN ao 1 (fun _=>rfl) 0 (by simp only[List.length_drop];omega)) ?_
  refine zy2 ?_
  refine Wa 88 rfl (bsL ao [_] rfl rfl) ?_
  refine Wd rfl rfl (cd (lO tG rfl) rfl (lO tG rfl) (lO tG rfl) rfl rfl (by exact⟨_,rfl⟩) (by exact⟨rfl,rfl,an _ 1 (fun _=>rfl) _,bD _ (fun _=>rfl) _⟩) (by rfl) (by((simp_all;done))) (by((simp_all;done)))) ?_
  refine Wa 89 rfl (Vh ao _) ?_
  refine zs1 ?_
  show W _ _ _ _ _ _ _
  refine z8 ?_
  refine Wd rfl rfl (tz rfl rfl rfl (by decide) (by decide)) ?_
  refine zd ?_
  refine Wt rfl rfl ?_
  refine Wj<|Wl<|zu2 ?_
  refine aI rfl ?_
  refine zy4 ?_
  refine Wa 85 rfl ((show _=PV.val (.int .i32 0) from rfl)) ?_
  refine Wv tG rfl rfl rfl (by simp only[List.length_drop];omega) (iN ao 1 (fun _=>rfl) 0 (by simp only[List.length_drop];omega)) ?_
  refine zy2 ?_
  refine Wa 88 rfl (bsL ao [_] rfl rfl) ?_
  refine Wd rfl rfl (fy (lO tG rfl) rfl (lO tG rfl) (lO tG rfl) rfl rfl rfl rfl (by simp) (by exact⟨_,rfl⟩) (by exact⟨rfl,rfl,an _ 1 (fun _=>rfl) _,bD _ (fun _=>rfl) _⟩) (by((simp_all;done))) (by((simp_all;done)))) ?_
  refine Wa 89 rfl (cw ao) ?_
  refine zs1 ?_
  show W _ _ _ _ _ _ _
  refine z8 ?_
  refine Wd rfl rfl (pm rfl rfl rfl (by decide)) ?_
  refine zd ?_
  refine Wf rfl rfl ?_
  refine aW ?_
  refine zd ?_
  refine zC rfl func237 ((qb s 1 _ limit hs (by omega) (by simp) hm) _) ?_
  rw[Da,if_neg h0,if_neg h1];rfl
 have h0:s.length=0:=by(try simp only[dnL]at *);omega
 have w1:IntKind.i64.wrap ((s.length:Int)-1) = -1:=by((rw[bU];unfold wrap64;(try simp only[dnL]at *);omega))
 refine zd ?_
 refine Wf rfl rfl ?_
 refine zd ?_
 refine Wf rfl rfl ?_
 refine zd ?_
 refine Wt rfl (by(simp only[dnL]at *;omega)) ?_
 refine zd ?_
 rw[Da,if_pos h0];rfl
def pz:List Str:=[[68,85,80],[68,82,79,80],[83,87,65,80],[79,86,69,82],[78,73,80],[84,85,67,75],[82,79,84],[45,82,79,84],[50,68,85,80],[50,68,82,79,80],[50,83,87,65,80],[50,79,86,69,82],[63,68,85,80],[80,73,67,75],[82,79,76,76],[68,69,80,84,72]]
def FZ(s:List Int)(limit:Int):Da s limit=dz [63,68,85,80] s limit:=by
 rw[dM (tk:=1) (lv:=if xat (s.drop (s.length-1)) 0=0 then s.drop (s.length-1)else [xat (s.drop (s.length-1)) 0,xat (s.drop (s.length-1)) 0]) rfl rfl]
 unfold Da
 by_cases h0:s.length=0
 ·rw[if_pos h0,if_pos (show s.length<1 by omega)]
 rw[if_neg h0,if_neg (show ¬s.length<1 by omega)]
 have hx:xat (s.drop (s.length-1)) 0=s.getD (s.length-1) 0:=B2
 have hd:s.drop (s.length-1)=[s.getD (s.length-1) 0]:=by
  rw[List.drop_eq_getElem_cons (by omega),show s.length-1+1=s.length by omega,List.drop_length]
  simp[List.getD,List.getElem?_eq_getElem (show s.length-1<s.length by omega)]
 rw[hx,hd]
def GG(name:Str)(hn:name∈pz)(s:List Int)(limit:Int)(hs:s.length<=100000)(hm : -9223372036854775808<=limit/\limit<=9223372036854775807):ab prog 199 [str name,sq ao s,i64 limit] (B9 (dz name s limit)):=by
 simp only[pz,List.mem_cons,List.not_mem_nil,or_false]at hn
 rcases hn with rfl|rfl|rfl|rfl|rfl|rfl|rfl|rfl|rfl|rfl|rfl|rfl|rfl|rfl|rfl|rfl
 ·rw[dM (tk:=1) (lv:=([97,97]:Str).map fun c=>(s.drop (s.length-1)).getD (c.toNat-97) 0) rfl rfl]
  exact iS _ s limit 1 [97,97] hs hm (by decide) (by decide) (by decide) (by decide) rfl (by decide) (by decide) (by decide)
 ·rw[dM (tk:=1) (lv:=([]:Str).map fun c=>(s.drop (s.length-1)).getD (c.toNat-97) 0) rfl rfl]
  exact iS _ s limit 1 [] hs hm (by decide) (by decide) (by decide) (by decide) rfl (by decide) (by decide) (by decide)
 ·rw[dM (tk:=2) (lv:=([98,97]:Str).map fun c=>(s.drop (s.length-2)).getD (c.toNat-97) 0) rfl rfl]
  exact iS _ s limit 2 [98,97] hs hm (by decide) (by decide) (by decide) (by decide) rfl (by decide) (by decide) (by decide)
 ·rw[dM (tk:=2) (lv:=([97,98,97]:Str).map fun c=>(s.drop (s.length-2)).getD (c.toNat-97) 0) rfl rfl]
  exact iS _ s limit 2 [97,98,97] hs hm (by decide) (by decide) (by decide) (by decide) rfl (by decide) (by decide) (by decide)
 ·rw[dM (tk:=2) (lv:=([98]:Str).map fun c=>(s.drop (s.length-2)).getD (c.toNat-97) 0) rfl rfl]
  exact iS _ s limit 2 [98] hs hm (by decide) (by decide) (by decide) (by decide) rfl (by decide) (by decide) (by decide)
 ·rw[dM (tk:=2) (lv:=([98,97,98]:Str).map fun c=>(s.drop (s.length-2)).getD (c.toNat-97) 0) rfl rfl]
  exact iS _ s limit 2 [98,97,98] hs hm (by decide) (by decide) (by decide) (by decide) rfl (by decide) (by decide) (by decide)
 ·rw[dM (tk:=3) (lv:=([98,99,97]:Str).map fun c=>(s.drop (s.length-3)).getD (c.toNat-97) 0) rfl rfl]
  exact iS _ s limit 3 [98,99,97] hs hm (by decide) (by decide) (by decide) (by decide) rfl (by decide) (by decide) (by decide)
 ·rw[dM (tk:=3) (lv:=([99,97,98]:Str).map fun c=>(s.drop (s.length-3)).getD (c.toNat-97) 0) rfl rfl]
  exact iS _ s limit 3 [99,97,98] hs hm (by decide) (by decide) (by decide) (by decide) rfl (by decide) (by decide) (by decide)
 ·rw[dM (tk:=2) (lv:=([97,98,97,98]:Str).map fun c=>(s.drop (s.length-2)).getD (c.toNat-97) 0) rfl rfl]
  exact iS _ s limit 2 [97,98,97,98] hs hm (by decide) (by decide) (by decide) (by decide) rfl (by decide) (by decide) (by decide)
 ·rw[dM (tk:=2) (lv:=([]:Str).map fun c=>(s.drop (s.length-2)).getD (c.toNat-97) 0) rfl rfl]
  exact iS _ s limit 2 [] hs hm (by decide) (by decide) (by decide) (by decide) rfl (by decide) (by decide) (by decide)
 ·rw[dM (tk:=4) (lv:=([99,100,97,98]:Str).map fun c=>(s.drop (s.length-4)).getD (c.toNat-97) 0) rfl rfl]
  exact iS _ s limit 4 [99,100,97,98] hs hm (by decide) (by decide) (by decide) (by decide) rfl (by decide) (by decide) (by decide)
 ·rw[dM (tk:=4) (lv:=([97,98,99,100,97,98]:Str).map fun c=>(s.drop (s.length-4)).getD (c.toNat-97) 0) rfl rfl]
  exact iS _ s limit 4 [97,98,99,100,97,98] hs hm (by decide) (by decide) (by decide) (by decide) rfl (by decide) (by decide) (by decide)
 ·rw[<-FZ];exact Sc s limit hs hm
 ·rw[<-wh (name:=[80,73,67,75]) (roll:=false) rfl (fun _ _=>rfl)];exact Sf s limit hs hm
 ·rw[<-wh (name:=[82,79,76,76]) (roll:=true) rfl (fun _ _=>rfl)];exact Sz s limit hs hm
 exact OZ s limit hs hm
end Go.Proofs.YtjcminooghmpeaaGreatDoor
