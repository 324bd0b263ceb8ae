import Derived.LaidEql
import Derived.RowKitTokens
import Derived.Stop.Asserts
import Derived.Test.YtjcminooghmpeaaGreatDoorPk7
set_option linter.all false
set_option maxRecDepth 100000
set_option maxHeartbeats 40000000
open Go.Proofs.Tryz
namespace Go.Proofs.YtjcminooghmpeaaGreatDoor
open Go.RowKit
def jo(r:FW×Int)(last:Bool):FW:=if last=true then {r.1 with f:={r.1.f with vm:={r.1.f.vm with last:=r.2}}} else r.1
def cJ(f:aa)(name:Str)(last:Bool)(l:List Int):aa×Int:=if f.comp.xt≠0 then(f,-29)else gK (jo (eM (aN f) name 0 l) last) f
def nn(f:aa)(name:Str)(last:Bool)(l:List Int)(hn:name.length<=1000000)(hl:l.length<=1000)(h:FK (l.length+1) f):ab prog 195 [bG f,str name,boo last,sq ao l] (i4 (cJ f name last l)):=by
 refine zH func195 fun B=>?_
 refine zc rfl func217 (nK f _) ?_
 refine zA 13 rfl ((show _=PV.ptr 2 0 from rfl)) ?_
 refine Wi rfl ?_ ?_<;>intro hi1
 ·have q:¬(aN f).bad=0:=by simpa using hi1
  have qx:f.comp.xt≠0:=fun z=>q (by unfold aN;rw[if_pos z])
  refine zd ?_
  refine zC rfl func212 ((dQ (aN f) f) _ _ rfl) ?_
  (rw[cJ,if_pos qx];unfold gK;rw[if_pos q];unfold aN;rw[if_neg qx];rfl)
 have q:(aN f).bad=0:=by simpa using hi1
 have qx:¬f.comp.xt≠0:=fun z=>by unfold aN at q;rw[if_neg z]at q;cases q
 refine zd ?_
 refine zC rfl func235 ((EQ (aN f) name 0 l hn (by decide) (by decide) hl h) _ _ rfl) ?_
 refine Wi rfl ?_ ?_<;>intro hi2
 ·refine aI rfl ?_
  refine zy5 ?_
  refine zs2 ?_
  refine zp2 ?_
  (refine jQ (H':=[.cells (jT f) 42,.cells zFc 42,.cells (cFw (jo (eM (aN f) name 0 l) last)) 106]) (by unfold jo;((rw[if_pos hi2];rfl))) ?_)
  refine zC rfl func212 ((dQ (jo (eM (aN f) name 0 l) last) f) _ _ rfl) ?_
  (rw[cJ,if_neg qx];rfl)
 refine Wj<|zp2 ?_
 (refine jQ (H':=[.cells (jT f) 42,.cells zFc 42,.cells (cFw (jo (eM (aN f) name 0 l) last)) 106]) (by unfold jo;((rw[if_neg (by rw[hi2];decide)];rfl))) ?_)
 refine zC rfl func212 ((dQ (jo (eM (aN f) name 0 l) last) f) _ _ rfl) ?_
 (rw[cJ,if_neg qx];rfl)
def Jr(f:aa)(name:Str)(hn:name.length<=1000000)(h:FK 3 f):ab prog 159 [bG f,str name] (i4 (cJ f name true [257,0])):=by
 refine zY func159 fun B=>?_
 refine zu3 ?_
 refine zp3 ?_
 refine Wa 8 rfl ((show _=PV.seq (List.length [(257:Int),0]) (List.flatMap ao [(257:Int),0]) .clip from rfl)) ?_
 refine zC rfl func195 ((nn f name true [257,0] hn (by decide) h) _) ?_
 rfl
def Ca(f:aa)(name:Str)(n:Int)(hn:name.length<=1000000)(h:FK 4 f):ab prog 181 [bG f,str name,i64 n] (i4 (cJ f name false [258,0,n])):=by
 refine zY func181 fun B=>?_
 refine zu3 ?_
 refine zp4 ?_
 refine Wa 11 rfl ((show _=PV.seq (List.length [(258:Int),0,n]) (List.flatMap ao [(258:Int),0,n]) .clip from rfl)) ?_
 refine zC rfl func195 ((nn f name false [258,0,n] hn (by simp) h) _) ?_
 rfl
def aU5(w:FW)(c:xU):FW:={w with f:={vm:={w.f.vm with dict:=(i9 w.f.vm.dict c.dict).1,here:=c.here,last:=c.last},comp:=kV}}
def kc(f:aa):aa:=if f.comp.xt=0 then f else(aU5 (dT ⟨f,0⟩ 0) f.comp).f
def Oq(f:aa)(h:FK 1 f):ab prog 26 [bG f] (bG (kc f)):=by
 have kS:FK 0 (dT ⟨f,0⟩ 0).f:=Ju (w:=⟨f,0⟩) h 0
 refine zH func26 fun B=>?_
 refine zC rfl func51 ((kN f) _) ?_
 refine Wi rfl ?_ ?_<;>intro hi1
 ·have q:f.comp.xt=0:=by simpa using hi1
  refine zd ?_
  (rw[kc,if_pos q];rfl)
 have q:¬f.comp.xt=0:=by simpa using hi1
 refine zd ?_
 refine zC rfl func52 ((vo ⟨f,0⟩ 0 (h.down (by decide))) _ _ rfl) ?_
 refine zW [0,0,0,0,0,0,8,0,0,4,0,0,0,0,0,0,0,0,9] [0,1,2,3,4,5,6,7,8,9,10,11,12,13,14,15,16,17,18] ?_
 refine zU 2 ?_
 refine zd ?_
 refine zU 0 ?_
 refine Xc rfl rfl rfl rfl (fun _=>dC rfl func53 rfl rfl ((Js (dT ⟨f,0⟩ 0).f.vm.dict f.comp.dict (by have:=kS.dict;omega)) _)) ?_
 refine zd ?_
 refine dW 2 tG rfl rfl rfl rfl rfl trivial rfl ?_
 refine zd ?_
 refine zW [0,0,0,0,4,0,0,4,0,0,0,0,9,0,0,0,0,9] [0,1,2,3,4,5,6,7,8,9,10,11,12,13,14,15,16,17] ?_
 refine zU 0 ?_
 refine zd ?_
 refine zU 0 ?_
 refine zd ?_
 refine dW 2 tG rfl rfl rfl rfl rfl trivial rfl ?_
 refine zd ?_
 refine dW 2 tG rfl rfl rfl rfl rfl trivial rfl ?_
 refine zd ?_
 (rw[kc,if_neg q];rfl)
def js(n:Int):Int:=if n/2%2=1 then n-2 else n
def Yk{f:Int}(h0:0<=f)(h7:f<=7):IntKind.i64.wrap ↑(BitVec.ofInt IntKind.i64.bits f &&& ~~~BitVec.ofInt IntKind.i64.bits 2).toNat=js f:=by
 rcases qP h0 h7 with rfl|rfl|rfl|rfl|rfl|rfl|rfl|rfl<;>decide
def NA{f:Int}(h0:0<=f)(h7:f<=7):0<=js f/\js f<=7:=by
 rcases qP h0 h7 with rfl|rfl|rfl|rfl|rfl|rfl|rfl|rfl<;>decide
def ng(w:FW)(d:List aP×Int):FW:={okF w d.2 with f:={(okF w d.2).f with vm:={(okF w d.2).f.vm with dict:=d.1}}}
def sY(w:FW)(c:xU):List aP×Int:=cH w.f.vm.dict c.dict (js (w.f.vm.dict.getD c.dict.toNat default).flags)
def jb(w:FW)(c:xU):FW:=if c.on=true then {w with f:={w.f with vm:={w.f.vm with hand:=w.f.vm.hand++[⟨c.xt,c.fuel,0,false⟩]}}} else w
def yC(f:aa):FW:=jb (dT (ng (ce ⟨f,0⟩ 32) (sY (ce ⟨f,0⟩ 32) f.comp)) 0) f.comp
def mF(f:aa):Int:=if f.comp.xt=0 then -14 else if 0<f.comp.cf.length then -22 else if f.comp.on=true/\64<=f.vm.hand.length then -8 else 0
def kZ(f:aa):aa×Int:=if mF f≠0 then(f,mF f)else gK {yC f with f:={(yC f).f with comp:=kV}} f
def XZ{l:List aP}(hl:l.length<=2000)(h:kw l){a n:Int}(h0:0<=n)(h7:n<=7):(cH l a n).1.length<=2000/\kw (cH l a n).1:=by
 unfold cH
 split
 ·exact⟨hl,h⟩
 rename_i q
 have hlt:a.toNat<l.length:=by omega
 refine⟨by show(l.set _ _).length<=_;rw[List.length_set];exact hl,by show(l.set _ _).length<=_;rw[List.length_set];exact h.1,fun x hx=>?_⟩
 rcases List.mem_or_eq_of_mem_set hx with hx|hx
 ·exact h.2 x hx
 subst hx;exact⟨(h.get hlt).1,h0,h7⟩
def Zl{k:Nat}{w:FW}(h:FK k w.f){d:List aP×Int}(hd:d.1.length<=2000/\kw d.1):FK k (ng w d).f:=by
 have q:=L8 h d.2
 exact⟨q.b,q.old,q.h0,q.h1,hd.1,hd.2,q.hand⟩
def ap5(f:aa)(hE:mF f≠0):ab prog 178 [bG f] (i4 (f,mF f)):=by
 refine zH func178 fun B=>?_
 refine zC rfl func51 ((kN f) _) ?_
 refine Wi rfl ?_ ?_<;>intro hi1
 ·have q:f.comp.xt=0:=by simpa using hi1
  have eE:mF f = -14:=by unfold mF;rw[if_pos q]
  refine zd ?_
  refine zC rfl func93 (lQ ⟨f,0⟩ (-14) _ 2 rfl) ?_
  refine Wt rfl (by rfl) ?_
  refine zd ?_
  refine zC rfl func212 ((dQ _ f) _ _ rfl) ?_
  rw[eE];rfl
 have q:¬f.comp.xt=0:=by simpa using hi1
 refine zd ?_
 refine Wi rfl ?_ ?_<;>intro hi3
 ·have q3:0<f.comp.cf.length:=by have:=oT hi3;omega
  have eE:mF f = -22:=by unfold mF;rw[if_neg q,if_pos q3]
  refine zd ?_
  refine zC rfl func93 (lQ ⟨f,0⟩ (-22) _ 2 rfl) ?_
  refine Wt rfl (by rfl) ?_
  refine zd ?_
  refine zC rfl func212 ((dQ _ f) _ _ rfl) ?_
  rw[eE];rfl
 have q3:¬0<f.comp.cf.length:=by have:=oF hi3;omega
 refine zp3 ?_
 refine zB 33 (fun hg1=>?_) (fun hg1=>?_)
 ·refine Wi rfl ?_ ?_<;>intro hi4
  ·have q4:f.comp.on=true/\64<=f.vm.hand.length:=⟨hg1,by have:=oT hi4;omega⟩
   have eE:mF f = -8:=by unfold mF;rw[if_neg q,if_neg q3,if_pos q4]
   refine zd ?_
   refine zC rfl func93 (lQ ⟨f,0⟩ (-8) _ 2 rfl) ?_
   refine Wt rfl (by rfl) ?_
   refine zd ?_
   refine zC rfl func212 ((dQ _ f) _ _ rfl) ?_
   rw[eE];rfl
  exact absurd (by unfold mF;rw[if_neg q,if_neg q3,if_neg (fun z=>by have:=oF hi4;have:=z.2;omega)]) hE
 exact absurd (by unfold mF;rw[if_neg q,if_neg q3,if_neg (fun z=>by rw[hg1]at z;cases z.1)]) hE
def W7(f:aa)(h:FK 2 f)(hd:0<=f.comp.dict)(hd1:f.comp.dict<f.vm.dict.length)(hE:mF f=0):ab prog 178 [bG f] (i4 (gK {yC f with f:={(yC f).f with comp:=kV}} f)):=by
 have hx:¬f.comp.xt=0:=fun q=>by unfold mF at hE;rw[if_pos q]at hE;cases hE
 have hc:¬0<f.comp.cf.length:=fun q=>by unfold mF at hE;rw[if_neg hx,if_pos q]at hE;cases hE
 have ho:¬(f.comp.on=true/\64<=f.vm.hand.length):=fun q=>by unfold mF at hE;rw[if_neg hx,if_neg hc,if_pos q]at hE;cases hE
 have pC:=Ao ⟨f,0⟩ [32] (by decide) (h.down (by decide))
 have k1:FK 1 (ce ⟨f,0⟩ 32).f:=My (w:=⟨f,0⟩) h 32
 have e1:(ce ⟨f,0⟩ 32).f.vm.dict=f.vm.dict:=rfl
 unfold yC
 change ab prog 178 [bG f] _ at *
 rw[show([32]:List Int).foldl ce ⟨f,0⟩=ce ⟨f,0⟩ 32 from rfl]at pC
 obtain⟨w1,hw1⟩:∃w1,ce ⟨f,0⟩ 32=w1:=⟨_,rfl⟩
 rw[hw1]at pC k1 e1 ⊢
 have hk1:f.comp.dict.toNat<w1.f.vm.dict.length:=by rw[e1];omega
 have fl:=k1.each.get hk1
 have u7:=NA fl.2.1 fl.2.2
 have eN:=Yk fl.2.1 fl.2.2
 have pF:=DZ w1.f.vm.dict f.comp.dict (js (w1.f.vm.dict.getD f.comp.dict.toNat default).flags) (by have:=k1.dict;omega) u7.1 u7.2
 have kF:=Zl k1 (XZ k1.dict k1.each (a:=f.comp.dict) u7.1 u7.2)
 unfold sY
 obtain⟨d,hd'⟩:∃d,cH w1.f.vm.dict f.comp.dict (js (w1.f.vm.dict.getD f.comp.dict.toNat default).flags)=d:=⟨_,rfl⟩
 rw[hd']at pF kF ⊢
 have pS:=vo (ng w1 d) 0 (kF.down (by decide))
 have kS:=Ju kF 0
 obtain⟨w3,hw3⟩:∃w3,dT (ng w1 d) 0=w3:=⟨_,rfl⟩
 rw[hw3]at pS kS ⊢
 have lh:=kS.hand
 refine zH func178 fun B=>?_
 refine zC rfl func51 ((kN f) _) ?_
 refine Wf rfl (by exact by simpa using hx) ?_
 refine zd ?_
 refine Wf rfl (by exact decide_eq_false (by omega)) ?_
 refine zp3 ?_
 refine Wb 33 rfl ?_ ?_<;>intro hg1
 ·refine zd ?_
  refine Wf rfl (by exact decide_eq_false (fun z=>ho ⟨hg1,by omega⟩)) ?_
  refine zd ?_
  refine Wf rfl (by rfl) ?_
  refine Wj<|zp2 ?_
  refine Wa 56 rfl ((show _=PV.seq (List.length [(32:Int)]) (List.flatMap ao [(32:Int)]) .clip from rfl)) ?_
  refine zC rfl func213 ((pC) _ _ rfl) ?_
  refine zW [0,0,0,0,0,1,0,1,0,0,0,0,0,1,0,1,0,0,1,0,0,0,0,0,0,0] [0,1,2,3,4,5,6,7,8,9,10,11,12,13,14,15,16,17,18,19,20,21,22,23,24,25] ?_
  refine Xi tG rfl rfl rfl rfl (fun _=>rfl) (by omega) (iR cn 3 (fun _=>rfl) default (by omega)) ?_
  refine z3 ?_
  refine z5 ?_
  refine z3 ?_
  refine Xa 78 rfl (j_ eN) ?_
  refine Xc rfl rfl rfl rfl (fun _=>dC rfl func214 rfl rfl ((pF) _)) ?_
  refine zd ?_
  refine zC rfl func93 (lQ w1 d.2 _ 2 rfl) ?_
  refine zC rfl func52 ((pS) _ _ rfl) ?_
  refine Wi rfl ?_ ?_<;>intro hi5
  ·refine zW [0,0,0,0,0,0,8,0,0,10,0,10,0,0,0,0,0,0,0,9] [0,1,2,3,4,5,6,7,8,9,10,11,12,13,14,15,16,17,18,19] ?_
   refine zU 2 ?_
   refine Xc rfl rfl rfl rfl (fun _=>dC rfl func215 rfl rfl ((BF w3.f.vm.hand (by have:=kS.hand;omega)) _)) ?_
   refine z3 ?_
   refine zU 3 ?_
   refine z3 ?_
   refine zU 3 ?_
   iterate 2 refine z3 ?_
   refine Xa 110 rfl ((show _=PV.seq (List.length [(⟨f.comp.xt,f.comp.fuel,0,false⟩:og)]) (List.flatMap mP [(⟨f.comp.xt,f.comp.fuel,0,false⟩:og)]) .clip from rfl)) ?_
   refine ew rfl rfl rfl rfl (fun _=>co (lO tG rfl) rfl (lO tG rfl) (lO tG rfl) rfl rfl (by exact⟨_,rfl⟩) (by exact⟨rfl,rfl,an _ 4 (fun _=>rfl) _,bD _ (fun _=>rfl) _⟩) (by exact an _ 4 (fun _=>rfl) _) (by((simp_all;omega))) (by((simp_all;omega))) (by exact fU (bs (fun x=>by simp) _) (bs (fun x=>by simp) _))) ?_
   refine zO 111 rfl (cw mP) ?_
   refine dW 2 tG rfl rfl rfl rfl rfl trivial rfl ?_
   refine fS ?_
   refine zp5 ?_
   refine zs1 ?_
   refine zp2 ?_
   refine uW 2 rfl rfl (ys:=cFw {jb w3 f.comp with f:={(jb w3 f.comp).f with comp:=kV}}) (by unfold jb;((rw[if_pos hi5];rfl))) rfl ?_
   refine zC rfl func212 ((dQ {jb w3 f.comp with f:={(jb w3 f.comp).f with comp:=kV}} f) _ _ rfl) ?_
   rfl
  refine Wj<|zp5 ?_
  refine zs1 ?_
  refine zp2 ?_
  refine uW 2 rfl rfl (ys:=cFw {jb w3 f.comp with f:={(jb w3 f.comp).f with comp:=kV}}) (by unfold jb;((rw[if_neg (by rw[hi5];decide)];rfl))) rfl ?_
  refine zC rfl func212 ((dQ {jb w3 f.comp with f:={(jb w3 f.comp).f with comp:=kV}} f) _ _ rfl) ?_
  rfl
 have qo:True:=trivial
 refine zd ?_
 refine Wf rfl rfl ?_
 refine zd ?_
 refine Wf rfl (by rfl) ?_
 refine Wj<|zp2 ?_
 refine Wa 56 rfl ((show _=PV.seq (List.length [(32:Int)]) (List.flatMap ao [(32:Int)]) .clip from rfl)) ?_
 refine zC rfl func213 ((pC) _ _ rfl) ?_
 refine zW [0,0,0,0,0,1,0,1,0,0,0,0,0,1,0,1,0,0,1,0,0,0,0,0,0,0] [0,1,2,3,4,5,6,7,8,9,10,11,12,13,14,15,16,17,18,19,20,21,22,23,24,25] ?_
 refine Xi tG rfl rfl rfl rfl (fun _=>rfl) (by omega) (iR cn 3 (fun _=>rfl) default (by omega)) ?_
 refine z3 ?_
 refine z5 ?_
 refine z3 ?_
 refine Xa 78 rfl (j_ eN) ?_
 refine Xc rfl rfl rfl rfl (fun _=>dC rfl func214 rfl rfl ((pF) _)) ?_
 refine zd ?_
 refine zC rfl func93 (lQ w1 d.2 _ 2 rfl) ?_
 refine zC rfl func52 ((pS) _ _ rfl) ?_
 refine Wi rfl ?_ ?_<;>intro hi5
 ·refine zW [0,0,0,0,0,0,8,0,0,10,0,10,0,0,0,0,0,0,0,9] [0,1,2,3,4,5,6,7,8,9,10,11,12,13,14,15,16,17,18,19] ?_
  refine zU 2 ?_
  refine Xc rfl rfl rfl rfl (fun _=>dC rfl func215 rfl rfl ((BF w3.f.vm.hand (by have:=kS.hand;omega)) _)) ?_
  refine z3 ?_
  refine zU 3 ?_
  refine z3 ?_
  refine zU 3 ?_
  iterate 2 refine z3 ?_
  refine Xa 110 rfl ((show _=PV.seq (List.length [(⟨f.comp.xt,f.comp.fuel,0,false⟩:og)]) (List.flatMap mP [(⟨f.comp.xt,f.comp.fuel,0,false⟩:og)]) .clip from rfl)) ?_
  refine ew rfl rfl rfl rfl (fun _=>co (lO tG rfl) rfl (lO tG rfl) (lO tG rfl) rfl rfl (by exact⟨_,rfl⟩) (by exact⟨rfl,rfl,an _ 4 (fun _=>rfl) _,bD _ (fun _=>rfl) _⟩) (by exact an _ 4 (fun _=>rfl) _) (by((simp_all;done))) (by((simp_all;done))) (by exact fU (bs (fun x=>by simp) _) (bs (fun x=>by simp) _))) ?_
  refine zO 111 rfl (cw mP) ?_
  refine dW 2 tG rfl rfl rfl rfl rfl trivial rfl ?_
  refine fS ?_
  refine zp5 ?_
  refine zs1 ?_
  refine zp2 ?_
  refine uW 2 rfl rfl (ys:=cFw {jb w3 f.comp with f:={(jb w3 f.comp).f with comp:=kV}}) (by unfold jb;((rw[if_pos hi5];rfl))) rfl ?_
  refine zC rfl func212 ((dQ {jb w3 f.comp with f:={(jb w3 f.comp).f with comp:=kV}} f) _ _ rfl) ?_
  rfl
 refine Wj<|zp5 ?_
 refine zs1 ?_
 refine zp2 ?_
 refine uW 2 rfl rfl (ys:=cFw {jb w3 f.comp with f:={(jb w3 f.comp).f with comp:=kV}}) (by unfold jb;((rw[if_neg (by rw[hi5];decide)];rfl))) rfl ?_
 refine zC rfl func212 ((dQ {jb w3 f.comp with f:={(jb w3 f.comp).f with comp:=kV}} f) _ _ rfl) ?_
 rfl
structure ac6 (f:aa):Prop where
 k:FK 2 f
 d:mF f=0->0<=f.comp.dict/\f.comp.dict<f.vm.dict.length
def TV(f:aa)(h:ac6 f):ab prog 178 [bG f] (i4 (kZ f)):=by
 unfold kZ
 by_cases hE:mF f=0
 ·rw[if_neg (fun q=>q hE)];exact W7 f h.k (h.d hE).1 (h.d hE).2 hE
 rw[if_pos hE];exact ap5 f hE
open Go.Lib
section
variable {P : Program} {B : Nat -> Nat -> Prop} {o : Oper} {T : Nat -> PV} {H : List Ob}
def G4{z:Array Value}{v:Value}(h:z.toList=[v])(m:Nat):(Builtin.zeroCells z m).toList=List.replicate m v:=by
 have hz:z=#[v]:=by rw[<-Array.toList_inj];exact h
 subst hz
 unfold Builtin.zeroCells
 rw[Array.toList_map,Array.toList_range]
 apply List.ext_getElem
 ·simp
 intro i h1 h2
 simp[Nat.mod_one]
def oW{t tn e:TypeId}{d de:TD}{kn kq:IntKind}{x y:Operand}{n m:Nat}{xs:List PV}{p:PV}(f:ap P t d)(hd:d.sh=.slice e)(fe:ap P e de)(hn:P.underlying tn=some (.int kn))
  (ho:o.op=.call {callee:=.builtin .append,args:=#[x,y],argTypes:=#[t,tn]}) (hx:opv T x=.seq n xs .clip) (hy:opv T y=.val (.int kq m)) (h0:0<m) (h1:de.size=1) (hp:de.zero=[p]) (hl:xs.length=n)
  (hb:(n+m)*de.bytes<=140737488355328) (h63:n+m<=9223372036854775807) :
  bM P B o T H (.seq (n+m) (xs++List.replicate m p) (.own H.length 1)) (H++[.free ((n+m)*1)]):=by
 intro σ w a s h
 have k1:=h x (by simp[ho,Op.operands,Call.operands])
 have k2:=h y (by simp[ho,Op.operands,Call.operands])
 rw[hx]at k1
 rw[hy]at k2
 unfold Rep at k2
 obtain⟨ad,cap,vs,hv,hle,hnil,hrl,hlies,hk⟩:=gJ k1
 have hcap:cap=n:=hk
 subst hcap
 obtain⟨i,z,hi,hsz,hby,hz,hzr⟩:=fe.info
 have h1':i.size=1:=hsz.trans h1
 have hvl:vs.length=cap*i.size:=by rw[au.length hrl,hl,h1',Nat.mul_one]
 have z1:=hzr (cx B H σ w)
 rw[hp]at z1
 obtain⟨v,hzv⟩:∃v,z.cells.toList=[v]:=by
  have:=au.length z1
  match hq:z.cells.toList,this with
  | [v],_=>exact⟨v,rfl⟩
  | [],q=>simp at q
  | _::_::_,q=>simp at q
 have hold:(Builtin.firstCells i.size cap (.slice ad cap cap)).run P w.drew=.ok vs.toArray w.drew:=by
  cases ad with
  | none =>
   have q:=hnil rfl
   obtain⟨q1,_,q3⟩:=q
   subst q3
   have q0:cap=0:=q1
   subst q0
   exact run_firstCells_none w.drew i.size 0 0 0
  | some b =>
   refine run_firstCells_some w.drew i.size cap b cap cap vs hvl fun j u hj=>?_
   have hl2:=(hlies b rfl).resolve_right (by rintro⟨_,h3⟩;rw[h3]at hj;simp at hj)
   rw[gY hl2,Addr.add_lit];exact(hl2.2 j u hj).1
 have hr:=run_append_grow_zeros (P:=P) w t tn o.type e i z kq kn (f.slice hd) hn hi hz ad cap cap vs hold m h0 (by omega) (by omega) (by omega) (by rw[hby];exact Nat.le_trans (Nat.mul_le_mul_right _ (by omega)) (Nat.le_trans hb (by decide))) (growslice_fits (by omega) (by rw[hby];exact hb))
 have hge:=grownCap_ge w (cap+m) cap e
 have hzs:z.cells.size=1:=by rw[<-Array.length_toList,hzv];rfl
 have hsize:(vs.toArray++Builtin.zeroCells z.cells m++Builtin.zeroCells z.cells (grownCap w (cap+m) cap e-(cap+m))).size=grownCap w (cap+m) cap e:=by
  rw[Array.size_append,Array.size_append,size_zeroCells,size_zeroCells,hzs,List.size_toArray,hvl,h1']
  omega
 have gr:bj w (w.drew.alloc (.cells (vs.toArray++Builtin.zeroCells z.cells m++Builtin.zeroCells z.cells (grownCap w (cap+m) cap e-(cap+m))) e)):=(bj.drew w).trans (bj.alloc _ _)
 have hheap:(w.drew.alloc (.cells (vs.toArray++Builtin.zeroCells z.cells m++Builtin.zeroCells z.cells (grownCap w (cap+m) cap e-(cap+m))) e)).heap[w.heap.size]?=some (Obj.cells (vs.toArray++Builtin.zeroCells z.cells m++Builtin.zeroCells z.cells (grownCap w (cap+m) cap e-(cap+m))) e (0,0)):=by
  show(w.heap.push _)[w.heap.size]?=_;simp
 obtain⟨s',st⟩:=fv s gr (.free ((cap+m)*1)) (some w.heap.size) (fun b hb=>by cases hb;exact Nat.le_refl _) (fun b hb=>by
  simp only[cx]at hb;rw[bx]at hb;cases hb
  exact⟨_,e,hheap,by rw[hsize];omega⟩)
 have hnr:au (cx B H σ w) (List.replicate m p) (List.replicate m v):=by
  rw[hzv]at z1
  have zp:=(af.1 z1).1
  clear hr gr hheap s' st hsize hge hb h63 h0 hy k2
  induction m with
  | zero=>exact aG.2 rfl
  | succ m ih=>rw[List.replicate_succ,List.replicate_succ];exact af.2 ⟨zp,ih⟩
 refine⟨_,_,_,.inl (nU ho hv (by rw[k2];exact hr)),?_,s',st⟩
 refine r7 (vs:=vs++List.replicate m v) (au.append (au.mono st.le hrl) (au.mono st.le hnr)) (by simp) (bx _ _ _) hheap ?_ hge (by rw[hsize];omega) (fun j hj=>?_) (fun off hoff=>?_)
 ·rw[List.length_append,hl,List.length_replicate,Nat.mul_one]
 ·have e1:vs.toArray++Builtin.zeroCells z.cells m=(vs++List.replicate m v).toArray:=by
   rw[<-Array.toList_inj,Array.toList_append,G4 hzv]
  rw[e1,Array.getElem?_append_left (by simpa using hj)]
  exact List.getElem?_toArray ..
 have hoff':off<(cap+m)*1:=by rw[List.length_append,hvl,h1',List.length_replicate]at hoff;omega
 rintro(h|⟨j,oj,h1,h2,h3⟩)
 ·exact absurd (s.base _ _ h) (by simp)
 rcases fI h1 with ⟨h4,h5⟩|⟨rfl,rfl⟩
 ·rw[bY h4]at h2
  have hlv:oj.live=true:=by cases oj<;>first|rfl|cases h3
  have:=(s.holds j oj h5).lt hlv h2
  simp[cx]at this
 simp only[Ob.wr]at h3;omega
end
open Go.RowKit
def Cf(f:aa)(name:Str)(hn:name.length<=1000000)(h:FK 4 f):ab prog 179 [bG f,str name] (i4 (cJ f name true [257,0,0])):=by
 refine zY func179 fun B=>?_
 refine zu3 ?_
 refine zp3 ?_
 refine Wa 8 rfl (bsL ao [_,_,_] rfl rfl) ?_
 refine zC rfl func195 ((nn f name true [257,0,0] hn (by decide) h) _) ?_
 rfl
def nd(f:aa)(n:Int):List Int:=[260,0,0,n]++(if f.comp.xt=0 then List.replicate n.toNat 0 else [])
def vG(f:aa)(name:Str)(n:Int):aa×Int:=if f.comp.xt=0/\(n<1\/256<n)then(f,-24)else cJ f name false (nd f n)
def I6{f:aa}{n:Int}(hx:f.comp.xt=0)(s:SK):PV.seq (List.length [(260:Int),0,0,n]+n.toNat) (List.flatMap ao [(260:Int),0,0,n]++List.replicate n.toNat (i64 0)) s=.seq (nd f n).length ((nd f n).flatMap ao) s:=by
 unfold nd
 rw[if_pos hx,List.length_append,List.length_replicate,List.flatMap_append]
 congr 2
 induction n.toNat with
 | zero=>rfl
 | succ k ih=>rw[List.replicate_succ,List.replicate_succ,List.flatMap_cons,<-ih];rfl
def Dl{f:aa}{n:Int}(hx:¬f.comp.xt=0):nd f n=[260,0,0,n]:=by unfold nd;rw[if_neg hx];rfl
def T6{f:aa}{n:Int}(h:¬(f.comp.xt=0/\(n<1\/256<n))):(nd f n).length<=260:=by
 unfold nd
 rw[List.length_append]
 split
 ·rename_i q
  have:¬(n<1\/256<n):=fun z=>h ⟨q,z⟩
  rw[List.length_replicate];show 4+n.toNat<=260;omega
 show 4+0<=260;omega
def F9(f:aa)(name:Str)(n:Int)(hn:name.length<=1000000)(h:FK 270 f):ab prog 182 [bG f,str name,i64 n] (i4 (vG f name n)):=by
 by_cases hB:f.comp.xt=0/\(n<1\/256<n)
 ·have e:vG f name n=(f,-24):=by unfold vG;rw[if_pos hB]
  rw[e]
  obtain⟨hB1,hB2⟩:=hB
  refine zH func182 fun B=>?_
  refine zc rfl func51 ((kN f) _) ?_
  refine zy2 ?_
  refine cT 12 rfl (by rw[hB1];rfl) ?_
  refine zy3 ?_
  refine zB 15 (fun hg2=>?_) (fun hg2=>?_)
  ·refine Wt rfl rfl ?_
   refine zd ?_
   rfl
  refine Wi rfl ?_ ?_<;>intro hi1
  ·have q:=hi1
   refine zd ?_
   rfl
  exact absurd hB2 (fun z=>z.elim (fun z=>by have:=oF hg2;omega) (fun z=>by have:=oF hi1;omega))
 have e:vG f name n=cJ f name false (nd f n):=by unfold vG;rw[if_neg hB]
 rw[e]
 have hl:=T6 hB
 have pC:=nn f name false (nd f n) hn (by omega) (h.down (by omega))
 refine zH func182 fun B=>?_
 refine zc rfl func51 ((kN f) _) ?_
 refine zy2 ?_
 refine Wb 12 rfl ?_ ?_<;>intro hg1
 ·have qx:f.comp.xt=0:=by simpa using hg1
  refine zy3 ?_
  refine pJ 15 rfl (by exact decide_eq_false (fun z=>hB ⟨qx,.inl z⟩)) ?_
  refine zd ?_
  refine Wf rfl (by exact decide_eq_false (fun z=>hB ⟨qx,.inr z⟩)) ?_
  refine Wj<|zp2 ?_
  refine zA 22 rfl (bsL ao [_,_,_,_] rfl rfl) ?_
  refine zC rfl func51 ((kN f) _) ?_
  refine Wi rfl ?_ ?_<;>intro hi2
  ·have q2:f.comp.xt=0:=by simpa using hi2
   have hr:=I6 (n:=n) q2
   have h1:1<=n/\n<=256:=⟨by have:=fun z=>hB ⟨q2,.inl z⟩;omega,by have:=fun z=>hB ⟨q2,.inr z⟩;omega⟩
   refine aI rfl ?_
   refine zy2 ?_
   refine Wa 27 rfl ((show i64 n=PV.val (.int .i64 (n.toNat:Int)) from by rw[Int.toNat_of_nonneg (by omega)];rfl)) ?_
   refine Wd rfl rfl (oW (lO tG rfl) rfl (lO tG rfl) underlying3 rfl rfl rfl (by omega) rfl rfl rfl (by show(4+n.toNat)*8<=_;omega) (by show 4+n.toNat<=_;omega)) ?_
   refine Wa 28 rfl (hr _) ?_
   refine zs1 ?_
   refine zp3 ?_
   skip
   refine zC rfl func195 ((pC) _) ?_
   rfl
  have q2:¬f.comp.xt=0:=by simpa using hi2
  refine Wj<|zp3 ?_
  refine Wa 31 rfl (show PV.seq _ _ .clip=PV.seq (nd f n).length ((nd f n).flatMap ao) .clip from by rw[Dl q2]) ?_
  refine zC rfl func195 ((pC) _) ?_
  rfl
 have qx:¬f.comp.xt=0:=by simpa using hg1
 refine zd ?_
 refine Wf rfl rfl ?_
 refine Wj<|zp2 ?_
 refine zA 22 rfl (bsL ao [_,_,_,_] rfl rfl) ?_
 refine zC rfl func51 ((kN f) _) ?_
 refine Wi rfl ?_ ?_<;>intro hi2
 ·have q2:f.comp.xt=0:=by simpa using hi2
  have hr:=I6 (n:=n) q2
  have h1:1<=n/\n<=256:=⟨by have:=fun z=>hB ⟨q2,.inl z⟩;omega,by have:=fun z=>hB ⟨q2,.inr z⟩;omega⟩
  refine aI rfl ?_
  refine zy2 ?_
  refine Wa 27 rfl ((show i64 n=PV.val (.int .i64 (n.toNat:Int)) from by rw[Int.toNat_of_nonneg (by omega)];rfl)) ?_
  refine Wd rfl rfl (oW (lO tG rfl) rfl (lO tG rfl) underlying3 rfl rfl rfl (by omega) rfl rfl rfl (by show(4+n.toNat)*8<=_;omega) (by show 4+n.toNat<=_;omega)) ?_
  refine Wa 28 rfl (hr _) ?_
  refine zs1 ?_
  refine zp3 ?_
  skip
  refine zC rfl func195 ((pC) _) ?_
  rfl
 have q2:¬f.comp.xt=0:=by simpa using hi2
 refine Wj<|zp3 ?_
 refine Wa 31 rfl (show PV.seq _ _ .clip=PV.seq (nd f n).length ((nd f n).flatMap ao) .clip from by rw[Dl q2]) ?_
 refine zC rfl func195 ((pC) _) ?_
 rfl
def FT(n:Int):Int:=if n%2=1 then n else n+1
def or1{f:Int}(h0:0<=f)(h7:f<=7):IntKind.i64.wrap ↑(BitVec.ofInt IntKind.i64.bits f ||| BitVec.ofInt IntKind.i64.bits 1).toNat=FT f:=by
 rcases qP h0 h7 with rfl|rfl|rfl|rfl|rfl|rfl|rfl|rfl<;>decide
def aE9{f:Int}(h0:0<=f)(h7:f<=7):0<=FT f/\FT f<=7:=by
 rcases qP h0 h7 with rfl|rfl|rfl|rfl|rfl|rfl|rfl|rfl<;>decide
def qi(f:aa):aP:=f.vm.dict.getD (f.vm.dict.length-1) default
def Ox(f:aa):aa×Int :=
 if f.vm.dict.length=0\/(qi f).xt<1368 then gK (okF (aN f) (-13)) f else gK (ng (aN f) (cH f.vm.dict ((f.vm.dict.length-1:Nat):Int) (FT (qi f).flags))) f
def AD(f:aa)(h:FK 0 f):ab prog 183 [bG f] (i4 (Ox f)):=by
 have hd:=h.dict
 have w1:IntKind.i64.wrap ((f.vm.dict.length:Int)-1)=(f.vm.dict.length:Int)-1:=by((rw[bU];unfold wrap64;(try simp only[dnL]at *);omega))
 have eI:Ox f=if f.vm.dict.length=0\/(qi f).xt<1368 then gK (okF (aN f) (-13)) f else gK (ng (aN f) (cH f.vm.dict ((f.vm.dict.length-1:Nat):Int) (FT (qi f).flags))) f:=rfl
 by_cases h0:f.vm.dict.length=0
 ·rw[eI,if_pos (.inl h0)]
  refine zH func183 fun B=>?_
  refine zc rfl func217 (nK f _) ?_
  refine Wa 9 rfl ((show _=PV.ptr 2 0 from rfl)) ?_
  refine zs1 ?_
  refine zp5 ?_
  refine zA 14 rfl (j_ w1) ?_
  refine lg [0,0,0,0,0,1,0,0,0,1,0,0,0] [0,1,2,3,4,5,6,7,8,9,10,11,12] mG rfl (by kernel_rfl) ?_
  iterate 3 refine z3 ?_
  refine WB 17 rfl (by exact decide_eq_true (by omega)) ?_
  refine zd ?_
  refine Wt rfl rfl ?_
  refine zd ?_
  refine zC rfl func93 (lQ (aN f) (-13) _ 2 rfl) ?_
  refine zC rfl func212 ((dQ _ _) _ _ rfl) ?_
  rfl
 have w2:(f.vm.dict.length:Int)-1=((f.vm.dict.length-1:Nat):Int):=by omega
 have fl:=h.each.get (j:=f.vm.dict.length-1) (by omega)
 have i7:=aE9 fl.2.1 fl.2.2
 have eo:=or1 fl.2.1 fl.2.2
 have pF:=DZ f.vm.dict ((f.vm.dict.length-1:Nat):Int) (FT (qi f).flags) (by omega) i7.1 i7.2
 obtain⟨d,hd'⟩:∃d,cH f.vm.dict ((f.vm.dict.length-1:Nat):Int) (FT (qi f).flags)=d:=⟨_,rfl⟩
 rw[hd']at pF eI
 refine zH func183 fun B=>?_
 refine zc rfl func217 (nK f _) ?_
 refine Wa 9 rfl ((show _=PV.ptr 2 0 from rfl)) ?_
 refine zs1 ?_
 refine zp5 ?_
 refine zA 14 rfl (j_ (w1.trans w2)) ?_
 refine lg [0,0,0,0,0,1,0,0,0,1,0,0,0] [0,1,2,3,4,5,6,7,8,9,10,11,12] mG rfl (by kernel_rfl) ?_
 iterate 3 refine z3 ?_
 refine Ba 17 rfl (by exact decide_eq_false (by omega)) ?_
 refine zd ?_
 refine zK cn 3 default ?_
 refine Xc rfl rfl rfl rfl (fun _=>dC rfl func218 rfl rfl ((AJ) _)) ?_
 refine zd ?_
 refine Wi rfl ?_ ?_<;>intro hi1
 ·have q:(qi f).xt<1368:=oT hi1
  refine zd ?_
  refine zC rfl func93 (lQ (aN f) (-13) _ 2 rfl) ?_
  refine zC rfl func212 ((dQ _ _) _ _ rfl) ?_
  (rw[eI,if_pos (.inr q)];rfl)
 have q:¬(qi f).xt<1368:=oF hi1
 refine zd ?_
 refine zW [0,0,1,0,0,0,1,0,0,0,1,0,0,0,0,0,0,0] [0,1,2,3,4,5,6,7,8,9,10,11,12,13,14,15,16,17] ?_
 refine Xi tG rfl rfl rfl rfl (fun _=>rfl) (by omega) (iN cn 3 (fun _=>rfl) default (by omega)) ?_
 refine z3 ?_
 refine z5 ?_
 refine z3 ?_
 refine Xa 49 rfl (j_ eo) ?_
 refine Xc rfl rfl rfl rfl (fun _=>dC rfl func214 rfl rfl ((pF) _)) ?_
 refine zd ?_
 refine zC rfl func93 (lQ (aN f) d.2 _ 2 rfl) ?_
 refine zC rfl func212 ((dQ (ng (aN f) d) f) _ _ rfl) ?_
 (rw[eI,if_neg (fun z=>z.elim h0 q)];rfl)
def Dc(f:aa)(r:aP×Int×Bool):FW:=if r.2.2=false then okF (aN f) (-13)else if r.1.xt<1368\/f.vm.here<r.1.xt then okF (aN f) (-32)else aN f
def BB(w:FW)(l:List aP)(r:aP×Int×Bool):FW:={w with f:={w.f with vm:={w.f.vm with dict:=(i9 l r.2.1).1,here:=r.1.xt,last:=0}}}
def Do(f:aa)(name:Str):aa×Int:=gK (BB (Dc f (bL f.vm.dict name)) f.vm.dict (bL f.vm.dict name)) f
def Ip(f:aa)(name:Str)(hn:name.length<=1000000)(h:FK 0 f):ab prog 184 [bG f,str name] (i4 (Do f name)):=by
 have hd:=h.dict
 have pD:=xe f.vm.dict name h.each (by omega)
 unfold Do
 obtain⟨r,hr⟩:∃r,bL f.vm.dict name=r:=⟨_,rfl⟩
 rw[hr]at pD ⊢
 have pC:=Js f.vm.dict r.2.1 (by omega)
 have eB:Dc f r=if r.2.2=false then okF (aN f) (-13)else if r.1.xt<1368\/f.vm.here<r.1.xt then okF (aN f) (-32)else aN f:=rfl
 refine zH func184 fun B=>?_
 refine zc rfl func217 (nK f _) ?_
 refine zA 13 rfl ((show _=PV.ptr 2 0 from rfl)) ?_
 refine zC rfl func37 ((pD) _) ?_
 refine Wi rfl ?_ ?_<;>intro hi1
 ·have q1:r.2.2=false:=by simpa using hi1
  rw[if_pos q1]at eB
  let xx:FW:=okF (aN f) (-13)
  refine zd ?_
  refine zC rfl func93 (lQ (aN f) (-13) _ 2 rfl) ?_
  refine zC rfl func53 ((pC) _) ?_
  refine zW [0,0,0,0,0,10,0,0,0,0,9,0,0,0,0,9,0,0,0,0,9] [0,1,2,3,4,5,6,7,8,9,10,11,12,13,14,15,16,17,18,19,20] ?_
  refine zU 3 ?_
  refine zd ?_
  refine dW 2 tG rfl rfl rfl rfl rfl trivial rfl ?_
  refine zd ?_
  refine dW 2 tG rfl rfl rfl rfl rfl trivial rfl ?_
  refine zd ?_
  refine dW 2 tG rfl rfl rfl rfl rfl trivial rfl ?_
  refine zd ?_
  refine zC rfl func212 ((dQ (BB xx f.vm.dict r) f) _ _ rfl) ?_
  rw[eB];rfl
 have q1:¬r.2.2=false:=by simpa using hi1
 rw[if_neg q1]at eB
 refine zd ?_
 refine zW [0,1,0,0,0,0,1,0,0,1,0,0,0] [0,1,2,3,4,5,6,7,8,9,10,11,12] ?_
 refine Xc rfl rfl rfl rfl (fun _=>dC rfl func218 rfl rfl ((AJ) _)) ?_
 iterate 2 refine z3 ?_
 refine gI 35 rfl (fun hg1=>?_) (fun hg1=>?_)
 ·have q2:r.1.xt<1368\/f.vm.here<r.1.xt:=.inl (oT hg1)
  rw[if_pos q2]at eB
  let xx:FW:=okF (aN f) (-32)
  refine zd ?_
  refine Wt rfl rfl ?_
  refine zd ?_
  refine zC rfl func93 (lQ (aN f) (-32) _ 2 rfl) ?_
  refine zC rfl func53 ((pC) _) ?_
  refine zW [0,0,0,0,0,10,0,0,0,0,9,0,0,0,0,9,0,0,0,0,9] [0,1,2,3,4,5,6,7,8,9,10,11,12,13,14,15,16,17,18,19,20] ?_
  refine zU 3 ?_
  refine zd ?_
  refine dW 2 tG rfl rfl rfl rfl rfl trivial rfl ?_
  refine zd ?_
  refine dW 2 tG rfl rfl rfl rfl rfl trivial rfl ?_
  refine zd ?_
  refine dW 2 tG rfl rfl rfl rfl rfl trivial rfl ?_
  refine zd ?_
  refine zC rfl func212 ((dQ (BB xx f.vm.dict r) f) _ _ rfl) ?_
  rw[eB];rfl
 refine zd ?_
 refine Wi rfl ?_ ?_<;>intro hi2
 ·have q2:r.1.xt<1368\/f.vm.here<r.1.xt:=.inr (by have:=oT hi2;omega)
  rw[if_pos q2]at eB
  let xx:FW:=okF (aN f) (-32)
  refine zd ?_
  refine zC rfl func93 (lQ (aN f) (-32) _ 2 rfl) ?_
  refine zC rfl func53 ((pC) _) ?_
  refine zW [0,0,0,0,0,10,0,0,0,0,9,0,0,0,0,9,0,0,0,0,9] [0,1,2,3,4,5,6,7,8,9,10,11,12,13,14,15,16,17,18,19,20] ?_
  refine zU 3 ?_
  refine zd ?_
  refine dW 2 tG rfl rfl rfl rfl rfl trivial rfl ?_
  refine zd ?_
  refine dW 2 tG rfl rfl rfl rfl rfl trivial rfl ?_
  refine zd ?_
  refine dW 2 tG rfl rfl rfl rfl rfl trivial rfl ?_
  refine zd ?_
  refine zC rfl func212 ((dQ (BB xx f.vm.dict r) f) _ _ rfl) ?_
  rw[eB];rfl
 have q2:¬(r.1.xt<1368\/f.vm.here<r.1.xt):=by have:=oF hi2;have:=oF hg1;omega
 rw[if_neg q2]at eB
 let xx:FW:=aN f
 refine zd ?_
 refine zC rfl func53 ((pC) _) ?_
 refine zW [0,0,0,0,0,10,0,0,0,0,9,0,0,0,0,9,0,0,0,0,9] [0,1,2,3,4,5,6,7,8,9,10,11,12,13,14,15,16,17,18,19,20] ?_
 refine zU 3 ?_
 refine zd ?_
 refine dW 2 tG rfl rfl rfl rfl rfl trivial rfl ?_
 refine zd ?_
 refine dW 2 tG rfl rfl rfl rfl rfl trivial rfl ?_
 refine zd ?_
 refine dW 2 tG rfl rfl rfl rfl rfl trivial rfl ?_
 refine zd ?_
 refine zC rfl func212 ((dQ (BB xx f.vm.dict r) f) _ _ rfl) ?_
 rw[eB];rfl
def Nb[DL]{P:Program}{B:Nat->Nat->Prop}{H:List Ob}{n:Nat}{T:Nat->PV}{c:Code}{Q:Exit->(Nat->PV)->List Ob->Prop}(j:Nat){zs ys:List PV}{t:TypeId}{H':List Ob}(hj:H[j]?=some (.cells zs t)){us:List PV}(hz:Qd zs=some us)(e:us=ys)(hH:nfH (H.set j (.cells ys t))=some H')(h1:W P B n c T H' Q):W P B n c T H Q:=by
 rw[sK hH]at h1
 subst e
 intro σ w a g
 obtain⟨s',st⟩:=obW g.sim hj (vC hz)
 exact wp_mono (h1 σ w a ⟨s',fun i=>(g.rep i).mono st.le,g.size,mn st g.defers⟩) fun _ _ _ k=>ia st (fun _ _ _ h=>h) k
def lF(v:VVm):CW:=⟨v,[],0⟩
def Ag(w:CW)(v:VVm):VVm×Int:=((oH w v []).1,(oH w v []).2.2)
def Ik(v:VVm)(n:Int):VVm×Int:=Ag (gN (cv (lF v) [40,108,105,116,41]) n) v
def Pr(v:VVm)(n:Int)(h:CK 2 (lF v)):ab prog 81 [eVm v,i64 n] (tVm (Ik v n)):=by
 have h1:=jB h [40,108,105,116,41]
 refine zY func81 fun B=>?_
 refine zu3 ?_
 refine zu4 ?_
 refine Ws<|Nb 2 rfl rfl (ys:=cCw (lF v)) rfl rfl ?_
 refine zd ?_
 refine zC rfl func104 ((nz (lF v) [40,108,105,116,41] h.mem h.here) _ _ rfl) ?_
 refine zC rfl func105 ((rE (cv (lF v) [40,108,105,116,41]) n h1.mem h1.here) _ _ rfl) ?_
 refine zC rfl func106 ((wu (gN (cv (lF v) [40,108,105,116,41]) n) v []) _ _ rfl) ?_
 rfl
def DV(x:CW)(r a:bh×Int×Int):CW:=if r.2.2=0 then⟨{x.v with mem:=a.1,here:=a.2.1},x.l,r.2.2⟩else {x with bad:=r.2.2}
def O1(v:VVm)(s:Str):CW:=gN (cv (lF v) [40,115,116,114,41]) s.length
def wz(x:CW)(s:Str):CW:=if x.bad=0 then DV x (cZ x.v.mem x.v.here s) (aO (cZ x.v.mem x.v.here s).1 (cZ x.v.mem x.v.here s).2.1)else x
def LT(v:VVm)(s:Str):VVm×Int:=Ag (wz (O1 v s) s) v
def NV(v:VVm)(s:Str)(hs:s.length<=1000000)(h:CK 4 (lF v)):ab prog 189 [eVm v,str s] (tVm (LT v s)):=by
 have h1:=jB h [40,115,116,114,41]
 have h2:CK 2 (O1 v s):=qG h1 s.length
 have pC:=rE (cv (lF v) [40,115,116,114,41]) (s.length:Int) h1.mem h1.here
 rw[show gN (cv (lF v) [40,115,116,114,41]) (s.length:Int)=O1 v s from rfl]at pC
 unfold LT
 obtain⟨x,hx⟩:∃x,O1 v s=x:=⟨_,rfl⟩
 rw[hx]at pC h2 ⊢
 have pL:=yN x.v.mem x.v.here s h2.mem h2.here hs
 have mk:dN x.v.mem (cZ x.v.mem x.v.here s).1 1:=ic _
 have mh:=iM (m:=x.v.mem) s h2.h0 h2.h1
 unfold wz
 obtain⟨r,hr⟩:∃r,cZ x.v.mem x.v.here s=r:=⟨_,rfl⟩
 rw[hr]at pL mk mh ⊢
 have l1:=mk.len
 have l2:=mk.old
 have l3:=h2.b
 have l4:=h2.old
 have pA:=si r.1 r.2.1 ⟨by omega,by omega⟩ ⟨by omega,by omega⟩
 obtain⟨a,ha⟩:∃a,aO r.1 r.2.1=a:=⟨_,rfl⟩
 rw[ha]at pA ⊢
 refine zY func189 fun B=>?_
 refine zu3 ?_
 refine zu4 ?_
 refine Ws<|Nb 2 rfl rfl (ys:=cCw (lF v)) rfl rfl ?_
 refine zd ?_
 refine zc rfl func104 ((nz (lF v) [40,115,116,114,41] h.mem h.here) _ _ rfl) ?_
 refine Wn<|zp2 ?_
 refine Wa 17 rfl (gC _) ?_
 refine zC rfl func105 ((pC) _ _ rfl) ?_
 refine Wi rfl ?_ ?_<;>intro hi1
 ·have q1:x.bad=0:=by simpa using hi1
  have pF:=mp x r.2.2
  rw[cf0 q1]at pF
  refine zp5 ?_
  refine zy3 ?_
  refine Wa 30 rfl (wO _) ?_
  refine zC rfl func174 ((pL) _) ?_
  refine zC rfl func153 ((pF) _ _ rfl) ?_
  refine Wi rfl ?_ ?_<;>intro hi2
  ·have q2:r.2.2=0:=by simpa using hi2
   refine zd ?_
   refine zc rfl func220 ((pA) _) ?_
   refine zy5 ?_
   refine zs5 ?_
   refine zp1 ?_
   (refine uW 2 rfl rfl (ys:=cCw (⟨{x.v with mem:=a.1,here:=a.2.1},x.l,r.2.2⟩:CW)) rfl rfl ?_)
   refine zC rfl func106 ((wu _ v []) _ _ rfl) ?_
   (rw[if_pos q1];unfold DV;rw[if_pos q2];rfl)
  have q2:¬r.2.2=0:=by simpa using hi2
  refine Wj<|zp1 ?_
  skip
  refine zC rfl func106 ((wu _ v []) _ _ rfl) ?_
  (rw[if_pos q1];unfold DV;rw[if_neg q2];rfl)
 have q1:¬x.bad=0:=by simpa using hi1
 refine Wj<|zp1 ?_
 skip
 refine zC rfl func106 ((wu _ v []) _ _ rfl) ?_
 (rw[if_neg q1];rfl)
end Go.Proofs.YtjcminooghmpeaaGreatDoor
namespace Go.Proofs.YtjcminooghmpeaaGreatDoor
open Go.RowKit Go.Extern.Stop Go.Stop Go.Extern
def atV(xt:Int)(v:Value):Value:=.iface 199 (.agg #[.int .i64 xt,v])
def X9(c:Int):Value:=.iface 201 (.agg #[.int .i64 c])
def rtV(n:Nat):Value:=.agg #[.pointer (some ⟨5,n,none⟩)]
def DF(n:Nat)(v:Value)(w:World):(ReflectliteType.typeOf #[.iface 383 v]).run prog w=.ok (.iface 221 (rtV 383)) w:=by kernel_rfl
def QR(w:World):(callFunc 420 #[rtV 383]).run prog w=.ok (.value (.bool true)) w :=
 (@run_callFunc_extern prog 420 _ (ReflectliteType.method fun t => do Rtype.noPackHeld "Comparable" t; pure (.bool (← typeInfo t).comparable)) func420 (by kernel_rfl) (by kernel_rfl) (by kernel_rfl) (by kernel_rfl) _ w).trans (by kernel_rfl)
def sD (v : Value) (w : World) : (Go.method 513 221 v "Comparable").run prog w = .ok (420, v) w := by kernel_rfl
def ZX:(prog.info? 383).map (·.comparable)=some true:=by kernel_rfl
def YJ:(prog.info? 401).map (·.size)=some 1:=by kernel_rfl
def Hh(v:Value)(xT:TypeId)(w:World):(Instr.typeAssert (.iface 199 v) xT 272 true).run prog w=.ok (.tuple #[.nilIface,.bool false]) w:=run_typeAssert_lacksB (underlying272) (by kernel_rfl) (by kernel_rfl) v xT w
def UY(v:Value)(xT:TypeId)(w:World):(Instr.typeAssert (.iface 201 v) xT 272 true).run prog w=.ok (.tuple #[.nilIface,.bool false]) w:=run_typeAssert_lacksB (underlying272) (by kernel_rfl) (by kernel_rfl) v xT w
def uw(v:Value)(xT:TypeId)(w:World):(Instr.typeAssert (.iface 199 v) xT 229 true).run prog w=.ok (.tuple #[.iface 199 v,.bool true]) w:=run_typeAssert_hasB (underlying229) (by kernel_rfl) v xT w
def Uj(v:Value)(xT:TypeId)(w:World):(Instr.typeAssert (.iface 201 v) xT 229 true).run prog w=.ok (.tuple #[.nilIface,.bool false]) w:=run_typeAssert_lacksB (underlying229) (by kernel_rfl) (by kernel_rfl) v xT w
def Pg(v:Value)(xT:TypeId)(w:World):(Instr.typeAssert (.iface 201 v) xT 231 true).run prog w=.ok (.tuple #[.nilIface,.bool false]) w:=run_typeAssert_lacksB (underlying231) (by kernel_rfl) (by kernel_rfl) v xT w
def ux (v : Value) (w : World) : (Go.method 513 199 v "Unwrap").run prog w = .ok (416, v) w := by kernel_rfl
def SF(a:Addr)(xt:Int)(v:Value)(w:World):Calls prog 416 #[.agg #[.int .i64 xt,v]] w fun e w'=>e=.returned v/\w'=w.alloc (.cells #[.int .i64 xt,v] 199):=by
 go_enter func416,ntmps416
 go_wp2
 go_ret
 exact⟨rfl,rfl⟩
def av4(a:Addr)(xt:Int)(w:World):
  Calls prog 118 #[atV xt (haltV a),haltV a] w fun e w'=>e=.returned (.bool true)/\bj w w':=by
 obtain⟨i,hi,hcmp⟩:=Option.map_eq_some_iff.1 ZX
 obtain⟨j,hj,hjs⟩:=Option.map_eq_some_iff.1 YJ
 have h8:=@run_callFunc_extern prog 155 _ ReflectliteType.typeOf func155 (by kernel_rfl) (by kernel_rfl) (by kernel_rfl) (by kernel_rfl)
 have h32:=QR
 have tT:=DF 0
 have mR:=sD
 have nA:=Hh
 have uA:=uw
 have mU:=ux
 have heq:=run_eql_iface_ptr_same (P:=prog) (w.alloc (.cells #[.int .i64 xt,.iface 383 (.pointer (some a))] 199)) a underlying87 underlying383 hi hcmp hj
 have hty:=run_eql_iface_types (P:=prog) 199 383 (.agg #[.int .i64 xt,.iface 383 (.pointer (some a))]) (.pointer (some a)) underlying87 (by decide) w
 unfold atV haltV
 unfold rtV at *
 go_enter func118,ntmps118
 go_wp2
 refine wp_loop_rounds 2 ?_
 rw[rounds_succ]
 go_wp2_with (go_at_call 416;refine(SF a _ _ _).mono ?_;rintro e w' ⟨rfl,rfl⟩)
 rw[rounds_succ]
 go_wp2
 go_ret
 exact⟨rfl,bj.alloc _ _⟩
def ai7(a:Addr)(xt c:Int)(w:World):
  Calls prog 118 #[atV xt (X9 c),haltV a] w fun e w'=>e=.returned (.bool false)/\bj w w':=by
 have h8:=@run_callFunc_extern prog 155 _ ReflectliteType.typeOf func155 (by kernel_rfl) (by kernel_rfl) (by kernel_rfl) (by kernel_rfl)
 have h32:=QR
 have tT:=DF 0
 have mR:=sD
 have nA:=Hh
 have nT:=UY
 have uA:=uw
 have uT:=Uj
 have vT:=Pg
 have mU:=ux
 have hty:=run_eql_iface_types (P:=prog) 199 383 (.agg #[.int .i64 xt,.iface 201 (.agg #[.int .i64 c])]) (.pointer (some a)) underlying87 (by decide) w
 have hty2:=run_eql_iface_types (P:=prog) 201 383 (.agg #[.int .i64 c]) (.pointer (some a)) underlying87 (by decide) (w.alloc (.cells #[.int .i64 xt,.iface 201 (.agg #[.int .i64 c])] 199))
 unfold atV X9 haltV
 unfold rtV at *
 go_enter func118,ntmps118
 go_wp2
 refine wp_loop_rounds 2 ?_
 rw[rounds_succ]
 go_wp2_with (go_at_call 416;refine(SF a _ _ _).mono ?_;rintro e w' ⟨rfl,rfl⟩)
 rw[rounds_succ]
 go_wp2
 go_ret
 exact⟨rfl,bj.alloc _ _⟩
end Go.Proofs.YtjcminooghmpeaaGreatDoor
namespace Go.Proofs.YtjcminooghmpeaaGreatDoor
open Go.RowKit Go.Extern.Stop Go.Stop Go.Extern
def Ld(t:Addr)(w:World):(ReflectliteValue.unpack (.iface 203 (.pointer (some t)))).run prog w
  = .ok (.agg #[.pointer (some ⟨5,203,none⟩),.pointer (some ⟨w.heap.size,0,none⟩),.int .u64 150]) (w.alloc (.cells #[.pointer (some t)] 203)):=by kernel_rfl
def ZL (a : Addr) (w : World) : (ReflectliteValue.methodAny (ReflectliteValue.valueError "reflectlite.Value.Type" 0) (fun t _ _ _ => ReflectliteType.toType t) #[.agg #[.pointer (some ⟨5, 203, none⟩), .pointer (some a), .int .u64 150]]).run prog w
  = .ok (.iface 221 (.agg #[.pointer (some ⟨5,203,none⟩)])) w:=by kernel_rfl
def RF (h : Value) (w : World) : (Go.method 513 221 (.agg #[h]) "Kind").run prog w = .ok (408, h) w := by kernel_rfl
def VM(w:World):((ReflectliteType.abiMethod fun t=>(fun a:Nat=>Value.int IntKind.u8 (a:Int)) <$> Rtype.kind t) #[.pointer (some ⟨5,203,none⟩)]).run prog w=.ok (.int .u8 22) w:=by kernel_rfl
def U9(w:World):((ReflectliteType.abiMethod fun t=>(fun a:Nat=>Value.int IntKind.u8 (a:Int)) <$> Rtype.kind t) #[.pointer (some ⟨5,201,none⟩)]).run prog w=.ok (.int .u8 25) w:=by kernel_rfl
def Rn(z:Sem Value)(f:TypeId->Addr->Nat->Nat->Sem Value)(v:Value):
  ReflectliteValue.method z f #[v]=(do match <-ReflectliteValue.parts v with|none=>z|some (t,a,fl)=>f t a fl (fl%32)):=rfl
def Dv(a:Addr)(w:World):(ReflectliteValue.parts (.agg #[.pointer (some ⟨5,203,none⟩),.pointer (some a),.int .u64 150])).run prog w=.ok (some (203,a,150)) w:=by kernel_rfl
def RP(a p:Addr)(W:World)(ha:W.cell? a=some (.pointer (some p))):
  (ReflectliteValue.method (ReflectliteValue.valueError "reflectlite.Value.IsNil" 0) ReflectliteValue.isNil #[.agg #[.pointer (some ⟨5, 203, none⟩), .pointer (some a), .int .u64 150]]).run prog W = .ok (.bool false) W := by
 rw[Rn]
 simp only[Sem.run_bind,Dv,Result.andThen]
 simp[ReflectliteValue.isNil,loadVar,isAgg,underlying,underlying203,ha,Result.andThen]
def Up (h : Value) (w : World) : (Go.method 513 221 (.agg #[h]) "Elem").run prog w = .ok (421, .agg #[h]) w := by kernel_rfl
def Q7 (h : Value) (w : World) : (Go.method 513 221 (.agg #[h]) "Implements").run prog w = .ok (422, .agg #[h]) w := by kernel_rfl
def Kg (h : Value) (w : World) : (Go.method 513 221 (.agg #[h]) "AssignableTo").run prog w = .ok (419, .agg #[h]) w := by kernel_rfl
def ZD(w:World):(ReflectliteType.method ReflectliteType.elem #[.agg #[.pointer (some ⟨5,203,none⟩)]]).run prog w=.ok (.iface 221 (.agg #[.pointer (some ⟨5,201,none⟩)])) w:=by kernel_rfl
def X3 (w : World) : (ReflectliteType.relation "Implements" ReflectliteType.implements_ #[.agg #[.pointer (some ⟨5, 201, none⟩)], .iface 221 (.agg #[.pointer (some ⟨5, 87, none⟩)])]).run prog w = .ok (.bool true) w := by kernel_rfl
def RJ(v:Value)(w:World):(ReflectliteType.typeOf #[.iface 199 v]).run prog w=.ok (.iface 221 (.agg #[.pointer (some ⟨5,199,none⟩)])) w:=by kernel_rfl
def S1(v:Value)(w:World):(ReflectliteType.typeOf #[.iface 201 v]).run prog w=.ok (.iface 221 (.agg #[.pointer (some ⟨5,201,none⟩)])) w:=by kernel_rfl
def Zj (w : World) : (ReflectliteType.relation "AssignableTo" ReflectliteType.assignableTo #[.agg #[.pointer (some ⟨5, 199, none⟩)], .iface 221 (.agg #[.pointer (some ⟨5, 201, none⟩)])]).run prog w = .ok (.bool false) w := by kernel_rfl
def YS (w : World) : (ReflectliteType.relation "AssignableTo" ReflectliteType.assignableTo #[.agg #[.pointer (some ⟨5, 201, none⟩)], .iface 221 (.agg #[.pointer (some ⟨5, 201, none⟩)])]).run prog w = .ok (.bool true) w := by kernel_rfl
def WP(v:Value)(xT:TypeId)(w:World):(Instr.typeAssert (.iface 199 v) xT 226 true).run prog w=.ok (.tuple #[.nilIface,.bool false]) w:=run_typeAssert_lacksB (underlying226) (by kernel_rfl) (by kernel_rfl) v xT w
def Ot(c:Int)(w:World):(ReflectliteValue.unpack (.iface 201 (.agg #[.int .i64 c]))).run prog w
  = .ok (.agg #[.pointer (some ⟨5,201,none⟩),.pointer (some ⟨w.heap.size,0,none⟩),.int .u64 153]) (w.alloc (.cells #[.int .i64 c] 201)):=by kernel_rfl
def PI(w:World):(Rtype.elem? 203).run prog w=.ok (some 201) w:=by kernel_rfl
def aG5(p:Addr)(w:World):(ReflectliteValue.mk 201 p ReflectliteValue.flagAddr).run prog w=.ok (.agg #[.pointer (some ⟨5,201,none⟩),.pointer (some p),.int .u64 409]) w:=by kernel_rfl
def T0(a p:Addr)(W:World)(ha:W.cell? a=some (.pointer (some p))):
  (ReflectliteValue.method (ReflectliteValue.valueError "reflectlite.Value.Elem" 0) ReflectliteValue.elem #[.agg #[.pointer (some ⟨5, 203, none⟩), .pointer (some a), .int .u64 150]]).run prog W
   = .ok (.agg #[.pointer (some ⟨5,201,none⟩),.pointer (some p),.int .u64 409]) W:=by
 rw[Rn]
 simp only[Sem.run_bind,Dv,Result.andThen]
 simp[ReflectliteValue.elem,loadVar,isAgg,underlying,underlying203,ha,Result.andThen,PI,aG5]
def OW(a:Addr)(w:World):(ReflectliteValue.parts (.agg #[.pointer (some ⟨5,201,none⟩),.pointer (some a),.int .u64 409])).run prog w=.ok (some (201,a,409)) w:=by kernel_rfl
def OA(a:Addr)(w:World):(ReflectliteValue.parts (.agg #[.pointer (some ⟨5,201,none⟩),.pointer (some a),.int .u64 153])).run prog w=.ok (some (201,a,153)) w:=by kernel_rfl
def N1(w:World):(Rtype.directlyAssignable 201 201).run prog w=.ok true w:=by kernel_rfl
def ag2(v x:Value):ReflectliteValue.set #[v,x]=(do
  let (some (dst,a,fl),some (src,b,_)):=(<-ReflectliteValue.parts v,<-ReflectliteValue.parts x)
   | unsupported (.noEntry "extern/(internal/reflectlite.Value).Set.zeroValue")
  if fl / ReflectliteValue.flagAddr % 2 == 0 then unsupported (.noEntry "extern/(internal/reflectlite.Value).Set.unaddressable")
  let val <-loadVar src b
  if <-Rtype.directlyAssignable dst src then storeVar dst a val
  else if <-Rtype.implements dst src then
   if (<-Rtype.kind src)==20 then
    match val with
    | .nilIface => unsupported (.noEntry "extern/reflectlite: a nil value of one interface type handed on as a value of another")
    | _=>storeVar dst a val
   else storeVar dst a (.iface src val)
  else panicString ("reflectlite.Set: value of type " ++ (← Rtype.spelt src) ++ " is not assignable to type " ++ (← Rtype.spelt dst))
  pure (.tuple #[])):=rfl
def ME(w:World):(sizeOf 201).run prog w=.ok 1 w:=by kernel_rfl
def as3(ta b:Addr)(c:Int)(old:Value)(W:World)(hb:W.cell? b=some (.int .i64 c))(ht:W.cell? ta=some old)(hf:W.frozen? ta=false):
  (ReflectliteValue.set #[.agg #[.pointer (some ⟨5,201,none⟩),.pointer (some ta),.int .u64 409],.agg #[.pointer (some ⟨5,201,none⟩),.pointer (some b),.int .u64 153]]).run prog W
   = .ok (.tuple #[]) (W.setCell ta (.int .i64 c)):=by
 have hl:(loadVar 201 b).run prog W=.ok (.agg #[.int .i64 c]) W:=by
  have h1:=run_loadCells_list (P:=prog) W b [.int .i64 c] (fun j v hj=>by
   match j,hj with
   | 0,hj=>cases hj;rw[show b.add 0=b from by simp[Addr.add]];exact hb
   | j+1,hj=>simp at hj)
  unfold loadVar
  have h2:(loadCells b 1).run prog W=.ok #[.int .i64 c] W:=by simpa using h1
  simp[isAgg,underlying,underlying201,Result.andThen,ME,h2]
 have hs:(storeVar 201 ta (.agg #[.int .i64 c])).run prog W=.ok () (W.setCell ta (.int .i64 c)):=by
  simp[storeVar,Value.cells,storeCells,Addr.add,ME,Result.andThen]
  rw[run_store prog W ta _ _ (by rfl)]
  simp[ht,hf]
 rw[ag2]
 simp only[Sem.run_bind,OW,OA,Result.andThen]
 simp[ReflectliteValue.flagAddr,hl,hs,Result.andThen,N1]
def aq3(xt c:Int)(t:Addr)(old:Value)(w:World)(hg:w.cell? ⟨0,0,none⟩=some (.iface 221 (.agg #[.pointer (some ⟨5,87,none⟩)])))(ht0:w.cell? t=some old)(hf0:w.frozen? t=false):
  Calls prog 83 #[.iface 199 (.agg #[.int .i64 xt,.iface 201 (.agg #[.int .i64 c])]),.iface 203 (.pointer (some t))] w fun ev w'=>ev=.returned (.bool true)/\∃w1,bj w w1/\w'=w1.setCell t (.int .i64 c):=by
 have h6:=@run_callFunc_extern prog 108 _ (fun args=>ReflectliteValue.unpack (args.getD 0 (.tuple #[]))) func108 (by kernel_rfl) (by kernel_rfl) (by kernel_rfl) (by kernel_rfl)
 have h7 := @run_callFunc_extern prog 109 _ (ReflectliteValue.methodAny (ReflectliteValue.valueError "reflectlite.Value.Type" 0) (fun t _ _ _ => ReflectliteType.toType t)) func109 (by kernel_rfl) (by kernel_rfl) (by kernel_rfl) (by kernel_rfl)
 have h8 := @run_callFunc_extern prog 110 _ (ReflectliteValue.method (ReflectliteValue.valueError "reflectlite.Value.IsNil" 0) ReflectliteValue.isNil) func110 (by kernel_rfl) (by kernel_rfl) (by kernel_rfl) (by kernel_rfl)
 have h27:=@run_callFunc_extern prog 408 _ (ReflectliteType.abiMethod fun t=>do pure (.int .u8 (<-Rtype.kind t))) func408 (by kernel_rfl) (by kernel_rfl) (by kernel_rfl) (by kernel_rfl)
 have h37:=@run_callFunc_extern prog 421 _ (ReflectliteType.method ReflectliteType.elem) func421 (by kernel_rfl) (by kernel_rfl) (by kernel_rfl) (by kernel_rfl)
 have h38 := @run_callFunc_extern prog 422 _ (ReflectliteType.relation "Implements" ReflectliteType.implements_) func422 (by kernel_rfl) (by kernel_rfl) (by kernel_rfl) (by kernel_rfl)
 have h10:=@run_callFunc_extern prog 155 _ ReflectliteType.typeOf func155 (by kernel_rfl) (by kernel_rfl) (by kernel_rfl) (by kernel_rfl)
 have h35 := @run_callFunc_extern prog 419 _ (ReflectliteType.relation "AssignableTo" ReflectliteType.assignableTo) func419 (by kernel_rfl) (by kernel_rfl) (by kernel_rfl) (by kernel_rfl)
 have h11 := @run_callFunc_extern prog 156 _ (ReflectliteValue.method (ReflectliteValue.valueError "reflectlite.Value.Elem" 0) ReflectliteValue.elem) func156 (by kernel_rfl) (by kernel_rfl) (by kernel_rfl) (by kernel_rfl)
 have h12:=@run_callFunc_extern prog 157 _ ReflectliteValue.set func157 (by kernel_rfl) (by kernel_rfl) (by kernel_rfl) (by kernel_rfl)
 have tA:=RJ
 have tT:=S1
 have mA:=Kg
 have aA:=Zj
 have aT:=YS
 have vT:=Ot
 have f6:=Ld
 have f7:=ZL
 have mK:=RF
 have mE:=Up
 have mI:=Q7
 have kP:=VM
 have kT:=U9
 have eP:=ZD
 have iT:=X3
 have nA:=WP
 have uA:=uw
 have mU:=ux
 have hlt:0<w.heap.size:=by
  rcases Nat.lt_or_ge 0 w.heap.size with h|h
  ·exact h
  simp[World.cell?,Array.getElem?_eq_none h]at hg
 have htl:t.block<w.heap.size:=by
  rcases Nat.lt_or_ge t.block w.heap.size with h|h
  ·exact h
  simp[World.cell?,Array.getElem?_eq_none h]at ht0
 let A1:Obj:=.cells #[.pointer (some t)] 203
 let A2:Obj:=.cells #[.pointer (some ⟨5,203,none⟩),.pointer (some ⟨w.heap.size,0,none⟩),.int .u64 150] 184
 let A4:Obj:=.cells #[.int .i64 xt,.iface 201 (.agg #[.int .i64 c])] 199
 let A5:Obj:=.cells #[.int .i64 c] 201
 have n8:=RP ⟨w.heap.size,0,none⟩ t ((w.alloc A1).alloc A2) (by simp[A1])
 have hg2:((w.alloc A1).alloc A2).cell? ⟨0,0,none⟩=some (.iface 221 (.agg #[.pointer (some ⟨5,87,none⟩)])):=by
  rw[World.cell?_alloc_lt _ _ ⟨0,0,none⟩ (by(simp;done)),World.cell?_alloc_lt _ _ ⟨0,0,none⟩ hlt];exact hg
 have el:=T0 ⟨w.heap.size,0,none⟩ t ((((w.alloc A1).alloc A2).alloc A2).alloc A4) (by rw[World.cell?_alloc_lt _ _ ⟨w.heap.size,0,none⟩ (by(simp;omega)),World.cell?_alloc_lt _ _ ⟨w.heap.size,0,none⟩ (by(simp;omega))];simp[A1])
 have st:=as3 t ⟨w.heap.size+1+1+1+1,0,none⟩ c old (((((w.alloc A1).alloc A2).alloc A2).alloc A4).alloc A5)
  (by rw[World.cell?_alloc_at _ _ _ _ (by simp)];rfl)
  (by rw[World.cell?_alloc_lt _ _ t (by(simp;omega)),World.cell?_alloc_lt _ _ t (by(simp;omega)),World.cell?_alloc_lt _ _ t (by(simp;omega)),World.cell?_alloc_lt _ _ t (by(simp;omega)),World.cell?_alloc_lt _ _ t htl];exact ht0)
  (by rw[World.frozen?_alloc_old _ _ t (by(simp;omega)),World.frozen?_alloc_old _ _ t (by(simp;omega)),World.frozen?_alloc_old _ _ t (by(simp;omega)),World.frozen?_alloc_old _ _ t (by(simp;omega)),World.frozen?_alloc_old _ _ t (Nat.ne_of_lt htl)];exact hf0)
 simp only[A1,A2,A4,A5]at n8 hg2 el st
 clear A1 A2 A4 A5
 go_enter func83,ntmps83
 go_wp2
 refine wp_loop_rounds 2 ?_
 rw[rounds_succ]
 go_wp2_with (go_at_call 416;refine(SF t xt _ _).mono ?_;rintro e w' ⟨rfl,rfl⟩)
 rw[rounds_succ]
 go_wp2
 go_ret
 exact⟨rfl,_,((((bj.alloc _ _).trans (bj.alloc _ _)).trans (bj.alloc _ _)).trans (bj.alloc _ _)).trans (bj.alloc _ _),rfl⟩
open Go.RowKit
def DN(v v':VVm):VVm:={v' with mem:=v.mem,here:=v.here,d:=v.d,out:=v.out,pic:=v.pic,req:=v.req,free:=v.free,next:=v.next}
structure pg (v v':VVm):Prop where
 same:DN v v'=v
 dd:v'.d=v.d
 mem:dN v.mem v'.mem 2
 here:1368<=v.here->v.here<=v.mem.b.length->1368<=v'.here/\v'.here<=v.mem.b.length
 pic:eK v.pic->eK v'.pic
 out:v.out.length<=v.conf.out->v'.out.length<=v.conf.out
 req:v.req.length<=16->v'.req.length<=16
 free:0<=v.free->v.free<=64->0<=v'.free/\v'.free<=64
 next:0<=v.next->v.next<=4611686018427387904->0<=v'.next/\v'.next<=4611686018427387904
def pg.refl(v:VVm):pg v v:=⟨rfl,rfl,.refl _ _,fun a b=>⟨a,b⟩,id,id,id,fun a b=>⟨a,b⟩,fun a b=>⟨a,b⟩⟩
def O3{v:VVm}{m:bh}{k:Nat}(h:dN v.mem m k)(hk:k<=2):pg v (aU v m) :=
 ⟨rfl,rfl,h.up hk,fun a b=>⟨a,b⟩,id,id,id,fun a b=>⟨a,b⟩,fun a b=>⟨a,b⟩⟩
def pX{v:VVm}{p:dV}(h:eK v.pic->eK p):pg v (tY v p) :=
 ⟨rfl,rfl,.refl _ _,fun a b=>⟨a,b⟩,h,id,id,fun a b=>⟨a,b⟩,fun a b=>⟨a,b⟩⟩
def ro{v:VVm}{r:bh×Int×Int}(h:dN v.mem r.1 1)(hh:1368<=v.here->v.here<=v.mem.b.length->1368<=r.2.1/\r.2.1<=v.mem.b.length):pg v (fc v r).1 :=
 ⟨rfl,rfl,h.up (by omega),hh,id,id,id,fun a b=>⟨a,b⟩,fun a b=>⟨a,b⟩⟩
def IV(v:VVm)(r:Str×Int):pg v (cG v r).1:=by
 unfold cG gF
 split
 ·split
  ·exact .refl v
  rename_i h
  exact⟨rfl,rfl,.refl _ _,fun a b=>⟨a,b⟩,id,fun _=>by simp only[List.length_append];omega,id,fun a b=>⟨a,b⟩,fun a b=>⟨a,b⟩⟩
 exact .refl v
def Ph(v:VVm):pg v (xL v).1:=by
 unfold xL
 split
 ·exact⟨rfl,rfl,(kR _ _ _).up (by omega),fun a b=>⟨a,b⟩,fun _=>⟨by simp[tY],.inr rfl⟩,id,id,fun a b=>⟨a,b⟩,fun a b=>⟨a,b⟩⟩
 exact .refl v
def KI{n:Int}(h:ae n):W64 n=n:=by unfold W64;rw[bU];exact da n h
def Dy(v:VVm)(q:rQ)(h:¬16<=(v.req.length:Int)):pg v (CD v q) :=
 ⟨rfl,rfl,.refl _ _,fun a b=>⟨a,b⟩,id,id,fun _=>by simp only[CD,List.length_append,List.length_singleton];omega,fun a b=>⟨a,b⟩,fun a b=>⟨a,b⟩⟩
def FA(v:VVm)(x:List Int):pg v (jG v x).1:=by
 unfold jG;split
 ·exact .refl v
 rename_i h;exact Dy v _ h
def LQ(v:VVm)(x:List Int):pg v (ka v x).1:=by
 unfold ka;split
 ·exact .refl v
 split
 ·exact .refl v
 rename_i h;exact Dy v _ h
def yp(k:Int)(v:VVm)(x:List Int):pg v (dy k v x).1:=by
 unfold dy;split
 ·exact .refl v
 split
 ·exact .refl v
 split
 ·exact .refl v
 rename_i h
 split
 ·exact .refl v
 rename_i hw
 refine⟨rfl,rfl,.refl _ _,fun a b=>⟨a,b⟩,id,id,fun _=>by simp only[CD,List.length_append,List.length_singleton];omega,fun a b=>?_,fun a b=>?_⟩
 ·simp only
  rw[KI (by unfold ae;omega)]
  have:v.free≠0:=fun h=>hw (.inl h)
  omega
 simp only
 rw[KI (by unfold ae;omega)]
 have:v.next≠4611686018427387904:=fun h=>hw (.inr h)
 omega
def Jl(v:VVm)(x:List Int):dN v.mem (rZ v x).1 1:=by
 unfold rZ;split
 ·exact cN _ _ _
 exact .refl _ _
def Fk(v:VVm)(x:List Int):dN v.mem (oS v x).1 2:=by
 unfold oS;split
 ·exact(cN _ _ _).trans (cN _ _ _)
 exact(cN _ _ _).up (by omega)
def iZ{v:VVm}{r:bh×Int}{k:Nat}(h:dN v.mem r.1 k)(hk:k<=2):pg v (du v r).1:=O3 h hk
def gm(l:List Int):Prop:=∀a∈l,ae a
def bE:gm []:=fun a h=>by simp at h
def db{a:Int}(h:ae a):gm [a]:=fun b hb=>by simp at hb;subst hb;exact h
def gZ{a b:Int}(h:ae a)(g:ae b):gm [a,b]:=fun c hc=>by simp at hc;rcases hc with rfl|rfl;exact h;exact g
def KF(v:VVm)(r:VVm×List Int×Int):Prop:=pg v r.1/\gm r.2.1
def wo{x:List Int}(h:gm x)(i:Nat):ae (xat x i):=XOk.fit (k:=0) ⟨Nat.zero_le _,h⟩ i
def al{α:Type}{c:Prop}[Decidable c]{a r:α}{b:Option α}(h:(if c then some a else b)=some r):a=r\/b=some r:=by
 by_cases hc:c
 ·rw[if_pos hc]at h;exact .inl (Option.some.inj h)
 rw[if_neg hc]at h;exact .inr h
def ol{α:Type}{P:α->Prop}{c:Prop}[Decidable c]{a b:α}(h1:P a)(h2:P b):P (if c then a else b):=by
 by_cases hc:c
 ·rw[if_pos hc];exact h1
 rw[if_neg hc];exact h2
def Kt{name:Str}{x:List Int}{r:List Int×Int}(hx:gm x)(h:qT name x=some r):gm r.1:=by
 have f:=wo hx
 unfold qT at h
 rcases al h with rfl|h
 ·exact gZ (yV (f 1)).2 (yV (f 1)).1
 rcases al h with rfl|h
 ·exact db (sb (f 2)).1
 rcases al h with rfl|h
 ·exact gZ (sb (f 2)).2 (sb (f 2)).1
 rcases al h with rfl|h
 ·exact gZ (Ig _) (Ig _)
 rcases al h with rfl|h
 ·exact gZ (AH (f 0) (f 1)).1 (AH (f 0) (f 1)).2
 rcases al h with rfl|h
 ·exact gZ vg.2 vg.1
 rcases al h with rfl|h
 ·exact gZ (GV (f 2)).2 (GV (f 2)).1
 rcases al h with rfl|h
 ·exact gZ (sb (f 2)).2 (sb (f 2)).1
 rcases al h with rfl|h
 ·exact gZ (f 0) (wB _)
 rcases al h with rfl|h
 ·exact db (wB _)
 rcases al h with rfl|h
 ·exact db (by unfold ae;omega)
 rcases al h with rfl|h
 ·exact db (by unfold ae;omega)
 rcases al h with rfl|h
 ·exact db (by unfold ae;omega)
 rcases al h with rfl|h
 ·exact db (by unfold ae;omega)
 rcases al h with rfl|h
 ·exact db (by unfold ae;omega)
 cases h
def OE{v:VVm}{name:Str}{x:List Int}{r:VVm×List Int×Int}(hx:gm x)(h:qw v name x=some r):KF v r:=by
 have f:=wo hx
 unfold qw at h
 rcases al h with rfl|h
 ·exact⟨.refl v,db (tt _ _)⟩
 rcases al h with rfl|h
 ·exact⟨.refl v,db (AR _ _)⟩
 rcases al h with rfl|h
 ·exact⟨iZ (cN _ _ _) (by omega),bE⟩
 rcases al h with rfl|h
 ·exact⟨iZ (kR _ _ _) (by omega),bE⟩
 rcases al h with rfl|h
 ·exact⟨iZ (Jl _ _) (by omega),bE⟩
 rcases al h with rfl|h
 ·unfold lx;split
  ·exact⟨.refl v,gZ (tt _ _) (tt _ _)⟩
  exact⟨.refl v,bE⟩
 rcases al h with rfl|h
 ·exact⟨iZ (Fk _ _) (by omega),bE⟩
 rcases al h with rfl|h
 ·exact⟨iZ (JN _ _ _ _) (by omega),bE⟩
 rcases al h with rfl|h
 ·exact⟨iZ (LR _ _ _ _) (by omega),bE⟩
 rcases al h with rfl|h
 ·exact⟨.refl v,gZ (qn _) (AR _ _)⟩
 rcases al h with rfl|h
 ·exact⟨iZ (cN _ _ _) (by omega),bE⟩
 rcases al h with rfl|h
 ·exact⟨iZ (cN _ _ _) (by omega),bE⟩
 rcases al h with rfl|h
 ·unfold gX;split
  ·exact⟨iZ (cN _ _ _) (by omega),bE⟩
  exact⟨.refl v,bE⟩
 rcases al h with rfl|h
 ·unfold jm;split
  ·exact⟨iZ (cN _ _ _) (by omega),bE⟩
  exact⟨.refl v,bE⟩
 cases h
def K5{v:VVm}{x:List Int}(h0:1368<=v.here)(h1:v.here<=v.mem.b.length):1368<=(uf v x).2.1/\(uf v x).2.1<=v.mem.b.length:=by
 unfold uf mH
 simp only
 split<;>simp only<;>omega
def TJ{v:VVm}{name:Str}{x:List Int}{r:VVm×List Int×Int}(h:uz v name x=some r):KF v r:=by
 unfold uz at h
 rcases al h with rfl|h
 ·exact⟨ro (.refl _ _) (fun a b=>K5 a b),bE⟩
 rcases al h with rfl|h
 ·refine⟨ro ?_ ?_,bE⟩
  ·unfold ct;split
   ·exact ic _
   exact .refl _ _
  unfold ct;split
  ·exact fun a b=>iM _ a b
  exact fun a b=>⟨a,b⟩
 rcases al h with rfl|h
 ·exact⟨ro (ic _) (fun a b=>iM _ a b),bE⟩
 rcases al h with rfl|h
 ·exact⟨ro (ic _) (fun a b=>iM _ a b),bE⟩
 cases h
def Sw(v:VVm)(r:Str×Int):KF v (cG v r):=⟨IV v r,by unfold cG;split<;>exact bE⟩
def Ww{v:VVm}{name:Str}{x:List Int}{r:VVm×List Int×Int}(hx:gm x)(hc : -100<=v.conf.mem/\v.conf.mem<=100000)(hp:v.pic.b.length<=1000000)(h:Bf v name x=some r):KF v r:=by
 have f:=wo hx
 unfold Bf at h
 rcases al h with rfl|h
 ·exact⟨pX (fun _=>⟨by simp,.inl rfl⟩),bE⟩
 rcases al h with rfl|h
 ·exact⟨pX (sz _ _ _),gZ (Dj (f 0) (f 1)).1 (Dj (f 0) (f 1)).2⟩
 rcases al h with rfl|h
 ·exact⟨pX (O7 _ _ _),gZ jS jS⟩
 rcases al h with rfl|h
 ·exact⟨pX (ug _),bE⟩
 rcases al h with rfl|h
 ·exact⟨pX (Lc _),bE⟩
 rcases al h with rfl|h
 ·refine⟨Ph v,?_⟩
  unfold xL;split
  ·have:=AG v.pic
   exact gZ (qn _) (by unfold ae;omega)
  exact bE
 cases h
def ah8{v:VVm}{name:Str}{x:List Int}{r:VVm×List Int×Int}(hn:ae v.next)(h:A8 v name x=some r):KF v r:=by
 unfold A8 at h
 have ht:∀k,gm (dy k v x).2.1:=fun k=>by unfold dy;split;exact bE;split;exact bE;split;exact bE;split;exact bE;exact db hn
 rcases al h with rfl|h
 ·exact⟨LQ _ _,by unfold ka;split;exact bE;split<;>exact bE⟩
 rcases al h with rfl|h
 ·exact⟨FA _ _,by unfold jG;split<;>exact bE⟩
 rcases al h with rfl|h
 ·exact⟨yp _ _ _,ht _⟩
 rcases al h with rfl|h
 ·exact⟨yp _ _ _,ht _⟩
 cases h
def YY{v:VVm}{name:Str}{x:List Int}(hh:ae v.here/\ae v.arg/\ae v.self/\ae v.now):KF v (Iv v name x):=by
 unfold Iv
 split
 ·exact⟨.refl v,db hh.1⟩
 split
 ·exact⟨.refl v,db hh.2.1⟩
 split
 ·exact⟨.refl v,db hh.2.2.1⟩
 split
 ·exact⟨.refl v,db hh.2.2.2⟩
 split
 ·unfold vI;split
  ·exact⟨.refl v,bE⟩
  exact⟨.refl v,db (qn _)⟩
 exact⟨.refl v,bE⟩
structure vD (N:Nat) (v:VVm):Prop where
 right:Gi v=true
 old:v.mem.old.length<=N
 d:gm v.d
 ints:ae v.arg/\ae v.self/\ae v.now
structure wQ (v:VVm):Prop where
 gl:eG v.conf
 mem:mB v.mem=true
 dict:iz v.dict=true
 pic:eK v.pic
 len:(v.mem.b.length:Int)=v.conf.mem
 jM:1368<=v.here
 jP:v.here<=v.conf.mem
 f:v.f.all qs=true
 hand:v.hand.all Gg=true
 d:(v.d.length:Int)<=v.conf.data
 r:(v.r.length:Int)<=v.conf.ret
 fl:v.f.length<=64
 dl:(v.dict.length:Int)<=v.conf.words
 out:(v.out.length:Int)<=v.conf.out
 req:v.req.length<=16
 free0:0<=v.free
 free1:v.free<=64
 next0:0<=v.next
 next1:v.next<=4611686018427387904
 handl:v.hand.length<=64
def mf(v:VVm):Gi v=true↔wQ v:=by
 unfold Gi Vo QF
 simp only[Bool.and_eq_true,decide_eq_true_eq]
 constructor
 ·rintro⟨⟨a1,a2,a3,a4,a5,a6,a7⟩,a8,a9,a10,a11,a12,a13,a14,a15,a16,a17,a18,a19,a20⟩
  exact⟨a1,a2,a3,a4,a5,a6,a7,a8,a9,a10,a11,a12,a13,a14,a15,a16,a17,a18,a19,a20⟩
 rintro⟨a1,a2,a3,a4,a5,a6,a7,a8,a9,a10,a11,a12,a13,a14,a15,a16,a17,a18,a19,a20⟩
 exact⟨⟨a1,a2,a3,a4,a5,a6,a7⟩,a8,a9,a10,a11,a12,a13,a14,a15,a16,a17,a18,a19,a20⟩
def MQ{v:VVm}{n:Int}{name:Str}{x:List Int}{N:Nat}(g:vD N v)(hx:gm x):KF v (bF v n name x):=by
 have R:=(mf v).1 g.right
 have f:=wo hx
 have hm:=R.gl
 unfold eG at hm
 unfold bF
 split
 ·exact⟨.refl v,db (QI _ (f 0) (f 1))⟩
 split
 ·exact⟨.refl v,db (QS _ (f 0))⟩
 cases h1:qT name x with
 | some r=>exact⟨.refl v,Kt hx h1⟩
 | none =>
  cases h2:qw v name x with
  | some r=>exact OE hx h2
  | none =>
   cases h3:uz v name x with
   | some r=>exact TJ h3
   | none =>
    cases h4:GR v name x with
    | some r=>exact Sw v r
    | none =>
     cases h5:Bf v name x with
     | some r=>exact Ww hx (by omega) (by have:=R.pic.1;omega) h5
     | none =>
      cases h6:A8 v name x with
      | some r=>exact ah8 (by have:=R.next0;have:=R.next1;unfold ae;omega) h6
      | none=>exact YY ⟨by have:=R.jM;have:=R.jP;unfold ae;omega,g.ints⟩
def Rb{name:Str}{x:List Int}{d:Nat}(hx:gm x)(hd:d<=100000):gm (zS name x d):=by
 have f:=wo hx
 have hq:∀l:List Int,(∀a∈l,a∈x\/(∃i,a=xat x i)\/a=d)->gm l:=fun l h a ha=>by
  rcases h a ha with h|⟨i,rfl⟩|rfl
  ·exact hx a h
  ·exact f i
  unfold ae;omega
 unfold zS
 refine ol (P:=gm) (hq _ fun a ha=>by simp only[List.mem_cons,List.not_mem_nil,or_false]at ha;rcases ha with rfl|rfl<;>exact .inr (.inl ⟨_,rfl⟩)) ?_
 refine ol (P:=gm) (hq _ fun a ha=>by simp only[List.mem_cons,List.not_mem_nil,or_false]at ha;rcases ha with rfl|rfl<;>exact .inr (.inl ⟨_,rfl⟩)) ?_
 refine ol (P:=gm) (hq _ fun a ha=>by simp only[List.mem_cons,List.not_mem_nil,or_false]at ha;rcases ha with rfl|rfl|rfl<;>exact .inr (.inl ⟨_,rfl⟩)) ?_
 refine ol (P:=gm) (hq _ fun a ha=>by simp only[List.mem_cons,List.not_mem_nil,or_false]at ha;subst ha;exact .inr (.inl ⟨_,rfl⟩)) ?_
 refine ol (P:=gm) (hq _ fun a ha=>by simp only[List.mem_cons,List.not_mem_nil,or_false]at ha;rcases ha with rfl|rfl|rfl<;>exact .inr (.inl ⟨_,rfl⟩)) ?_
 refine ol (P:=gm) (hq _ fun a ha=>by simp only[List.mem_cons,List.not_mem_nil,or_false]at ha;rcases ha with rfl|rfl|rfl<;>exact .inr (.inl ⟨_,rfl⟩)) ?_
 refine ol (P:=gm) (hq _ fun a ha=>by simp only[List.mem_cons,List.not_mem_nil,or_false]at ha;rcases ha with rfl|rfl|rfl<;>exact .inr (.inl ⟨_,rfl⟩)) ?_
 refine ol (P:=gm) (hq _ fun a ha=>by simp only[List.mem_cons,List.not_mem_nil,or_false]at ha;rcases ha with rfl|rfl|rfl|rfl<;>exact .inr (.inl ⟨_,rfl⟩)) ?_
 refine ol (P:=gm) (hq _ fun a ha=>by simp only[List.mem_cons,List.not_mem_nil,or_false]at ha;rcases ha with rfl|rfl|rfl|rfl<;>exact .inr (.inl ⟨_,rfl⟩)) ?_
 refine ol (P:=gm) (hq _ fun a ha=>by simp only[List.mem_cons,List.not_mem_nil,or_false]at ha;rcases ha with rfl|rfl|rfl|rfl|rfl|rfl<;>exact .inr (.inl ⟨_,rfl⟩)) ?_
 refine ol (P:=gm) (ol (P:=gm) hx (hq _ fun a ha=>by simp only[List.mem_cons,List.not_mem_nil,or_false]at ha;rcases ha with rfl|rfl<;>exact .inr (.inl ⟨_,rfl⟩))) ?_
 refine ol (P:=gm) (hq _ fun a ha=>by simp only[List.mem_cons,List.not_mem_nil,or_false]at ha;exact .inr (.inr ha)) ?_
 refine ol (P:=gm) (hq _ fun a ha=>by rcases List.mem_append.1 ha with h|h;exact .inl (List.mem_of_mem_take h);exact .inr (.inl ⟨_,List.mem_singleton.1 h⟩)) ?_
 refine ol (P:=gm) (hq _ fun a ha=>by rcases List.mem_append.1 ha with h|h;exact .inl (List.mem_of_mem_take (List.mem_of_mem_drop h));exact .inr (.inl ⟨_,List.mem_singleton.1 h⟩)) ?_
 exact bE
def H6{name:Str}{s:List Int}{limit:Int}(hs:gm s)(hl:s.length<=100000):gm (dz name s limit).1:=by
 unfold dz
 split
 ·exact hs
 split
 ·exact hs
 split
 ·exact hs
 intro a ha
 rcases List.mem_append.1 ha with ha|ha
 ·exact hs a (List.mem_of_mem_take ha)
 exact Rb (fun b hb=>hs b (List.mem_of_mem_drop hb)) hl a ha
def IJ{name:Str}{s:List Int}{limit:Int}(hs:(s.length:Int)<=limit):((dz name s limit).1.length:Int)<=limit:=by
 unfold dz
 split
 ·exact hs
 split
 ·exact hs
 split
 ·exact hs
 rename_i h;simp only[List.length_append,List.length_take];omega
def Jh{v:VVm}{n:Int}{N:Nat}(g:vD N v):DN v (doS v n).1=v:=by
 by_cases h:n<23\/129<n
 ·unfold doS;rw[if_pos h];rfl
 by_cases h1:n<=38
 ·unfold doS;rw[if_neg h];simp only;rw[if_pos h1];rfl
 rw[aK (by omega) (by omega)]
 unfold doR
 split
 ·rfl
 split
 ·rfl
 split
 ·rfl
 exact(MQ g (fun a ha=>g.d a (List.mem_of_mem_drop ha))).1.same
def xX{v v':VVm}{d:List Int}(R:wQ v)(K:pg v v')(hd:(d.length:Int)<=v.conf.data):wQ {v' with d:=d}:=by
 have s:=K.same
 unfold DN at s
 have e1:v'.conf=v.conf:=by rw[<-s]
 have e2:v'.dict=v.dict:=by rw[<-s]
 have e3:v'.f=v.f:=by rw[<-s]
 have e4:v'.hand=v.hand:=by rw[<-s]
 have e5:v'.r=v.r:=by rw[<-s]
 have h1:=K.here R.jM (by have:=R.jP;have:=R.len;omega)
 have h2:=K.free R.free0 R.free1
 have h3:=K.next R.next0 R.next1
 have hl:=K.mem.len
 have hl2:=R.len
 exact⟨by rw[e1];exact R.gl,K.mem.right R.mem,by rw[e2];exact R.dict,K.pic R.pic,by simp only[e1];rw[hl];exact hl2,h1.1,by simp only[e1];omega,by rw[e3];exact R.f,by rw[e4];exact R.hand,by simp only[e1];exact hd,by simp only[e1,e5];exact R.r,by rw[e3];exact R.fl,by simp only[e1,e2];exact R.dl,by simp only[e1];exact K.out R.out,K.req R.req,h2.1,h2.2,h3.1,h3.2,by rw[e4];exact R.handl⟩
def Rx{v:VVm}{n:Int}{N:Nat}(g:vD N v):vD (N+2) (doS v n).1:=by
 have R:=(mf v).1 g.right
 have hc:=R.gl
 unfold eG at hc
 have hdl:=R.d
 have stay:vD (N+2) v:=⟨g.right,by have:=g.old;omega,g.d,g.ints⟩
 by_cases h:n<23\/129<n
 ·unfold doS;rw[if_pos h];exact stay
 by_cases h1:n<=38
 ·unfold doS;rw[if_neg h];simp only;rw[if_pos h1]
  refine⟨(mf _).2 (xX R (.refl v) (IJ R.d)),by show v.mem.old.length<=_;have:=g.old;omega,H6 g.d (by omega),g.ints⟩
 rw[aK (by omega) (by omega)]
 have K:=MQ (n:=n) (name:=aq.getD n.toNat []) g (x:=v.d.drop (v.d.length-aX n (aq.getD n.toNat []))) (fun a ha=>g.d a (List.mem_of_mem_drop ha))
 generalize bF v n (aq.getD n.toNat []) (v.d.drop (v.d.length-aX n (aq.getD n.toNat [])))=r at K ⊢
 unfold doR
 split
 ·exact stay
 split
 ·exact stay
 split
 ·exact stay
 rename_i q0 q1 q2
 have s:=K.1.same
 unfold DN at s
 refine⟨(mf _).2 (xX R K.1 (by simp only[List.length_append,List.length_take];omega)),?_,fun a ha=>?_,?_⟩
 ·have:=K.1.mem.old;have:=g.old;show _<=_;simp only;omega
 ·rcases List.mem_append.1 ha with ha|ha
  ·exact g.d a (List.mem_of_mem_take ha)
  exact K.2 a ha
 have a1:r.1.arg=v.arg:=by have h:=congrArg VVm.arg K.1.same;exact h
 have a2:r.1.self=v.self:=by have h:=congrArg VVm.self K.1.same;exact h
 have a3:r.1.now=v.now:=by have h:=congrArg VVm.now K.1.same;exact h
 simp only[a1,a2,a3]
 exact g.ints
def XW{v:VVm}{N:Nat}(g:vD N v)(hN:N<=900000):dA v:=by
 have R:=(mf v).1 g.right
 have hc:=R.gl
 unfold eG at hc
 have h1:=R.len
 have h2:=g.old
 have h3:=R.jM
 have h4:=R.jP
 have h5:=R.out
 have h6:=R.pic.1
 have h7:=R.req
 have h8:=R.handl
 have h9:=R.d
 exact⟨⟨by omega,by omega⟩,by omega,⟨by omega,by omega⟩,by omega,by omega,by omega,by omega,by omega,by omega,g.d,by unfold ae;omega⟩
structure VX (M:Nat) (v:VVm):Prop where
 b:v.mem.b.length<=65536
 old:v.mem.old.length<=M
 d:v.d.length<=300
 r:v.r.length<=300
 f:v.f.length<=300
 fd:gm v.d
 fr:gm v.r
 ff:∀x∈v.f,ae x.ip
 data:0<=v.conf.data/\v.conf.data<=256
 ret:0<=v.conf.ret/\v.conf.ret<=256
 la:ae v.last
structure KX (M:Nat) (k:PW):Prop where
 v:VX M k.r.vm
 ip:ae k.r.ip
 w:ae k.r.w
def VX.mem{M:Nat}{v:VVm}(h:VX M v)(hM:M<=1000000):cX v.mem:=⟨by have:=h.b;omega,by have:=h.old;omega⟩
def VX.up{M N:Nat}{v:VVm}(h:VX M v)(hM:M<=N):VX N v:=⟨h.b,by have:=h.old;omega,h.d,h.r,h.f,h.fd,h.fr,h.ff,h.data,h.ret,h.la⟩
def KX.up{M N:Nat}{k:PW}(h:KX M k)(hM:M<=N):KX N k:=⟨h.v.up hM,h.ip,h.w⟩
def KX.la{M:Nat}{k:PW}(h:KX M k):ae k.r.vm.last:=h.v.la
def Hf{M:Nat}{v:VVm}(h:VX M v):ae v.conf.data/\ae v.conf.ret:=by
 have:=h.data;have:=h.ret;unfold ae;omega
def bC:ae 0:=by unfold ae;omega
def jr{a b:List Int}(h:gm a)(k:gm b):gm (a++b):=fun x hx=>by
 rcases List.mem_append.1 hx with hx|hx
 ·exact h x hx
 exact k x hx
def nR{a:List Int}(n:Nat)(h:gm a):gm (a.take n):=fun x hx=>h x (List.mem_of_mem_take hx)
def vk{a:List Int}(h:gm a)(i:Nat):ae (a.getD i 0):=by
 rw[List.getD_eq_getElem?_getD]
 rcases e:a[i]? with _|x
 ·exact bC
 exact h x (List.mem_of_getElem? e)
def cU(n:Int):ae (W64 n):=by
 show ae (IntKind.i64.wrap n)
 rw[bU];exact iB n
def H8(m:bh)(a:Int):ae (am m a).1:=by
 unfold am;split
 ·unfold B5;exact iB _
 exact bC
section
variable {M : Nat} {v : VVm}
def Xp(h:VX M v){n:Int}(hn:ae n):VX M (dZ v n).1:=by
 unfold dZ fR
 by_cases q:v.conf.data<=(v.d.length:Int)
 ·simp only[if_pos q];exact h
 simp only[if_neg q]
 exact⟨h.b,h.old,by have:=h.data;simp only[List.length_append,List.length_singleton];omega,h.r,h.f,jr h.fd (db hn),h.fr,h.ff,h.data,h.ret,h.la⟩
def Q3(h:VX M v){n:Int}(hn:ae n):VX M (fp v n).1:=by
 unfold fp
 by_cases q:v.conf.ret<=(v.r.length:Int)
 ·simp only[if_pos q];exact h
 simp only[if_neg q]
 exact⟨h.b,h.old,h.d,by have:=h.ret;simp only[List.length_append,List.length_singleton];omega,h.f,h.fd,jr h.fr (db hn),h.ff,h.data,h.ret,h.la⟩
def FE(h:VX M v):VX M (dH v).2.1/\ae (dH v).1:=by
 unfold dH bg
 by_cases q:v.d.length=0
 ·simp only[if_pos q];exact⟨h,bC⟩
 simp only[if_neg q]
 exact⟨⟨h.b,h.old,by have:=h.d;simp only[List.length_take];omega,h.r,h.f,nR _ h.fd,h.fr,h.ff,h.data,h.ret,h.la⟩,vk h.fd _⟩
def EG(h:VX M v):VX M (fw v).2.1/\ae (fw v).1:=by
 unfold fw
 by_cases q:v.r.length=0
 ·simp only[if_pos q];exact⟨h,bC⟩
 simp only[if_neg q]
 exact⟨⟨h.b,h.old,h.d,by have:=h.r;simp only[List.length_take];omega,h.f,h.fd,nR _ h.fr,h.ff,h.data,h.ret,h.la⟩,vk h.fr _⟩
def VS(h:VX M v)(a n:Int):VX (M+1) (aU v (aJ v.mem a n).1):=by
 have k:=cN v.mem a n
 exact⟨by show(aJ v.mem a n).1.b.length<=_;rw[k.len];exact h.b,by show(aJ v.mem a n).1.old.length<=_;have:=k.old;have:=h.old;omega,h.d,h.r,h.f,h.fd,h.fr,h.ff,h.data,h.ret,h.la⟩
end
section
variable {M : Nat} {k : PW}
def oY(h:KX M k){v:VVm}(hv:VX M v)(e:Int):KX M (pOk k v e):=by
 unfold pOk
 split
 ·split
  ·exact⟨hv,h.ip,h.w⟩
  exact⟨h.v,h.ip,h.w⟩
 exact h
def vq(h:KX M k){n:Int}(hn:ae n):KX M (dm k n):=oY h (Xp h.v hn) _
def vf(h:KX M k){n:Int}(hn:ae n):KX M (jn k n):=oY h (Q3 h.v hn) _
def jq(h:KX M k):KX M (ba k).1/\ae (ba k).2 :=
 ⟨oY h (FE h.v).1 _,by unfold ba;dsimp only;split;exact(FE h.v).2;exact bC⟩
def jc(h:KX M k):KX M (gp k).1/\ae (gp k).2 :=
 ⟨oY h (EG h.v).1 _,by unfold gp;dsimp only;split;exact(EG h.v).2;exact bC⟩
def hJ(h:KX M k)(a:Int):KX M (bv k a).1/\ae (bv k a).2:=⟨oY h h.v _,H8 _ _⟩
def vN(h:KX M k)(a n:Int):KX (M+1) (m4 k a n):=oY (h.up (by omega)) (VS h.v a n) _
def ad8(h:KX M k){a:Int}(ha:ae a):KX M (wIp k a):=⟨h.v,ha,h.w⟩
def qr(h:KX M k)(n:Nat):KX M (cp k n).1/\ae (cp k n).2:=by
 unfold cp;split
 ·exact⟨oY h h.v _,bC⟩
 exact⟨h,vk h.v.fr _⟩
def Qp(h:KX M k)(h0:¬k.r.vm.f.length=0):KX M {k with r:={k.r with ip:=(k.r.vm.f.getD (k.r.vm.f.length-1) default).ip,vm:={k.r.vm with f:=k.r.vm.f.take (k.r.vm.f.length-1)}}} :=
 ⟨⟨h.v.b,h.v.old,h.v.d,h.v.r,by have:=h.v.f;simp only[List.length_take];omega,h.v.fd,h.v.fr,fun x hx=>h.v.ff x (List.mem_of_mem_take hx),h.v.data,h.v.ret,h.v.la⟩,
  h.v.ff _ (by rw[List.getD_eq_getElem?_getD,List.getElem?_eq_getElem (by omega)];exact List.getElem_mem _),h.w⟩
def Xv(h:KX M k):KX (M+2) (mT k):=by
 unfold mT;split
 ·exact oY (h.up (by omega)) (h.v.up (by omega)) _
 exact vN (vN h _ _) _ _
def GM(i l n:Int):ae (ld i l n).1:=cU _
end
open Go.RowKit
section
variable (a : Addr) (k : PW) {M : Nat} (h : KX M k) (hM : M <= 900000)
include h
theorem kj(n:Int):k_ 163 [i64 n] (cPW a k) 197 (.tup []) (cPW a (dm k n)):=by
 refine zL func163 fun B=>?_
 refine zC rfl func82 ((MU k.r.vm n (by have:=h.v.d;omega) (Hf h.v).1) _) ?_
 refine zC rfl func161 ((rD a k _ _) _ _ rfl) ?_
 refine bn rfl rfl ?_ ?_
 ·rfl
 rfl
theorem mv(n:Int):k_ 162 [i64 n] (cPW a k) 197 (.tup []) (cPW a (jn k n)):=by
 refine zL func162 fun B=>?_
 refine zC rfl func197 ((UT k.r.vm n (by have:=h.v.r;omega) (Hf h.v).2) _) ?_
 refine zC rfl func161 ((rD a k _ _) _ _ rfl) ?_
 refine bn rfl rfl ?_ ?_
 ·rfl
 rfl
theorem o9:k_ 206 [] (cPW a k) 197 (i64 (ba k).2) (cPW a (ba k).1):=by
 refine zL func206 fun B=>?_
 refine zC rfl func211 ((Ta k.r.vm (by have:=h.v.d;omega)) _) ?_
 refine zC rfl func161 ((rD a k _ _) _ _ rfl) ?_
 refine Wi rfl ?_ ?_<;>intro hi1
 ·refine zu1 ?_
  refine Wq<|kx rfl rfl ?_ ?_
  ·exact congrArg i64 (by unfold ba;dsimp only;rw[if_neg (by simpa using hi1)])
  rfl
 refine Wj<|zu2 ?_
 refine Wq<|kx rfl rfl ?_ ?_
 ·exact congrArg i64 (by unfold ba;dsimp only;rw[if_pos (by simpa using hi1)])
 rfl
theorem rv:k_ 204 [] (cPW a k) 197 (i64 (gp k).2) (cPW a (gp k).1):=by
 refine zL func204 fun B=>?_
 refine zC rfl func254 ((XJ k.r.vm (by have:=h.v.r;omega)) _) ?_
 refine zC rfl func161 ((rD a k _ _) _ _ rfl) ?_
 refine Wi rfl ?_ ?_<;>intro hi1
 ·refine zu1 ?_
  refine Wq<|kx rfl rfl ?_ ?_
  ·exact congrArg i64 (by unfold gp;dsimp only;rw[if_neg (by simpa using hi1)])
  rfl
 refine Wj<|zu2 ?_
 refine Wq<|kx rfl rfl ?_ ?_
 ·exact congrArg i64 (by unfold gp;dsimp only;rw[if_pos (by simpa using hi1)])
 rfl
theorem kf(at_:Int)(ha:ae at_):k_ 116 [i64 at_] (cPW a k) 197 (i64 (bv k at_).2) (cPW a (bv k at_).1):=by
 refine zL func116 fun B=>?_
 refine zC rfl func39 ((gy k.r.vm.mem at_ (by have:=h.v.b;omega) ha) _) ?_
 refine zc rfl func161 ((rD a k _ _) _ _ rfl) ?_
 refine Wn<|zu2 ?_
 refine Wq<|kx rfl rfl ?_ ?_
 ·rfl
 rfl
theorem y8(at_ n:Int)(ha:ae at_)(hM2:M<=990000):k_ 253 [i64 at_,i64 n] (cPW a k) 197 (.tup []) (cPW a (m4 k at_ n)):=by
 refine zL func253 fun B=>?_
 refine zC rfl func92 ((jE k.r.vm.mem at_ n (h.v.mem (by omega)) ha) _) ?_
 refine zC rfl func161 ((rD a k (aU k.r.vm (aJ k.r.vm.mem at_ n).1) _) _ _ rfl) ?_
 refine bn rfl rfl ?_ ?_
 ·rfl
 rfl
omit h in
theorem uu(xt:Int):k_ 198 [i64 xt] (cPW a k) 197 (.tup []) (cPW a (vv k xt)):=by
 refine zM func198 fun B=>?_
 refine aI rfl ?_
 refine zy5 ?_
 refine z1 ?_
 refine dt (zs:=cPW a ({k with r:={k.r with w:=xt}})) (lO tG rfl) rfl rfl rfl rfl rfl rfl rfl rfl rfl rfl rfl ?_
 refine zy3 ?_
 refine dt (zs:=cPW a (vv k xt)) (lO tG rfl) rfl rfl rfl rfl rfl rfl rfl rfl rfl rfl rfl ?_
 refine zd ?_
 refine bn rfl rfl ?_ ?_
 ·rfl
 rfl
theorem xJ(n:Nat)(hn:n<=10):k_ 255 [i64 (n:Int)] (cPW a k) 197 (i64 (cp k n).2) (cPW a (cp k n).1):=by
 have hr:=h.v.r
 have w1:IntKind.i64.wrap (IntKind.i64.wrap ((k.r.vm.r.length:Int)-1)-(n:Int))=(k.r.vm.r.length:Int)-1-(n:Int):=by
  have w0:IntKind.i64.wrap ((k.r.vm.r.length:Int)-1)=(k.r.vm.r.length:Int)-1:=by((rw[bU];unfold wrap64;(try simp only[dnL]at *);omega))
  rw[w0];((rw[bU];unfold wrap64;(try simp only[dnL]at *);omega))
 refine zM func255 fun B=>?_
 refine zu1 ?_
 refine zp5 ?_
 refine zy5 ?_
 refine zA 15 rfl (j_ w1) ?_
 refine Wi rfl ?_ ?_<;>intro hi1
 ·have h0:k.r.vm.r.length<=n:=by(try simp only[dnL]at *);omega
  refine zd ?_
  refine zc rfl func161 ((rD a k _ _) _ _ rfl) ?_
  refine Wn<|zu1 ?_
  refine Wq<|kx rfl rfl ?_ ?_
  ·rw[cp,if_pos h0];rfl
  rw[cp,if_pos h0]
 have h0:¬k.r.vm.r.length<=n:=by(try simp only[dnL]at *);omega
 have e0:(k.r.vm.r.length:Int)-1-(n:Int)=((k.r.vm.r.length-1-n:Nat):Int):=by omega
 refine Wj<|zp5 ?_
 refine zy2 ?_
 refine Wa 31 rfl (j_ e0) ?_
 refine Wv tG rfl rfl rfl (by omega) (iN ao 1 (fun _=>rfl) 0 (by omega)) ?_
 refine zs2 ?_
 refine Wq<|kx rfl rfl ?_ ?_
 ·rw[cp,if_neg h0];rfl
 rw[cp,if_neg h0]
theorem AQ(b:Bool):k_ 205 [boo b] (cPW a k) 197 (.tup []) (cPW a (lu k b)):=by
 cases b with
 | true =>
  refine zL func205 fun B=>?_
  refine Wt rfl (by rfl) ?_
  refine zd ?_
  refine zc rfl func116 ((kf a k h _ h.ip) _ _ rfl) ?_
  refine zy3 ?_
  refine dt (zs:=cPW a (lu k true)) (lO tG rfl) rfl rfl rfl rfl rfl rfl rfl rfl rfl rfl rfl ?_
  refine Wn<|Wq<|kx rfl rfl ?_ ?_
  ·rfl
  rfl
 | false =>
  refine zL func205 fun B=>?_
  refine Wf rfl (by rfl) ?_
  refine Wj<|aI rfl ?_
  refine zy5 ?_
  refine zy4 ?_
  refine dt (zs:=cPW a (lu k false)) (lO tG rfl) rfl rfl rfl rfl rfl rfl rfl rfl rfl rfl rfl ?_
  refine zd ?_
  refine bn rfl rfl ?_ ?_
  ·rfl
  rfl
theorem Tm(n:Int):k_ 207 [i64 n] (cPW a k) 197 (.tup []) (cPW a (pv k n)):=by
 have h1:=(qr h 1).1
 have h2:=(qr h1 0).1
 refine zL func207 fun B=>?_
 refine zC rfl func255 ((xJ a k h 1 (by decide)) _ _ rfl) ?_
 refine zC rfl func255 ((xJ a _ h1 0 (by decide)) _ _ rfl) ?_
 refine Wd rfl rfl (cq (lO tG rfl) rfl rfl rfl rfl) ?_
 refine Wd rfl rfl (jp rfl (by kernel_rfl) rfl (by exact tl _ _)) ?_
 refine zd ?_
 refine Wi rfl ?_ ?_<;>intro hi1
 ·have q1:¬iw (cp (cp k 1).1 0).1.err=true:=by simpa using hi1
  refine Wq<|kx rfl rfl ?_ ?_
  ·rfl
  rw[pv,if_neg q1]
 have q1:iw (cp (cp k 1).1 0).1.err=true:=by simpa using hi1
 refine zd ?_
 refine zC rfl func256 ((UJ _ _ _) _) ?_
 refine zC rfl func204 ((rv a _ h2) _ _ rfl) ?_
 refine Wi rfl ?_ ?_<;>intro hi2
 ·have q2:(ld (cp (cp k 1).1 0).2 (cp k 1).2 n).2=true:=hi2
  refine zd ?_
  refine zC rfl func204 ((rv a _ (jc h2).1) _ _ rfl) ?_
  refine zC rfl func205 ((AQ a _ (by exact(jc (jc h2).1).1) _) _ _ rfl) ?_
  refine bn rfl rfl ?_ ?_
  ·rfl
  (rw[pv,if_pos q1,if_pos q2])
 have q2:¬(ld (cp (cp k 1).1 0).2 (cp k 1).2 n).2=true:=by simpa using hi2
 refine zd ?_
 refine zC rfl func162 ((mv a _ (jc h2).1 _) _ _ rfl) ?_
 refine zC rfl func205 ((AQ a _ (by exact vf (jc h2).1 (GM _ _ _)) _) _ _ rfl) ?_
 refine bn rfl rfl ?_ ?_
 ·rfl
 (rw[pv,if_pos q1,if_neg q2])
include hM in
theorem av2:k_ 203 [] (cPW a k) 197 (.tup []) (cPW a (mT k)):=by
 have hM2:M<=990000:=by omega
 have hM3:M+1<=990000:=by omega
 refine zL func203 fun B=>?_
 refine zc rfl func67 ((qK k.r.vm k.r.vm.last (by have:=h.v.b;omega) h.la) _) ?_
 refine zs5 ?_
 refine Ws<|zp3 ?_
 refine Wb 23 rfl ?_ ?_<;>intro hg1
 ·refine zd ?_
  refine Wt rfl rfl ?_
  refine zd ?_
  refine zc rfl func161 ((rD a k _ _) _ _ rfl) ?_
  refine Wn<|Wq<|kx rfl rfl ?_ ?_
  ·rfl
  rw[mT,if_pos (by(try simp only[dnL]at *);omega)]
 refine zy4 ?_
 refine Wb 27 rfl ?_ ?_<;>intro hg2
 ·refine zd ?_
  refine Wt rfl rfl ?_
  refine zd ?_
  refine zc rfl func161 ((rD a k _ _) _ _ rfl) ?_
  refine Wn<|Wq<|kx rfl rfl ?_ ?_
  ·rfl
  rw[mT,if_pos (by(try simp only[dnL]at *);omega)]
 refine zy3 ?_
 refine zB 30 (fun hg3=>?_) (fun hg3=>?_)
 ·refine zI ?_ ?_<;>intro hi1
  ·refine zc rfl func161 ((rD a k _ _) _ _ rfl) ?_
   refine Wn<|Wq<|kx rfl rfl ?_ ?_
   ·rfl
   rw[mT,if_pos (by(try simp only[dnL]at *);omega)]
  refine zC rfl func253 ((y8 a k h _ _ h.la hM2) _ _ rfl) ?_
  refine zC rfl func253 ((y8 a _ (vN h _ _) _ _ (cU _) hM3) _ _ rfl) ?_
  refine bn rfl rfl ?_ ?_
  ·rfl
  rw[mT,if_neg (show ¬(k.r.vm.last=0\/(az k.r.vm k.r.vm.last).2≠0\/((az k.r.vm k.r.vm.last).1≠257/\(az k.r.vm k.r.vm.last).1≠259)) by(try simp only[dnL]at *);omega)]
 refine Wf rfl rfl ?_
 refine zd ?_
 refine zC rfl func253 ((y8 a k h _ _ h.la hM2) _ _ rfl) ?_
 refine zC rfl func253 ((y8 a _ (vN h _ _) _ _ (cU _) hM3) _ _ rfl) ?_
 refine bn rfl rfl ?_ ?_
 ·rfl
 rw[mT,if_neg (show ¬(k.r.vm.last=0\/(az k.r.vm k.r.vm.last).2≠0\/((az k.r.vm k.r.vm.last).1≠257/\(az k.r.vm k.r.vm.last).1≠259)) by(try simp only[dnL]at *);omega)]
end
open Go.RowKit
def ao2(a:Addr)(k:PW){k':PW}(h:k'.r=k.r){e:TypeId}{H:List Ob}:Rk (.cells (cPW a k) e::H) ((Ob.cells (cPW a k) e::H).set 0 (.cells (cPW a k') e)):=fun xs e h1=>by
 simp only[List.getElem?_cons_zero,Option.some.injEq,Ob.cells.injEq]at h1
 obtain⟨rfl,rfl⟩:=h1
 refine⟨_,rfl,?_⟩
 have hl:∀r:bH,(sW r).length=27:=fun r=>rfl
 unfold cPW
 rw[List.take_left' (hl _),List.take_left' (hl _),h]
def fr1(x:ig):PV.seq 1 [i64 x.d,i64 x.r,i64 x.ip] .clip=.seq (List.length [x]) (List.flatMap eW [x]) .clip:=rfl
section
variable (a : Addr) (k : PW) {M : Nat} (h : KX M k) (hM : M <= 900000)
include h
theorem OF(b:Int)(hb:ae b):k_ 164 [i64 b] (cPW a k) 197 (.tup []) (cPW a (fH k b)):=by
 have f1:=hJ h b
 have f2:=hJ f1.1 (W64 (b+8))
 refine zL func164 fun B=>?_
 refine zC rfl func116 ((kf a k h b hb) _ _ rfl) ?_
 refine zC rfl func116 ((kf a _ f1.1 _ (cU _)) _ _ rfl) ?_
 refine Wd rfl rfl (cq (lO tG rfl) rfl rfl rfl rfl) ?_
 refine Wd rfl rfl (aY rfl (by kernel_rfl) rfl (by exact tl _ _)) ?_
 refine z1 ?_
 refine Wb 19 rfl ?_ ?_<;>intro hg1
 ·refine zy3 ?_
  refine zB 22 (fun hg2=>?_) (fun hg2=>?_)
  ·refine Wt rfl rfl ?_
   refine zd ?_
   refine zC rfl func161 ((rD a _ _ _) _ _ rfl) ?_
   refine zC rfl func116 ((kf a _ (by exact oY f2.1 f2.1.v _) _ (cU _)) _ _ rfl) ?_
   refine zI ?_ ?_<;>intro hi1
   ·refine zC rfl func198 ((uu a _ _) _ _ rfl) ?_
    refine bn rfl rfl ?_ ?_
    ·rfl
    exact congrArg (cPW a) (by unfold fH;dsimp only;(simp only[hg1,hg2,Bool.true_and,Bool.true_or,if_true]);(rw[if_neg (by simpa using hi1)]))
   refine bn rfl rfl ?_ ?_
   ·rfl
   exact congrArg (cPW a) (by unfold fH;dsimp only;(simp only[hg1,hg2,Bool.true_and,Bool.true_or,if_true]);(rw[if_pos (by simpa using hi1)]))
  refine zI ?_ ?_<;>intro hi2
  ·refine zC rfl func161 ((rD a _ _ _) _ _ rfl) ?_
   refine zC rfl func116 ((kf a _ (by exact oY f2.1 f2.1.v _) _ (cU _)) _ _ rfl) ?_
   refine zI ?_ ?_<;>intro hi1
   ·refine zC rfl func198 ((uu a _ _) _ _ rfl) ?_
    refine bn rfl rfl ?_ ?_
    ·rfl
    exact congrArg (cPW a) (by unfold fH;dsimp only;(simp only[hg1,hg2,hi2,Bool.true_and,Bool.false_or,if_true,Bool.false_eq_true,if_false]);(rw[if_neg (by simpa using hi1)]))
   refine bn rfl rfl ?_ ?_
   ·rfl
   exact congrArg (cPW a) (by unfold fH;dsimp only;(simp only[hg1,hg2,hi2,Bool.true_and,Bool.false_or,if_true,Bool.false_eq_true,if_false]);(rw[if_pos (by simpa using hi1)]))
  refine zC rfl func116 ((kf a _ (by exact f2.1) _ (cU _)) _ _ rfl) ?_
  refine zI ?_ ?_<;>intro hi1
  ·refine zC rfl func198 ((uu a _ _) _ _ rfl) ?_
   refine bn rfl rfl ?_ ?_
   ·rfl
   exact congrArg (cPW a) (by unfold fH;dsimp only;(simp only[hg1,hg2,hi2,Bool.true_and,Bool.false_or,if_true,Bool.false_eq_true,if_false]);(rw[if_neg (by simpa using hi1)]))
  refine bn rfl rfl ?_ ?_
  ·rfl
  exact congrArg (cPW a) (by unfold fH;dsimp only;(simp only[hg1,hg2,hi2,Bool.true_and,Bool.false_or,if_true,Bool.false_eq_true,if_false]);(rw[if_pos (by simpa using hi1)]))
 refine zd ?_
 refine Wf rfl rfl ?_
 refine zd ?_
 refine zC rfl func116 ((kf a _ (by exact f2.1) _ (cU _)) _ _ rfl) ?_
 refine zI ?_ ?_<;>intro hi1
 ·refine zC rfl func198 ((uu a _ _) _ _ rfl) ?_
  refine bn rfl rfl ?_ ?_
  ·rfl
  exact congrArg (cPW a) (by unfold fH;dsimp only;(simp only[hg1,Bool.false_and,Bool.false_eq_true,if_false]);(rw[if_neg (by simpa using hi1)]))
 refine bn rfl rfl ?_ ?_
 ·rfl
 exact congrArg (cPW a) (by unfold fH;dsimp only;(simp only[hg1,Bool.false_and,Bool.false_eq_true,if_false]);(rw[if_pos (by simpa using hi1)]))
include hM in
theorem ag7(name:Str):k_ 208 [str name] (cPW a k) 197 (.tup []) (cPW a (Ib k name)):=by
 have hf:=h.v.f
 have hf2:=(jq h).1.v.f
 have hf3:=(oY (jq h).1 (jq h).1.v (-5)).v.f
 have w1:IntKind.i64.wrap ((k.r.vm.f.length:Int)-1)=(k.r.vm.f.length:Int)-1:=by((rw[bU];unfold wrap64;(try simp only[dnL]at *);omega))
 refine zM func208 fun B=>?_
 refine zu1 ?_
 refine Wl<|zp1 ?_
 refine zQ 17 ?_
 refine Wi rfl ?_ ?_<;>intro hi1
 ·obtain rfl:=oT hi1
  refine zd ?_
  refine Wi rfl ?_ ?_<;>intro hi2
  ·have h0:k.r.vm.f.length=0:=by(try simp only[dnL]at *);omega
   refine zd ?_
   refine zc rfl func161 ((rD a k _ _) _ _ rfl) ?_
   refine Wn<|Wq<|kx rfl rfl ?_ ?_
   ·rfl
   show cPW a _=cPW a (lr k);rw[lr,if_pos h0]
  have h0:¬k.r.vm.f.length=0:=by(try simp only[dnL]at *);omega
  have e0:(k.r.vm.f.length:Int)-1=((k.r.vm.f.length-1:Nat):Int):=by omega
  refine Wj<|zp5 ?_
  refine zy4 ?_
  refine Wa 42 rfl (j_ (w1.trans e0)) ?_
  refine Wv tG rfl rfl rfl (by omega) (iN eW 3 (fun _=>rfl) default (by omega)) ?_
  refine zy5 ?_
  refine dt (zs:=cPW a ({k with r:={k.r with ip:=(k.r.vm.f.getD (k.r.vm.f.length-1) default).ip}})) (lO tG rfl) rfl rfl rfl rfl rfl rfl rfl rfl rfl rfl rfl ?_
  refine Wn<|zp5 ?_
  refine zy4 ?_
  refine Wa 57 rfl (j_ (w1.trans e0)) ?_
  refine z2 ?_ (q:=(by(simp_all;done)))
  refine Wa 58 rfl (cK eW 3 (fun _=>rfl) (by(simp only[dnL]at *;omega))) ?_
  refine zy4 ?_
  refine dt (zs:=cPW a ({k with r:={k.r with ip:=(k.r.vm.f.getD (k.r.vm.f.length-1) default).ip,vm:={k.r.vm with f:=k.r.vm.f.take (k.r.vm.f.length-1)}}})) (lO tG rfl) rfl rfl rfl rfl rfl rfl rfl rfl rfl rfl rfl ?_
  refine zd ?_
  refine zC rfl func163 ((kj a {k with r:={k.r with ip:=(k.r.vm.f.getD (k.r.vm.f.length-1) default).ip,vm:={k.r.vm with f:=k.r.vm.f.take (k.r.vm.f.length-1)}}} (Qp h h0) 0) _ _ rfl) ?_
  refine bn rfl rfl ?_ ?_
  ·rfl
  (show cPW a _=cPW a (lr k);rw[lr,if_neg h0])
 refine zp1 ?_
 refine zQ 66 ?_
 refine Wi rfl ?_ ?_<;>intro hi3
 ·obtain rfl:=oT hi3
  refine zd ?_
  refine lg [0,0,0,0,0,1,1805,0,0,0,0,1804,0,0,0] [0,1,2,3,4,7,8,9,10,11,12,5,6,13,14] mG rfl (by kernel_rfl) ?_
  iterate 9 refine z3 ?_
  refine Ug (lO tG rfl) rfl rfl rfl rfl rfl rfl rfl rfl rfl ?_
  refine z3 ?_
  refine z5 ?_
  refine TT rfl rfl rfl rfl (dC rfl func116 rfl rfl ((kf a k h _ h.ip) _ _ rfl)) (ao2 a k (y7)) ?_
  refine zd ?_
  refine zC rfl func257 ((Ap _ _ _ ((hJ h k.r.ip).1.v.mem (by omega)) (cU _) (hJ h k.r.ip).2) _) ?_
  refine zC rfl func161 ((rD a _ _ _) _ _ rfl) ?_
  refine zC rfl func163 ((kj a _ (oY (hJ h _).1 (hJ h _).1.v _) _) _ _ rfl) ?_
  refine zC rfl func163 ((kj a _ (vq (oY (hJ h _).1 (hJ h _).1.v _) (cU _)) _) _ _ rfl) ?_
  refine zc rfl func244 ((Md _ _ (cU _)) _) ?_
  refine zy5 ?_
  refine z1 ?_
  refine dt (zs:=cPW a (J4 k)) (lO tG rfl) rfl rfl rfl rfl rfl rfl rfl rfl rfl rfl rfl ?_
  refine zd ?_
  refine bn rfl rfl ?_ ?_
  ·rfl
  rfl
 refine zp1 ?_
 refine zQ 118 ?_
 refine Wi rfl ?_ ?_<;>intro hi4
 ·obtain rfl:=oT hi4
  refine zd ?_
  refine zc rfl func206 ((o9 a k h) _ _ rfl) ?_
  refine zC rfl func198 ((uu a _ _) _ _ rfl) ?_
  refine bn rfl rfl ?_ ?_
  ·rfl
  rfl
 refine zp1 ?_
 refine zQ 124 ?_
 refine Wi rfl ?_ ?_<;>intro hi5
 ·obtain rfl:=oT hi5
  refine zd ?_
  refine zC rfl func206 ((o9 a k h) _ _ rfl) ?_
  refine zI ?_ ?_<;>intro hi6
  ·refine zC rfl func161 ((rD a _ _ _) _ _ rfl) ?_
   refine zW [0,0,0,0,0,0,1,0,0,0,0,0,0,1,0,0,0,0,0,0,1,0,0,0,0,0,1,0,0,0,0,0,0,0,3] [0,1,2,3,4,5,6,7,8,9,10,11,12,13,14,15,16,17,18,19,20,21,22,23,24,25,26,27,28,29,30,31,32,33,34] ?_
   refine Xc rfl rfl rfl rfl (fun _=>dC rfl func258 rfl rfl ((xW _ (by(have:=(jq h).1.v.f;omega))) _)) ?_
   iterate 5 refine z3 ?_
   refine z5 ?_
   iterate 6 refine z3 ?_
   refine z5 ?_
   iterate 5 refine z3 ?_
   refine z5 ?_
   iterate 2 refine z3 ?_
   refine Xa 170 rfl (fr1 ⟨_,_,_⟩) ?_
   refine ew rfl rfl rfl rfl (fun _=>co (lO tG rfl) rfl (lO tG rfl) (lO tG rfl) rfl rfl (by exact⟨_,rfl⟩) (by exact⟨rfl,rfl,an _ 3 (fun _=>rfl) _,bD _ (fun _=>rfl) _⟩) (by exact an _ 3 (fun _=>rfl) _) (by((simp_all;omega))) (by((simp_all;omega))) (by exact fU (bs (fun x=>by simp) _) (bs (fun x=>by simp) _))) ?_
   refine zO 171 rfl (cw eW) ?_
   refine lD rfl rfl rfl rfl (bP (lO tG rfl) rfl rfl rfl rfl rfl rfl rfl) ?_
   refine fS ?_
   refine zp4 ?_
   refine dt (zs:=cPW a (wFr (pOk (ba k).1 (ba k).1.r.vm (-5)))) (lO tG rfl) rfl rfl rfl rfl rfl rfl rfl rfl rfl rfl rfl ?_
   refine zd ?_
   refine zC rfl func198 ((uu a _ _) _ _ rfl) ?_
   refine bn rfl rfl ?_ ?_
   ·rfl
   (show cPW a _=cPW a (oL k);rw[oL,if_pos (oT hi6)])
  refine zW [0,0,0,0,0,0,1,0,0,0,0,0,0,1,0,0,0,0,0,0,1,0,0,0,0,0,1,0,0,0,0,0,0,0,3] [0,1,2,3,4,5,6,7,8,9,10,11,12,13,14,15,16,17,18,19,20,21,22,23,24,25,26,27,28,29,30,31,32,33,34] ?_
  refine Xc rfl rfl rfl rfl (fun _=>dC rfl func258 rfl rfl ((xW _ (by(have:=(jq h).1.v.f;omega))) _)) ?_
  iterate 5 refine z3 ?_
  refine z5 ?_
  iterate 6 refine z3 ?_
  refine z5 ?_
  iterate 5 refine z3 ?_
  refine z5 ?_
  iterate 2 refine z3 ?_
  refine Xa 170 rfl (fr1 ⟨_,_,_⟩) ?_
  refine ew rfl rfl rfl rfl (fun _=>co (lO tG rfl) rfl (lO tG rfl) (lO tG rfl) rfl rfl (by exact⟨_,rfl⟩) (by exact⟨rfl,rfl,an _ 3 (fun _=>rfl) _,bD _ (fun _=>rfl) _⟩) (by exact an _ 3 (fun _=>rfl) _) (by((simp_all;omega))) (by((simp_all;omega))) (by exact fU (bs (fun x=>by simp) _) (bs (fun x=>by simp) _))) ?_
  refine zO 171 rfl (cw eW) ?_
  refine lD rfl rfl rfl rfl (bP (lO tG rfl) rfl rfl rfl rfl rfl rfl rfl) ?_
  refine fS ?_
  refine zp4 ?_
  refine dt (zs:=cPW a (wFr (ba k).1)) (lO tG rfl) rfl rfl rfl rfl rfl rfl rfl rfl rfl rfl rfl ?_
  refine zd ?_
  refine zC rfl func198 ((uu a _ _) _ _ rfl) ?_
  refine bn rfl rfl ?_ ?_
  ·rfl
  (show cPW a _=cPW a (oL k);rw[oL,if_neg (oF hi6)])
 refine zp1 ?_
 refine zQ 184 ?_
 refine Wi rfl ?_ ?_<;>intro hi7
 ·obtain rfl:=oT hi7
  refine zd ?_
  refine zC rfl func206 ((o9 a k h) _ _ rfl) ?_
  refine zC rfl func161 ((rD a _ _ _) _ _ rfl) ?_
  refine bn rfl rfl ?_ ?_
  ·rfl
  rfl
 refine zp1 ?_
 refine zQ 196 ?_
 refine Wi rfl ?_ ?_<;>intro hi8
 ·obtain rfl:=oT hi8
  refine zd ?_
  refine zc rfl func255 ((xJ a k h 0 (by decide)) _ _ rfl) ?_
  refine zC rfl func163 ((kj a _ (qr h _).1 _) _ _ rfl) ?_
  refine bn rfl rfl ?_ ?_
  ·rfl
  rfl
 refine zp1 ?_
 refine zQ 202 ?_
 refine Wi rfl ?_ ?_<;>intro hi9
 ·obtain rfl:=oT hi9
  refine zd ?_
  refine zc rfl func255 ((xJ a k h 2 (by decide)) _ _ rfl) ?_
  refine zC rfl func163 ((kj a _ (qr h _).1 _) _ _ rfl) ?_
  refine bn rfl rfl ?_ ?_
  ·rfl
  rfl
 refine zp1 ?_
 refine zQ 208 ?_
 refine Wi rfl ?_ ?_<;>intro hi10
 ·obtain rfl:=oT hi10
  refine zd ?_
  refine zC rfl func255 ((xJ a k h 1 (by decide)) _ _ rfl) ?_
  refine zC rfl func204 ((rv a _ (qr h _).1) _ _ rfl) ?_
  refine zC rfl func204 ((rv a _ (jc (qr h _).1).1) _ _ rfl) ?_
  refine bn rfl rfl ?_ ?_
  ·rfl
  rfl
 refine zp1 ?_
 refine zQ 216 ?_
 refine Wi rfl ?_ ?_<;>intro hi11
 ·obtain rfl:=oT hi11
  refine zd ?_
  refine zc rfl func206 ((o9 a k h) _ _ rfl) ?_
  refine zC rfl func162 ((mv a _ (jq h).1 _) _ _ rfl) ?_
  refine bn rfl rfl ?_ ?_
  ·rfl
  rfl
 refine zp1 ?_
 refine zQ 222 ?_
 refine Wi rfl ?_ ?_<;>intro hi12
 ·obtain rfl:=oT hi12
  refine zd ?_
  refine zc rfl func204 ((rv a k h) _ _ rfl) ?_
  refine zC rfl func163 ((kj a _ (jc h).1 _) _ _ rfl) ?_
  refine bn rfl rfl ?_ ?_
  ·rfl
  rfl
 refine zp1 ?_
 refine zQ 228 ?_
 refine Wi rfl ?_ ?_<;>intro hi13
 ·obtain rfl:=oT hi13
  refine zd ?_
  refine zc rfl func255 ((xJ a k h 0 (by decide)) _ _ rfl) ?_
  refine zC rfl func163 ((kj a _ (qr h _).1 _) _ _ rfl) ?_
  refine bn rfl rfl ?_ ?_
  ·rfl
  rfl
 refine zp1 ?_
 refine zQ 234 ?_
 refine Wi rfl ?_ ?_<;>intro hi14
 ·obtain rfl:=oT hi14
  refine zd ?_
  refine zC rfl func206 ((o9 a k h) _ _ rfl) ?_
  refine zC rfl func206 ((o9 a _ (jq h).1) _ _ rfl) ?_
  refine zC rfl func162 ((mv a _ (jq (jq h).1).1 _) _ _ rfl) ?_
  refine zC rfl func162 ((mv a _ (vf (jq (jq h).1).1 (jq (jq h).1).2) _) _ _ rfl) ?_
  refine bn rfl rfl ?_ ?_
  ·rfl
  rfl
 refine zp1 ?_
 refine zQ 246 ?_
 refine Wi rfl ?_ ?_<;>intro hi15
 ·obtain rfl:=oT hi15
  refine zd ?_
  refine zC rfl func204 ((rv a k h) _ _ rfl) ?_
  refine zC rfl func204 ((rv a _ (jc h).1) _ _ rfl) ?_
  refine zC rfl func163 ((kj a _ (jc (jc h).1).1 _) _ _ rfl) ?_
  refine zC rfl func163 ((kj a _ (vq (jc (jc h).1).1 (jc (jc h).1).2) _) _ _ rfl) ?_
  refine bn rfl rfl ?_ ?_
  ·rfl
  rfl
 refine zd ?_
 refine bn rfl rfl ?_ ?_
 ·rfl
 (rw[Ib,if_neg (oF hi1),if_neg (oF hi3),if_neg (oF hi4),if_neg (oF hi5),if_neg (oF hi7),if_neg (oF hi8),if_neg (oF hi9),if_neg (oF hi10),if_neg (oF hi11),if_neg (oF hi12),if_neg (oF hi13),if_neg (oF hi14),if_neg (oF hi15)])
end
open Go.RowKit
def etV:Value:=.iface 221 (.agg #[.pointer (some ⟨5,87,none⟩)])
def gH(a:Addr):List Ob:=[.glob 1 (haltV a),.glob 0 etV]
def fF(a:Addr):∀o∈gH a,∃g u,o=.glob g u:=fun o h=>by
 unfold gH at h
 simp at h
 rcases h with h|h<;>exact⟨_,_,h⟩
def bS{a:Addr}{H:List Ob}(i j:Nat)(h1:H[i]?=some (.glob 1 (haltV a)))(h2:H[j]?=some (.glob 0 etV)):∀o∈gH a,∃k:Nat,H[k]?=some o:=fun o h=>by
 unfold gH at h
 simp at h
 rcases h with h|h
 ·subst h;exact⟨i,h1⟩
 subst h;exact⟨j,h2⟩
section
variable (a : Addr) (k : PW) {M : Nat} (h : KX M k) (hM : M <= 900000)
include h hM
def Og(name:Str):∀(H:List Ob) (i:Nat),H[i]?=some (.cells (cPW a k) 197)->(∀o∈gH a,∃k:Nat,H[k]?=some o)->HC prog 167 (.ptr i 0::[str name]) H (.tup []) (H.set i (.cells (cPW a (mM k name)) 197)):=by
 have p1:=jq h
 have p2:=jq p1.1
 have u1:=vq p2.1 p2.2
 have u2:=vq u1 p1.2
 have u3:=ad8 u2 (cU ((dm (dm (ba (ba k).1).1 (ba (ba k).1).2) (ba k).2).r.ip+8))
 have v1:=jq u3
 have v2:=jq v1.1
 refine l7 (fF a) tG (rs:=[]) func167 rfl rfl rfl (by simp) (by simp) (by simp) (by simp) (fun B=>?_)
 refine zu1 ?_
 refine Wl<|Ws<|Wl<|Ws<|Wl<|Ws<|Wl<|Ws<|Wl<|Ws<|Wl<|Ws<|Wl<|Ws<|Wl<|Ws<|Wl<|Ws<|Wl<|Ws<|Wl<|Ws<|Wl ?_
 iterate 2 refine Ws ?_
 refine zp1 ?_
 refine zQ 10 ?_
 refine Wi rfl ?_ ?_<;>intro hi1
 ·obtain rfl:=oT hi1
  refine aW ?_
  refine zd ?_
  refine zC rfl func203 ((av2 a k h hM) _ _ rfl) ?_
  refine zc rfl func204 ((rv a _ (by exact Xv h)) _ _ rfl) ?_
  refine zy3 ?_
  refine dt (zs:=cPW a (sS (mT k))) (lO tG rfl) rfl rfl rfl rfl rfl rfl rfl rfl rfl rfl rfl ?_
  refine zd ?_
  refine aW ?_
  refine bn rfl rfl ?_ ?_
  ·rfl
  rfl
 refine Wj<|Ws<|zp1 ?_
 refine zQ 12 ?_
 refine Wi rfl ?_ ?_<;>intro hi2
 ·obtain rfl:=oT hi2
  refine aW ?_
  refine zd ?_
  refine zc rfl func204 ((rv a _ (by exact h)) _ _ rfl) ?_
  refine zy3 ?_
  refine dt (zs:=cPW a (sS k)) (lO tG rfl) rfl rfl rfl rfl rfl rfl rfl rfl rfl rfl rfl ?_
  refine zd ?_
  refine aW ?_
  refine bn rfl rfl ?_ ?_
  ·rfl
  rfl
 refine Wj<|Ws<|zp1 ?_
 refine zQ 14 ?_
 refine Wi rfl ?_ ?_<;>intro hi3
 ·obtain rfl:=oT hi3
  refine aW ?_
  refine zd ?_
  refine zc rfl func116 ((kf a k h _ h.ip) _ _ rfl) ?_
  refine zc rfl func163 ((kj a _ (hJ h _).1 _) _ _ rfl) ?_
  refine Wn<|aI rfl ?_
  refine zy5 ?_
  refine zy4 ?_
  refine dt (zs:=cPW a (PB k)) (lO tG rfl) rfl rfl rfl rfl rfl rfl rfl rfl rfl rfl rfl ?_
  refine zd ?_
  refine aW ?_
  refine bn rfl rfl ?_ ?_
  ·rfl
  rfl
 refine Wj<|Ws<|zp1 ?_
 refine zQ 16 ?_
 refine Wi rfl ?_ ?_<;>intro hi4
 ·obtain rfl:=oT hi4
  refine aW ?_
  refine zd ?_
  refine zC rfl func205 ((AQ a k h true) _ _ rfl) ?_
  refine aW ?_
  refine bn rfl rfl ?_ ?_
  ·rfl
  rfl
 refine Wj<|Ws<|zp1 ?_
 refine zQ 18 ?_
 refine Wi rfl ?_ ?_<;>intro hi5
 ·obtain rfl:=oT hi5
  refine aW ?_
  refine zd ?_
  refine zC rfl func206 ((o9 a k h) _ _ rfl) ?_
  refine zC rfl func205 ((AQ a _ p1.1 _) _ _ rfl) ?_
  refine aW ?_
  refine bn rfl rfl ?_ ?_
  ·rfl
  rfl
 refine Wj<|Ws<|zp1 ?_
 refine zQ 20 ?_
 refine Wi rfl ?_ ?_<;>intro hi6
 ·obtain rfl:=oT hi6
  refine aW ?_
  refine zd ?_
  refine zC rfl func206 ((o9 a k h) _ _ rfl) ?_
  refine zC rfl func206 ((o9 a _ p1.1) _ _ rfl) ?_
  refine Wi rfl ?_ ?_<;>intro hi7
  ·have q7:(ba k).2=(ba (ba k).1).2:=by(try simp only[dnL]at *);exact hi7
   refine zd ?_
   refine zc rfl func205 ((AQ a _ p2.1 true) _ _ rfl) ?_
   refine Wn<|Wq<|kx rfl rfl ?_ ?_
   ·rfl
   show cPW a _=cPW a (AI k);rw[AI,if_pos q7]
  have q7:¬(ba k).2=(ba (ba k).1).2:=by(try simp only[dnL]at *);exact hi7
  refine zd ?_
  refine zC rfl func163 ((kj a _ p2.1 _) _ _ rfl) ?_
  refine zc rfl func163 ((kj a _ u1 _) _ _ rfl) ?_
  refine Wn<|aI rfl ?_
  refine zy5 ?_
  refine zy4 ?_
  refine dt (zs:=cPW a (wIp (dm (dm (ba (ba k).1).1 (ba (ba k).1).2) (ba k).2) (W64 ((dm (dm (ba (ba k).1).1 (ba (ba k).1).2) (ba k).2).r.ip+8)))) (lO tG rfl) rfl rfl rfl rfl rfl rfl rfl rfl rfl rfl rfl ?_
  refine zd ?_
  refine zC rfl func206 ((o9 a _ (by exact u3)) _ _ rfl) ?_
  refine zC rfl func206 ((o9 a _ (by exact v1.1)) _ _ rfl) ?_
  refine zC rfl func162 ((mv a _ (by exact v2.1) _) _ _ rfl) ?_
  refine zC rfl func162 ((mv a _ (by exact vf v2.1 v2.2) _) _ _ rfl) ?_
  refine aW ?_
  refine bn rfl rfl ?_ ?_
  ·rfl
  (show cPW a _=cPW a (AI k);rw[AI,if_neg q7];rfl)
 refine Wj<|Ws<|zp1 ?_
 refine zQ 22 ?_
 refine Wi rfl ?_ ?_<;>intro hi8
 ·obtain rfl:=oT hi8
  refine aW ?_
  refine zd ?_
  refine zC rfl func206 ((o9 a _ (by exact h)) _ _ rfl) ?_
  refine zC rfl func206 ((o9 a _ (by exact p1.1)) _ _ rfl) ?_
  refine zC rfl func162 ((mv a _ (by exact p2.1) _) _ _ rfl) ?_
  refine zC rfl func162 ((mv a _ (by exact vf p2.1 p2.2) _) _ _ rfl) ?_
  refine aW ?_
  refine bn rfl rfl ?_ ?_
  ·rfl
  rfl
 refine Wj<|Ws<|zp1 ?_
 refine zQ 24 ?_
 refine Wi rfl ?_ ?_<;>intro hi9
 ·obtain rfl:=oT hi9
  refine aW ?_
  refine zd ?_
  refine zC rfl func207 ((Tm a k h 1) _ _ rfl) ?_
  refine aW ?_
  refine bn rfl rfl ?_ ?_
  ·rfl
  rfl
 refine Wj<|Ws<|zp1 ?_
 refine zQ 26 ?_
 refine Wi rfl ?_ ?_<;>intro hi10
 ·obtain rfl:=oT hi10
  refine aW ?_
  refine zd ?_
  refine zc rfl func206 ((o9 a k h) _ _ rfl) ?_
  refine zC rfl func207 ((Tm a _ p1.1 _) _ _ rfl) ?_
  refine aW ?_
  refine bn rfl rfl ?_ ?_
  ·rfl
  rfl
 refine Wj<|zp1 ?_
 refine zQ 28 ?_
 refine Wi rfl ?_ ?_<;>intro hi11
 ·obtain rfl:=oT hi11
  refine aW ?_
  refine zd ?_
  refine Wd rfl rfl (AS (j:=1) (lO tG rfl) rfl rfl rfl) ?_
  refine zy2 ?_
  refine dt (zs:=cPW a (Zv k .halt)) (lO tG rfl) rfl rfl rfl rfl rfl rfl rfl rfl rfl rfl rfl ?_
  refine zd ?_
  refine aW ?_
  refine aV rfl rfl ?_ ?_
  ·rfl
  rfl
 refine zd ?_
 refine aW ?_
 refine zd ?_
 refine zC rfl func208 ((ag7 a k h hM name) _ _ rfl) ?_
 refine aW ?_
 refine bn rfl rfl ?_ ?_
 ·rfl
 (rw[mM,if_neg (oF hi1),if_neg (oF hi2),if_neg (oF hi3),if_neg (oF hi4),if_neg (oF hi5),if_neg (oF hi6),if_neg (oF hi8),if_neg (oF hi9),if_neg (oF hi10),if_neg (oF hi11)])
end
def ak8{k:PW}{e:Int}:(pOk k k.r.vm e).r=k.r:=by unfold pOk;cases k.err<;>dsimp only;split<;>rfl
section
variable (a : Addr) (k : PW) {M : Nat} (h : KX M k) (hM : M <= 900000) (hv : dA k.r.vm)
include h hM hv
def aj5(xt:Int)(hx:ae xt):∀(H:List Ob) (i:Nat),H[i]?=some (.cells (cPW a k) 197)->(∀o∈gH a,∃k:Nat,H[k]?=some o)->HC prog 117 (.ptr i 0::[i64 xt]) H (.tup []) (H.set i (.cells (cPW a (kD k xt)) 197)):=by
 have h1:=oY h h.v (az k.r.vm xt).2
 have hN:=xw
 have hv1:dA (pOk k k.r.vm (az k.r.vm xt).2).r.vm:=by rw[ak8];exact hv
 refine l7 (fF a) tG (rs:=[]) func117 rfl rfl rfl (by simp) (by simp) (by simp) (by simp) (fun B=>?_)
 refine zd ?_
 refine zC rfl func67 ((qK k.r.vm xt (by have:=h.v.b;omega) hx) _) ?_
 refine zC rfl func161 ((rD a k _ _) _ _ rfl) ?_
 refine Wi rfl ?_ ?_<;>intro hi1
 ·have q1:¬iw (pOk k k.r.vm (az k.r.vm xt).2).err=true:=by simpa using hi1
  refine Wq<|kx rfl rfl ?_ ?_
  ·rfl
  unfold kD;rw[if_neg q1]
 have q1:iw (pOk k k.r.vm (az k.r.vm xt).2).err=true:=by simpa using hi1
 have hk:=Gn (ij (ii.1 q1)).2
 unfold d7 at hk
 refine zd ?_
 refine Wi rfl ?_ ?_<;>intro hi2
 ·have q2:300<=(az k.r.vm xt).1:=oT hi2
  refine zd ?_
  refine zC rfl func161 ((rD a _ _ _) _ _ rfl) ?_
  refine bn rfl rfl ?_ ?_
  ·rfl
  unfold kD;rw[if_pos q1];rw[if_pos q2]
 have q2:¬300<=(az k.r.vm xt).1:=oF hi2
 refine zd ?_
 refine Wi rfl ?_ ?_<;>intro hi3
 ·have q3:(az k.r.vm xt).1=256:=by simpa using hi3
  refine zd ?_
  refine zc rfl func162 ((mv a _ h1 _) _ _ rfl) ?_
  refine Wn<|aI rfl ?_
  refine zy5 ?_
  refine z1 ?_
  refine dt (zs:=cPW a (wIp (jn (pOk k k.r.vm (az k.r.vm xt).2) (pOk k k.r.vm (az k.r.vm xt).2).r.ip) (W64 (xt+8)))) (lO tG rfl) rfl rfl rfl rfl rfl rfl rfl rfl rfl rfl rfl ?_
  refine zd ?_
  refine bn rfl rfl ?_ ?_
  ·rfl
  unfold kD;rw[if_pos q1];rw[if_neg q2,if_pos q3]
 have q3:¬(az k.r.vm xt).1=256:=by simpa using hi3
 refine zd ?_
 refine Wi rfl ?_ ?_<;>intro hi4
 ·have q4:(az k.r.vm xt).1=257:=by simpa using hi4
  refine zd ?_
  refine zC rfl func163 ((kj a _ h1 _) _ _ rfl) ?_
  refine bn rfl rfl ?_ ?_
  ·rfl
  unfold kD;rw[if_pos q1];rw[if_neg q2,if_neg q3,if_pos q4]
 have q4:¬(az k.r.vm xt).1=257:=by simpa using hi4
 refine zd ?_
 refine Wi rfl ?_ ?_<;>intro hi5
 ·have q5:(az k.r.vm xt).1=258:=by simpa using hi5
  refine zd ?_
  refine zc rfl func116 ((kf a _ h1 _ (cU _)) _ _ rfl) ?_
  refine zC rfl func163 ((kj a _ (hJ h1 _).1 _) _ _ rfl) ?_
  refine bn rfl rfl ?_ ?_
  ·rfl
  unfold kD;rw[if_pos q1];rw[if_neg q2,if_neg q3,if_neg q4,if_pos q5]
 have q5:¬(az k.r.vm xt).1=258:=by simpa using hi5
 refine zd ?_
 refine Wi rfl ?_ ?_<;>intro hi6
 ·have q6:(az k.r.vm xt).1=259:=by simpa using hi6
  refine zd ?_
  refine zC rfl func116 ((kf a _ h1 _ (cU _)) _ _ rfl) ?_
  refine zC rfl func163 ((kj a _ (hJ h1 _).1 _) _ _ rfl) ?_
  refine zc rfl func162 ((mv a _ (vq (hJ h1 _).1 (cU _)) _) _ _ rfl) ?_
  refine Wn<|aI rfl ?_
  refine zy5 ?_
  refine dt (zs:=cPW a (wIp (jn (dm (bv (pOk k k.r.vm (az k.r.vm xt).2) (W64 (xt+8))).1 (W64 (xt+16))) (dm (bv (pOk k k.r.vm (az k.r.vm xt).2) (W64 (xt+8))).1 (W64 (xt+16))).r.ip) (bv (pOk k k.r.vm (az k.r.vm xt).2) (W64 (xt+8))).2)) (lO tG rfl) rfl rfl rfl rfl rfl rfl rfl rfl rfl rfl rfl ?_
  refine zd ?_
  refine bn rfl rfl ?_ ?_
  ·rfl
  unfold kD;rw[if_pos q1];rw[if_neg q2,if_neg q3,if_neg q4,if_neg q5,if_pos q6]
 have q6:¬(az k.r.vm xt).1=259:=by simpa using hi6
 refine zd ?_
 refine Wi rfl ?_ ?_<;>intro hi7
 ·have q7:(az k.r.vm xt).1=260:=by simpa using hi7
  refine zd ?_
  refine zC rfl func164 ((OF a _ h1 _ (cU _)) _ _ rfl) ?_
  refine bn rfl rfl ?_ ?_
  ·rfl
  unfold kD;rw[if_pos q1];rw[if_neg q2,if_neg q3,if_neg q4,if_neg q5,if_neg q6,if_pos q7]
 have q7:¬(az k.r.vm xt).1=260:=by simpa using hi7
 refine zd ?_
 refine zC rfl func165 ((tw _) _) ?_
 refine Wi rfl ?_ ?_<;>intro hi8
 ·have q8:23<=(az k.r.vm xt).1/\(az k.r.vm xt).1<=129:=oT hi8
  refine zd ?_
  refine zC rfl func166 ((Yl _ hv1 _) _) ?_
  refine zC rfl func161 ((rD a _ _ _) _ _ rfl) ?_
  refine bn rfl rfl ?_ ?_
  ·rfl
  unfold kD;rw[if_pos q1];rw[if_neg q2,if_neg q3,if_neg q4,if_neg q5,if_neg q6,if_neg q7,if_pos q8]
 have q8:¬(23<=(az k.r.vm xt).1/\(az k.r.vm xt).1<=129):=oF hi8
 refine zd ?_
 refine zC rfl func98 ((oh) _) ?_
 refine Wv tG rfl rfl rfl (by(try simp only[dnL]at *);omega) (iR gj 1 (fun _=>rfl) [] (by omega)) ?_
 refine z1 ?_
 refine zC rfl func167 (Og a _ h1 hM _ _ _ rfl (bS 1 2 rfl rfl)) ?_
 refine bn rfl rfl ?_ ?_
 ·rfl
 unfold kD;rw[if_pos q1];rw[if_neg q2,if_neg q3,if_neg q4,if_neg q5,if_neg q6,if_neg q7,if_neg q8]
end
open Go.RowKit
def Cd(e:Int):Prop:=-300<=e/\e<=0
def at7{e:Int}(h:Cd e):ae e:=by unfold Cd at h;unfold ae;omega
def aP6(n:Nat)(h:n<=300):Cd (-(n:Int)):=by unfold Cd;omega
def cd0:Cd 0:=by unfold Cd;omega
section
variable {α β γ : Type} {c : Prop} [Decidable c]
def Ei{a b:Int}(ha:Cd a)(hb:Cd b):Cd (if c then a else b):=by split<;>assumption
def dq{a b:α×Int}(ha:Cd a.2)(hb:Cd b.2):Cd (if c then a else b).2:=by split<;>assumption
def cF{a b:α×β×Int}(ha:Cd a.2.2)(hb:Cd b.2.2):Cd (if c then a else b).2.2:=by split<;>assumption
def LZ{a b:α×β×γ×Int}(ha:Cd a.2.2.2)(hb:Cd b.2.2.2):Cd (if c then a else b).2.2.2:=by split<;>assumption
end
def iP(n:Nat)(h:Nat.ble n 300=true):Cd (-(n:Int)):=aP6 n (Nat.le_of_ble_eq_true h)
def Ul(a b:Int):Cd (nC a b).2.2:=by unfold nC;exact cF (iP 10 rfl) cd0
def Xj(a b c:Int):Cd (iH a b c).2.2:=by unfold iH;exact cF (iP 10 rfl) (cF (iP 11 rfl) cd0)
def Yb(a b c:Int):Cd (lL a b c).2.2:=by unfold lL;exact cF (iP 10 rfl) (cF cd0 (iP 11 rfl))
def F7(a b c:Int):Cd (jL a b c).2.2:=by unfold jL;exact cF (iP 10 rfl) (cF cd0 (iP 11 rfl))
def ax0(name:Str)(a b:Int):Cd (lH name a b).2.2:=by
 unfold lH
 rcases op2 name with _|o
 ·exact cd0
 cases o<;>first|exact Ul a b|exact cd0
def P8{name:Str}{x:List Int}{r:List Int×Int}(h:qT name x=some r):Cd r.2:=by
 unfold qT at h
 rcases al h with rfl|h
 ·exact Ul _ _
 rcases al h with rfl|h
 ·exact F7 _ _ _
 rcases al h with rfl|h
 ·exact F7 _ _ _
 rcases al h with rfl|h
 ·exact cd0
 rcases al h with rfl|h
 ·exact cd0
 rcases al h with rfl|h
 ·exact Xj _ _ _
 rcases al h with rfl|h
 ·exact Yb _ _ _
 rcases al h with rfl|h
 ·exact F7 _ _ _
 iterate 7
  rcases al h with rfl|h
  exact cd0
 cases h
def M8(m:bh)(a:Int):Cd (cS m a):=by unfold cS;exact Ei (Ei cd0 (iP 23 rfl)) (iP 9 rfl)
def qm(m:bh)(a:Int):Cd (am m a).2:=by unfold am;exact dq cd0 (M8 _ _)
def CU(m:bh)(a:Int):Cd (d9 m a).2:=by unfold d9;exact dq cd0 (iP 9 rfl)
def so(m:bh)(a:Int)(b:List UInt8):Cd (cg m a b).2:=by unfold cg;exact dq (dq cd0 cd0) (iP 9 rfl)
def mN(m:bh)(a n:Int):Cd (aJ m a n).2:=by unfold aJ;exact dq (so _ _ _) (M8 _ _)
def MB(m:bh)(a n:Int):Cd (dP m a n).2:=by unfold dP;exact dq cd0 (iP 9 rfl)
def DD(v:VVm)(s b:Int):Cd (kz v s b):=by unfold kz;exact Ei (Ei (iP 24 rfl) cd0) (qm _ _)
def Oi{v:VVm}{name:Str}{x:List Int}{r:VVm×List Int×Int}(h:qw v name x=some r):Cd r.2.2:=by
 unfold qw at h
 rcases al h with rfl|h
 ·exact qm _ _
 rcases al h with rfl|h
 ·exact CU _ _
 rcases al h with rfl|h
 ·exact mN _ _ _
 rcases al h with rfl|h
 ·exact so _ _ _
 rcases al h with rfl|h
 ·unfold du rZ;exact dq (mN _ _ _) (qm _ _)
 rcases al h with rfl|h
 ·unfold lx;exact cF (qm _ _) (qm _ _)
 rcases al h with rfl|h
 ·unfold du oS;exact dq (mN _ _ _) (mN _ _ _)
 rcases al h with rfl|h
 ·unfold du nv;exact dq (so _ _ _) (iP 9 rfl)
 rcases al h with rfl|h
 ·unfold du nu;exact dq (so _ _ _) (MB _ _ _)
 rcases al h with rfl|h
 ·exact CU _ _
 rcases al h with rfl|h
 ·exact mN _ _ _
 rcases al h with rfl|h
 ·exact mN _ _ _
 rcases al h with rfl|h
 ·unfold gX;exact cF (mN _ _ _) (DD _ _ _)
 rcases al h with rfl|h
 ·unfold jm;exact cF (mN _ _ _) (DD _ _ _)
 cases h
def K3(m:bh)(a:Int)(b:List UInt8):Cd (cZ m a b).2.2:=by unfold cZ;exact cF (iP 8 rfl) cd0
def Sd{v:VVm}{name:Str}{x:List Int}{r:VVm×List Int×Int}(h:uz v name x=some r):Cd r.2.2:=by
 unfold uz at h
 rcases al h with rfl|h
 ·unfold fc uf mH;exact dq (iP 8 rfl) cd0
 rcases al h with rfl|h
 ·unfold fc ct;exact cF (K3 _ _ _) (iP 23 rfl)
 rcases al h with rfl|h
 ·exact K3 _ _ _
 rcases al h with rfl|h
 ·exact K3 _ _ _
 cases h
def QN{v:VVm}{name:Str}{x:List Int}{r:Str×Int}(h:GR v name x=some r):Cd r.2:=by
 unfold GR at h
 iterate 4
  rcases al h with rfl|h
  exact cd0
 rcases al h with rfl|h
 ·exact MB _ _ _
 rcases al h with rfl|h
 ·unfold pu ir;exact dq cd0 (iP 24 rfl)
 rcases al h with rfl|h
 ·unfold pu gV;exact dq cd0 (iP 24 rfl)
 cases h
def Wu(v:VVm){r:Str×Int}(h:Cd r.2):Cd (cG v r).2.2:=by
 unfold cG gF;exact cF (dq (iP 260 rfl) cd0) h
def Fm(p:dV)(c:Int):Cd (gR p c).2:=by unfold gR;exact dq cd0 (iP 17 rfl)
def AP(p:dV)(a b c:Int):Cd (aL p a b c).2.2.2:=by unfold aL;exact LZ (iP 24 rfl) (LZ cd0 (Fm _ _))
def MT:∀(n:Nat) (q:dV) (lo hi base:Int),Cd (rr n q lo hi base).2
 | 0,q,lo,hi,base=>AP _ _ _ _
 | n+1,q,lo,hi,base=>by unfold rr;exact dq (AP _ _ _ _) (dq cd0 (MT n _ _ _ _))
def X7{v:VVm}{name:Str}{x:List Int}{r:VVm×List Int×Int}(h:Bf v name x=some r):Cd r.2.2:=by
 unfold Bf at h
 rcases al h with rfl|h
 ·exact cd0
 rcases al h with rfl|h
 ·exact AP _ _ _ _
 rcases al h with rfl|h
 ·unfold ga um Qo rI;exact dq cd0 (MT _ _ _ _ _)
 rcases al h with rfl|h
 ·exact Fm _ _
 rcases al h with rfl|h
 ·unfold fZ oZ;exact dq cd0 (Fm _ _)
 rcases al h with rfl|h
 ·unfold xL lU;exact cF (so _ _ _) (dq cd0 (iP 17 rfl))
 cases h
def It(k:Int)(v:VVm)(x:List Int):Cd (dy k v x).2.2:=by
 unfold dy;exact cF (iP 259 rfl) (cF (iP 24 rfl) (cF (iP 257 rfl) (cF (iP 258 rfl) cd0)))
def aq8{v:VVm}{name:Str}{x:List Int}{r:VVm×List Int×Int}(h:A8 v name x=some r):Cd r.2.2:=by
 unfold A8 at h
 rcases al h with rfl|h
 ·unfold ka;exact cF (iP 259 rfl) (cF (iP 257 rfl) cd0)
 rcases al h with rfl|h
 ·unfold jG;exact cF (iP 257 rfl) cd0
 rcases al h with rfl|h
 ·exact It _ _ _
 rcases al h with rfl|h
 ·exact It _ _ _
 cases h
def YF(v:VVm)(a:Int):Cd (az v a).2:=by unfold az;exact dq (dq cd0 (iP 9 rfl)) (qm _ _)
def Zn(v:VVm)(name:Str)(x:List Int):Cd (Iv v name x).2.2:=by
 unfold Iv
 refine cF cd0 (cF cd0 (cF cd0 (cF cd0 (cF ?_ (iP 1 rfl)))))
 unfold vI;exact cF (iP 31 rfl) (YF _ _)
def ZW(v:VVm)(n:Int)(name:Str)(x:List Int):Cd (bF v n name x).2.2:=by
 unfold bF
 refine cF (ax0 _ _ _) (cF cd0 ?_)
 rcases e0:qT name x with _|r
 rotate_left
 ·exact P8 e0
 rcases e1:qw v name x with _|r
 rotate_left
 ·exact Oi e1
 rcases e2:uz v name x with _|r
 rotate_left
 ·exact Sd e2
 rcases e3:GR v name x with _|r
 rotate_left
 ·exact Wu v (QN e3)
 rcases e4:Bf v name x with _|r
 rotate_left
 ·exact X7 e4
 rcases e5:A8 v name x with _|r
 rotate_left
 ·exact aq8 e5
 exact Zn v name x
def aC4(v:VVm)(n:Int):Cd (doS v n).2:=by
 unfold doS
 refine dq (iP 24 rfl) ?_
 dsimp only
 refine dq ?_ (dq (iP 4 rfl) (dq (ZW _ _ _ _) (dq (iP 3 rfl) cd0)))
 unfold dz
 exact cF cd0 (cF (iP 4 rfl) (cF (iP 3 rfl) cd0))
open Go.RowKit
def eR{P:Program}{B:Nat->Nat->Prop}{n:Nat}{all:Array Oper}{l:List Oper}{T:Nat->PV}{H H':List Ob}{K:(Nat->PV)->List Ob->Prop}(i:Nat){ob ob':Ob}(hi:H[i]?=some ob)(e:ob=ob')(hH:nfH (H.set i ob')=some H')(h1:WO P B n all l T H' K):WO P B n all l T H K:=by
 rw[sK hH]at h1
 subst e
 have:H.set i ob=H:=by
  apply List.ext_getElem?
  intro j
  rw[List.getElem?_set]
  split
  ·rename_i h;subst h;split
   ·exact hi.symm
   rename_i h2;rw[List.getElem?_eq_none (by omega)]
  rfl
 rwa [this]at h1
def ab3:List Str:=[[73],[74],[85,78,76,79,79,80],[62,82],[82,62],[82,64],[50,62,82],[50,82,62]]
def aM3:List Str:=[[46,34],[40],[92],[91]]
def ac1:List Str:=[[59],[68,79,69,83,62],[91,39,93],[91,67,72,65,82,93],[76,73,84,69,82,65,76],[80,79,83,84,80,79,78,69],[82,69,67,85,82,83,69],[73,70],[69,76,83,69],[84,72,69,78],[66,69,71,73,78],[87,72,73,76,69],[82,69,80,69,65,84],[85,78,84,73,76],[65,71,65,73,78],[68,79],[63,68,79],[76,79,79,80],[43,76,79,79,80],[76,69,65,86,69],[83,34],[69,88,73,84]]
def inS(l:List Str)(s:Str):Bool:=l.any (fun x=>decide (x=s))
def K6(l:List Str)(s:Str)(hl:l.length<=1000000):ab prog 88 [sq gj l,str s] (boo (inS l s)):=by
 refine zY func88 fun B=>?_
 refine zu1 ?_
 refine Ws<|zu1 ?_
 refine Wl ?_
 show W _ _ _ _ _ _ _
 refine dJ (fun(k:Nat)=>[(0,sq gj l),(1,str s),(5,i64 k)]) (fun(k:Nat)=>[]) (fun(k:Nat)=>[]) (fun(k:Nat)=>k<=l.length/\(l.take k).all (fun x=>!decide (x=s))=true) (fun(k:Nat)=>l.length-k) (0) (by simp) [] ?_ ?_
 ·exact dK
 intro k hk
 refine zd ?_
 refine Wi rfl ?_ ?_<;>intro hi1
 ·have hlt:k<l.length:=by have:=oT hi1;omega
  refine zd ?_
  refine Wv tG rfl rfl rfl (by omega) (iN gj 1 (fun _=>rfl) [] (by omega)) ?_
  refine zy3 ?_
  refine zQ 17 ?_
  refine Wi rfl ?_ ?_<;>intro hi2
  ·have hy:inS l s=true:=by unfold inS;rw[List.any_eq_true];exact⟨_,Ur [] hlt,hi2⟩
   refine zd ?_
   rw[hy];rfl
  refine zd ?_
  exact⟨k+1,[],(by exact⟨by omega,Vs [] hlt hk.2 (by rw[hi2];rfl)⟩),(by omega),dK⟩
 have hge:l.length<=k:=by have:=oF hi1;omega
 have hn:inS l s=false:=by have h1:=hk.2;rw[eQ _ k hge]at h1;unfold inS;rw[List.any_eq_false];intro x hx;have:=List.all_eq_true.1 h1 x hx;simpa using this
 refine aW ?_
 refine zd ?_
 rw[hn];rfl
def uY(name:Str)(i:Nat):Int:=if i<12 then 6 else if inS ab3 name then 4 else if inS aM3 name then 1 else if inS ac1 name then 5 else 0
def CP(name:Str)(i:Nat):ab prog 49 [str name,i64 i] (i64 (uY name i)):=by
 refine zH func49 fun B=>?_
 refine Wi rfl ?_ ?_<;>intro hi1
 ·have h0:i<12:=by have:=oT hi1;omega
  refine zd ?_
  rw[uY,if_pos h0];rfl
 have h0:¬i<12:=by have:=oF hi1;omega
 refine Wj<|zp1 ?_
 refine zA 10 rfl (bsL gj [_,_,_,_,_,_,_,_] rfl rfl) ?_
 refine zC rfl func88 ((K6 ab3 name (by decide)) _) ?_
 refine Wi rfl ?_ ?_<;>intro hi2
 ·refine zd ?_
  rw[uY,if_neg h0,if_pos hi2];rfl
 refine Wj<|zp1 ?_
 refine zA 14 rfl (bsL gj [_,_,_,_] rfl rfl) ?_
 refine zC rfl func88 ((K6 aM3 name (by decide)) _) ?_
 refine Wi rfl ?_ ?_<;>intro hi3
 ·refine zd ?_
  rw[uY,if_neg h0,if_neg (by rw[hi2];simp),if_pos hi3];rfl
 refine Wj<|zp1 ?_
 refine zA 18 rfl (bsL gj [_,_,_,_,_,_,_,_,_,_,_,_,_,_,_,_,_,_,_,_,_,_] rfl rfl) ?_
 refine zC rfl func88 ((K6 ac1 name (by decide)) _) ?_
 refine zI ?_ ?_<;>intro hi4
 ·rw[uY,if_neg h0,if_neg (by rw[hi2];simp),if_neg (by rw[hi3];simp),if_pos hi4];rfl
 rw[uY,if_neg h0,if_neg (by rw[hi2];simp),if_neg (by rw[hi3];simp),if_neg (by rw[hi4];simp)];rfl
def JV:ab prog 47 [] (sqc gj aq):=by
 refine bw tG (rs:=[.tmp 0]) func47 rfl rfl rfl (by simp;done) (by exact lG D3 _) (fun B=>?_)
 refine zu1 ?_
 refine zp1 ?_
 refine Wa 1 rfl (bsL gj [_,_,_,_,_,_,_,_,_,_,_,_,_,_,_,_,_,_,_,_,_,_,_,_,_,_,_,_,_,_,_,_,_,_,_,_,_,_,_,_,_,_,_,_,_,_,_,_,_,_,_,_,_,_,_,_,_,_,_,_,_,_,_,_,_,_,_,_,_,_,_,_,_,_,_,_,_,_,_,_,_,_,_,_,_,_,_,_,_,_,_,_,_,_,_,_,_,_,_,_,_,_,_,_,_,_,_,_,_,_,_,_,_,_,_,_,_,_,_,_,_,_,_,_,_,_,_,_,_,_] rfl rfl) ?_
 refine zs1 ?_
 refine Wq ?_
 exact oq rfl rfl
def ez:List Str:=aq++bJ
def Sn:ez.length=167:=by unfold ez;rw[List.length_append,lS,iF]
def gq(i:Nat):Nat:=if 130<=i then 170+i else i
def yD(b:List UInt8)(a n:Nat):List UInt8:=(b.set a (UInt8.ofNat (n%256))).set (a+1) (UInt8.ofNat (n/256))
def Id(b:List UInt8)(i:Nat):List UInt8 :=
 let b1:=yD b (32+8*i) (gq i)
 let b2:=if ez.getD i []=[40,104,97,108,116,41]then yD b1 16 (32+8*i)else b1
 if ez.getD i []=[40,99,97,117,103,104,116,41]then yD b2 24 (32+8*i)else b2
def pR(M:Nat):Nat->List UInt8
 | 0=>(List.replicate M 0).set 0 10
 | k+1=>Id (pR M k) k
def cR(i:Nat):aP:=⟨ez.getD i [],((32+8*i:Nat):Int),uY (ez.getD i []) i⟩
def dX(k:Nat):List aP:=(List.range k).map cR
@[simp] theorem qk (k : Nat) : (dX k).length = k := by simp [dX]
def Qm(k:Nat):dX (k+1)=dX k++[cR k]:=by unfold dX;rw[List.range_succ,List.map_append];rfl
def VW(b:List UInt8)(a n:Nat):(yD b a n).length=b.length:=by simp[yD]
def Ou(b:List UInt8)(i:Nat):(Id b i).length=b.length:=by
 unfold Id
 simp only
 split<;>split<;>simp[VW]
def vA(M k:Nat):(pR M k).length=M:=by
 induction k with
 | zero=>simp[pR]
 | succ k ih=>rw[pR,Ou,ih]
def HU(c:lI):VVm:={conf:=c,mem:=⟨pR c.mem.toNat 167,[]⟩,here:=1368,d:=[],r:=[],f:=[],dict:=dX 167,last:=0,out:=[],pic:=⟨[],false⟩,req:=[],free:=0,next:=0,arg:=0,self:=0,now:=0,hand:=[]}
def vmZ:List PV:=[i64 0,i64 0,i64 0,i64 0,i64 0,.seq 0 [] .clip,.seq 0 [] .clip,i64 0,.seq 0 [] .clip,.seq 0 [] .clip,.seq 0 [] .clip,.seq 0 [] .clip,i64 0,.seq 0 [] .clip,.seq 0 [] .clip,boo false,.seq 0 [] .clip,i64 0,i64 0,i64 0,i64 0,i64 0,.seq 0 [] .clip]
@[simp] theorem aP5 {n : Nat} : qI n vmZ := nN (by simp [vmZ])
def ac5(n:Nat)(h:n<256):((UInt8.ofNat n).toNat:Int)=n:=by rw[UInt8.toNat_ofNat'];omega
def sa(n:Nat):PV.val (Value.int .u8 (IntKind.u8.wrap ((n:Int).tmod 256)))=.val (.int .u8 ((UInt8.ofNat (n%256)).toNat:Int)):=by
 rw[ac5 _ (by omega),Int.tmod_eq_emod_of_nonneg (by omega)]
 simp only[PV.val.injEq,Value.int.injEq,true_and]
 rw[IntKind.wrap_u8];omega
def sN(n:Nat)(h:n<65536):PV.val (Value.int .u8 (IntKind.u8.wrap (IntKind.i64.wrap ((n:Int).tdiv 256))))=.val (.int .u8 ((UInt8.ofNat (n/256)).toNat:Int)):=by
 rw[ac5 _ (by omega),Int.tdiv_eq_ediv_of_nonneg (by omega)]
 simp only[PV.val.injEq,Value.int.injEq,true_and]
 rw[bU,IntKind.wrap_u8];unfold wrap64;omega
def dO{b:List UInt8}{i:Int}{n:Nat}{x:UInt8}(hi:i=n)(hn:n<b.length):cy (b.flatMap aH) (0+i.toNat*1) [.val (.int .u8 (x.toNat:Int))]=(b.set n x).flatMap aH:=by
 subst hi
 rw[Int.toNat_natCast,Nat.mul_one,Nat.zero_add]
 exact yc hn x
def ZF{M:Nat}{d:TD}{e:TypeId}(hd:d.zero=aH 0):Ob.cells (fP M d) e=.cells ((List.replicate M (0:UInt8)).flatMap aH) e:=by
 unfold fP
 rw[hd,List.flatMap_replicate]
def sC:lI:=⟨2048,32,32,200,500⟩
def ap1(d:List Int):VVm:={HU sC with d:=d}
def X8{w:World}{cs:List Value}(h:Rd w 5 cs):∃b:UInt8,True/\au (c0 w) (aH b) cs:=by
 obtain⟨n,h1,h2⟩:=Kf underlying5 h
 have h3:=ZV h1
 refine⟨UInt8.ofNat n.toNat,trivial,?_⟩
 have e:((UInt8.ofNat n.toNat).toNat:Int)=n:=by rw[UInt8.toNat_ofNat'];omega
 unfold aH
 rw[e];exact h2
def R7{w:World}{cs:List Value}(h:Rd w 22 cs):∃l:List UInt8,l.length<=9223372036854775807/\au (c0 w) [sq aH l] cs:=by
 obtain⟨l,_,h2,h3⟩:=ET aH (fun _=>True) 1 underlying22 (by kernel_rfl) (by omega) (fun es h=>X8 h) h
 exact⟨l,by unfold maxLen at h2;omega,h3⟩
def SH{v:VVm}(R:wQ v)(h:v.mem.old.length<=1000000):VSm v:=by
 have hc:=R.gl
 unfold eG at hc
 have a0:=R.d
 have a1:=R.r
 have a2:=R.fl
 have a3:=R.dl
 have a4:=R.req
 have a5:=R.handl
 exact⟨h,by omega,by omega,by omega,by omega,by omega,by omega⟩
end Go.Proofs.YtjcminooghmpeaaGreatDoor
