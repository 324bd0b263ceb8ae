import Derived.Test.YtjcminooghmpeaaGreatDoorPk11
set_option linter.all false
set_option maxRecDepth 100000
set_option maxHeartbeats 40000000
open Go.Proofs.Tryz
namespace Go.Proofs.YtjcminooghmpeaaGreatDoor
open Go.RowKit
def cO:nL:=⟨4096,32,32,250,2000⟩
def vO:VVm:=Gs cO
def fO:af:=⟨vO,kj⟩
theorem K0:d9 cO:=by unfold d9 cO;decide
theorem Zj:(gq 167).all AY=true:=by decide +kernel
theorem Rs:yX vO:=by
 have hl:(pz 4096 167).length=4096:=vz _ _
 refine⟨K0,?_,?_,⟨(by show(0:Nat)<=130;decide),.inr rfl⟩,?_,(by show(1368:Int)<=1368;decide),(by show(1368:Int)<=4096;decide),rfl,rfl,(by show((0:Nat):Int)<=32;decide),(by show((0:Nat):Int)<=32;decide),(by show(0:Nat)<=64;decide),?_,(by show((0:Nat):Int)<=2000;decide),(by show(0:Nat)<=16;decide),(by show(0:Int)<=vO.free;decide),(by show vO.free<=(64:Int);decide),(by show(0:Int)<=vO.next;decide),(by show vO.next<=(4611686018427387904:Int);decide),(by show(0:Nat)<=64;decide)⟩
 ·show lV ⟨pz 4096 167,[]⟩=true
  unfold lV
  simp only[List.all_nil,Bool.true_and,hl]
  decide
 ·show ig (gq 167)=true
  unfold ig
  rw[Zj,qi];rfl
 ·show((pz 4096 167).length:Int)=4096
  rw[hl];rfl
 show((gq 167).length:Int)<=250
 rw[qi];decide
theorem WY:bb 0 vO:=⟨Rs,Nat.le_refl _,bE,bE,fun x hx=>(by cases hx),⟨bG,bG,bG⟩,bG⟩
def gO(a:Int):Int:=(am vO.mem a).1
theorem Ky:na vO 4096 gO:=by
 have hl:vO.mem.b.length=4096:=vz 4096 167
 refine⟨⟨hl,fun a h0 h1 h2=>?_⟩,by decide,by decide,rfl,rfl⟩
 unfold gO am
 rw[ry h0 h1 (by rw[hl];exact h2),if_pos rfl]
def Sp(g:Int->Int):Bool:=((List.range 167).all fun i=>decide (g (32+8*(i:Int))=(tM i:Int)))&&(decide (g 0=10)&&(decide (g 8=0)&&(decide (g 16=96)&&decide (g 24=104))))
theorem TI:Sp gO=true:=by kernel_rfl
structure Oh (g:Int->Int):Prop where
 prim:∀i:Nat,i<167->g (32+8*(i:Int))=(tM i:Int)
 c0:g 0=10
 c16:g 16=96
 c24:g 24=104
theorem Vn:Oh gO:=by
 have q:=TI
 unfold Sp at q
 simp only[Bool.and_eq_true,decide_eq_true_eq,List.all_eq_true]at q
 exact⟨fun i h=>q.1 i (List.mem_range.2 h),q.2.1,q.2.2.2.1,q.2.2.2.2⟩
theorem aC1:gO 8=0:=by
 have q:=TI
 unfold Sp at q
 simp only[Bool.and_eq_true,decide_eq_true_eq,List.all_eq_true]at q
 exact q.2.2.1
theorem Oh.std{g:Int->Int}(S:Oh g):Std g:=⟨fun i h=>by rw[S.prim i (by omega)];unfold tM;rw[if_neg (by omega)],S.c16,S.c24⟩
theorem Oh.upd{g:Int->Int}(S:Oh g){a n:Int}(h:1368<=a):Oh (rI g a n):=by
 refine⟨fun i hi=>?_,?_,?_,?_⟩
 ·unfold rI;rw[if_neg (by omega)];exact S.prim i hi
 ·unfold rI;rw[if_neg (by omega)];exact S.c0
 ·unfold rI;rw[if_neg (by omega)];exact S.c16
 unfold rI;rw[if_neg (by omega)];exact S.c24
section
variable {f : af} {tx w : Str} {p fuel a n q : Int} {r : ai × Bool}
theorem W7(hw:bC tx p=(w,a))(h0:w≠[])(e:m8 (bc f tx a (max fuel 0)) w=r)(he:r.1.err=0):kr f tx p fuel=(r.1.f,r.1.at_,r.1.fuel,true,0):=by
 have:=Qk (f:=f) (s:=tx) (a:=p) (fuel:=fuel) (r:=r) (by rw[hw];exact h0) (by rw[hw];exact e) (fun z=>z.1 he)
 rw[this,he]
theorem wh{l:ai}{v:VVm}(h:l.err=0):ga l (v,0)={l with f:={l.f with vm:=v}}:=by
 unfold ga
 rw[show((v,(0:Int)):VVm×Int).2=0 from rfl,AH h,if_pos h]
theorem Ru{v:VVm}(hd:(v.d.length:Int)<v.conf.data):gJ v n=({v with d:=v.d++[n]},0):=by
 unfold gJ gD
 rw[if_neg (by omega)]
theorem Xt(hw:bC tx p=(w,a))(h0:w≠[])(hf:(cN f.vm.dict w).2.2=false)(hn:ez w (am f.vm.mem 0).1=(n,true))(hc:ct f=false)(hd:(f.vm.d.length:Int)<f.vm.conf.data):
  kr f tx p fuel=({f with vm:={f.vm with d:=f.vm.d++[n]}},a,max fuel 0,true,0):=by
 have e:m8 (bc f tx a (max fuel 0)) w=({bc f tx a (max fuel 0)with f:={f with vm:={f.vm with d:=f.vm.d++[n]}}},false):=by
  unfold m8
  rw[show(bc f tx a (max fuel 0)).f=f from rfl,hf,if_neg (by decide)]
  unfold IL
  rw[show(bc f tx a (max fuel 0)).f=f from rfl,hn]
  dsimp only
  rw[if_neg (by decide),hc,if_neg (by decide)]
  unfold vC
  rw[do0 (show(bc f tx a (max fuel 0)).err=0 from rfl),show(bc f tx a (max fuel 0)).f.vm=f.vm from rfl,Ru hd,wh rfl]
  rfl
 exact W7 hw h0 e rfl
theorem YG{v:VVm}(hw:bC tx p=(w,a))(h0:w≠[])(hf:(cN f.vm.dict w).2.2=false)(hn:ez w (am f.vm.mem 0).1=(n,true))(hc:ct f=true)(hl:GK f.vm n=(v,0)):
  kr f tx p fuel=({f with vm:=v},a,max fuel 0,true,0):=by
 have e:m8 (bc f tx a (max fuel 0)) w=({bc f tx a (max fuel 0)with f:={f with vm:=v}},false):=by
  unfold m8
  rw[show(bc f tx a (max fuel 0)).f=f from rfl,hf,if_neg (by decide)]
  unfold IL
  rw[show(bc f tx a (max fuel 0)).f=f from rfl,hn]
  dsimp only
  rw[if_neg (by decide),hc,if_pos rfl]
  unfold tQ
  rw[do0 (show(bc f tx a (max fuel 0)).err=0 from rfl),show(bc f tx a (max fuel 0)).f.vm=f.vm from rfl,hl,wh rfl]
  rfl
 exact W7 hw h0 e rfl
theorem BQ{l:ai}{x:aR}{i:Int}(hf:cN l.f.vm.dict w=(x,i,true)):m8 l w=i9 l x:=by
 unfold m8
 rw[hf,if_pos rfl]
theorem ZQ{l:ai}{x:aR}(hk:av l.f.vm x.xt=(q,0))(hc:ct l.f=true)(hi:x.flags%2=0):i9 l x=(wN l x.xt,false):=by
 unfold i9
 rw[hk]
 dsimp only
 rw[if_neg (by decide),hc,if_neg (by simp),if_pos (by simp[hi])]
theorem KZ{l:ai}{x:aR}(hk:av l.f.vm x.xt=(q,0))(hq:300<=q)(ho:(ml x q&&!ct l.f)=false)(hi:(ct l.f&&decide (x.flags%2=0))=false):i9 l x=(rH l (cq.getD (q-300).toNat []),false):=by
 unfold i9
 rw[hk]
 dsimp only
 rw[if_neg (by decide),ho,if_neg (by decide),hi,if_neg (by decide),if_pos hq]
theorem UV{l:ai}{x:aR}(hk:av l.f.vm x.xt=(q,0))(hq:¬300<=q)(ho:(ml x q&&!ct l.f)=false)(hi:(ct l.f&&decide (x.flags%2=0))=false):i9 l x=(lZ l x.xt,true):=by
 unfold i9
 rw[hk]
 dsimp only
 rw[if_neg (by decide),ho,if_neg (by decide),hi,if_neg (by decide),if_neg hq]
end
open Go.RowKit
section
variable {v : VVm} {L : Nat} {g : Int -> Int} {n : Int}
def bO(v:VVm)(n:Int):VVm:={v with mem:=stM v.mem v.here n,here:=v.here+8}
structure jF (v:VVm) (L:Nat) (g:Int->Int):Prop where
 m:na v L g
 h0:0<=v.here
 h8:v.here%8=0
theorem D7(R:jF v L g)(h:v.here+8<=(L:Int)):qX v n=(bO v n,0):=by
 have hl:=R.m.mem.len
 have h0:=R.h0
 unfold qX cv
 rw[if_pos (by rw[Int.tmod_eq_emod_of_nonneg h0];exact R.h8)]
 unfold da
 rw[if_neg (by rw[kx,hl];omega),Hf n h0 (by rw[hl];exact h)]
 rfl
theorem iX(R:jF v L g)(h:v.here+8<=(L:Int))(hn:ae n):jF (bO v n) L (rI g v.here n):=by
 have ha:okA L v.here=true:=gu.2 ⟨R.h0,R.h8,h⟩
 have h0:=R.h0
 have h8:=R.h8
 exact⟨⟨R.m.mem.store hn ha,R.m.hL,R.m.hl,R.m.data,R.m.ret⟩,by show 0<=v.here+8;omega,by show(v.here+8)%8=0;omega⟩
theorem it{w:CW}(R:jF w.v L g)(h:w.v.here+8<=(L:Int))(hb:w.bad=0):iq w n={w with v:=bO w.v n}:=by
 rw[X2 hb,D7 R h,<-hb]
theorem YI:rC [40,108,105,116,41]=40:=by decide +kernel
theorem Um(R:jF v L g)(h:v.here+16<=(L:Int)):GK v n=(bO (bO v 40) n,0):=by
 have R1:=iX (n:=40) R (by omega) (by unfold ae;omega)
 unfold GK
 have e1:cJ (kN v) [40,108,105,116,41]=⟨bO v 40,[],0⟩:=by
  unfold cJ
  rw[YI]
  exact it (w:=kN v) R (by show v.here+8<=_;omega) rfl
 rw[e1,it (w:=⟨bO v 40,[],0⟩) R1 (by show v.here+8+8<=_;omega) rfl]
 rfl
end
open Go.RowKit
section
variable {f : af} {v : VVm} {L : Nat} {g : Int -> Int} {n : Int} {name : Str}
theorem Cz(R:jF v L g)(h:v.here<=(L:Int)):aM v.mem v.here=(v.mem,v.here,0):=by
 have hl:=R.m.mem.len
 have e:((8-v.here.tmod 8).tmod 8).toNat=0:=by
  rw[Int.tmod_eq_emod_of_nonneg R.h0,R.h8];decide
 unfold aM
 rw[e]
 unfold da ce bp
 rw[if_neg (by simp;omega),if_pos (by simp)]
 simp
theorem VA{l:List aR}{xt flags limit:Int}(hn:eW name=0)(h:(l.length:Int)<limit)(h2:(l.length:Int)<1024):cz l name xt flags limit=(l++[⟨name,xt,flags⟩],0):=by
 unfold cz
 rw[if_neg (fun z=>z hn),if_neg (by split<;>omega)]
def ng(v:VVm)(name:Str)(flags:Int):VVm:={v with dict:=v.dict++[⟨name,v.here,flags⟩]}
theorem xP(R:jF v L g)(flags:Int):jF (ng v name flags) L g:=⟨⟨R.m.mem,R.m.hL,R.m.hl,R.m.data,R.m.ret⟩,R.h0,R.h8⟩
theorem M5{w:FW}(R:jF w.f.vm L g)(hb:w.bad=0)(h:w.f.vm.here<=(L:Int))(hn:eW name=0)(hw:(w.f.vm.dict.length:Int)<w.f.vm.conf.words)(hw2:(w.f.vm.dict.length:Int)<1024)(flags:Int):
  fg w (aM w.f.vm.mem w.f.vm.here) (cz w.f.vm.dict name (aM w.f.vm.mem w.f.vm.here).2.1 flags w.f.vm.conf.words)={w with f:={w.f with vm:=ng w.f.vm name flags}}:=by
 rw[Cz R h,VA hn hw hw2]
 obtain⟨f,b⟩:=w
 simp only at hb
 subst hb
 rfl
theorem Cs{w:FW}(R:jF w.f.vm L g)(h:w.f.vm.here+8<=(L:Int))(hb:w.bad=0):cd w n={w with f:={w.f with vm:=bO w.f.vm n}}:=by
 rw[TU hb]
 unfold FW.lay
 rw[D7 R h,<-hb]
theorem zl{w:FW}(M:iS w.f.vm.mem L g)(hL:16<=L)(hb:w.bad=0):dR w n={w with f:={w.f with vm:={w.f.vm with mem:=stM w.f.vm.mem 8 n}}}:=by
 unfold dR
 rw[M.put (a:=8) (gu.2 ⟨by decide,by decide,by omega⟩),Vb (by exact hb),<-hb]
def Dh(f:af)(name:Str):af:=⟨{bO (ng f.vm name 2) 256 with mem:=stM (bO (ng f.vm name 2) 256).mem 8 (-1)},⟨f.vm.here,[],f.vm.here,f.vm.dict.length,f.vm.last,false,0⟩⟩
theorem NK(R:jF f.vm L g)(hx:f.comp.xt=0)(h:f.vm.here+8<=(L:Int))(hL:16<=L)(hn:eW name=0)(hw:(f.vm.dict.length:Int)<f.vm.conf.words)(hw2:(f.vm.dict.length:Int)<1024):gY f name false 0=(Dh f name,0):=by
 have hb:aJ f=⟨f,0⟩:=by unfold aJ;rw[if_pos hx]
 have hc:fI f false 0=⟨f,0⟩:=by unfold fI;rw[if_pos rfl,hb]
 have e1:ea ⟨f,0⟩ name 2 [256]=(⟨⟨bO (ng f.vm name 2) 256,f.comp⟩,0⟩,f.vm.here):=by
  have R1:=xP (name:=name) R 2
  unfold ea
  rw[M5 (w:=⟨f,0⟩) R rfl (by show f.vm.here<=_;omega) hn hw hw2]
  refine Prod.ext ?_ ?_
  ·show cd ⟨⟨ng f.vm name 2,f.comp⟩,0⟩ 256=_
   rw[Cs (w:=⟨⟨ng f.vm name 2,f.comp⟩,0⟩) R1 h rfl]
  show(aM f.vm.mem f.vm.here).2.1=_
  rw[Cz R (by omega)]
 have R2:=iX (n:=256) (xP (name:=name) R 2) h (by unfold ae;omega)
 unfold gY
 rw[hc,if_neg (fun z=>z rfl)]
 unfold vo
 rw[e1]
 rw[zl (w:=⟨⟨bO (ng f.vm name 2) 256,f.comp⟩,0⟩) R2.m.mem hL rfl]
 rfl
end
open Go.RowKit
section
variable {f : af} {v : VVm} {L : Nat} {g : Int -> Int} {n : Int} {name : Str}
theorem OE{D:List aR}{w:aR}{a fl:Int}(ha:a=(D.length:Int)):cE (D++[w]) a fl=(D++[{w with flags:=fl}],0):=by
 unfold cE
 rw[if_neg (by rw[List.length_append,List.length_singleton];omega)]
 have e:a.toNat=D.length:=by omega
 rw[e,show(D++[w]).getD D.length default=w by rw[List.getD_eq_getElem?_getD,List.getElem?_append_right (Nat.le_refl _),Nat.sub_self];rfl,List.set_append_right _ _ (Nat.le_refl _),Nat.sub_self]
 rfl
def Rc(f:af)(D:List aR)(w:aR):af:=⟨{bO f.vm 32 with dict:=D++[{w with flags:=jD w.flags}],mem:=stM (bO f.vm 32).mem 8 0},kj⟩
theorem VL{D:List aR}{w:aR}(R:jF f.vm L g)(hx:f.comp.xt≠0)(hcf:f.comp.cf=[])(ho:f.comp.on=false)(hd:f.vm.dict=D++[w])(hi:f.comp.dict=(D.length:Int))(h:f.vm.here+8<=(L:Int))(hL:16<=L):
  mY f=(Rc f D w,0):=by
 have hE:mX f=0:=by
  unfold mX
  rw[if_neg hx,hcf,if_neg (by decide),ho,if_neg (by simp)]
 have R1:=iX (n:=32) R h (by unfold ae;omega)
 have e1:cd ⟨f,0⟩ 32=⟨⟨bO f.vm 32,f.comp⟩,0⟩:=by rw[Cs (w:=⟨f,0⟩) R h rfl]
 have e2:s5 ⟨⟨bO f.vm 32,f.comp⟩,0⟩ f.comp=(D++[{w with flags:=jD w.flags}],0):=by
  unfold s5
  show cE f.vm.dict f.comp.dict (jD (f.vm.dict.getD f.comp.dict.toNat default).flags)=_
  rw[hd,show f.comp.dict.toNat=D.length by omega,show(D++[w]).getD D.length default=w by rw[List.getD_eq_getElem?_getD,List.getElem?_append_right (Nat.le_refl _),Nat.sub_self];rfl,OE hi]
 have e3:yg f=⟨⟨{bO f.vm 32 with dict:=D++[{w with flags:=jD w.flags}],mem:=stM (bO f.vm 32).mem 8 0},f.comp⟩,0⟩:=by
  unfold yg
  rw[e1,e2]
  have e4:mQ ⟨⟨bO f.vm 32,f.comp⟩,0⟩ (D++[{w with flags:=jD w.flags}],0)=⟨⟨{bO f.vm 32 with dict:=D++[{w with flags:=jD w.flags}]},f.comp⟩,0⟩:=rfl
  rw[e4,zl (w:=⟨⟨{bO f.vm 32 with dict:=D++[{w with flags:=jD w.flags}]},f.comp⟩,0⟩) R1.m.mem hL rfl]
  unfold iJ
  rw[if_neg (by rw[ho];decide)]
 unfold mY
 rw[if_neg (fun z=>z hE),e3]
 rfl
end
open Go.RowKit
theorem Cu(l:List aR)(w:aR)(name:Str):∀k,k<=l.length->l9 (l++[w]) name k=l9 l name k
 | 0,_=>rfl
 | k+1,hk=>by
  unfold l9
  rw[show(l++[w]).getD k default=l.getD k default by rw[List.getD_eq_getElem?_getD,List.getElem?_append_left (by omega),<-List.getD_eq_getElem?_getD],Cu l w name k (by omega)]
theorem N7(l:List aR)(w:aR)(name:Str):cN (l++[w]) name=if xk w name=true then(w,(l.length:Int),true)else cN l name:=by
 unfold cN
 rw[List.length_append,List.length_singleton]
 rw[l9,show(l++[w]).getD l.length default=w by rw[List.getD_eq_getElem?_getD,List.getElem?_append_right (Nat.le_refl _),Nat.sub_self];rfl,Cu l w name l.length (Nat.le_refl _)]
theorem O5:((List.range 167).all fun i=>NV (kZ i)||decide (cN (gq 167) (lY.getD i [])=(kZ i,(i:Int),true)))=true:=by kernel_rfl
theorem ZL{i:Nat}(hi:i<167)(hh:NV (kZ i)=false):cN (gq 167) (lY.getD i [])=(kZ i,(i:Int),true):=by
 have:=List.all_eq_true.1 O5 i (List.mem_range.2 hi)
 rw[hh,Bool.false_or]at this
 exact oT this
theorem Oy{l:ai}{g g':Int->Int}{L:Nat}{u:VVm}{d':List Int}{i:Nat}(M:na l.f.vm L g)(S:Std g)(M':na u L g')(S':Std g')(h1:23<=i)(h2:i<=129)(hd:doS (mk l.f.vm l.f.vm.d [] []) i=(mk u d' [] [],0))(hf:2<=l.fuel/\l.fuel<=300000)(he:l.err=0):
  lZ l (32+8*(i:Int))={l with f:={l.f with vm:=mk u d' [] []},fuel:=l.fuel-2}:=by
 have g1:Go1 (mw l.f.vm l.f.vm.d [] [] 16 (32+8*(i:Int)) l.fuel) (mr u d' [] [] 16 (l.fuel-1)) :=
  Ym M ⟨by omega,by omega⟩ (GS M (by omega)) (S.prim i (by omega)) (uf (by omega)) (QQ (by omega) (by omega) hd)
 have g2:=Me (d:=d') (r:=[]) (f:=[]) (fu:=l.fuel-1) M' S' ⟨by omega,by omega⟩
 refine(CL (n:=1) (s:=mr u d' [] [] 16 (l.fuel-1)) (GoE.cons g1 rfl (by show ¬l.fuel<1;omega) (.nil _)) g2 rfl (by show ¬l.fuel-1<1;omega) (by omega) (by omega) he).trans ?_
 show({l with f:={l.f with vm:=y6 (mk u d' [] [])},fuel:=l.fuel-1-1}:ai)=_
 rw[show l.fuel-1-1=l.fuel-2 by omega];rfl
theorem Jq{l:ai}{g g':Int->Int}{L n:Nat}{u:VVm}{d':List Int}{xt:Int}(M:na l.f.vm L g)(hx:okA L xt=true)(hq:g xt=256)(M':na u L g')(S':Std g')
  (hr:GoE n (mr l.f.vm l.f.vm.d [16] [] (xt+8) (l.fuel-1)) (mr u d' [] [] 16 (l.fuel-1-n))) (hf:(n:Int)+2<=l.fuel/\l.fuel<=300000) (he:l.err=0) :
  lZ l xt={l with f:={l.f with vm:=mk u d' [] []},fuel:=l.fuel-(n+2:Nat)}:=by
 have g1:Go1 (mw l.f.vm l.f.vm.d [] [] 16 xt l.fuel) (mr l.f.vm l.f.vm.d ([]++[16]) [] (xt+8) (l.fuel-1)):=Pn M ⟨by omega,by omega⟩ hx hq (by decide)
 have g2:=Me (d:=d') (r:=[]) (f:=[]) (fu:=l.fuel-1-n) M' S' ⟨by omega,by omega⟩
 refine(CL (n:=n+1) (s:=mr u d' [] [] 16 (l.fuel-1-n)) (GoE.cons g1 rfl (by show ¬l.fuel<1;omega) hr) g2 rfl (by show ¬l.fuel-1-n<1;omega) (by omega) (by omega) he).trans ?_
 show({l with f:={l.f with vm:=y6 (mk u d' [] [])},fuel:=l.fuel-1-n-1}:ai)=_
 rw[show l.fuel-1-n-1=l.fuel-(n+2:Nat) by omega];rfl
theorem vt{w:CW}{L:Nat}{g:Int->Int}{a:Int}(M:iS w.v.mem L g)(ha:okA L a=true)(hb:w.bad=0):jz w a={w with v:={w.v with mem:=stM w.v.mem a w.v.here}}:=by
 rw[jG hb,M.put ha,<-hb]
theorem pV{w:CW}{c:VCf}(h:w.l.length<32):mN w c={w with l:=w.l++[c]}:=by
 unfold mN;rw[if_neg (by omega)]
theorem nJ{w:CW}{D:List VCf}{c:VCf}{kind:Int}(h:w.l=D++[c])(hk:c.kind=kind):bh w kind=({w with l:=D},c):=by
 have e:(D++[c]).getD ((D++[c]).length-1) zCf=c:=by rw[List.length_append,List.length_singleton,Nat.add_sub_cancel,List.getD_eq_getElem?_getD,List.getElem?_append_right (Nat.le_refl _),Nat.sub_self];rfl
 unfold bh
 rw[h,if_neg (fun z=>z.elim (fun q=>by simp at q) (fun q=>q (by rw[e];exact hk))),e]
 simp
theorem kg{w:CW}{v:VVm}{l:List VCf}(hb:w.bad=0):oR w v l=(w.v,w.l,0):=by
 unfold oR;rw[if_neg (fun z=>z hb)]
theorem qM{w:CW}{L:Nat}{g:Int->Int}{name:Str}(R:jF w.v L g)(h:w.v.here+16<=(L:Int))(hx:ae (rC name))(hb:w.bad=0):gn w name={w with v:=bO (bO w.v (rC name)) 0}:=by
 unfold gn cJ
 rw[it R (by omega) hb]
 have R1:=iX (n:=rC name) R (by omega) hx
 rw[it (w:={w with v:=bO w.v (rC name)}) R1 (by show w.v.here+8+8<=_;omega) hb]
section
variable {v : VVm} {l D : List VCf} {L : Nat} {g : Int -> Int} {a : Int}
theorem LG:rC [40,48,98,114,97,110,99,104,41]=56:=by decide +kernel
theorem TM:rC [40,98,114,97,110,99,104,41]=48:=by decide +kernel
theorem Jm:ae 56:=by unfold ae;omega
theorem EE:ae 48:=by unfold ae;omega
theorem aD7(R:jF v L g)(h:v.here+16<=(L:Int))(hl:l.length<32):bn v l [73,70]=(bO (bO v 56) 0,l++[⟨1,v.here+8,[]⟩],0):=by
 rw[qD (g:=ifC) rfl (by unfold kh;rw[if_pos (.inl rfl)];simp;omega)]
 unfold ifC
 have e:(cJ ⟨v,l,0⟩ [40,48,98,114,97,110,99,104,41]).v.here=v.here+8:=by
  unfold cJ;rw[it (w:=⟨v,l,0⟩) R (by show v.here+8<=_;omega) rfl];rfl
 rw[e,qM (w:=⟨v,l,0⟩) R h (by rw[LG];exact Jm) rfl,LG,pV (by exact hl),kg rfl]
theorem aa0(R:jF v L g)(hl:l=D++[⟨1,a,[]⟩])(ha:okA L a=true):bn v l [84,72,69,78]=({v with mem:=stM v.mem a v.here},D,0):=by
 rw[qD (g:=LC) rfl (by unfold kh;rw[if_neg (by decide)];decide)]
 unfold LC
 rw[nJ (w:=⟨v,l,0⟩) hl rfl,vt (w:=⟨v,D,0⟩) R.m.mem ha rfl,kg rfl]
theorem ZB(R:jF v L g)(h:v.here+16<=(L:Int))(hl:l=D++[⟨1,a,[]⟩])(ha:okA L a=true)(hD:D.length<32)(hs:v.here<=1000000):
  bn v l [69,76,83,69]=({bO (bO v 48) 0 with mem:=stM (bO (bO v 48) 0).mem a (v.here+16)},D++[⟨1,v.here+8,[]⟩],0):=by
 rw[qD (g:=KM) rfl (by unfold kh;rw[if_neg (by decide)];decide)]
 unfold KM
 rw[nJ (w:=⟨v,l,0⟩) hl rfl]
 dsimp only
 have e:(cJ ⟨v,D,0⟩ [40,98,114,97,110,99,104,41]).v.here=v.here+8:=by
  unfold cJ;rw[it (w:=⟨v,D,0⟩) R (by show v.here+8<=_;omega) rfl];rfl
 have R2:=iX (n:=0) (iX (n:=48) R (by omega) EE) (by show v.here+8+8<=_;omega) bG
 rw[e,qM (w:=⟨v,D,0⟩) R h (by rw[TM];exact EE) rfl,TM,vt (w:=⟨bO (bO v 48) 0,D,0⟩) R2.m.mem ha rfl,pV (by exact hD),kg rfl]
 have e2:(bO (bO v 48) 0).here=v.here+16:=by show v.here+8+8=_;omega
 dsimp only
 rw[e2]
end
open Go.RowKit
abbrev Tk:=Str×Str
def wG:List Tk->Str
 | []=>[]
 | [t]=>t.1++t.2
 | t::u::ws=>t.1++(t.2++(32::wG (u::ws)))
def okT(t:Tk):Prop:=(∀c∈t.1,c.toNat<=32)/\t.2≠[]/\∀c∈t.2,32<c.toNat
def nxT(p:Str)(t:Tk)(ws:List Tk):Str:=if ws=[]then p++(t.1++t.2)else p++(t.1++t.2)++[32]
theorem JN(p:Str)(t:Tk)(ws:List Tk):p++wG (t::ws)=nxT p t ws++wG ws:=by
 unfold nxT
 cases ws with
 | nil=>rw[if_pos rfl];show p++(t.1++t.2)=_++[];rw[List.append_nil]
 | cons u ws=>rw[if_neg (by simp)];show p++(t.1++(t.2++(32::wG (u::ws))))=_;simp
theorem yF(p:Str){t:Tk}(ws:List Tk)(h:okT t):bC (p++wG (t::ws)) p.length=(t.2,((nxT p t ws).length:Int)):=by
 unfold nxT
 cases ws with
 | nil =>
  have w:=Ma p t.1 t.2 [] h.1 h.2.1 h.2.2 (.inl rfl)
  rw[List.append_nil]at w
  rw[if_pos rfl]
  show bC (p++(t.1++t.2)) p.length=_
  rw[w]
  refine Prod.ext rfl ?_
  show min (((p.length+t.1.length+t.2.length:Nat):Int)+1) ((p.length+t.1.length+t.2.length+0:Nat):Int)=_
  simp only[List.length_append];omega
 | cons u ws =>
  have w:=Ma p t.1 t.2 (32::wG (u::ws)) h.1 h.2.1 h.2.2 (.inr ⟨32,_,rfl,by decide⟩)
  rw[if_neg (by simp)]
  show bC (p++(t.1++(t.2++(32::wG (u::ws))))) p.length=_
  rw[w]
  refine Prod.ext rfl ?_
  show min (((p.length+t.1.length+t.2.length:Nat):Int)+1) ((p.length+t.1.length+t.2.length+(wG (u::ws)).length.succ:Nat):Int)=_
  simp only[List.length_append,List.length_singleton];omega
theorem Uq(p:Str):(bC (p++wG []) p.length).1=[]:=QG p [] (fun c hc=>by cases hc)
def yR(f0:af)(tx:Str)(x y:LS)(k:Nat):Prop:=∀n,kY f0 tx (n+k) x=kY f0 tx n y
theorem yR.rf(f0:af)(tx:Str)(x:LS):yR f0 tx x x 0:=fun n=>rfl
theorem yR.tr{f0:af}{tx:Str}{x y z:LS}{j k:Nat}(h:yR f0 tx x y j)(g:yR f0 tx y z k):yR f0 tx x z (j+k):=fun n=>by
 rw[show n+(j+k)=(n+k)+j by omega,h (n+k),g n]
theorem yR.one{f0 f:af}{tx:Str}{x:LS}{a u:Int}(h:kr x.f tx x.at_ x.left=(f,a,u,true,0)):yR f0 tx x ⟨f,a,u⟩ 1:=fun n=>by
 have e:lnR x tx=(f,a,u,true,0):=h
 rw[kY,e,if_neg (fun z=>z rfl),if_neg (fun z=>absurd (show true=false from z) (by decide))]
theorem PQ{f0:af}{tx:Str}{fuel a u:Int}{k:Nat}{f1:af}(h:yR f0 tx ⟨f0,0,max fuel 0⟩ ⟨f1,a,u⟩ k)(hk:k<=tx.length+1)(hu:0<=u)(hw:(bC tx a).1=[]):mO f0 tx fuel=(vi f1,u,0):=by
 have e:lnR ⟨f1,a,u⟩ tx=(f1,(tx.length:Int),u,false,0):=by
  show kr f1 tx a u=_
  rw[Rf hw,show max u 0=u by omega]
 unfold mO
 rw[show tx.length+2=(tx.length+1-k+1)+k by omega,h,kY,e,if_neg (fun z=>z rfl),if_pos rfl]
theorem S9{f0:af}{tx:Str}{fuel a u a2 u2 e:Int}{k:Nat}{f1 f2:af}(h:yR f0 tx ⟨f0,0,max fuel 0⟩ ⟨f1,a,u⟩ k)(hk:k<=tx.length+1)(hw:kr f1 tx a u=(f2,a2,u2,true,e))(he:e≠0):mO f0 tx fuel=(vi (Mn f0 f2),u2,e):=by
 have e':lnR ⟨f1,a,u⟩ tx=(f2,a2,u2,true,e):=hw
 unfold mO
 rw[show tx.length+2=(tx.length+1-k+1)+k by omega,h,kY,e',if_pos he]
def gT(a:Int):Int:=if a=0 then 10 else if a=8 then 0 else if a=16 then 96 else if a=24 then 104 else if 32<=a/\a<1368/\a%8=0 then(tM ((a-32)/8).toNat:Int)else gO a
theorem aA7{a:Int}:gO a=gT a:=by
 unfold gT
 by_cases h0:a=0
 ·rw[if_pos h0,h0];exact Vn.c0
 rw[if_neg h0]
 by_cases h1:a=8
 ·rw[if_pos h1,h1];exact aC1
 rw[if_neg h1]
 by_cases h2:a=16
 ·rw[if_pos h2,h2];exact Vn.c16
 rw[if_neg h2]
 by_cases h3:a=24
 ·rw[if_pos h3,h3];exact Vn.c24
 rw[if_neg h3]
 by_cases h4:32<=a/\a<1368/\a%8=0
 ·rw[if_pos h4]
  have:=Vn.prim ((a-32)/8).toNat (by omega)
  rw[show 32+8*((((a-32)/8).toNat:Nat):Int)=a by omega]at this
  exact this
 rw[if_neg h4]
def gL:List (Int×Int)->Int->Int
 | []=>gT
 | p::l=>rI (gL l) p.1 p.2
structure sz (g:Int->Int):Prop where
 prim:∀i:Nat,i<167->g (32+8*(i:Int))=(tM i:Int)
 c16:g 16=96
 c24:g 24=104
theorem sz.std{g:Int->Int}(S:sz g):Std g:=⟨fun i h=>by rw[S.prim i (by omega)];unfold tM;rw[if_neg (by omega)],S.c16,S.c24⟩
theorem sz.set{g:Int->Int}(S:sz g){a n:Int}(h:1368<=a\/a<=8):sz (rI g a n):=by
 refine⟨fun i hi=>?_,?_,?_⟩
 ·unfold rI;rw[if_neg (by omega)];exact S.prim i hi
 ·unfold rI;rw[if_neg (by omega)];exact S.c16
 unfold rI;rw[if_neg (by omega)];exact S.c24
theorem av2:sz gT:=by
 refine⟨fun i hi=>?_,rfl,rfl⟩
 unfold gT
 rw[if_neg (by omega),if_neg (by omega),if_neg (by omega),if_neg (by omega),if_pos (by omega),show((32+8*(i:Int)-32)/8).toNat=i by omega]
structure SS where
 d:List Int
 cs:List (Int×Int)
 here:Int
 ext:List aR
 last:Int
 out:Str
 comp:xC
def vS(s:SS)(m:bj):VVm:={vO with mem:=m,d:=s.d,here:=s.here,dict:=gq 167++s.ext,last:=s.last,out:=s.out}
structure At (f:af) (s:SS):Prop where
 ex:∃m,f=⟨vS s m,s.comp⟩/\iS m 4096 (gL s.cs)
 std:sz (gL s.cs)
 h0:1368<=s.here
 h1:s.here<=4096
 h8:s.here%8=0
 ext:s.ext.length<=80
def sO:SS:=⟨[],[],1368,[],0,[],kj⟩
theorem aC8:At fO sO:=by
 refine⟨⟨vO.mem,?_,Ky.mem.len,fun a h0 h1 h2=>?_⟩,av2,by decide,by decide,by decide,by decide⟩
 ·show fO=⟨{vO with mem:=vO.mem,d:=[],here:=1368,dict:=gq 167++[],last:=0,out:=[]},kj⟩
  rw[List.append_nil];rfl
 rw[Ky.mem.cell a h0 h1 h2,aA7];rfl
theorem At.mach{s:SS}{m:bj}(h:iS m 4096 (gL s.cs)):na (vS s m) 4096 (gL s.cs):=⟨h,by decide,by decide,rfl,rfl⟩
theorem At.room{f:af}{s:SS}(h:At f s){m:bj}(hm:iS m 4096 (gL s.cs)):jF (vS s m) 4096 (gL s.cs):=⟨At.mach hm,by have:=h.h0;show 0<=s.here;omega,h.h8⟩
def SS.cmp(s:SS):Bool:=decide (s.comp.xt≠0/\gL s.cs 8≠0)
section
variable {f : af} {s : SS}
theorem AZ(h:At f s){a:Int}(ha:okA 4096 a=true):am f.vm.mem a=(gL s.cs a,0):=by
 obtain⟨m,rfl,hm⟩:=h.ex
 have q:=gu.1 ha
 exact hm.cell a q.1 q.2.1 q.2.2
theorem ub(h:At f s):ct f=s.cmp:=by
 unfold ct SS.cmp
 rw[AZ h (a:=8) rfl]
 obtain⟨m,rfl,hm⟩:=h.ex
 rfl
theorem yD(h:At f s){xt:Int}(ha:okA 4096 xt=true)(hk:eX (gL s.cs xt)):av f.vm xt=(gL s.cs xt,0):=by
 unfold av
 rw[AZ h ha,if_pos rfl,if_pos hk]
theorem vY(h:At f s):f.vm.dict=gq 167++s.ext:=by obtain⟨m,rfl,hm⟩:=h.ex;rfl
theorem Fe(h:At f s):(am f.vm.mem 0).1=gL s.cs 0:=by rw[AZ h (a:=0) rfl]
end
def SW(s:SS)(w:Str)(s':SS)(c:Int):Prop:=∀f,At f s->∃f',At f' s'/\∀(tx:Str) (p a u:Int),bC tx p=(w,a)->w≠[]->0<=u->c<=u->u<=5000->kr f tx p u=(f',a,u-c,true,0)
def SS.lay(s:SS)(n:Int):SS:={s with cs:=(s.here,n)::s.cs,here:=s.here+8}
theorem DC{l:List (Int×Int)}(h:sz (gL l)){a n:Int}(ha:1368<=a):sz (gL ((a,n)::l)):=h.set (.inl ha)
theorem lJ{f:af}{s:SS}(h:At f s){n:Int}(hn:ae n)(hr:s.here+8<=4096):qX f.vm n=(bO f.vm n,0)/\At {f with vm:=bO f.vm n} (s.lay n):=by
 obtain⟨m,rfl,hm⟩:=h.ex
 have R:=h.room hm
 have e:=D7 (n:=n) R (by show s.here+8<=_;exact hr)
 have R2:=iX (n:=n) R (by show s.here+8<=_;exact hr) hn
 exact⟨e,⟨stM m s.here n,rfl,R2.m.mem⟩,DC h.std h.h0,by have:=h.h0;show 1368<=s.here+8;omega,by show s.here+8<=4096;exact hr,by have:=h.h8;show(s.here+8)%8=0;omega,h.ext⟩
theorem PH{s:SS}{w:Str}{n:Int}(hf:(cN (gq 167++s.ext) w).2.2=false)(hn:ez w (gL s.cs 0)=(n,true))(hc:s.cmp=false)(hd:s.d.length<32):SW s w {s with d:=s.d++[n]} 0:=by
 intro f h
 have ed:=vY h
 have ec:=ub h
 have eb:=Fe h
 obtain⟨m,rfl,hm⟩:=h.ex
 refine⟨⟨vS {s with d:=s.d++[n]} m,s.comp⟩,⟨⟨m,rfl,hm⟩,h.std,h.h0,h.h1,h.h8,h.ext⟩,fun tx p a u hw h0 u0 cu u9=>?_⟩
 have q:=Xt (f:=⟨vS s m,s.comp⟩) (fuel:=u) hw h0 (by rw[ed];exact hf) (by rw[eb];exact hn) (by rw[ec];exact hc) (by show(s.d.length:Int)<32;omega)
 rw[q,show max u 0=u-0 by omega];rfl
theorem Zy{s:SS}{w:Str}{n:Int}(hf:(cN (gq 167++s.ext) w).2.2=false)(hn:ez w (gL s.cs 0)=(n,true))(hc:s.cmp=true)(hr:s.here+16<=4096):SW s w ((s.lay 40).lay n) 0:=by
 intro f h
 have ed:=vY h
 have ec:=ub h
 have eb:=Fe h
 have fn:ae n:=by have:=BT w (gL s.cs 0);rw[hn]at this;exact this
 have a1:=lJ h (n:=40) (by unfold ae;omega) (by omega)
 have a2:=lJ a1.2 (n:=n) fn (by show s.here+8+8<=_;omega)
 obtain⟨m,rfl,hm⟩:=h.ex
 have R:=h.room hm
 refine⟨_,a2.2,fun tx p a u hw h0 u0 cu u9=>?_⟩
 have q:=YG (f:=⟨vS s m,s.comp⟩) (fuel:=u) hw h0 (by rw[ed];exact hf) (by rw[eb];exact hn) (by rw[ec];exact hc) (Um (n:=n) R (by show s.here+16<=_;exact hr))
 rw[q,show max u 0=u-0 by omega]
theorem yZ{s s':SS}{w:Str}{x:aR}{i c:Int}(hf:cN (gq 167++s.ext) w=(x,i,true))
  (hk:∀f,At f s->∃f',At f' s'/\∀(tx:Str) (a u:Int),0<=u->c<=u->u<=5000->∃o,i9 (bc f tx a u) x=(⟨f',tx,a,u-c,0⟩,o)):SW s w s' c:=by
 intro f h
 obtain⟨f',a',k⟩:=hk f h
 refine⟨f',a',fun tx p a u hw h0 u0 cu u9=>?_⟩
 obtain⟨o,ho⟩:=k tx a u u0 cu u9
 have e:m8 (bc f tx a (max u 0)) w=(⟨f',tx,a,u-c,0⟩,o):=by
  rw[show max u 0=u by omega,BQ (x:=x) (i:=i) (by show cN f.vm.dict w=_;rw[vY h];exact hf)]
  exact ho
 exact W7 hw h0 e rfl
structure XI where
 x:aR
 k:Int
def xiS(s:SS)(w:Str):Option XI :=
 if (cN (gq 167++s.ext) w).2.2=true/\okA 4096 (cN (gq 167++s.ext) w).1.xt=true/\eX (gL s.cs (cN (gq 167++s.ext) w).1.xt)then some ⟨(cN (gq 167++s.ext) w).1,gL s.cs (cN (gq 167++s.ext) w).1.xt⟩else none
theorem Lb{s:SS}{w:Str}{y:XI}(h:xiS s w=some y):cN (gq 167++s.ext) w=(y.x,(cN (gq 167++s.ext) w).2.1,true)/\okA 4096 y.x.xt=true/\y.k=gL s.cs y.x.xt/\eX y.k:=by
 unfold xiS at h
 split at h
 ·rename_i q
  injection h with h
  subst h
  exact⟨Prod.ext rfl (Prod.ext rfl q.1),q.2.1,rfl,q.2.2⟩
 cases h
theorem Zt{s:SS}{w:Str}{y:XI}(h:xiS s w=some y)(hc:s.cmp=true)(hi:y.x.flags%2=0)(hr:s.here+8<=4096):SW s w (s.lay y.x.xt) 0:=by
 obtain⟨hf,ha,hk,hkk⟩:=Lb h
 refine yZ hf fun f a=>?_
 have ak:=gu.1 ha
 have l:=lJ a (n:=y.x.xt) (by unfold ae;omega) hr
 refine⟨_,l.2,fun tx p u u0 cu u9=>⟨false,?_⟩⟩
 have ek:av f.vm y.x.xt=(y.k,0):=by rw[yD a ha (by rw[<-hk];exact hkk),hk]
 rw[ZQ (l:=bc f tx p u) ek (by rw[show ct (bc f tx p u).f=ct f from rfl,ub a];exact hc) hi]
 refine Prod.ext ?_ rfl
 show wN (bc f tx p u) y.x.xt=_
 unfold wN
 rw[do0 rfl,show(bc f tx p u).f.vm=f.vm from rfl,l.1,wh rfl,show u-0=u by omega];rfl
theorem U1{s s':SS}{w:Str}{y:XI}{name:Str}(h:xiS s w=some y)(hc:s.cmp=true)(hi:y.x.flags%2=1)(h3:300<=y.k)(hn:cq.getD (y.k-300).toNat []=name)
  (hs:∀f,At f s->∃f',At f' s'/\∀(tx:Str) (a u:Int),rH (bc f tx a u) name=bc f' tx a u):SW s w s' 0:=by
 obtain⟨hf,ha,hk,hkk⟩:=Lb h
 refine yZ hf fun f a=>?_
 obtain⟨f',a',k⟩:=hs f a
 refine⟨f',a',fun tx p u u0 cu u9=>⟨false,?_⟩⟩
 have ek:av f.vm y.x.xt=(y.k,0):=by rw[yD a ha (by rw[<-hk];exact hkk),hk]
 have ec:ct (bc f tx p u).f=true:=by rw[show ct (bc f tx p u).f=ct f from rfl,ub a];exact hc
 rw[KZ (l:=bc f tx p u) ek h3 (by rw[ec];simp) (by rw[ec,hi];rfl),hn,k,show u-0=u by omega];rfl
open Go.RowKit
section
variable {v : VVm} {l D : List VCf} {L : Nat} {g : Int -> Int} {a o : Int}
theorem TW:rC [40,63,100,111,41]=72:=by decide +kernel
theorem Uo:rC [40,108,111,111,112,41]=80:=by decide +kernel
theorem OT:ae 72:=by unfold ae;omega
theorem Qp:ae 80:=by unfold ae;omega
theorem Xv(hl:l.length<32):bn v l [66,69,71,73,78]=(v,l++[⟨2,v.here,[]⟩],0):=by
 rw[qD (g:=EO) rfl (by unfold kh;rw[if_pos (.inr (.inl rfl))];simp;omega)]
 unfold EO
 rw[pV (by exact hl),kg rfl]
theorem XA(R:jF v L g)(h:v.here+16<=(L:Int))(hl:l=D++[⟨2,a,[]⟩])(hD:D.length<31):bn v l [87,72,73,76,69]=(bO (bO v 56) 0,D++[⟨1,v.here+8,[]⟩]++[⟨2,a,[]⟩],0):=by
 rw[qD (g:=Dm) rfl (by unfold kh;rw[if_pos (.inr (.inr (.inl rfl)))];subst hl;simp;omega)]
 unfold Dm
 rw[nJ (w:=⟨v,l,0⟩) hl rfl]
 dsimp only
 have e:(cJ ⟨v,D,0⟩ [40,48,98,114,97,110,99,104,41]).v.here=v.here+8:=by
  unfold cJ;rw[it (w:=⟨v,D,0⟩) R (by show v.here+8<=_;omega) rfl];rfl
 rw[e,qM (w:=⟨v,D,0⟩) R h (by rw[LG];exact Jm) rfl,LG,pV (w:=⟨bO (bO v 56) 0,D,0⟩) (c:=⟨1,v.here+8,[]⟩) (by show D.length<32;omega),pV (w:=⟨bO (bO v 56) 0,D++[(⟨1,v.here+8,[]⟩:VCf)],0⟩) (c:=⟨2,a,[]⟩) (by show(D++[(⟨1,v.here+8,[]⟩:VCf)]).length<32;rw[List.length_append,List.length_singleton];omega),kg rfl]
theorem Tg(R:jF v L g)(h:v.here+16<=(L:Int))(hl:l=D++[⟨1,o,[]⟩]++[⟨2,a,[]⟩])(ho:okA L o=true)(ha:ae a):
  bn v l [82,69,80,69,65,84]=({bO (bO v 48) a with mem:=stM (bO (bO v 48) a).mem o (v.here+16)},D,0):=by
 rw[qD (g:=yA) rfl (by unfold kh;rw[if_neg (by decide)];decide)]
 unfold yA
 rw[nJ (w:=⟨v,l,0⟩) hl rfl]
 dsimp only
 rw[nJ (w:=⟨v,D++[⟨1,o,[]⟩],0⟩) rfl rfl]
 dsimp only
 have R1:=iX (n:=48) R (by omega) EE
 have R2:=iX (n:=a) R1 (by show v.here+8+8<=_;omega) ha
 unfold cJ
 rw[TM,it (w:=⟨v,D,0⟩) R (by show v.here+8<=_;omega) rfl,it (w:=⟨bO v 48,D,0⟩) R1 (by show v.here+8+8<=_;omega) rfl,vt (w:=⟨bO (bO v 48) a,D,0⟩) R2.m.mem ho rfl,kg rfl]
 have e2:(bO (bO v 48) a).here=v.here+16:=by show v.here+8+8=_;omega
 dsimp only
 rw[e2]
theorem ao5(R:jF v L g)(h:v.here+16<=(L:Int))(hl:l.length<32):bn v l [63,68,79]=(bO (bO v 72) 0,l++[⟨3,v.here+16,[v.here+8]⟩],0):=by
 rw[qD (g:=TF) rfl (by unfold kh;rw[if_pos (by decide)];simp;omega)]
 unfold TF
 have e:(cJ ⟨v,l,0⟩ [40,63,100,111,41]).v.here=v.here+8:=by
  unfold cJ;rw[it (w:=⟨v,l,0⟩) R (by show v.here+8<=_;omega) rfl];rfl
 have e2:(bO (bO v 72) 0).here=v.here+16:=by show v.here+8+8=_;omega
 rw[e,qM (w:=⟨v,l,0⟩) R h (by rw[TW];exact OT) rfl,TW,pV (by exact hl),kg rfl]
 dsimp only
 rw[e2]
theorem YE(R:jF v L g)(h:v.here+16<=(L:Int))(hl:l=D++[⟨3,a,[o]⟩])(ho:okA L o=true)(ha:ae a):
  bn v l [76,79,79,80]=({bO (bO v 80) a with mem:=stM (bO (bO v 80) a).mem o (v.here+16)},D,0):=by
 rw[qD (g:=Bf [40,108,111,111,112,41]) rfl (by unfold kh;rw[if_neg (by decide)];decide)]
 unfold Bf
 rw[nJ (w:=⟨v,l,0⟩) hl rfl]
 dsimp only
 have R1:=iX (n:=80) R (by omega) Qp
 have R2:=iX (n:=a) R1 (by show v.here+8+8<=_;omega) ha
 unfold cJ
 rw[Uo,it (w:=⟨v,D,0⟩) R (by show v.here+8<=_;omega) rfl,it (w:=⟨bO v 80,D,0⟩) R1 (by show v.here+8+8<=_;omega) rfl]
 dsimp only[List.foldl]
 rw[vt (w:=⟨bO (bO v 80) a,D,0⟩) R2.m.mem ho rfl,kg rfl]
 have e2:(bO (bO v 80) a).here=v.here+16:=by show v.here+8+8=_;omega
 dsimp only
 rw[e2]
end
theorem Oa{l:ai}{v:VVm}{cf:List VCf}{name:Str}(h:bn l.f.vm l.f.comp.cf name=(v,cf,0))(he:l.err=0):ma l name={l with f:=⟨v,{l.f.comp with cf:=cf}⟩}:=by
 unfold ma
 rw[h,wh he,if_pos he]
def SS.cf(s:SS)(l:List VCf):SS:={s with comp:={s.comp with cf:=l}}
def SS.put(s:SS)(a n:Int):SS:={s with cs:=(a,n)::s.cs}
def iP(l:List VCf):VCf:=l.getD (l.length-1) zCf
def Bt(l:List VCf):List VCf:=l.take (l.length-1)
theorem pI{l:List VCf}{k:Int}(h:(iP l).kind=k)(hk:k≠0):l=Bt l++[iP l]:=by
 have h0:l.length≠0:=fun z=>hk (by rw[<-h];unfold iP;rw[List.length_eq_zero_iff.1 z];rfl)
 have e:=List.dropLast_concat_getLast (l:=l) (fun z=>h0 (by rw[z];rfl))
 unfold Bt iP
 rw[<-List.dropLast_eq_take,List.getD_eq_getElem?_getD,List.getElem?_eq_getElem (by omega)]
 rw[List.getLast_eq_getElem]at e
 exact e.symm
def bdr(a:Int):Bool:=decide (1368<=a)&&okA 4096 a
def cBr(s:SS)(name:Str):Option SS :=
 let l:=s.comp.cf
 let c:=iP l
 let D:=Bt l
 if s.here+16<=4096/\l.length<20 then
  if name=[73,70]then some (((s.lay 56).lay 0).cf (l++[⟨1,s.here+8,[]⟩]))
  else if name=[66,69,71,73,78]then some (s.cf (l++[⟨2,s.here,[]⟩]))
  else if name=[63,68,79]then some (((s.lay 72).lay 0).cf (l++[⟨3,s.here+16,[s.here+8]⟩]))
  else if name=[84,72,69,78]then(if c.kind=1/\c.leaves=[]/\bdr c.at_=true then some ((s.put c.at_ s.here).cf D)else none)
  else if name=[69,76,83,69]then(if c.kind=1/\c.leaves=[]/\bdr c.at_=true then some ((((s.lay 48).lay 0).put c.at_ (s.here+16)).cf (D++[⟨1,s.here+8,[]⟩]))else none)
  else if name=[87,72,73,76,69]then(if c.kind=2/\c.leaves=[]then some (((s.lay 56).lay 0).cf (D++[⟨1,s.here+8,[]⟩]++[⟨2,c.at_,[]⟩]))else none)
  else if name=[82,69,80,69,65,84]then(if c.kind=2/\c.leaves=[]/\bdr c.at_=true/\(iP D).kind=1/\(iP D).leaves=[]/\bdr (iP D).at_=true then some ((((s.lay 48).lay c.at_).put (iP D).at_ (s.here+16)).cf (Bt D))else none)
  else if name=[76,79,79,80]then(if c.kind=3/\c.leaves=[c.leaves.getD 0 0]/\bdr c.at_=true/\bdr (c.leaves.getD 0 0)=true then some ((((s.lay 80).lay c.at_).put (c.leaves.getD 0 0) (s.here+16)).cf D)else none)
  else none
 else none
theorem uk{a:Int}(h:bdr a=true):1368<=a/\okA 4096 a=true/\ae a:=by
 unfold bdr at h
 rw[Bool.and_eq_true]at h
 have q:=gu.1 h.2
 exact⟨oT h.1,h.2,by unfold ae;omega⟩
theorem DG{f:af}{s:SS}(h:At f s){a n:Int}(ha:bdr a=true)(hn:ae n):At {f with vm:={f.vm with mem:=stM f.vm.mem a n}} (s.put a n):=by
 have q:=uk ha
 obtain⟨m,rfl,hm⟩:=h.ex
 exact⟨⟨stM m a n,rfl,hm.store hn q.2.1⟩,DC h.std q.1,h.h0,h.h1,h.h8,h.ext⟩
theorem xF{f:af}{s:SS}(h:At f s)(l:List VCf):At {f with comp:={f.comp with cf:=l}} (s.cf l):=by
 obtain⟨m,rfl,hm⟩:=h.ex
 exact⟨⟨m,rfl,hm⟩,h.std,h.h0,h.h1,h.h8,h.ext⟩
theorem qS{α:Type}{c:Prop}[Decidable c]{a r:α}(h:(if c then some a else none)=some r):c/\a=r:=by
 by_cases hc:c
 ·rw[if_pos hc]at h;exact⟨hc,Option.some.inj h⟩
 rw[if_neg hc]at h;cases h
theorem tm{α:Type}{c:Prop}[Decidable c]{a r:α}{b:Option α}(h:(if c then some a else b)=some r):(c/\a=r)\/(¬c/\b=some r):=by
 by_cases hc:c
 ·rw[if_pos hc]at h;exact .inl ⟨hc,Option.some.inj h⟩
 rw[if_neg hc]at h;exact .inr ⟨hc,h⟩
theorem DT{n:Int}(h0:0<=n)(h1:n<=1000000):ae n:=by unfold ae;omega
theorem aC7{s s':SS}{name:Str}(h:cBr s name=some s'){f:af}(a:At f s):∃f',At f' s'/\bn f.vm f.comp.cf name=(f'.vm,f'.comp.cf,0)/\f'.comp={f.comp with cf:=f'.comp.cf}:=by
 have h0:=a.h0
 have h1:=a.h1
 obtain⟨m,rfl,hm⟩:=a.ex
 have R:=a.room hm
 unfold cBr at h
 dsimp only at h
 by_cases q:s.here+16<=4096/\s.comp.cf.length<20
 case neg=>rw[if_neg q]at h;cases h
 rw[if_pos q]at h
 have l56:=lJ a (n:=56) Jm (by omega)
 have l56':=lJ l56.2 (n:=0) bG (by show s.here+8+8<=_;omega)
 have l48:=lJ a (n:=48) EE (by omega)
 have hq:(vS s m).here+16<=((4096:Nat):Int):=q.1
 rcases tm h with ⟨rfl,rfl⟩|⟨n0,h⟩
 ·exact⟨_,xF l56'.2 _,aD7 R hq (by show s.comp.cf.length<32;omega),rfl⟩
 rcases tm h with ⟨rfl,rfl⟩|⟨n1,h⟩
 ·exact⟨_,xF a _,Xv (by show s.comp.cf.length<32;omega),rfl⟩
 rcases tm h with ⟨rfl,rfl⟩|⟨n2,h⟩
 ·have l72:=lJ a (n:=72) OT (by omega)
  have l72':=lJ l72.2 (n:=0) bG (by show s.here+8+8<=_;omega)
  exact⟨_,xF l72'.2 _,ao5 R hq (by show s.comp.cf.length<32;omega),rfl⟩
 by_cases n3:name=[84,72,69,78]
 ·subst n3
  rw[if_pos rfl]at h
  rcases qS h with ⟨⟨k1,k2,k3⟩,rfl⟩
  have e:=pI k1 (by decide)
  have b:=uk k3
  have ec:iP s.comp.cf=⟨1,(iP s.comp.cf).at_,[]⟩:=by rw[<-k1,<-k2]
  rw[ec]at e
  exact⟨_,xF (DG a k3 (DT (by omega) (by omega))) _,aa0 R e b.2.1,rfl⟩
 rw[if_neg n3]at h
 by_cases n4:name=[69,76,83,69]
 ·subst n4
  rw[if_pos rfl]at h
  rcases qS h with ⟨⟨k1,k2,k3⟩,rfl⟩
  have e:=pI k1 (by decide)
  have b:=uk k3
  have ec:iP s.comp.cf=⟨1,(iP s.comp.cf).at_,[]⟩:=by rw[<-k1,<-k2]
  rw[ec]at e
  have l48':=lJ l48.2 (n:=0) bG (by show s.here+8+8<=_;omega)
  exact⟨_,xF (DG l48'.2 k3 (DT (n:=s.here+16) (by omega) (by omega))) _,ZB R hq e b.2.1 (by show(Bt s.comp.cf).length<32;unfold Bt;rw[List.length_take];omega) (by show s.here<=_;omega),rfl⟩
 rw[if_neg n4]at h
 by_cases n5:name=[87,72,73,76,69]
 ·subst n5
  rw[if_pos rfl]at h
  rcases qS h with ⟨⟨k1,k2⟩,rfl⟩
  have e:=pI k1 (by decide)
  have ec:iP s.comp.cf=⟨2,(iP s.comp.cf).at_,[]⟩:=by rw[<-k1,<-k2]
  rw[ec]at e
  exact⟨_,xF l56'.2 _,XA R hq e (by show(Bt s.comp.cf).length<31;unfold Bt;rw[List.length_take];omega),rfl⟩
 rw[if_neg n5]at h
 by_cases n6:name=[82,69,80,69,65,84]
 ·subst n6
  rw[if_pos rfl]at h
  rcases qS h with ⟨⟨k1,k2,k3,k4,k5,k6⟩,rfl⟩
  have e:=pI k1 (by decide)
  have e2:=pI k4 (by decide)
  have b:=uk k3
  have b2:=uk k6
  have ec:iP s.comp.cf=⟨2,(iP s.comp.cf).at_,[]⟩:=by rw[<-k1,<-k2]
  have ed:iP (Bt s.comp.cf)=⟨1,(iP (Bt s.comp.cf)).at_,[]⟩:=by rw[<-k4,<-k5]
  rw[ed]at e2
  rw[ec,e2]at e
  have l':=lJ l48.2 (n:=(iP s.comp.cf).at_) b.2.2 (by show s.here+8+8<=_;omega)
  exact⟨_,xF (DG l'.2 k6 (DT (n:=s.here+16) (by omega) (by omega))) _,Tg R hq e b2.2.1 b.2.2,rfl⟩
 rw[if_neg n6]at h
 by_cases n7:name=[76,79,79,80]
 ·subst n7
  rw[if_pos rfl]at h
  rcases qS h with ⟨⟨k1,k2,k3,k4⟩,rfl⟩
  have e:=pI k1 (by decide)
  have b:=uk k3
  have b2:=uk k4
  have ec:iP s.comp.cf=⟨3,(iP s.comp.cf).at_,[(iP s.comp.cf).leaves.getD 0 0]⟩:=by rw[<-k1,<-k2]
  rw[ec]at e
  have l80:=lJ a (n:=80) Qp (by omega)
  have l':=lJ l80.2 (n:=(iP s.comp.cf).at_) b.2.2 (by show s.here+8+8<=_;omega)
  exact⟨_,xF (DG l'.2 k4 (DT (n:=s.here+16) (by omega) (by omega))) _,YE R hq e b2.2.1 b.2.2,rfl⟩
 rw[if_neg n7]at h
 cases h
open Go.RowKit
def Cr(l:List aR):aR:=l.getD (l.length-1) default
def EY(l:List aR):List aR:=l.take (l.length-1)
theorem CT{l:List aR}(h0:l.length≠0):l=EY l++[Cr l]:=by
 have e:=List.dropLast_concat_getLast (l:=l) (fun z=>h0 (by rw[z];rfl))
 unfold EY Cr
 rw[<-List.dropLast_eq_take,List.getD_eq_getElem?_getD,List.getElem?_eq_getElem (by omega)]
 rw[List.getLast_eq_getElem]at e
 exact e.symm
def SS.begun(s:SS)(name:Str):SS:={s with ext:=s.ext++[⟨name,s.here,2⟩],cs:=(8,-1)::(s.here,256)::s.cs,here:=s.here+8,comp:=⟨s.here,[],s.here,((167+s.ext.length:Nat):Int),s.last,false,0⟩}
def SS.ended(s:SS):SS:={s with ext:=EY s.ext++[{Cr s.ext with flags:=jD (Cr s.ext).flags}],cs:=(8,0)::(s.here,32)::s.cs,here:=s.here+8,comp:=kj}
theorem YM:ae (-1):=by unfold ae;omega
theorem ZV:ae 32:=by unfold ae;omega
theorem Gl{l:List (Int×Int)}(h:sz (gL l))(n:Int):sz (gL ((8,n)::l)):=h.set (.inr (by show(8:Int)<=8;decide))
theorem RW{f:af}{s:SS}(h:At f s){name:Str}(hx:s.comp.xt=0)(hr:s.here+8<=4096)(hn:eW name=0)(he:s.ext.length<70):gY f name false 0=(Dh f name,0)/\At (Dh f name) (s.begun name):=by
 have h0:=h.h0
 have h8:=h.h8
 obtain⟨m,rfl,hm⟩:=h.ex
 have R:=h.room hm
 have hl:((gq 167++s.ext).length:Int)=167+s.ext.length:=by rw[List.length_append,qi];omega
 have e:=NK (f:=⟨vS s m,s.comp⟩) R hx (by show s.here+8<=_;exact hr) (by decide) hn (by show((gq 167++s.ext).length:Int)<250;omega) (by show((gq 167++s.ext).length:Int)<1024;omega)
 have hm1:=hm.store Uz (a:=s.here) (gu.2 ⟨by omega,h8,hr⟩)
 have hm2:=hm1.store YM (a:=8) rfl
 refine⟨e,⟨⟨stM (stM m s.here 256) 8 (-1),?_,hm2⟩,Gl (DC h.std h0) _,by show 1368<=s.here+8;omega,by show s.here+8<=4096;exact hr,by show(s.here+8)%8=0;omega,by show(s.ext++[_]).length<=80;rw[List.length_append,List.length_singleton];omega⟩⟩
 unfold Dh vS SS.begun ng bO
 dsimp only
 rw[List.append_assoc,List.length_append,qi]
theorem Pw{f:af}{s:SS}(h:At f s)(hx:s.comp.xt≠0)(hr:s.here+8<=4096)(hcf:s.comp.cf=[])(ho:s.comp.on=false)(he:s.ext.length≠0)(hd:s.comp.dict=((167+(s.ext.length-1):Nat):Int)):
  ∃f',At f' s.ended/\mY f=(f',0):=by
 have h0:=h.h0
 have h8:=h.h8
 have hx8:=h.ext
 obtain⟨m,rfl,hm⟩:=h.ex
 have R:=h.room hm
 have hb:(EY s.ext).length=s.ext.length-1:=by unfold EY;rw[List.length_take];omega
 have e:=VL (f:=⟨vS s m,s.comp⟩) (D:=gq 167++EY s.ext) (w:=Cr s.ext) R hx hcf ho (by show gq 167++s.ext=_;rw[List.append_assoc,<-CT he]) (by rw[List.length_append,qi,hb];exact hd) (by show s.here+8<=_;exact hr) (by decide)
 have hm1:=hm.store ZV (a:=s.here) (gu.2 ⟨by omega,h8,hr⟩)
 have hm2:=hm1.store bG (a:=8) rfl
 refine⟨_,⟨⟨stM (stM m s.here 32) 8 0,?_,hm2⟩,Gl (DC h.std h0) _,by show 1368<=s.here+8;omega,by show s.here+8<=4096;exact hr,by show(s.here+8)%8=0;omega,by show(EY s.ext++[_]).length<=80;rw[List.length_append,List.length_singleton,hb];omega⟩,e⟩
 unfold Rc vS SS.ended bO
 dsimp only
 rw[List.append_assoc]
theorem US:rC [40,100,111,101,115,41]=112:=by decide +kernel
def cW(s:SS)(w:Str):Option SS :=
 match xiS s w with
 | none=>if (cN (gq 167++s.ext) w).2.2=false/\(ez w (gL s.cs 0)).2=true/\s.cmp=true/\s.here+16<=4096 then some ((s.lay 40).lay (ez w (gL s.cs 0)).1)else none
 | some y =>
  if s.cmp=true/\s.here+24<=4096 then
   if y.x.flags%2=0 then some (s.lay y.x.xt)
   else if y.x.flags%2=1/\300<=y.k then
    if cq.getD (y.k-300).toNat []=[59]then(if s.comp.cf.length=0/\s.comp.on=false/\s.ext.length≠0/\s.comp.dict=((167+(s.ext.length-1):Nat):Int)then some s.ended else none)
    else if cq.getD (y.k-300).toNat []=[68,79,69,83,62]then some (s.lay 112)
    else if spF (cq.getD (y.k-300).toNat [])=none then cBr s (cq.getD (y.k-300).toNat [])else none
   else none
  else none
instance (name:Str):Decidable (spF name=none):=by
 cases h:spF name with
 | none=>exact .isTrue rfl
 | some g=>exact .isFalse (by simp)
theorem ay3{s s':SS}{w:Str}(h:cW s w=some s'):SW s w s' 0:=by
 unfold cW at h
 cases hx:xiS s w with
 | none =>
  rw[hx]at h
  obtain⟨⟨a,b,c,d⟩,rfl⟩:=qS h
  exact Zy a (Prod.ext rfl b) c d
 | some y =>
  rw[hx]at h
  dsimp only at h
  by_cases q:s.cmp=true/\s.here+24<=4096
  case neg=>rw[if_neg q]at h;cases h
  rw[if_pos q]at h
  have hxt:s.comp.xt≠0:=by
   have:=q.1
   unfold SS.cmp at this
   exact(oT this).1
  rcases tm h with ⟨hi,rfl⟩|⟨hi,h⟩
  ·exact Zt hx q.1 hi (by omega)
  by_cases h3:y.x.flags%2=1/\300<=y.k
  case neg=>rw[if_neg h3]at h;cases h
  rw[if_pos h3]at h
  generalize hn:cq.getD (y.k-300).toNat []=name at h
  refine U1 hx q.1 h3.1 h3.2 hn fun f a=>?_
  by_cases n0:name=[59]
  ·rw[if_pos n0]at h
   obtain⟨⟨c1,c2,c3,c4⟩,rfl⟩:=qS h
   obtain⟨f',a',e⟩:=Pw a hxt (by omega) (List.length_eq_zero_iff.1 c1) c2 c3 c4
   refine⟨f',a',fun tx p u=>?_⟩
   rw[n0,EL (g:=FD) rfl]
   unfold FD kQ
   rw[show(bc f tx p u).f=f from rfl,e,AH rfl,if_pos (show(bc f tx p u).err=0 from rfl)];rfl
  rw[if_neg n0]at h
  by_cases n1:name=[68,79,69,83,62]
  ·rw[if_pos n1]at h
   injection h with h
   subst h
   have l:=lJ a (n:=112) (by unfold ae;omega) (by omega)
   refine⟨_,l.2,fun tx p u=>?_⟩
   rw[n1,EL (g:=LE) rfl]
   unfold LE xK wN
   rw[US,do0 rfl,show(bc f tx p u).f.vm=f.vm from rfl,l.1,wh rfl];rfl
  rw[if_neg n1]at h
  by_cases ns:spF name=none
  case neg=>rw[if_neg ns]at h;cases h
  rw[if_pos ns]at h
  obtain⟨f',a',e1,e2⟩:=aC7 h a
  refine⟨f',a',fun tx p u=>?_⟩
  rw[X7 ns,Oa (l:=bc f tx p u) e1 rfl]
  show(⟨⟨f'.vm,{f.comp with cf:=f'.comp.cf}⟩,tx,p,u,0⟩:ai)=_
  rw[<-e2];rfl
structure LA (f0:af) (tx:Str) (u0:Int) (k:Nat) (p:Str) (ws:List Tk) (s:SS) (u:Int):Prop where
 etx:tx=p++wG ws
 go:∃f,At f s/\yR f0 tx ⟨f0,0,max u0 0⟩ ⟨f,p.length,u⟩ k
 hu:0<=u/\u<=5000
theorem LA.start{f0:af}{u0:Int}{ws:List Tk}{s:SS}(h:At f0 s)(hu:0<=u0/\u0<=5000):LA f0 (wG ws) u0 0 [] ws s u0 :=
 ⟨rfl,⟨f0,h,by rw[show max u0 0=u0 by omega];exact .rf _ _ _⟩,hu⟩
theorem LA.init{f0:af}{tx:Str}{u0:Int}{ws:List Tk}{s:SS}(h:At f0 s)(hu:0<=u0/\u0<=5000)(e:tx=wG ws):LA f0 tx u0 0 [] ws s u0:=by rw[e];exact .start h hu
section
variable {f0 : af} {tx p : Str} {u0 u c : Int} {k : Nat} {t : Tk} {ws : List Tk} {s s' : SS}
theorem LA.step(h:LA f0 tx u0 k p (t::ws) s u)(ht:okT t)(hw:SW s t.2 s' c)(hc:0<=c/\c<=u):LA f0 tx u0 (k+1) (nxT p t ws) ws s' (u-c):=by
 obtain⟨f,a,g⟩:=h.go
 have hu:=h.hu
 obtain⟨f',a',e⟩:=hw f a
 refine⟨h.etx.trans (JN p t ws),⟨f',a',?_⟩,by omega⟩
 refine g.tr (.one (e tx _ _ u ?_ ht.2.1 hu.1 hc.2 hu.2))
 rw[h.etx];exact yF p ws ht
theorem LA.fin(h:LA f0 tx u0 k p [] s u)(hk:k<=tx.length+1):∃f,At f s/\mO f0 tx u0=(vi f,u,0):=by
 obtain⟨f,a,g⟩:=h.go
 exact⟨f,a,PQ g hk h.hu.1 (by rw[h.etx];exact Uq p)⟩
def cWs(s:SS):List Tk->Option SS
 | []=>some s
 | t::ws=>match cW s t.2 with
  | none=>none
  | some s'=>cWs s' ws
theorem Qb{s s':SS}{t:Tk}{ws:List Tk}(h:cWs s (t::ws)=some s'):∃s1,cW s t.2=some s1/\cWs s1 ws=some s':=by
 have h:(match cW s t.2 with|none=>none|some s1=>cWs s1 ws)=some s':=h
 generalize cW s t.2=o at h
 cases o with
 | none=>cases h
 | some s1=>exact⟨s1,rfl,h⟩
theorem LA.words:∀(ws:List Tk) {vs:List Tk} {p:Str} {s s':SS} {k:Nat},LA f0 tx u0 k p (ws++vs) s u->(∀t∈ws,okT t)->cWs s ws=some s'->∃q,LA f0 tx u0 (k+ws.length) q vs s' u
 | [],vs,p,s,s',k,h,_,hc=>by
  have e:s=s':=Option.some.inj (show some s=some s' from hc)
  rw[<-e];exact⟨p,h⟩
 | t::ws,vs,p,s,s',k,h,ht,hc=>by
  obtain⟨s1,hw,hc⟩:=Qb hc
  have h1:=LA.step (ws:=ws++vs) h (ht t (List.mem_cons_self ..)) (ay3 hw) ⟨Int.le_refl _,h.hu.1⟩
  rw[show u-0=u by omega]at h1
  obtain⟨q,r⟩:=LA.words ws h1 (fun x hx=>ht x (List.mem_cons_of_mem _ hx)) hc
  exact⟨q,by rw[show k+(t::ws).length=k+1+ws.length by rw[List.length_cons];omega];exact r⟩
end
open Go.RowKit
section
variable {v : VVm} {L : Nat} {g : Int -> Int} {d r : List Int} {f : List jc} {ip xt x : Int}
end
def rS(s:SS)(m:bj)(r:List Int)(ip fu:Int):bH:=mr (vS s m) s.d r [] ip fu
def XS(n:Nat)(s:SS)(r:List Int)(ip:Int)(s':SS)(r':List Int)(ip':Int):Prop:=∀m,iS m 4096 (gL s.cs)->sz (gL s.cs)->∃m',iS m' 4096 (gL s'.cs)/\sz (gL s'.cs)/\∀fu:Int,(n:Int)<=fu->fu<=5000->GoE n (rS s m r ip fu) (rS s' m' r' ip' (fu-n))
section
variable {s s' s'' : SS} {r r' r'' : List Int} {ip ip' ip'' x n : Int} {d d' : List Int}
theorem XS.tr{a b:Nat}(h:XS a s r ip s' r' ip')(k:XS b s' r' ip' s'' r'' ip''):XS (a+b) s r ip s'' r'' ip'':=by
 intro m hm hs
 obtain⟨m',hm',hs',g⟩:=h m hm hs
 obtain⟨m'',hm'',hs'',g'⟩:=k m' hm' hs'
 refine⟨m'',hm'',hs'',fun fu h1 h2=>?_⟩
 have q:=GoE.trans (g fu (by omega) h2) (g' (fu-a) (by omega) (by omega))
 rw[show fu-(a:Int)-(b:Int)=fu-((a+b:Nat):Int) by omega,Nat.add_comm]at q
 exact q
theorem XS.rf:XS 0 s r ip s r ip:=fun m hm hs=>⟨m,hm,hs,fun fu _ _=>by rw[show fu-((0:Nat):Int)=fu by omega];exact .nil _⟩
theorem af9{g1:∀m fu,iS m 4096 (gL s.cs)->sz (gL s.cs)->1<=fu/\fu<=300000->Go1 (rS s m r ip fu) (rS s' m r' ip' (fu-1))}(hc:gL s'.cs=gL s.cs):XS 1 s r ip s' r' ip':=fun m hm hs =>
 ⟨m,by rw[hc];exact hm,by rw[hc];exact hs,fun fu h1 h2=>.cons (g1 m fu hm hs ⟨h1,by omega⟩) rfl (by show ¬fu<1;omega) (.nil _)⟩
theorem an1(i:Nat)(hi:i<130)(ha:okA 4096 ip=true)(hx:gL s.cs ip=32+8*(i:Int))(hk:∀m,iS m 4096 (gL s.cs)->mc (mz (vS s m) s.d r [] (ip+8)) (32+8*(i:Int)) (i:Int)=mz (vS s' m) s'.d r' [] ip')(hc:gL s'.cs=gL s.cs):XS 1 s r ip s' r' ip' :=
 af9 (g1:=fun m fu hm hs hf=>az5 (At.mach hm) hs.std i hi hf ha hx (hk m hm)) hc
def SS.st(s:SS)(d:List Int):SS:={s with d:=d}
theorem ao6(i:Nat)(d':List Int)(h1:23<=i/\i<130)(ha:okA 4096 ip=true)(hx:gL s.cs ip=32+8*(i:Int))(hd:∀m,iS m 4096 (gL s.cs)->doS (mk (vS s m) s.d r []) (i:Int)=(mk (vS (s.st d') m) d' r [],0)):XS 1 s r ip (s.st d') r (ip+8) :=
 an1 i h1.2 ha hx (fun m hm=>QQ (by omega) (by omega) (hd m hm)) rfl
theorem U4(ha:okA 4096 ip=true)(hx:gL s.cs ip=32):XS 1 s (r++[x]) ip s r x :=
 an1 0 (by decide) ha hx (fun m hm=>Z6) rfl
end
def XR(s:SS)(xt:Int)(s':SS)(c:Int):Prop:=∀f,At f s->∃f',At f' s'/\∀(tx:Str) (a u:Int),0<=u->c<=u->u<=5000->lZ (bc f tx a u) xt=⟨f',tx,a,u-c,0⟩
def Sk(s s':SS):Prop:=s'.here=s.here/\s'.ext=s.ext/\s'.comp=s.comp
theorem Pk{f:af}{s s':SS}(h:At f s){m:bj}(hm:iS m 4096 (gL s'.cs))(hs:sz (gL s'.cs))(k:Sk s s'):At ⟨vS s' m,s.comp⟩ s' :=
 ⟨⟨m,by rw[k.2.2],hm⟩,hs,by rw[k.1];exact h.h0,by rw[k.1];exact h.h1,by rw[k.1];exact h.h8,by rw[k.2.1];exact h.ext⟩
theorem KN{s s':SS}(i:Nat)(h1:23<=i/\i<=129)(hc:gL s'.cs=gL s.cs)(k:Sk s s')(hd:∀m,iS m 4096 (gL s.cs)->doS (mk (vS s m) s.d [] []) (i:Int)=(mk (vS s' m) s'.d [] [],0)):XR s (32+8*(i:Int)) s' 2:=by
 intro f h
 have hstd:=h.std
 have cm:f.comp=s.comp:=by obtain⟨m,rfl,hm⟩:=h.ex;rfl
 obtain⟨m,e,hm⟩:=h.ex
 have hm':iS m 4096 (gL s'.cs):=by rw[hc];exact hm
 have hs':sz (gL s'.cs):=by rw[hc];exact hstd
 refine⟨⟨vS s' m,s.comp⟩,Pk h hm' hs' k,fun tx a u u0 cu u9=>?_⟩
 subst e
 exact Oy (l:=bc ⟨vS s m,s.comp⟩ tx a u) (u:=vS s' m) (d':=s'.d) (At.mach hm) hstd.std (At.mach hm') hs'.std h1.1 h1.2 (hd m hm) ⟨cu,by show u<=300000;omega⟩ rfl
theorem RZ{s s':SS}{n:Nat}{xt:Int}(hx:okA 4096 xt=true)(hq:gL s.cs xt=256)(k:Sk s s')(hr:XS n s [16] (xt+8) s' [] 16):XR s xt s' ((n+2:Nat):Int):=by
 intro f h
 have hstd:=h.std
 obtain⟨m,e,hm⟩:=h.ex
 obtain⟨m',hm',hs',g⟩:=hr m hm hstd
 refine⟨⟨vS s' m',s.comp⟩,Pk h hm' hs' k,fun tx a u u0 cu u9=>?_⟩
 subst e
 exact Jq (l:=bc ⟨vS s m,s.comp⟩ tx a u) (u:=vS s' m') (d':=s'.d) (n:=n) (At.mach hm) hx hq (At.mach hm') hs'.std (g (u-1) (by omega) (by omega)) ⟨by show(n:Int)+2<=u;omega,by show u<=300000;omega⟩ rfl
theorem KS{s s':SS}{w:Str}{y:XI}{c:Int}(h:xiS s w=some y)(hc:s.cmp=false)(ho:ml y.x y.k=false)(h3:¬300<=y.k)(hx:XR s y.x.xt s' c):SW s w s' c:=by
 obtain⟨hf,ha,hk,hkk⟩:=Lb h
 refine yZ hf fun f a=>?_
 obtain⟨f',a',e⟩:=hx f a
 refine⟨f',a',fun tx p u u0 cu u9=>⟨true,?_⟩⟩
 have ek:av f.vm y.x.xt=(y.k,0):=by rw[yD a ha (by rw[<-hk];exact hkk),hk]
 have ec:ct (bc f tx p u).f=false:=by rw[show ct (bc f tx p u).f=ct f from rfl,ub a];exact hc
 rw[UV (l:=bc f tx p u) ek h3 (by rw[ho];rfl) (by rw[ec];rfl),e tx p u u0 cu u9]
theorem VJ{f0:af}{tx p:Str}{u0 u:Int}{k:Nat}{t n:Tk}{ws:List Tk}{s s':SS}{y:XI}{name:Str}(h:LA f0 tx u0 k p (t::n::ws) s u)(ht:okT t)(hn:okT n)
  (hx:xiS s t.2=some y) (hc:s.cmp=false) (ho:ml y.x y.k=false) (h3:300<=y.k) (hnm:cq.getD (y.k-300).toNat []=name)
  (hs:∀f,At f s->∃f',At f' s'/\∀(tx:Str) (a a2 u:Int),bC tx a=(n.2,a2)->rH (bc f tx a u) name=bc f' tx a2 u):LA f0 tx u0 (k+1) (nxT (nxT p t (n::ws)) n ws) ws s' u:=by
 obtain⟨f,a,g⟩:=h.go
 have hu:=h.hu
 obtain⟨hf,ha,hk,hkk⟩:=Lb hx
 obtain⟨f',a',e⟩:=hs f a
 have htx:=h.etx
 have w1:bC tx (p.length:Int)=(t.2,((nxT p t (n::ws)).length:Int)):=by rw[htx];exact yF p (n::ws) ht
 have t2:tx=nxT p t (n::ws)++wG (n::ws):=htx.trans (JN p t (n::ws))
 have w2:bC tx ((nxT p t (n::ws)).length:Int)=(n.2,((nxT (nxT p t (n::ws)) n ws).length:Int)):=by rw[t2];exact yF _ ws hn
 refine⟨t2.trans (JN _ n ws),⟨f',a',g.tr (.one ?_)⟩,hu⟩
 have ek:av f.vm y.x.xt=(y.k,0):=by rw[yD a ha (by rw[<-hk];exact hkk),hk]
 have ec:∀b,ct (bc f tx b u).f=false:=fun b=>by rw[show ct (bc f tx b u).f=ct f from rfl,ub a];exact hc
 have eo:m8 (bc f tx ((nxT p t (n::ws)).length:Int) (max u 0)) t.2=(bc f' tx ((nxT (nxT p t (n::ws)) n ws).length:Int) u,false):=by
  rw[show max u 0=u by omega,BQ (x:=y.x) (i:=(cN (gq 167++s.ext) t.2).2.1) (by show cN f.vm.dict t.2=_;rw[vY a];exact hf)]
  rw[KZ (l:=bc f tx _ u) ek h3 (by rw[ho];rfl) (by rw[ec];rfl),hnm,e tx _ _ u w2]
 exact W7 w1 ht.2.1 eo rfl
theorem PE{f:af}{tx n:Str}{a a2 u:Int}(h:bC tx a=(n,a2))(h0:n≠[]):bU (bc f tx a u)=(bc f tx a2 u,n):=by
 unfold bU
 rw[show(bc f tx a u).s=tx from rfl,show(bc f tx a u).at_=a from rfl,h,if_neg h0];rfl
theorem N2{f f':af}{tx n:Str}{a a2 u:Int}(h:bC tx a=(n,a2))(h0:n≠[])(hb:gY f n false 0=(f',0)):rH (bc f tx a u) [58]=bc f' tx a2 u:=by
 rw[EL (g:=E8) rfl]
 unfold E8 uW
 rw[PE h h0]
 dsimp only
 rw[if_pos (show(bc f tx a2 u).err=0 from rfl),show(bc f tx a2 u).f=f from rfl,hb]
 unfold kQ
 rw[AH (show(bc f tx a2 u).err=0 from rfl),if_pos (show(bc f tx a2 u).err=0 from rfl)];rfl
theorem Ft{f0:af}{tx p:Str}{u0 u:Int}{k:Nat}{t n:Tk}{ws:List Tk}{s:SS}{y:XI}(h:LA f0 tx u0 k p (t::n::ws) s u)(ht:okT t)(hn:okT n)
  (hx:xiS s t.2=some y) (hk:y.k=300/\y.x.flags=0) (hxt:s.comp.xt=0) (hr:s.here+8<=4096) (hnm:eW n.2=0) (he:s.ext.length<70):LA f0 tx u0 (k+1) (nxT (nxT p t (n::ws)) n ws) ws (s.begun n.2) u:=by
 refine VJ h ht hn hx (by unfold SS.cmp;rw[hxt];rfl) (by unfold ml;rw[hk.1,hk.2];rfl) (by omega) (name:=[58]) (by rw[hk.1];decide +kernel) fun f a=>?_
 have b:=RW a hxt hr hnm he
 exact⟨_,b.2,fun tx a1 a2 u hw=>N2 hw hn.2.1 b.1⟩
open Go.RowKit
theorem aa7{v:VVm}{x b:Int}{r:List Int}(hb:(am v.mem 0).1=b)(s:Str)(hs:iU x b=(s,0))(hd:1<=v.conf.data)(ho:¬((s++[32]).length:Int)>v.conf.out-v.out.length):doS (mk v [x] r []) 110=(mk {v with out:=v.out++(s++[32])} [] r [],0):=by
 have e:doS (mk v [x] r []) 110=(if (dy (mk v [x] r []) (rJ (iU x (am v.mem 0).1))).2.2≠0 then(mk v [x] r [],(dy (mk v [x] r []) (rJ (iU x (am v.mem 0).1))).2.2)else if v.conf.data<((0+(dy (mk v [x] r []) (rJ (iU x (am v.mem 0).1))).2.1.length:Nat):Int)then(mk v [x] r [],-3)else({(dy (mk v [x] r []) (rJ (iU x (am v.mem 0).1))).1 with d:=[]++(dy (mk v [x] r []) (rJ (iU x (am v.mem 0).1))).2.1},0)):=by kernel_rfl
 have p:dy (mk v [x] r []) (rJ (iU x (am v.mem 0).1))=(mk {v with out:=v.out++(s++[32])} [x] r [],[],0):=by
  rw[hb,hs]
  unfold rJ dy
  rw[if_pos rfl]
  unfold iI
  rw[if_neg (by exact ho)];rfl
 rw[e,p,if_neg (fun z=>z rfl),if_neg (by show ¬v.conf.data<((0:Nat):Int);omega)];rfl
theorem La{f:af}{s:SS}(h:At f s):At (vi f) s:=by
 obtain⟨m,rfl,hm⟩:=h.ex
 exact⟨⟨⟨m.b,[]⟩,rfl,hm.bare⟩,h.std,h.h0,h.h1,h.h8,h.ext⟩
theorem LA.free{f0:af}{tx p:Str}{u0 u:Int}{k:Nat}{s:SS}(h:LA f0 tx u0 k p [] s u)(hk:k<=tx.length+1):∃f,At f s/\mO f0 tx u0=(f,u,0):=by
 obtain⟨f,a,e⟩:=h.fin hk
 exact⟨_,La a,e⟩
def tk(w:Str):Tk:=([],w)
theorem wt{w:Str}(h:(!w.isEmpty&&w.all fun c=>decide (32<c.toNat))=true):okT (tk w):=by
 rw[Bool.and_eq_true,List.all_eq_true]at h
 refine⟨(fun c hc=>by cases hc),fun z=>?_,fun c hc=>oT (h.2 c hc)⟩
 have z:w=[]:=z
 rw[z]at h
 exact absurd h.1 (by decide)
theorem Kp{l:List Str}(h:(l.all fun w=>!w.isEmpty&&w.all fun c=>decide (32<c.toNat))=true):∀t∈l.map tk,okT t:=fun t ht=>by
 obtain⟨w,hw,rfl⟩:=List.mem_map.1 ht
 exact wt (List.all_eq_true.1 h w hw)
def sA1:SS:=⟨[],[(8,0),(1392,32),(1384,360),(1376,216),(8,-1),(1368,256)],1400,[⟨[83,81],1368,0⟩],0,[],kj⟩
def sA:SS:={sA1 with out:=[50,53,32]}
def sQ:XI:=⟨⟨[83,81],1368,0⟩,256⟩
theorem am0(s:SS)(n:Int)(hcs:s.cs=sA1.cs)(hd:s.d=[n]):XS 3 s [16] 1376 (s.st [wrap64 (n*n)]) [] 16:=by
 obtain⟨d,cs,here,ext,last,out,comp⟩:=s
 simp only at hcs hd
 subst hcs hd
 exact(ao6 23 [n,n] (by decide) rfl (by kernel_rfl) (fun m _=>by kernel_rfl)).tr ((ao6 41 [wrap64 (n*n)] (by decide) rfl (by kernel_rfl) (fun m _=>by kernel_rfl)).tr (U4 (r:=[]) rfl (by kernel_rfl)))
theorem ak1{s s':SS}{m:bj}{x:Int}{t:Str}(hm:iS m 4096 (gL s.cs))(hb:gL s.cs 0=10)(hd:s.d=[x])(ht:iU x 10=(t,0))(ho:(s.out.length+t.length:Nat)<1999)(e:s'={s with d:=[],out:=s.out++(t++[32])}):doS (mk (vS s m) s.d [] []) 110=(mk (vS s' m) s'.d [] [],0):=by
 have hf:(am (vS s m).mem 0).1=10:=by rw[show(vS s m).mem=m from rfl,hm.cell 0 (by decide) (by decide) (by decide),hb]
 rw[hd,e]
 exact aa7 hf t ht (by show(1:Int)<=32;decide) (by show ¬((t++[32]).length:Int)>2000-(s.out.length:Int);rw[List.length_append,List.length_singleton];omega)
theorem au1:∃f,At f sA/\mO fO [58,32,83,81,32,68,85,80,32,42,32,59,32,53,32,83,81,32,46] 100=(f,93,0):=by
 have h0:LA fO [58,32,83,81,32,68,85,80,32,42,32,59,32,53,32,83,81,32,46] 100 0 [] ([[58],[83,81],[68,85,80],[42],[59],[53],[83,81],[46]].map tk) sO 100:=.init aC8 (by decide) rfl
 have h1:=Ft (ws:=[[68,85,80],[42],[59],[53],[83,81],[46]].map tk) h0 (wt rfl) (wt rfl) (y:=⟨⟨[58],1072,0⟩,300⟩) (by kernel_rfl) ⟨rfl,rfl⟩ rfl (by decide) rfl (by decide)
 obtain⟨q,h2⟩:=LA.words ([[68,85,80],[42],[59]].map tk) (vs:=[[53],[83,81],[46]].map tk) (s':=sA1) h1 (Kp rfl) (by kernel_rfl)
 have h3:=LA.step h2 (wt rfl) (PH (n:=5) (by kernel_rfl) (by kernel_rfl) rfl (by decide)) (by decide)
 have run:XS 3 {sA1 with d:=[5]} [16] 1376 {sA1 with d:=[25]} [] 16:=by
  have q:=am0 {sA1 with d:=[5]} 5 rfl rfl
  rw[show wrap64 (5*5)=25 by unfold wrap64;omega]at q
  exact q
 have h4:=LA.step (s':={sA1 with d:=[25]}) h3 (wt rfl) (KS (y:=sQ) (c:=5) (by kernel_rfl) rfl rfl (by decide) (RZ (n:=3) (xt:=1368) rfl (by kernel_rfl) ⟨rfl,rfl,rfl⟩ run)) (by decide)
 have h5:=LA.step (s':=sA) h4 (wt rfl) (KS (y:=⟨⟨[46],912,0⟩,110⟩) (c:=2) (by kernel_rfl) rfl rfl (by decide) (KN 110 (by decide) rfl ⟨rfl,rfl,rfl⟩ fun m hm=>ak1 hm (by kernel_rfl) rfl (x:=25) (t:=[50,53]) (by kernel_rfl) (by decide) rfl)) (by decide)
 exact h5.free (by decide)
def sB:SS:=⟨[],[(1416,0),(1408,56),(8,-1),(1400,256),(8,0),(1392,32),(1384,360),(1376,216),(8,-1),(1368,256)],1424,[⟨[83,81],1368,0⟩,⟨[88],1400,2⟩],0,[50,53,32],⟨1400,[⟨1,1416,[]⟩],1400,168,0,false,0⟩⟩
theorem ak9{f:af}(a:At f sA):∃f',At f' sB/\mO f [58,32,88,32,73,70] 100=(f',100,0):=by
 have h0:LA f [58,32,88,32,73,70] 100 0 [] ([[58],[88],[73,70]].map tk) sA 100:=.init a (by decide) rfl
 have h1:=Ft (ws:=[[73,70]].map tk) h0 (wt rfl) (wt rfl) (y:=⟨⟨[58],1072,0⟩,300⟩) (by kernel_rfl) ⟨rfl,rfl⟩ rfl (by decide) rfl (by decide)
 obtain⟨q,h2⟩:=LA.words ([[73,70]].map tk) (vs:=[]) (s':=sB) h1 (Kp rfl) (by kernel_rfl)
 exact h2.free (by decide)
def sC3:SS:=⟨[],[(8,0),(1424,32),(1416,1424),(1416,0),(1408,56),(8,-1),(1400,256),(8,0),(1392,32),(1384,360),(1376,216),(8,-1),(1368,256)],1432,[⟨[83,81],1368,0⟩,⟨[88],1400,0⟩],0,[50,53,32],kj⟩
theorem Nm{f:af}(h:f.comp.xt=0):jP f=f:=by unfold jP;rw[if_pos h]
theorem Zz{f0 f:af}{s0 s:SS}(h0:At f0 s0)(h:At f s)(hx:s.comp.xt=0):At (Mn f0 f) {s with d:=[]}:=by
 obtain⟨m0,rfl,hm0⟩:=h0.ex
 obtain⟨m,rfl,hm⟩:=h.ex
 unfold Mn
 rw[Nm (by exact hx)]
 exact⟨⟨m,rfl,hm⟩,h.std,h.h0,h.h1,h.h8,h.ext⟩
theorem VU{f:af}{s:SS}(h:At f s){w tx:Str}{p a u:Int}(hw:bC tx p=(w,a))(h0:w≠[])(hu:0<=u)(hf:(cN (gq 167++s.ext) w).2.2=false)(hn:(ez w (gL s.cs 0)).2=false):kr f tx p u=(f,p,u,true,-13):=by
 have e:m8 (bc f tx a (max u 0)) w=(oOk (bc f tx a (max u 0)) (-13),false):=by
  unfold m8
  rw[show(bc f tx a (max u 0)).f=f from rfl,vY h,hf,if_neg (by decide)]
  unfold IL
  rw[show(bc f tx a (max u 0)).f=f from rfl,Fe h,hn,if_pos rfl]
 have q:=Kd (f:=f) (s:=tx) (a:=p) (fuel:=u) (r:=(oOk (bc f tx a (max u 0)) (-13),false)) (by rw[hw];exact h0) (by rw[hw];exact e) (by rw[ok0 rfl];show(-13:Int)≠0;decide) rfl
 rw[q,ok0 rfl,show max u 0=u by omega]
theorem LA.none{f0:af}{tx p:Str}{u0 u:Int}{k:Nat}{t:Tk}{ws:List Tk}{s s0:SS}(h:LA f0 tx u0 k p (t::ws) s u)(h0:At f0 s0)(ht:okT t)(hk:k<=tx.length+1)(hf:(cN (gq 167++s.ext) t.2).2.2=false)(hn:(ez t.2 (gL s.cs 0)).2=false)(hx:s.comp.xt=0):
  ∃f,At f {s with d:=[]}/\mO f0 tx u0=(f,u,-13):=by
 obtain⟨f,a,g⟩:=h.go
 have hw:bC tx (p.length:Int)=(t.2,((nxT p t ws).length:Int)):=by rw[h.etx];exact yF p ws ht
 exact⟨_,La (Zz h0 a hx),S9 g hk (VU a hw ht.2.1 h.hu.1 hf hn) (by decide)⟩
theorem ae6{f:af}(a:At f sB):∃f',At f' sC3/\mO f [84,72,69,78,32,59,32,110,111,112,101] 100=(f',100,-13):=by
 have h0:LA f [84,72,69,78,32,59,32,110,111,112,101] 100 0 [] ([[84,72,69,78],[59],[110,111,112,101]].map tk) sB 100:=.init a (by decide) rfl
 obtain⟨q,h2⟩:=LA.words ([[84,72,69,78],[59]].map tk) (vs:=[[110,111,112,101]].map tk) (s':=sC3) h0 (Kp rfl) (by kernel_rfl)
 exact h2.none a (wt rfl) (by decide) (by kernel_rfl) (by kernel_rfl) rfl
theorem at9{f:af}(a:At f sA):∃f',At f' {sA with d:=[7]}/\kr f [32,32,55,32,56] 0 9=(f',4,9,true,0):=by
 obtain⟨f',a',e⟩:=PH (s:=sA) (w:=[55]) (n:=7) (by kernel_rfl) (by kernel_rfl) rfl (by decide) f a
 exact⟨f',a',e [32,32,55,32,56] 0 4 9 (by kernel_rfl) (by decide) (by decide) (by decide) (by decide)⟩
theorem ar2{f:af}(a:At f {sA with d:=[7]}):∃f',At f' {sA with d:=[7,7]}/\Lq f 216 [] 0 9=(f',0,7,0):=by
 obtain⟨f',a',e⟩:=KN (s:={sA with d:=[7]}) (s':={sA with d:=[7,7]}) 23 (by decide) rfl ⟨rfl,rfl,rfl⟩ (fun m _=>by kernel_rfl) f a
 refine⟨f',a',?_⟩
 have q:=e [] 0 9 (by decide) (by decide) (by decide)
 unfold Lq
 rw[show max (9:Int) 0=9 from rfl]
 have q:lZ (bc f [] 0 9) 216=⟨f',[],0,7,0⟩:=q
 rw[q]
theorem Nk:ab prog 10 [] (bQ fO):=by
 refine zY func10 fun B=>?_
 refine zu1 ?_
 refine zp1 ?_
 refine zc rfl func24 ((Ux cO K0) _) ?_
 refine zy5 ?_
 refine zs1 ?_
 refine zu3 ?_
 refine zR ?_
 rfl
theorem okO:OkF 0 fO:=by
 refine y5 WY fun x hx=>?_
 obtain⟨i,hi,rfl⟩:=List.mem_map.1 (show x∈(List.range 167).map kZ from hx)
 have:=List.mem_range.1 hi
 show ae ((32+8*i:Nat):Int)
 unfold ae;omega
theorem XY{l l':List Int}(h:l=l')(hl:l'.length<=1000000):ab prog 20 [sq ap l,sq ap l'] (boo true):=by
 subst h
 have:=M2 l l hl hl
 rwa [decide_eq_true rfl]at this
def PG(a:Addr)(f:FuncId)(args:List PV)(res:PV):Prop:=∀(H:List Ob),(∀o∈gK a,∃k:Nat,H[k]?=some o)->HC prog f args H res H
theorem TN(a:Addr)(f0 fA fB fC fD fE:af)(n0:ab prog 10 [] (bQ f0))(pA:PG a 12 [bQ f0,str [58,32,83,81,32,68,85,80,32,42,32,59,32,53,32,83,81,32,46],i64 100] (vd (fA,93,0)))(pB:PG a 12 [bQ fA,str [58,32,88,32,73,70],i64 100] (vd (fB,100,0)))
  (pC:PG a 12 [bQ fB,str [84,72,69,78,32,59,32,110,111,112,101],i64 100] (vd (fC,100,-13))) (pD:PG a 21 [bQ fA,str [32,32,55,32,56],i64 0,i64 9] (LP (fD,4,9,true,0))) (pE:PG a 22 [bQ fD,i64 216,str [],i64 0,i64 9] (Kt (fE,0,7,0)))
  (cA:ab prog 23 [bQ fA] (boo false)) (cB:ab prog 23 [bQ fB] (boo true)) (cC:ab prog 23 [bQ fC] (boo false)) (oA:fA.vm.out=[50,53,32]) (dD:fD.vm.d=[7]) (dE:fE.vm.d=[7,7]):∀(H:List Ob),(∀o∈gK a,∃k:Nat,H[k]?=some o)->HC prog 9 [] H (boo true) H:=by
 refine g7 (fM a) tG (rs:=[.tmp 0]) func9 rfl rfl rfl (by simp) (by simp) (fun B=>?_)
 refine zu1 ?_
 refine z8 ?_
 refine zc rfl func10 ((n0) _) ?_
 refine zs2 ?_
 refine zp1 ?_
 refine zc rfl func12 (pA _ (cn 0 1 rfl rfl)) ?_
 refine zy5 ?_
 refine zs3 ?_
 refine zp1 ?_
 refine zc rfl func12 (pB _ (cn 0 1 rfl rfl)) ?_
 refine zy5 ?_
 refine zs3 ?_
 refine zp1 ?_
 refine zc rfl func12 (pC _ (cn 0 1 rfl rfl)) ?_
 refine zy5 ?_
 refine zs3 ?_
 refine zp1 ?_
 refine zc rfl func21 (pD _ (cn 0 1 rfl rfl)) ?_
 refine zy5 ?_
 refine zy5 ?_
 refine zs2 ?_
 refine zp1 ?_
 refine zc rfl func22 (pE _ (cn 0 1 rfl rfl)) ?_
 refine zy5 ?_
 refine zs5 ?_
 refine zp3 ?_
 refine gp 56 rfl (by rfl) ?_
 refine zy3 ?_
 refine Wd rfl rfl (oe (lO tG rfl) rfl (lO tG rfl) rfl (lO tG rfl) rfl rfl rfl) ?_
 refine z1 ?_
 refine zq 61 ?_
 refine zy2 ?_
 refine gp 63 rfl (by exact decide_eq_true oA) ?_
 refine zy4 ?_
 refine gp 67 rfl (by rfl) ?_
 refine z1 ?_
 refine zc rfl func23 ((cA) _) ?_
 refine zy3 ?_
 refine gp 72 rfl (by rfl) ?_
 refine zy4 ?_
 refine gp 76 rfl (by rfl) ?_
 refine z1 ?_
 refine zc rfl func23 ((cB) _) ?_
 refine zy2 ?_
 refine gp 80 rfl (by rfl) ?_
 refine zy4 ?_
 refine gp 84 rfl (by rfl) ?_
 refine z1 ?_
 refine zc rfl func23 ((cC) _) ?_
 refine zy3 ?_
 refine gp 89 rfl (by rfl) ?_
 refine zy4 ?_
 refine gp 93 rfl (by rfl) ?_
 refine zy3 ?_
 refine gp 96 rfl (by rfl) ?_
 refine zy4 ?_
 refine gp 100 rfl (by rfl) ?_
 refine zy4 ?_
 refine gp 104 rfl (by rfl) ?_
 refine zy4 ?_
 refine Wa 108 rfl (bsL ap [_] rfl rfl) ?_
 refine zc rfl func20 ((XY dD (by decide)) _) ?_
 refine zy2 ?_
 refine gp 111 rfl (by rfl) ?_
 refine zy4 ?_
 refine gp 115 rfl (by rfl) ?_
 refine zy4 ?_
 refine Wa 119 rfl (bsL ap [_,_] rfl rfl) ?_
 refine zc rfl func20 ((XY dE (by decide)) _) ?_
 refine zs2 ?_
 refine zR ?_
 rfl
theorem EU{f:af}{s:SS}(h:At f s){b:Bool}(hb:s.cmp=b):ab prog 23 [bQ f] (boo b):=by
 have hm:f.vm.mem.b.length<=140737488355328:=by
  obtain⟨m,rfl,hm⟩:=h.ex
  have:=hm.len
  show m.b.length<=_;omega
 have:=jR f hm
 rwa [ub h,hb]at this
theorem Iv{f:af}{s:SS}(h:At f s):f.vm.out=s.out/\f.vm.d=s.d/\f.comp=s.comp:=by obtain⟨m,rfl,hm⟩:=h.ex;exact⟨rfl,rfl,rfl⟩
theorem EH(a:Addr){f f':af}{tx:Str}{fuel u e:Int}(h:OkF 0 f)(ht:tx.length<=1000)(hu:fuel<=5000)(hl:mO f tx fuel=(f',u,e)):PG a 12 [bQ f,str tx,i64 fuel] (vd (f',u,e))/\OkF 0 f':=by
 have p:PG a 12 [bQ f,str tx,i64 fuel] (vd (mO f tx fuel)):=G3 a h ht hu (by decide)
 have o:=(Hd h ht hu (by decide)).2.1
 rw[hl]at p o
 exact⟨p,o⟩
theorem ah2(a:Addr):∀(H:List Ob),(∀o∈gK a,∃k:Nat,H[k]?=some o)->HC prog 9 [] H (boo true) H:=by
 obtain⟨fA,aA,eA⟩:=au1
 obtain⟨fB,aB,eB⟩:=ak9 aA
 obtain⟨fC,aC,eC⟩:=ae6 aB
 obtain⟨fD,aD,eD⟩:=at9 aA
 obtain⟨fE,aE,eE⟩:=ar2 aD
 obtain⟨pA,kA⟩:=EH a okO (by decide) (by decide) eA
 obtain⟨pB,kB⟩:=EH a kA (by decide) (by decide) eB
 obtain⟨pC,kC⟩:=EH a kB (by decide) (by decide) eC
 have wD:=okw (s:=[32,32,55,32,56]) (a:=0) (fuel:=9) kA (by decide) (by decide) (by decide) (by decide)
 have pD:PG a 21 _ _:=A3 a fA [32,32,55,32,56] 0 9 0 ⟨To kA (by decide) (by decide),kA.g,by decide,by decide⟩
 rw[eD]at pD wD
 have pE:PG a 22 _ _:=IY a fD 216 [] 0 9 _ wD.f.g (by unfold ae;omega) (by decide) (by show 0+270+3*Int.toNat 9-3*Int.toNat 9<=190000;decide) (by decide)
 rw[eE]at pE
 exact TN a fO fA fB fC fD fE Nk pA pB pC pD pE (EU aA rfl) (EU aB rfl) (EU aC rfl) (Iv aA).1 (Iv aD).2.1 (Iv aE).2.1
structure Pv (k:Int) (s s':SS):Prop where
 d:s'.d=s.d
 ext:s'.ext=s.ext
 last:s'.last=s.last
 out:s'.out=s.out
 comp:∃l,s'.comp={s.comp with cf:=l}
 g8:∀x,x<=8->gL s'.cs x=gL s.cs x
 h0:s.here<=s'.here
 h1:s'.here<=s.here+k
theorem Pv.rf(s:SS):Pv 0 s s:=⟨rfl,rfl,rfl,rfl,⟨s.comp.cf,rfl⟩,fun _ _=>rfl,Int.le_refl _,by omega⟩
theorem Pv.tr{j k:Int}{a b c:SS}(h:Pv j a b)(g:Pv k b c):Pv (j+k) a c:=by
 obtain⟨l,e⟩:=h.comp
 obtain⟨l2,e2⟩:=g.comp
 exact⟨g.d.trans h.d,g.ext.trans h.ext,g.last.trans h.last,g.out.trans h.out,⟨l2,by rw[e2,e]⟩,fun x hx=>(g.g8 x hx).trans (h.g8 x hx),by have:=h.h0;have:=g.h0;omega,by have:=h.h1;have:=g.h1;omega⟩
theorem Pv.up{j k:Int}{a b:SS}(h:Pv j a b)(hk:j<=k):Pv k a b:=⟨h.d,h.ext,h.last,h.out,h.comp,h.g8,h.h0,by have:=h.h1;omega⟩
section
variable {w : CW} {s : SS}
end
section
variable {w : CW} {s : SS}
end
open Go.RowKit
theorem S2(l ext:List aR)(name:Str)(h:∀e∈ext,xk e name=false):cN (l++ext) name=cN l name:=by
 have k:∀(n:Nat) (ext:List aR),ext.length=n->(∀e∈ext,xk e name=false)->cN (l++ext) name=cN l name:=by
  intro n
  induction n with
  | zero=>intro ext hl _;rw[List.length_eq_zero_iff.1 hl,List.append_nil]
  | succ n ih =>
   intro ext hl he
   have e:=CT (l:=ext) (by omega)
   have hb:(EY ext).length=n:=by unfold EY;rw[List.length_take];omega
   have hx:xk (Cr ext) name=false:=he _ (by rw[e];exact List.mem_append_right _ (by rw[<-e];exact List.mem_singleton.2 rfl))
   rw[e,<-List.append_assoc,N7,if_neg (by rw[hx];decide)]
   exact ih _ hb fun x hx=>he x (List.mem_of_mem_take hx)
 exact k _ ext rfl h
theorem ax5{s:SS}{i:Nat}(hi:i<167)(hh:NV (kZ i)=false)(hs:sz (gL s.cs))(he:∀e∈s.ext,xk e (lY.getD i [])=false):xiS s (lY.getD i [])=some ⟨kZ i,(tM i:Int)⟩:=by
 have e1:cN (gq 167++s.ext) (lY.getD i [])=(kZ i,(i:Int),true):=by rw[S2 _ _ _ he];exact ZL hi hh
 have ex:(kZ i).xt=32+8*(i:Int):=by show((32+8*i:Nat):Int)=_;omega
 have ek:gL s.cs (kZ i).xt=(tM i:Int):=by rw[ex];exact hs.prim i hi
 have ok:eX (tM i:Int):=by unfold eX tM;split<;>omega
 unfold xiS
 rw[e1]
 dsimp only
 rw[ek,if_pos ⟨rfl,gu.2 (by rw[ex];omega),ok⟩]
open Go.WideShapes
theorem ae7{P:Program}{a:Addr}{f:FuncId}{args:List PV}{vs:List Value}{w:World}(hf:ay args)(h:∀(H:List Ob),(∀o∈gK a,∃k:Nat,H[k]?=some o)->HC P f args H (.val (.bool true)) H)
  (h0:w.cell? ⟨1,0,none⟩=some (haltV a)) (h1:w.cell? ⟨0,0,none⟩=some etV) (hr:au (c0 w) args vs) :
  Calls P f vs.toArray w fun e w'=>e=.returned (.bool true)/\Below w.heap.size w w':=by
 have dull:∀{j:Nat} {oj:Ob},(gK a)[j]?=some oj->oj.live=true->False:=fun q1 q2=>by
  obtain⟨g,u,rfl⟩:=fM a _ (List.mem_of_getElem? q1);cases q2
 have nw:∀b off,¬(False\/j9 (fun _=>none) (gK a) b off):=by
  rintro b off (q|⟨i,oi,q1,_,q3⟩)
  ·exact q
  obtain⟨g,u,rfl⟩:=fM a _ (List.mem_of_getElem? q1);cases q3
 have s:Sim (fun _ _=>False) (gK a) (fun _=>none) w:=by
  refine⟨fun i j b oi oj q _ l=>(dull q l).elim,fun i b oi q l=>(dull q l).elim,fun b off q=>q.elim,fun i oi q=>?_⟩
  have hm:=List.mem_of_getElem? q
  unfold gK at hm
  simp only[List.mem_cons,List.not_mem_nil,or_false]at hm
  rcases hm with rfl|rfl
  ·exact⟨h0,nw _ _⟩
  exact⟨h1,nw _ _⟩
 have hr':au (cx (fun _ _=>False) (gK a) (fun _=>none) w) args vs:=dv (c:=c0 w) (c':=cx (fun _ _=>False) (gK a) (fun _=>none) w) rfl (fun b off q=>(nw b off q).elim) hf hr
 refine Calls.mono (h (gK a) (fun o ho=>by obtain⟨k,hk⟩:=List.getElem?_of_mem ho;exact⟨k,hk⟩) (fun _ _=>False) (fun _=>none) w vs s hr') ?_
 rintro e w' ⟨v,σ',rfl,h1,_,h3⟩
 unfold Rep at h1
 subst h1
 exact⟨rfl,⟨h3.os,h3.tape,h3.output,h3.size,fun b hb=>h3.block b hb (fun i oi hi hl=>(dull hi hl).elim)⟩⟩
end Go.Proofs.YtjcminooghmpeaaGreatDoor
