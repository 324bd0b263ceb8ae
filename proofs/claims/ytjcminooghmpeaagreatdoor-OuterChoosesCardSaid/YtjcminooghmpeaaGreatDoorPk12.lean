import Derived.Test.YtjcminooghmpeaaGreatDoorPk11
set_option linter.all false
set_option maxRecDepth 100000
set_option maxHeartbeats 40000000
open Go.Proofs.Tryz
namespace Go.Proofs.YtjcminooghmpeaaGreatDoor
open Go.RowKit
def cO:oc:=⟨4096,32,32,250,2000⟩
def vO:VVm:=GY cO
def fO:af:=⟨vO,kN⟩
def LI:eO cO:=by unfold eO cO;decide
def Z4:(ig 167).all Bu=true:=by decide +kernel
def R9:zu vO:=by
 have hl:(qe 4096 167).length=4096:=v6 _ _
 refine⟨LI,?_,?_,⟨(by show(0:Nat)<=130;decide),.inr rfl⟩,?_,(by show(1368:Int)<=1368;decide),(by show(1368:Int)<=4096;decide),rfl,rfl,(by show((0:Nat):Int)<=32;decide),(by show((0:Nat):Int)<=32;decide),(by show(0:Nat)<=64;decide),?_,(by show((0:Nat):Int)<=2000;decide),(by show(0:Nat)<=16;decide),(by show(0:Int)<=vO.free;decide),(by show vO.free<=(64:Int);decide),(by show(0:Int)<=vO.next;decide),(by show vO.next<=(4611686018427387904:Int);decide),(by show(0:Nat)<=64;decide)⟩
 ·show mj ⟨qe 4096 167,[]⟩=true
  unfold mj
  simp only[List.all_nil,Bool.true_and,hl]
  decide
 ·show iC (ig 167)=true
  unfold iC
  rw[Z4,qw];rfl
 ·show((qe 4096 167).length:Int)=4096
  rw[hl];rfl
 show((ig 167).length:Int)<=250
 rw[qw];decide
def XO:bf 0 vO:=⟨R9,Nat.le_refl _,bG,bG,fun x hx=>(by cases hx),⟨bI,bI,bI⟩,bI⟩
def gO(a:Int):Int:=(am vO.mem a).1
def Lk:mX vO 4096 gO:=by
 have hl:vO.mem.b.length=4096:=v6 4096 167
 refine⟨⟨hl,fun a h0 h1 h2=>?_⟩,by decide,by decide,rfl,rfl⟩
 unfold gO am
 rw[rO h0 h1 (by rw[hl];exact h2),if_pos rfl]
def Ta(g:Int->Int):Bool:=((List.range 167).all fun i=>decide (g (32+8*(i:Int))=(yI i:Int)))&&(decide (g 0=10)&&(decide (g 8=0)&&(decide (g 16=96)&&decide (g 24=104))))
def Up:Ta gO=true:=by kernel_rfl
structure OZ (g:Int->Int):Prop where
 prim:∀i:Nat,i<167->g (32+8*(i:Int))=(yI i:Int)
 c0:g 0=10
 c16:g 16=96
 c24:g 24=104
def V5:OZ gO:=by
 have q:=Up
 unfold Ta at q
 simp only[Bool.and_eq_true,decide_eq_true_eq,List.all_eq_true]at q
 exact⟨fun i h=>q.1 i (List.mem_range.2 h),q.2.1,q.2.2.2.1,q.2.2.2.2⟩
def aH4:gO 8=0:=by
 have q:=Up
 unfold Ta at q
 simp only[Bool.and_eq_true,decide_eq_true_eq,List.all_eq_true]at q
 exact q.2.2.1
def OZ.std{g:Int->Int}(S:OZ g):Std g:=⟨fun i h=>by rw[S.prim i (by omega)];unfold yI;rw[if_neg (by omega)],S.c16,S.c24⟩
def OZ.upd{g:Int->Int}(S:OZ g){a n:Int}(h:1368<=a):OZ (rZ g a n):=by
 refine⟨fun i hi=>?_,?_,?_,?_⟩
 ·unfold rZ;rw[if_neg (by omega)];exact S.prim i hi
 ·unfold rZ;rw[if_neg (by omega)];exact S.c0
 ·unfold rZ;rw[if_neg (by omega)];exact S.c16
 unfold rZ;rw[if_neg (by omega)];exact S.c24
section
variable {f : af} {tx w : Str} {p fuel a n q : Int} {r : ai × Bool}
def XX(hw:bE tx p=(w,a))(h0:w≠[])(e:nE (bg f tx a (max fuel 0)) w=r)(he:r.1.err=0):kR f tx p fuel=(r.1.f,r.1.at_,r.1.fuel,true,0):=by
 have:=QX (f:=f) (s:=tx) (a:=p) (fuel:=fuel) (r:=r) (by rw[hw];exact h0) (by rw[hw];exact e) (fun z=>z.1 he)
 rw[this,he]
def wM{l:ai}{v:VVm}(h:l.err=0):gC l (v,0)={l with f:={l.f with vm:=v}}:=by
 unfold gC
 rw[show((v,(0:Int)):VVm×Int).2=0 from rfl,Bd h,if_pos h]
def Sb{v:VVm}(hd:(v.d.length:Int)<v.conf.data):fQ v n=({v with d:=v.d++[n]},0):=by
 unfold fQ gP
 rw[if_neg (by omega)]
def Yf(hw:bE tx p=(w,a))(h0:w≠[])(hf:(dc f.vm.dict w).2.2=false)(hn:dK w (am f.vm.mem 0).1=(n,true))(hc:cw f=false)(hd:(f.vm.d.length:Int)<f.vm.conf.data):
  kR f tx p fuel=({f with vm:={f.vm with d:=f.vm.d++[n]}},a,max fuel 0,true,0):=by
 have e:nE (bg f tx a (max fuel 0)) w=({bg f tx a (max fuel 0)with f:={f with vm:={f.vm with d:=f.vm.d++[n]}}},false):=by
  unfold nE
  rw[show(bg f tx a (max fuel 0)).f=f from rfl,hf,if_neg (by decide)]
  unfold Js
  rw[show(bg f tx a (max fuel 0)).f=f from rfl,hn]
  dsimp only
  rw[if_neg (by decide),hc,if_neg (by decide)]
  unfold wa
  rw[do0 (show(bg f tx a (max fuel 0)).err=0 from rfl),show(bg f tx a (max fuel 0)).f.vm=f.vm from rfl,Sb hd,wM rfl]
  rfl
 exact XX hw h0 e rfl
def Zq{v:VVm}(hw:bE tx p=(w,a))(h0:w≠[])(hf:(dc f.vm.dict w).2.2=false)(hn:dK w (am f.vm.mem 0).1=(n,true))(hc:cw f=true)(hl:Hl f.vm n=(v,0)):
  kR f tx p fuel=({f with vm:=v},a,max fuel 0,true,0):=by
 have e:nE (bg f tx a (max fuel 0)) w=({bg f tx a (max fuel 0)with f:={f with vm:=v}},false):=by
  unfold nE
  rw[show(bg f tx a (max fuel 0)).f=f from rfl,hf,if_neg (by decide)]
  unfold Js
  rw[show(bg f tx a (max fuel 0)).f=f from rfl,hn]
  dsimp only
  rw[if_neg (by decide),hc,if_pos rfl]
  unfold uk
  rw[do0 (show(bg f tx a (max fuel 0)).err=0 from rfl),show(bg f tx a (max fuel 0)).f.vm=f.vm from rfl,hl,wM rfl]
  rfl
 exact XX hw h0 e rfl
def Ci{l:ai}{x:aS}{i:Int}(hf:dc l.f.vm.dict w=(x,i,true)):nE l w=jq l x:=by
 unfold nE
 rw[hf,if_pos rfl]
def ac7{l:ai}{x:aS}(hk:av l.f.vm x.xt=(q,0))(hc:cw l.f=true)(hi:x.flags%2=0):jq l x=(xj l x.xt,false):=by
 unfold jq
 rw[hk]
 dsimp only
 rw[if_neg (by decide),hc,if_neg (by simp),if_pos (by simp[hi])]
def LH{l:ai}{x:aS}(hk:av l.f.vm x.xt=(q,0))(hq:300<=q)(ho:(mM x q&&!cw l.f)=false)(hi:(cw l.f&&decide (x.flags%2=0))=false):jq l x=(rY l (cv.getD (q-300).toNat []),false):=by
 unfold jq
 rw[hk]
 dsimp only
 rw[if_neg (by decide),ho,if_neg (by decide),hi,if_neg (by decide),if_pos hq]
def VB{l:ai}{x:aS}(hk:av l.f.vm x.xt=(q,0))(hq:¬300<=q)(ho:(mM x q&&!cw l.f)=false)(hi:(cw l.f&&decide (x.flags%2=0))=false):jq l x=(mn l x.xt,true):=by
 unfold jq
 rw[hk]
 dsimp only
 rw[if_neg (by decide),ho,if_neg (by decide),hi,if_neg (by decide),if_neg hq]
end
open Go.RowKit
section
variable {v : VVm} {L : Nat} {g : Int -> Int} {n : Int}
def bQ(v:VVm)(n:Int):VVm:={v with mem:=stM v.mem v.here n,here:=v.here+8}
structure jU (v:VVm) (L:Nat) (g:Int->Int):Prop where
 m:mX v L g
 h0:0<=v.here
 h8:v.here%8=0
def EE(R:jU v L g)(h:v.here+8<=(L:Int)):rp v n=(bQ v n,0):=by
 have hl:=R.m.mem.len
 have h0:=R.h0
 unfold rp cy
 rw[if_pos (by rw[Int.tmod_eq_emod_of_nonneg h0];exact R.h8)]
 unfold dg
 rw[if_neg (by rw[kZ,hl];omega),Id n h0 (by rw[hl];exact h)]
 rfl
def jj(R:jU v L g)(h:v.here+8<=(L:Int))(hn:ae n):jU (bQ v n) L (rZ g v.here n):=by
 have ha:okA L v.here=true:=gY.2 ⟨R.h0,R.h8,h⟩
 have h0:=R.h0
 have h8:=R.h8
 exact⟨⟨R.m.mem.store hn ha,R.m.hL,R.m.hl,R.m.data,R.m.ret⟩,by show 0<=v.here+8;omega,by show(v.here+8)%8=0;omega⟩
def iK{w:CW}(R:jU w.v L g)(h:w.v.here+8<=(L:Int))(hb:w.bad=0):iI w n={w with v:=bQ w.v n}:=by
 rw[YK hb,EE R h,<-hb]
def Zs:rR [40,108,105,116,41]=40:=by decide +kernel
def U1(R:jU v L g)(h:v.here+16<=(L:Int)):Hl v n=(bQ (bQ v 40) n,0):=by
 have R1:=jj (n:=40) R (by omega) (by unfold ae;omega)
 unfold Hl
 have e1:cL (lw v) [40,108,105,116,41]=⟨bQ v 40,[],0⟩:=by
  unfold cL
  rw[Zs]
  exact iK (w:=lw v) R (by show v.here+8<=_;omega) rfl
 rw[e1,iK (w:=⟨bQ v 40,[],0⟩) R1 (by show v.here+8+8<=_;omega) rfl]
 rfl
end
open Go.RowKit
section
variable {f : af} {v : VVm} {L : Nat} {g : Int -> Int} {n : Int} {name : Str}
def C9(R:jU v L g)(h:v.here<=(L:Int)):aN v.mem v.here=(v.mem,v.here,0):=by
 have hl:=R.m.mem.len
 have e:((8-v.here.tmod 8).tmod 8).toNat=0:=by
  rw[Int.tmod_eq_emod_of_nonneg R.h0,R.h8];decide
 unfold aN
 rw[e]
 unfold dg cn bt
 rw[if_neg (by simp;omega),if_pos (by simp)]
 simp
def WB{l:List aS}{xt flags limit:Int}(hn:fy name=0)(h:(l.length:Int)<limit)(h2:(l.length:Int)<1024):cE l name xt flags limit=(l++[⟨name,xt,flags⟩],0):=by
 unfold cE
 rw[if_neg (fun z=>z hn),if_neg (by split<;>omega)]
def nI(v:VVm)(name:Str)(flags:Int):VVm:={v with dict:=v.dict++[⟨name,v.here,flags⟩]}
def yp(R:jU v L g)(flags:Int):jU (nI v name flags) L g:=⟨⟨R.m.mem,R.m.hL,R.m.hl,R.m.data,R.m.ret⟩,R.h0,R.h8⟩
def NO{w:FW}(R:jU w.f.vm L g)(hb:w.bad=0)(h:w.f.vm.here<=(L:Int))(hn:fy name=0)(hw:(w.f.vm.dict.length:Int)<w.f.vm.conf.words)(hw2:(w.f.vm.dict.length:Int)<1024)(flags:Int):
  fP w (aN w.f.vm.mem w.f.vm.here) (cE w.f.vm.dict name (aN w.f.vm.mem w.f.vm.here).2.1 flags w.f.vm.conf.words)={w with f:={w.f with vm:=nI w.f.vm name flags}}:=by
 rw[C9 R h,WB hn hw hw2]
 obtain⟨f,b⟩:=w
 simp only at hb
 subst hb
 rfl
def C3{w:FW}(R:jU w.f.vm L g)(h:w.f.vm.here+8<=(L:Int))(hb:w.bad=0):cg w n={w with f:={w.f with vm:=bQ w.f.vm n}}:=by
 rw[UB hb]
 unfold FW.lay
 rw[EE R h,<-hb]
def zV{w:FW}(M:jg w.f.vm.mem L g)(hL:16<=L)(hb:w.bad=0):d7 w n={w with f:={w.f with vm:={w.f.vm with mem:=stM w.f.vm.mem 8 n}}}:=by
 unfold d7
 rw[M.put (a:=8) (gY.2 ⟨by decide,by decide,by omega⟩),VR (by exact hb),<-hb]
def DN(f:af)(name:Str):af:=⟨{bQ (nI f.vm name 2) 256 with mem:=stM (bQ (nI f.vm name 2) 256).mem 8 (-1)},⟨f.vm.here,[],f.vm.here,f.vm.dict.length,f.vm.last,false,0⟩⟩
def Ou(R:jU f.vm L g)(hx:f.comp.xt=0)(h:f.vm.here+8<=(L:Int))(hL:16<=L)(hn:fy name=0)(hw:(f.vm.dict.length:Int)<f.vm.conf.words)(hw2:(f.vm.dict.length:Int)<1024):iq f name false 0=(DN f name,0):=by
 have hb:aK f=⟨f,0⟩:=by unfold aK;rw[if_pos hx]
 have hc:gd f false 0=⟨f,0⟩:=by unfold gd;rw[if_pos rfl,hb]
 have e1:eS ⟨f,0⟩ name 2 [256]=(⟨⟨bQ (nI f.vm name 2) 256,f.comp⟩,0⟩,f.vm.here):=by
  have R1:=yp (name:=name) R 2
  unfold eS
  rw[NO (w:=⟨f,0⟩) R rfl (by show f.vm.here<=_;omega) hn hw hw2]
  refine Prod.ext ?_ ?_
  ·show cg ⟨⟨nI f.vm name 2,f.comp⟩,0⟩ 256=_
   rw[C3 (w:=⟨⟨nI f.vm name 2,f.comp⟩,0⟩) R1 h rfl]
  show(aN f.vm.mem f.vm.here).2.1=_
  rw[C9 R (by omega)]
 have R2:=jj (n:=256) (yp (name:=name) R 2) h (by unfold ae;omega)
 unfold iq
 rw[hc,if_neg (fun z=>z rfl)]
 unfold vM
 rw[e1]
 rw[zV (w:=⟨⟨bQ (nI f.vm name 2) 256,f.comp⟩,0⟩) R2.m.mem hL rfl]
 rfl
end
open Go.RowKit
section
variable {f : af} {v : VVm} {L : Nat} {g : Int -> Int} {n : Int} {name : Str}
def Pj{D:List aS}{w:aS}{a fl:Int}(ha:a=(D.length:Int)):cH (D++[w]) a fl=(D++[{w with flags:=fl}],0):=by
 unfold cH
 rw[if_neg (by rw[List.length_append,List.length_singleton];omega)]
 have e:a.toNat=D.length:=by omega
 rw[e,show(D++[w]).getD D.length default=w by rw[List.getD_eq_getElem?_getD,List.getElem?_append_right (Nat.le_refl _),Nat.sub_self];rfl,List.set_append_right _ _ (Nat.le_refl _),Nat.sub_self]
 rfl
def RR(f:af)(D:List aS)(w:aS):af:=⟨{bQ f.vm 32 with dict:=D++[{w with flags:=jS w.flags}],mem:=stM (bQ f.vm 32).mem 8 0},kN⟩
def WN{D:List aS}{w:aS}(R:jU f.vm L g)(hx:f.comp.xt≠0)(hcf:f.comp.cf=[])(ho:f.comp.on=false)(hd:f.vm.dict=D++[w])(hi:f.comp.dict=(D.length:Int))(h:f.vm.here+8<=(L:Int))(hL:16<=L):
  nu f=(RR f D w,0):=by
 have hE:nt f=0:=by
  unfold nt
  rw[if_neg hx,hcf,if_neg (by decide),ho,if_neg (by simp)]
 have R1:=jj (n:=32) R h (by unfold ae;omega)
 have e1:cg ⟨f,0⟩ 32=⟨⟨bQ f.vm 32,f.comp⟩,0⟩:=by rw[C3 (w:=⟨f,0⟩) R h rfl]
 have e2:tz ⟨⟨bQ f.vm 32,f.comp⟩,0⟩ f.comp=(D++[{w with flags:=jS w.flags}],0):=by
  unfold tz
  show cH f.vm.dict f.comp.dict (jS (f.vm.dict.getD f.comp.dict.toNat default).flags)=_
  rw[hd,show f.comp.dict.toNat=D.length by omega,show(D++[w]).getD D.length default=w by rw[List.getD_eq_getElem?_getD,List.getElem?_append_right (Nat.le_refl _),Nat.sub_self];rfl,Pj hi]
 have e3:yK f=⟨⟨{bQ f.vm 32 with dict:=D++[{w with flags:=jS w.flags}],mem:=stM (bQ f.vm 32).mem 8 0},f.comp⟩,0⟩:=by
  unfold yK
  rw[e1,e2]
  have e4:nc ⟨⟨bQ f.vm 32,f.comp⟩,0⟩ (D++[{w with flags:=jS w.flags}],0)=⟨⟨{bQ f.vm 32 with dict:=D++[{w with flags:=jS w.flags}]},f.comp⟩,0⟩:=rfl
  rw[e4,zV (w:=⟨⟨{bQ f.vm 32 with dict:=D++[{w with flags:=jS w.flags}]},f.comp⟩,0⟩) R1.m.mem hL rfl]
  unfold i9
  rw[if_neg (by rw[ho];decide)]
 unfold nu
 rw[if_neg (fun z=>z hE),e3]
 rfl
end
open Go.RowKit
def C5(l:List aS)(w:aS)(name:Str):∀k,k<=l.length->mv (l++[w]) name k=mv l name k
 | 0,_=>rfl
 | k+1,hk=>by
  unfold mv
  rw[show(l++[w]).getD k default=l.getD k default by rw[List.getD_eq_getElem?_getD,List.getElem?_append_left (by omega),<-List.getD_eq_getElem?_getD],C5 l w name k (by omega)]
def OQ(l:List aS)(w:aS)(name:Str):dc (l++[w]) name=if yN w name=true then(w,(l.length:Int),true)else dc l name:=by
 unfold dc
 rw[List.length_append,List.length_singleton]
 rw[mv,show(l++[w]).getD l.length default=w by rw[List.getD_eq_getElem?_getD,List.getElem?_append_right (Nat.le_refl _),Nat.sub_self];rfl,C5 l w name l.length (Nat.le_refl _)]
def Pd{l:ai}{g g':Int->Int}{L:Nat}{u:VVm}{d':List Int}{i:Nat}(M:mX l.f.vm L g)(S:Std g)(M':mX u L g')(S':Std g')(h1:23<=i)(h2:i<=129)(hd:doS (mk l.f.vm l.f.vm.d [] []) i=(mk u d' [] [],0))(hf:2<=l.fuel/\l.fuel<=300000)(he:l.err=0):
  mn l (32+8*(i:Int))={l with f:={l.f with vm:=mk u d' [] []},fuel:=l.fuel-2}:=by
 have g1:Go1 (mw l.f.vm l.f.vm.d [] [] 16 (32+8*(i:Int)) l.fuel) (mr u d' [] [] 16 (l.fuel-1)) :=
  Y8 M ⟨by omega,by omega⟩ (Hu M (by omega)) (S.prim i (by omega)) (uJ (by omega)) (Ry (by omega) (by omega) hd)
 have g2:=MS (d:=d') (r:=[]) (f:=[]) (fu:=l.fuel-1) M' S' ⟨by omega,by omega⟩
 refine(Dj (n:=1) (s:=mr u d' [] [] 16 (l.fuel-1)) (GoE.cons g1 rfl (by show ¬l.fuel<1;omega) (.nil _)) g2 rfl (by show ¬l.fuel-1<1;omega) (by omega) (by omega) he).trans ?_
 show({l with f:={l.f with vm:=zC (mk u d' [] [])},fuel:=l.fuel-1-1}:ai)=_
 rw[show l.fuel-1-1=l.fuel-2 by omega];rfl
def Ka{l:ai}{g g':Int->Int}{L n:Nat}{u:VVm}{d':List Int}{xt:Int}(M:mX l.f.vm L g)(hx:okA L xt=true)(hq:g xt=256)(M':mX u L g')(S':Std g')
  (hr:GoE n (mr l.f.vm l.f.vm.d [16] [] (xt+8) (l.fuel-1)) (mr u d' [] [] 16 (l.fuel-1-n))) (hf:(n:Int)+2<=l.fuel/\l.fuel<=300000) (he:l.err=0) :
  mn l xt={l with f:={l.f with vm:=mk u d' [] []},fuel:=l.fuel-(n+2:Nat)}:=by
 have g1:Go1 (mw l.f.vm l.f.vm.d [] [] 16 xt l.fuel) (mr l.f.vm l.f.vm.d ([]++[16]) [] (xt+8) (l.fuel-1)):=P7 M ⟨by omega,by omega⟩ hx hq (by decide)
 have g2:=MS (d:=d') (r:=[]) (f:=[]) (fu:=l.fuel-1-n) M' S' ⟨by omega,by omega⟩
 refine(Dj (n:=n+1) (s:=mr u d' [] [] 16 (l.fuel-1-n)) (GoE.cons g1 rfl (by show ¬l.fuel<1;omega) hr) g2 rfl (by show ¬l.fuel-1-n<1;omega) (by omega) (by omega) he).trans ?_
 show({l with f:={l.f with vm:=zC (mk u d' [] [])},fuel:=l.fuel-1-n-1}:ai)=_
 rw[show l.fuel-1-n-1=l.fuel-(n+2:Nat) by omega];rfl
def vU{w:CW}{L:Nat}{g:Int->Int}{a:Int}(M:jg w.v.mem L g)(ha:okA L a=true)(hb:w.bad=0):jO w a={w with v:={w.v with mem:=stM w.v.mem a w.v.here}}:=by
 rw[jV hb,M.put ha,<-hb]
def qm{w:CW}{c:VCf}(h:w.l.length<32):m8 w c={w with l:=w.l++[c]}:=by
 unfold m8;rw[if_neg (by omega)]
def nZ{w:CW}{D:List VCf}{c:VCf}{kind:Int}(h:w.l=D++[c])(hk:c.kind=kind):bk w kind=({w with l:=D},c):=by
 have e:(D++[c]).getD ((D++[c]).length-1) zCf=c:=by rw[List.length_append,List.length_singleton,Nat.add_sub_cancel,List.getD_eq_getElem?_getD,List.getElem?_append_right (Nat.le_refl _),Nat.sub_self];rfl
 unfold bk
 rw[h,if_neg (fun z=>z.elim (fun q=>by simp at q) (fun q=>q (by rw[e];exact hk))),e]
 simp
def kJ{w:CW}{v:VVm}{l:List VCf}(hb:w.bad=0):pa w v l=(w.v,w.l,0):=by
 unfold pa;rw[if_neg (fun z=>z hb)]
def q9{w:CW}{L:Nat}{g:Int->Int}{name:Str}(R:jU w.v L g)(h:w.v.here+16<=(L:Int))(hx:ae (rR name))(hb:w.bad=0):gM w name={w with v:=bQ (bQ w.v (rR name)) 0}:=by
 unfold gM cL
 rw[iK R (by omega) hb]
 have R1:=jj (n:=rR name) R (by omega) hx
 rw[iK (w:={w with v:=bQ w.v (rR name)}) R1 (by show w.v.here+8+8<=_;omega) hb]
section
variable {v : VVm} {l D : List VCf} {L : Nat} {g : Int -> Int} {a : Int}
def Mn:rR [40,48,98,114,97,110,99,104,41]=56:=by decide +kernel
def Ut:rR [40,98,114,97,110,99,104,41]=48:=by decide +kernel
def J7:ae 56:=by unfold ae;omega
def Fd:ae 48:=by unfold ae;omega
def aJ0(R:jU v L g)(h:v.here+16<=(L:Int))(hl:l.length<32):bq v l [73,70]=(bQ (bQ v 56) 0,l++[⟨1,v.here+8,[]⟩],0):=by
 rw[qQ (g:=ifC) rfl (by unfold kK;rw[if_pos (.inl rfl)];simp;omega)]
 unfold ifC
 have e:(cL ⟨v,l,0⟩ [40,48,98,114,97,110,99,104,41]).v.here=v.here+8:=by
  unfold cL;rw[iK (w:=⟨v,l,0⟩) R (by show v.here+8<=_;omega) rfl];rfl
 rw[e,q9 (w:=⟨v,l,0⟩) R h (by rw[Mn];exact J7) rfl,Mn,qm (by exact hl),kJ rfl]
def ae8(R:jU v L g)(hl:l=D++[⟨1,a,[]⟩])(ha:okA L a=true):bq v l [84,72,69,78]=({v with mem:=stM v.mem a v.here},D,0):=by
 rw[qQ (g:=Mj) rfl (by unfold kK;rw[if_neg (by decide)];decide)]
 unfold Mj
 rw[nZ (w:=⟨v,l,0⟩) hl rfl,vU (w:=⟨v,D,0⟩) R.m.mem ha rfl,kJ rfl]
def ab3(R:jU v L g)(h:v.here+16<=(L:Int))(hl:l=D++[⟨1,a,[]⟩])(ha:okA L a=true)(hD:D.length<32)(hs:v.here<=1000000):
  bq v l [69,76,83,69]=({bQ (bQ v 48) 0 with mem:=stM (bQ (bQ v 48) 0).mem a (v.here+16)},D++[⟨1,v.here+8,[]⟩],0):=by
 rw[qQ (g:=Lv) rfl (by unfold kK;rw[if_neg (by decide)];decide)]
 unfold Lv
 rw[nZ (w:=⟨v,l,0⟩) hl rfl]
 dsimp only
 have e:(cL ⟨v,D,0⟩ [40,98,114,97,110,99,104,41]).v.here=v.here+8:=by
  unfold cL;rw[iK (w:=⟨v,D,0⟩) R (by show v.here+8<=_;omega) rfl];rfl
 have R2:=jj (n:=0) (jj (n:=48) R (by omega) Fd) (by show v.here+8+8<=_;omega) bI
 rw[e,q9 (w:=⟨v,D,0⟩) R h (by rw[Ut];exact Fd) rfl,Ut,vU (w:=⟨bQ (bQ v 48) 0,D,0⟩) R2.m.mem ha rfl,qm (by exact hD),kJ rfl]
 have e2:(bQ (bQ v 48) 0).here=v.here+16:=by show v.here+8+8=_;omega
 dsimp only
 rw[e2]
end
open Go.RowKit
abbrev Tk:=Str×Str
def xb:List Tk->Str
 | []=>[]
 | [t]=>t.1++t.2
 | t::u::ws=>t.1++(t.2++(32::xb (u::ws)))
def okT(t:Tk):Prop:=(∀c∈t.1,c.toNat<=32)/\t.2≠[]/\∀c∈t.2,32<c.toNat
def nxT(p:Str)(t:Tk)(ws:List Tk):Str:=if ws=[]then p++(t.1++t.2)else p++(t.1++t.2)++[32]
def Kw(p:Str)(t:Tk)(ws:List Tk):p++xb (t::ws)=nxT p t ws++xb ws:=by
 unfold nxT
 cases ws with
 | nil=>rw[if_pos rfl];show p++(t.1++t.2)=_++[];rw[List.append_nil]
 | cons u ws=>rw[if_neg (by simp)];show p++(t.1++(t.2++(32::xb (u::ws))))=_;simp
def y7(p:Str){t:Tk}(ws:List Tk)(h:okT t):bE (p++xb (t::ws)) p.length=(t.2,((nxT p t ws).length:Int)):=by
 unfold nxT
 cases ws with
 | nil =>
  have w:=MN p t.1 t.2 [] h.1 h.2.1 h.2.2 (.inl rfl)
  rw[List.append_nil]at w
  rw[if_pos rfl]
  show bE (p++(t.1++t.2)) p.length=_
  rw[w]
  refine Prod.ext rfl ?_
  show min (((p.length+t.1.length+t.2.length:Nat):Int)+1) ((p.length+t.1.length+t.2.length+0:Nat):Int)=_
  simp only[List.length_append];omega
 | cons u ws =>
  have w:=MN p t.1 t.2 (32::xb (u::ws)) h.1 h.2.1 h.2.2 (.inr ⟨32,_,rfl,by decide⟩)
  rw[if_neg (by simp)]
  show bE (p++(t.1++(t.2++(32::xb (u::ws))))) p.length=_
  rw[w]
  refine Prod.ext rfl ?_
  show min (((p.length+t.1.length+t.2.length:Nat):Int)+1) ((p.length+t.1.length+t.2.length+(xb (u::ws)).length.succ:Nat):Int)=_
  simp only[List.length_append,List.length_singleton];omega
def U5(p:Str):(bE (p++xb []) p.length).1=[]:=Ro p [] (fun c hc=>by cases hc)
def zl(f0:af)(tx:Str)(x y:LS)(k:Nat):Prop:=∀n,lC f0 tx (n+k) x=lC f0 tx n y
def zl.rf(f0:af)(tx:Str)(x:LS):zl f0 tx x x 0:=fun n=>rfl
def zl.tr{f0:af}{tx:Str}{x y z:LS}{j k:Nat}(h:zl f0 tx x y j)(g:zl f0 tx y z k):zl f0 tx x z (j+k):=fun n=>by
 rw[show n+(j+k)=(n+k)+j by omega,h (n+k),g n]
def zl.one{f0 f:af}{tx:Str}{x:LS}{a u:Int}(h:kR x.f tx x.at_ x.left=(f,a,u,true,0)):zl f0 tx x ⟨f,a,u⟩ 1:=fun n=>by
 have e:lnR x tx=(f,a,u,true,0):=h
 rw[lC,e,if_neg (fun z=>z rfl),if_neg (fun z=>absurd (show true=false from z) (by decide))]
def Qy{f0:af}{tx:Str}{fuel a u:Int}{k:Nat}{f1:af}(h:zl f0 tx ⟨f0,0,max fuel 0⟩ ⟨f1,a,u⟩ k)(hk:k<=tx.length+1)(hu:0<=u)(hw:(bE tx a).1=[]):m9 f0 tx fuel=(vH f1,u,0):=by
 have e:lnR ⟨f1,a,u⟩ tx=(f1,(tx.length:Int),u,false,0):=by
  show kR f1 tx a u=_
  rw[RS hw,show max u 0=u by omega]
 unfold m9
 rw[show tx.length+2=(tx.length+1-k+1)+k by omega,h,lC,e,if_neg (fun z=>z rfl),if_pos rfl]
def TO{f0:af}{tx:Str}{fuel a u a2 u2 e:Int}{k:Nat}{f1 f2:af}(h:zl f0 tx ⟨f0,0,max fuel 0⟩ ⟨f1,a,u⟩ k)(hk:k<=tx.length+1)(hw:kR f1 tx a u=(f2,a2,u2,true,e))(he:e≠0):m9 f0 tx fuel=(vH (M1 f0 f2),u2,e):=by
 have e':lnR ⟨f1,a,u⟩ tx=(f2,a2,u2,true,e):=hw
 unfold m9
 rw[show tx.length+2=(tx.length+1-k+1)+k by omega,h,lC,e',if_pos he]
def gT(a:Int):Int:=if a=0 then 10 else if a=8 then 0 else if a=16 then 96 else if a=24 then 104 else if 32<=a/\a<1368/\a%8=0 then(yI ((a-32)/8).toNat:Int)else gO a
def aF9{a:Int}:gO a=gT a:=by
 unfold gT
 by_cases h0:a=0
 ·rw[if_pos h0,h0];exact V5.c0
 rw[if_neg h0]
 by_cases h1:a=8
 ·rw[if_pos h1,h1];exact aH4
 rw[if_neg h1]
 by_cases h2:a=16
 ·rw[if_pos h2,h2];exact V5.c16
 rw[if_neg h2]
 by_cases h3:a=24
 ·rw[if_pos h3,h3];exact V5.c24
 rw[if_neg h3]
 by_cases h4:32<=a/\a<1368/\a%8=0
 ·rw[if_pos h4]
  have:=V5.prim ((a-32)/8).toNat (by omega)
  rw[show 32+8*((((a-32)/8).toNat:Nat):Int)=a by omega]at this
  exact this
 rw[if_neg h4]
def gL:List (Int×Int)->Int->Int
 | []=>gT
 | p::l=>rZ (gL l) p.1 p.2
structure um (g:Int->Int):Prop where
 prim:∀i:Nat,i<167->g (32+8*(i:Int))=(yI i:Int)
 c16:g 16=96
 c24:g 24=104
def um.std{g:Int->Int}(S:um g):Std g:=⟨fun i h=>by rw[S.prim i (by omega)];unfold yI;rw[if_neg (by omega)],S.c16,S.c24⟩
def um.set{g:Int->Int}(S:um g){a n:Int}(h:1368<=a\/a<=8):um (rZ g a n):=by
 refine⟨fun i hi=>?_,?_,?_⟩
 ·unfold rZ;rw[if_neg (by omega)];exact S.prim i hi
 ·unfold rZ;rw[if_neg (by omega)];exact S.c16
 unfold rZ;rw[if_neg (by omega)];exact S.c24
def aA3:um gT:=by
 refine⟨fun i hi=>?_,rfl,rfl⟩
 unfold gT
 rw[if_neg (by omega),if_neg (by omega),if_neg (by omega),if_neg (by omega),if_pos (by omega),show((32+8*(i:Int)-32)/8).toNat=i by omega]
structure SS where
 d:List Int
 cs:List (Int×Int)
 here:Int
 ext:List aS
 last:Int
 out:Str
 comp:xY
def vS(s:SS)(m:bn):VVm:={vO with mem:=m,d:=s.d,here:=s.here,dict:=ig 167++s.ext,last:=s.last,out:=s.out}
structure At (f:af) (s:SS):Prop where
 ex:∃m,f=⟨vS s m,s.comp⟩/\jg m 4096 (gL s.cs)
 std:um (gL s.cs)
 h0:1368<=s.here
 h1:s.here<=4096
 h8:s.here%8=0
 ext:s.ext.length<=80
def sO:SS:=⟨[],[],1368,[],0,[],kN⟩
def aI1:At fO sO:=by
 refine⟨⟨vO.mem,?_,Lk.mem.len,fun a h0 h1 h2=>?_⟩,aA3,by decide,by decide,by decide,by decide⟩
 ·show fO=⟨{vO with mem:=vO.mem,d:=[],here:=1368,dict:=ig 167++[],last:=0,out:=[]},kN⟩
  rw[List.append_nil];rfl
 rw[Lk.mem.cell a h0 h1 h2,aF9];rfl
def At.mach{s:SS}{m:bn}(h:jg m 4096 (gL s.cs)):mX (vS s m) 4096 (gL s.cs):=⟨h,by decide,by decide,rfl,rfl⟩
def At.room{f:af}{s:SS}(h:At f s){m:bn}(hm:jg m 4096 (gL s.cs)):jU (vS s m) 4096 (gL s.cs):=⟨At.mach hm,by have:=h.h0;show 0<=s.here;omega,h.h8⟩
def SS.cmp(s:SS):Bool:=decide (s.comp.xt≠0/\gL s.cs 8≠0)
section
variable {f : af} {s : SS}
def Bv(h:At f s){a:Int}(ha:okA 4096 a=true):am f.vm.mem a=(gL s.cs a,0):=by
 obtain⟨m,rfl,hm⟩:=h.ex
 have q:=gY.1 ha
 exact hm.cell a q.1 q.2.1 q.2.2
def uC(h:At f s):cw f=s.cmp:=by
 unfold cw SS.cmp
 rw[Bv h (a:=8) rfl]
 obtain⟨m,rfl,hm⟩:=h.ex
 rfl
def y5(h:At f s){xt:Int}(ha:okA 4096 xt=true)(hk:gi (gL s.cs xt)):av f.vm xt=(gL s.cs xt,0):=by
 unfold av
 rw[Bv h ha,if_pos rfl,if_pos hk]
def wF(h:At f s):f.vm.dict=ig 167++s.ext:=by obtain⟨m,rfl,hm⟩:=h.ex;rfl
def FL(h:At f s):(am f.vm.mem 0).1=gL s.cs 0:=by rw[Bv h (a:=0) rfl]
end
def SW(s:SS)(w:Str)(s':SS)(c:Int):Prop:=∀f,At f s->∃f',At f' s'/\∀(tx:Str) (p a u:Int),bE tx p=(w,a)->w≠[]->0<=u->c<=u->u<=5000->kR f tx p u=(f',a,u-c,true,0)
def SS.lay(s:SS)(n:Int):SS:={s with cs:=(s.here,n)::s.cs,here:=s.here+8}
def Eb{l:List (Int×Int)}(h:um (gL l)){a n:Int}(ha:1368<=a):um (gL ((a,n)::l)):=h.set (.inl ha)
def l7{f:af}{s:SS}(h:At f s){n:Int}(hn:ae n)(hr:s.here+8<=4096):rp f.vm n=(bQ f.vm n,0)/\At {f with vm:=bQ f.vm n} (s.lay n):=by
 obtain⟨m,rfl,hm⟩:=h.ex
 have R:=h.room hm
 have e:=EE (n:=n) R (by show s.here+8<=_;exact hr)
 have R2:=jj (n:=n) R (by show s.here+8<=_;exact hr) hn
 exact⟨e,⟨stM m s.here n,rfl,R2.m.mem⟩,Eb h.std h.h0,by have:=h.h0;show 1368<=s.here+8;omega,by show s.here+8<=4096;exact hr,by have:=h.h8;show(s.here+8)%8=0;omega,h.ext⟩
def Qq{s:SS}{w:Str}{n:Int}(hf:(dc (ig 167++s.ext) w).2.2=false)(hn:dK w (gL s.cs 0)=(n,true))(hc:s.cmp=false)(hd:s.d.length<32):SW s w {s with d:=s.d++[n]} 0:=by
 intro f h
 have ed:=wF h
 have ec:=uC h
 have eb:=FL h
 obtain⟨m,rfl,hm⟩:=h.ex
 refine⟨⟨vS {s with d:=s.d++[n]} m,s.comp⟩,⟨⟨m,rfl,hm⟩,h.std,h.h0,h.h1,h.h8,h.ext⟩,fun tx p a u hw h0 u0 cu u9=>?_⟩
 have q:=Yf (f:=⟨vS s m,s.comp⟩) (fuel:=u) hw h0 (by rw[ed];exact hf) (by rw[eb];exact hn) (by rw[ec];exact hc) (by show(s.d.length:Int)<32;omega)
 rw[q,show max u 0=u-0 by omega];rfl
def ab0{s:SS}{w:Str}{n:Int}(hf:(dc (ig 167++s.ext) w).2.2=false)(hn:dK w (gL s.cs 0)=(n,true))(hc:s.cmp=true)(hr:s.here+16<=4096):SW s w ((s.lay 40).lay n) 0:=by
 intro f h
 have ed:=wF h
 have ec:=uC h
 have eb:=FL h
 have fn:ae n:=by have:=Cl w (gL s.cs 0);rw[hn]at this;exact this
 have a1:=l7 h (n:=40) (by unfold ae;omega) (by omega)
 have a2:=l7 a1.2 (n:=n) fn (by show s.here+8+8<=_;omega)
 obtain⟨m,rfl,hm⟩:=h.ex
 have R:=h.room hm
 refine⟨_,a2.2,fun tx p a u hw h0 u0 cu u9=>?_⟩
 have q:=Zq (f:=⟨vS s m,s.comp⟩) (fuel:=u) hw h0 (by rw[ed];exact hf) (by rw[eb];exact hn) (by rw[ec];exact hc) (U1 (n:=n) R (by show s.here+16<=_;exact hr))
 rw[q,show max u 0=u-0 by omega]
def zx{s s':SS}{w:Str}{x:aS}{i c:Int}(hf:dc (ig 167++s.ext) w=(x,i,true))
  (hk:∀f,At f s->∃f',At f' s'/\∀(tx:Str) (a u:Int),0<=u->c<=u->u<=5000->∃o,jq (bg f tx a u) x=(⟨f',tx,a,u-c,0⟩,o)):SW s w s' c:=by
 intro f h
 obtain⟨f',a',k⟩:=hk f h
 refine⟨f',a',fun tx p a u hw h0 u0 cu u9=>?_⟩
 obtain⟨o,ho⟩:=k tx a u u0 cu u9
 have e:nE (bg f tx a (max u 0)) w=(⟨f',tx,a,u-c,0⟩,o):=by
  rw[show max u 0=u by omega,Ci (x:=x) (i:=i) (by show dc f.vm.dict w=_;rw[wF h];exact hf)]
  exact ho
 exact XX hw h0 e rfl
structure XI where
 x:aS
 k:Int
def xiS(s:SS)(w:Str):Option XI :=
 if (dc (ig 167++s.ext) w).2.2=true/\okA 4096 (dc (ig 167++s.ext) w).1.xt=true/\gi (gL s.cs (dc (ig 167++s.ext) w).1.xt)then some ⟨(dc (ig 167++s.ext) w).1,gL s.cs (dc (ig 167++s.ext) w).1.xt⟩else none
def LV{s:SS}{w:Str}{y:XI}(h:xiS s w=some y):dc (ig 167++s.ext) w=(y.x,(dc (ig 167++s.ext) w).2.1,true)/\okA 4096 y.x.xt=true/\y.k=gL s.cs y.x.xt/\gi y.k:=by
 unfold xiS at h
 split at h
 ·rename_i q
  injection h with h
  subst h
  exact⟨Prod.ext rfl (Prod.ext rfl q.1),q.2.1,rfl,q.2.2⟩
 cases h
def aa5{s:SS}{w:Str}{y:XI}(h:xiS s w=some y)(hc:s.cmp=true)(hi:y.x.flags%2=0)(hr:s.here+8<=4096):SW s w (s.lay y.x.xt) 0:=by
 obtain⟨hf,ha,hk,hkk⟩:=LV h
 refine zx hf fun f a=>?_
 have ak:=gY.1 ha
 have l:=l7 a (n:=y.x.xt) (by unfold ae;omega) hr
 refine⟨_,l.2,fun tx p u u0 cu u9=>⟨false,?_⟩⟩
 have ek:av f.vm y.x.xt=(y.k,0):=by rw[y5 a ha (by rw[<-hk];exact hkk),hk]
 rw[ac7 (l:=bg f tx p u) ek (by rw[show cw (bg f tx p u).f=cw f from rfl,uC a];exact hc) hi]
 refine Prod.ext ?_ rfl
 show xj (bg f tx p u) y.x.xt=_
 unfold xj
 rw[do0 rfl,show(bg f tx p u).f.vm=f.vm from rfl,l.1,wM rfl,show u-0=u by omega];rfl
def VH{s s':SS}{w:Str}{y:XI}{name:Str}(h:xiS s w=some y)(hc:s.cmp=true)(hi:y.x.flags%2=1)(h3:300<=y.k)(hn:cv.getD (y.k-300).toNat []=name)
  (hs:∀f,At f s->∃f',At f' s'/\∀(tx:Str) (a u:Int),rY (bg f tx a u) name=bg f' tx a u):SW s w s' 0:=by
 obtain⟨hf,ha,hk,hkk⟩:=LV h
 refine zx hf fun f a=>?_
 obtain⟨f',a',k⟩:=hs f a
 refine⟨f',a',fun tx p u u0 cu u9=>⟨false,?_⟩⟩
 have ek:av f.vm y.x.xt=(y.k,0):=by rw[y5 a ha (by rw[<-hk];exact hkk),hk]
 have ec:cw (bg f tx p u).f=true:=by rw[show cw (bg f tx p u).f=cw f from rfl,uC a];exact hc
 rw[LH (l:=bg f tx p u) ek h3 (by rw[ec];simp) (by rw[ec,hi];rfl),hn,k,show u-0=u by omega];rfl
open Go.RowKit
section
variable {v : VVm} {l D : List VCf} {L : Nat} {g : Int -> Int} {a o : Int}
def UD:rR [40,63,100,111,41]=72:=by decide +kernel
def U3:rR [40,108,111,111,112,41]=80:=by decide +kernel
def Pz:ae 72:=by unfold ae;omega
def Q5:ae 80:=by unfold ae;omega
def Yh(hl:l.length<32):bq v l [66,69,71,73,78]=(v,l++[⟨2,v.here,[]⟩],0):=by
 rw[qQ (g:=Fm) rfl (by unfold kK;rw[if_pos (.inr (.inl rfl))];simp;omega)]
 unfold Fm
 rw[qm (by exact hl),kJ rfl]
def Ym(R:jU v L g)(h:v.here+16<=(L:Int))(hl:l=D++[⟨2,a,[]⟩])(hD:D.length<31):bq v l [87,72,73,76,69]=(bQ (bQ v 56) 0,D++[⟨1,v.here+8,[]⟩]++[⟨2,a,[]⟩],0):=by
 rw[qQ (g:=DS) rfl (by unfold kK;rw[if_pos (.inr (.inr (.inl rfl)))];subst hl;simp;omega)]
 unfold DS
 rw[nZ (w:=⟨v,l,0⟩) hl rfl]
 dsimp only
 have e:(cL ⟨v,D,0⟩ [40,48,98,114,97,110,99,104,41]).v.here=v.here+8:=by
  unfold cL;rw[iK (w:=⟨v,D,0⟩) R (by show v.here+8<=_;omega) rfl];rfl
 rw[e,q9 (w:=⟨v,D,0⟩) R h (by rw[Mn];exact J7) rfl,Mn,qm (w:=⟨bQ (bQ v 56) 0,D,0⟩) (c:=⟨1,v.here+8,[]⟩) (by show D.length<32;omega),qm (w:=⟨bQ (bQ v 56) 0,D++[(⟨1,v.here+8,[]⟩:VCf)],0⟩) (c:=⟨2,a,[]⟩) (by show(D++[(⟨1,v.here+8,[]⟩:VCf)]).length<32;rw[List.length_append,List.length_singleton];omega),kJ rfl]
def TV(R:jU v L g)(h:v.here+16<=(L:Int))(hl:l=D++[⟨1,o,[]⟩]++[⟨2,a,[]⟩])(ho:okA L o=true)(ha:ae a):
  bq v l [82,69,80,69,65,84]=({bQ (bQ v 48) a with mem:=stM (bQ (bQ v 48) a).mem o (v.here+16)},D,0):=by
 rw[qQ (g:=y2) rfl (by unfold kK;rw[if_neg (by decide)];decide)]
 unfold y2
 rw[nZ (w:=⟨v,l,0⟩) hl rfl]
 dsimp only
 rw[nZ (w:=⟨v,D++[⟨1,o,[]⟩],0⟩) rfl rfl]
 dsimp only
 have R1:=jj (n:=48) R (by omega) Fd
 have R2:=jj (n:=a) R1 (by show v.here+8+8<=_;omega) ha
 unfold cL
 rw[Ut,iK (w:=⟨v,D,0⟩) R (by show v.here+8<=_;omega) rfl,iK (w:=⟨bQ v 48,D,0⟩) R1 (by show v.here+8+8<=_;omega) rfl,vU (w:=⟨bQ (bQ v 48) a,D,0⟩) R2.m.mem ho rfl,kJ rfl]
 have e2:(bQ (bQ v 48) a).here=v.here+16:=by show v.here+8+8=_;omega
 dsimp only
 rw[e2]
def at7(R:jU v L g)(h:v.here+16<=(L:Int))(hl:l.length<32):bq v l [63,68,79]=(bQ (bQ v 72) 0,l++[⟨3,v.here+16,[v.here+8]⟩],0):=by
 rw[qQ (g:=Um) rfl (by unfold kK;rw[if_pos (by decide)];simp;omega)]
 unfold Um
 have e:(cL ⟨v,l,0⟩ [40,63,100,111,41]).v.here=v.here+8:=by
  unfold cL;rw[iK (w:=⟨v,l,0⟩) R (by show v.here+8<=_;omega) rfl];rfl
 have e2:(bQ (bQ v 72) 0).here=v.here+16:=by show v.here+8+8=_;omega
 rw[e,q9 (w:=⟨v,l,0⟩) R h (by rw[UD];exact Pz) rfl,UD,qm (by exact hl),kJ rfl]
 dsimp only
 rw[e2]
def Zo(R:jU v L g)(h:v.here+16<=(L:Int))(hl:l=D++[⟨3,a,[o]⟩])(ho:okA L o=true)(ha:ae a):
  bq v l [76,79,79,80]=({bQ (bQ v 80) a with mem:=stM (bQ (bQ v 80) a).mem o (v.here+16)},D,0):=by
 rw[qQ (g:=BH [40,108,111,111,112,41]) rfl (by unfold kK;rw[if_neg (by decide)];decide)]
 unfold BH
 rw[nZ (w:=⟨v,l,0⟩) hl rfl]
 dsimp only
 have R1:=jj (n:=80) R (by omega) Q5
 have R2:=jj (n:=a) R1 (by show v.here+8+8<=_;omega) ha
 unfold cL
 rw[U3,iK (w:=⟨v,D,0⟩) R (by show v.here+8<=_;omega) rfl,iK (w:=⟨bQ v 80,D,0⟩) R1 (by show v.here+8+8<=_;omega) rfl]
 dsimp only[List.foldl]
 rw[vU (w:=⟨bQ (bQ v 80) a,D,0⟩) R2.m.mem ho rfl,kJ rfl]
 have e2:(bQ (bQ v 80) a).here=v.here+16:=by show v.here+8+8=_;omega
 dsimp only
 rw[e2]
end
def OT{l:ai}{v:VVm}{cf:List VCf}{name:Str}(h:bq l.f.vm l.f.comp.cf name=(v,cf,0))(he:l.err=0):my l name={l with f:=⟨v,{l.f.comp with cf:=cf}⟩}:=by
 unfold my
 rw[h,wM he,if_pos he]
def SS.cf(s:SS)(l:List VCf):SS:={s with comp:={s.comp with cf:=l}}
def SS.put(s:SS)(a n:Int):SS:={s with cs:=(a,n)::s.cs}
def je(l:List VCf):VCf:=l.getD (l.length-1) zCf
def BU(l:List VCf):List VCf:=l.take (l.length-1)
def qh{l:List VCf}{k:Int}(h:(je l).kind=k)(hk:k≠0):l=BU l++[je l]:=by
 have h0:l.length≠0:=fun z=>hk (by rw[<-h];unfold je;rw[List.length_eq_zero_iff.1 z];rfl)
 have e:=List.dropLast_concat_getLast (l:=l) (fun z=>h0 (by rw[z];rfl))
 unfold BU je
 rw[<-List.dropLast_eq_take,List.getD_eq_getElem?_getD,List.getElem?_eq_getElem (by omega)]
 rw[List.getLast_eq_getElem]at e
 exact e.symm
def bdr(a:Int):Bool:=decide (1368<=a)&&okA 4096 a
def cBr(s:SS)(name:Str):Option SS :=
 let l:=s.comp.cf
 let c:=je l
 let D:=BU l
 if s.here+16<=4096/\l.length<20 then
  if name=[73,70]then some (((s.lay 56).lay 0).cf (l++[⟨1,s.here+8,[]⟩]))
  else if name=[66,69,71,73,78]then some (s.cf (l++[⟨2,s.here,[]⟩]))
  else if name=[63,68,79]then some (((s.lay 72).lay 0).cf (l++[⟨3,s.here+16,[s.here+8]⟩]))
  else if name=[84,72,69,78]then(if c.kind=1/\c.leaves=[]/\bdr c.at_=true then some ((s.put c.at_ s.here).cf D)else none)
  else if name=[69,76,83,69]then(if c.kind=1/\c.leaves=[]/\bdr c.at_=true then some ((((s.lay 48).lay 0).put c.at_ (s.here+16)).cf (D++[⟨1,s.here+8,[]⟩]))else none)
  else if name=[87,72,73,76,69]then(if c.kind=2/\c.leaves=[]then some (((s.lay 56).lay 0).cf (D++[⟨1,s.here+8,[]⟩]++[⟨2,c.at_,[]⟩]))else none)
  else if name=[82,69,80,69,65,84]then(if c.kind=2/\c.leaves=[]/\bdr c.at_=true/\(je D).kind=1/\(je D).leaves=[]/\bdr (je D).at_=true then some ((((s.lay 48).lay c.at_).put (je D).at_ (s.here+16)).cf (BU D))else none)
  else if name=[76,79,79,80]then(if c.kind=3/\c.leaves=[c.leaves.getD 0 0]/\bdr c.at_=true/\bdr (c.leaves.getD 0 0)=true then some ((((s.lay 80).lay c.at_).put (c.leaves.getD 0 0) (s.here+16)).cf D)else none)
  else none
 else none
def uO{a:Int}(h:bdr a=true):1368<=a/\okA 4096 a=true/\ae a:=by
 unfold bdr at h
 rw[Bool.and_eq_true]at h
 have q:=gY.1 h.2
 exact⟨oT h.1,h.2,by unfold ae;omega⟩
def Ef{f:af}{s:SS}(h:At f s){a n:Int}(ha:bdr a=true)(hn:ae n):At {f with vm:={f.vm with mem:=stM f.vm.mem a n}} (s.put a n):=by
 have q:=uO ha
 obtain⟨m,rfl,hm⟩:=h.ex
 exact⟨⟨stM m a n,rfl,hm.store hn q.2.1⟩,Eb h.std q.1,h.h0,h.h1,h.h8,h.ext⟩
def yb{f:af}{s:SS}(h:At f s)(l:List VCf):At {f with comp:={f.comp with cf:=l}} (s.cf l):=by
 obtain⟨m,rfl,hm⟩:=h.ex
 exact⟨⟨m,rfl,hm⟩,h.std,h.h0,h.h1,h.h8,h.ext⟩
def rl{α:Type}{c:Prop}[Decidable c]{a r:α}(h:(if c then some a else none)=some r):c/\a=r:=by
 by_cases hc:c
 ·rw[if_pos hc]at h;exact⟨hc,Option.some.inj h⟩
 rw[if_neg hc]at h;cases h
def tQ{α:Type}{c:Prop}[Decidable c]{a r:α}{b:Option α}(h:(if c then some a else b)=some r):(c/\a=r)\/(¬c/\b=some r):=by
 by_cases hc:c
 ·rw[if_pos hc]at h;exact .inl ⟨hc,Option.some.inj h⟩
 rw[if_neg hc]at h;exact .inr ⟨hc,h⟩
def Et{n:Int}(h0:0<=n)(h1:n<=1000000):ae n:=by unfold ae;omega
def aI0{s s':SS}{name:Str}(h:cBr s name=some s'){f:af}(a:At f s):∃f',At f' s'/\bq f.vm f.comp.cf name=(f'.vm,f'.comp.cf,0)/\f'.comp={f.comp with cf:=f'.comp.cf}:=by
 have h0:=a.h0
 have h1:=a.h1
 obtain⟨m,rfl,hm⟩:=a.ex
 have R:=a.room hm
 unfold cBr at h
 dsimp only at h
 by_cases q:s.here+16<=4096/\s.comp.cf.length<20
 case neg=>rw[if_neg q]at h;cases h
 rw[if_pos q]at h
 have l56:=l7 a (n:=56) J7 (by omega)
 have l56':=l7 l56.2 (n:=0) bI (by show s.here+8+8<=_;omega)
 have l48:=l7 a (n:=48) Fd (by omega)
 have hq:(vS s m).here+16<=((4096:Nat):Int):=q.1
 rcases tQ h with ⟨rfl,rfl⟩|⟨n0,h⟩
 ·exact⟨_,yb l56'.2 _,aJ0 R hq (by show s.comp.cf.length<32;omega),rfl⟩
 rcases tQ h with ⟨rfl,rfl⟩|⟨n1,h⟩
 ·exact⟨_,yb a _,Yh (by show s.comp.cf.length<32;omega),rfl⟩
 rcases tQ h with ⟨rfl,rfl⟩|⟨n2,h⟩
 ·have l72:=l7 a (n:=72) Pz (by omega)
  have l72':=l7 l72.2 (n:=0) bI (by show s.here+8+8<=_;omega)
  exact⟨_,yb l72'.2 _,at7 R hq (by show s.comp.cf.length<32;omega),rfl⟩
 by_cases n3:name=[84,72,69,78]
 ·subst n3
  rw[if_pos rfl]at h
  rcases rl h with ⟨⟨k1,k2,k3⟩,rfl⟩
  have e:=qh k1 (by decide)
  have b:=uO k3
  have ec:je s.comp.cf=⟨1,(je s.comp.cf).at_,[]⟩:=by rw[<-k1,<-k2]
  rw[ec]at e
  exact⟨_,yb (Ef a k3 (Et (by omega) (by omega))) _,ae8 R e b.2.1,rfl⟩
 rw[if_neg n3]at h
 by_cases n4:name=[69,76,83,69]
 ·subst n4
  rw[if_pos rfl]at h
  rcases rl h with ⟨⟨k1,k2,k3⟩,rfl⟩
  have e:=qh k1 (by decide)
  have b:=uO k3
  have ec:je s.comp.cf=⟨1,(je s.comp.cf).at_,[]⟩:=by rw[<-k1,<-k2]
  rw[ec]at e
  have l48':=l7 l48.2 (n:=0) bI (by show s.here+8+8<=_;omega)
  exact⟨_,yb (Ef l48'.2 k3 (Et (n:=s.here+16) (by omega) (by omega))) _,ab3 R hq e b.2.1 (by show(BU s.comp.cf).length<32;unfold BU;rw[List.length_take];omega) (by show s.here<=_;omega),rfl⟩
 rw[if_neg n4]at h
 by_cases n5:name=[87,72,73,76,69]
 ·subst n5
  rw[if_pos rfl]at h
  rcases rl h with ⟨⟨k1,k2⟩,rfl⟩
  have e:=qh k1 (by decide)
  have ec:je s.comp.cf=⟨2,(je s.comp.cf).at_,[]⟩:=by rw[<-k1,<-k2]
  rw[ec]at e
  exact⟨_,yb l56'.2 _,Ym R hq e (by show(BU s.comp.cf).length<31;unfold BU;rw[List.length_take];omega),rfl⟩
 rw[if_neg n5]at h
 by_cases n6:name=[82,69,80,69,65,84]
 ·subst n6
  rw[if_pos rfl]at h
  rcases rl h with ⟨⟨k1,k2,k3,k4,k5,k6⟩,rfl⟩
  have e:=qh k1 (by decide)
  have e2:=qh k4 (by decide)
  have b:=uO k3
  have b2:=uO k6
  have ec:je s.comp.cf=⟨2,(je s.comp.cf).at_,[]⟩:=by rw[<-k1,<-k2]
  have ed:je (BU s.comp.cf)=⟨1,(je (BU s.comp.cf)).at_,[]⟩:=by rw[<-k4,<-k5]
  rw[ed]at e2
  rw[ec,e2]at e
  have l':=l7 l48.2 (n:=(je s.comp.cf).at_) b.2.2 (by show s.here+8+8<=_;omega)
  exact⟨_,yb (Ef l'.2 k6 (Et (n:=s.here+16) (by omega) (by omega))) _,TV R hq e b2.2.1 b.2.2,rfl⟩
 rw[if_neg n6]at h
 by_cases n7:name=[76,79,79,80]
 ·subst n7
  rw[if_pos rfl]at h
  rcases rl h with ⟨⟨k1,k2,k3,k4⟩,rfl⟩
  have e:=qh k1 (by decide)
  have b:=uO k3
  have b2:=uO k4
  have ec:je s.comp.cf=⟨3,(je s.comp.cf).at_,[(je s.comp.cf).leaves.getD 0 0]⟩:=by rw[<-k1,<-k2]
  rw[ec]at e
  have l80:=l7 a (n:=80) Q5 (by omega)
  have l':=l7 l80.2 (n:=(je s.comp.cf).at_) b.2.2 (by show s.here+8+8<=_;omega)
  exact⟨_,yb (Ef l'.2 k4 (Et (n:=s.here+16) (by omega) (by omega))) _,Zo R hq e b2.2.1 b.2.2,rfl⟩
 rw[if_neg n7]at h
 cases h
open Go.RowKit
def CZ(l:List aS):aS:=l.getD (l.length-1) default
def Fw(l:List aS):List aS:=l.take (l.length-1)
def Dr{l:List aS}(h0:l.length≠0):l=Fw l++[CZ l]:=by
 have e:=List.dropLast_concat_getLast (l:=l) (fun z=>h0 (by rw[z];rfl))
 unfold Fw CZ
 rw[<-List.dropLast_eq_take,List.getD_eq_getElem?_getD,List.getElem?_eq_getElem (by omega)]
 rw[List.getLast_eq_getElem]at e
 exact e.symm
def SS.begun(s:SS)(name:Str):SS:={s with ext:=s.ext++[⟨name,s.here,2⟩],cs:=(8,-1)::(s.here,256)::s.cs,here:=s.here+8,comp:=⟨s.here,[],s.here,((167+s.ext.length:Nat):Int),s.last,false,0⟩}
def SS.ended(s:SS):SS:={s with ext:=Fw s.ext++[{CZ s.ext with flags:=jS (CZ s.ext).flags}],cs:=(8,0)::(s.here,32)::s.cs,here:=s.here+8,comp:=kN}
def Zx:ae (-1):=by unfold ae;omega
def ad3:ae 32:=by unfold ae;omega
def GS{l:List (Int×Int)}(h:um (gL l))(n:Int):um (gL ((8,n)::l)):=h.set (.inr (by show(8:Int)<=8;decide))
def SH{f:af}{s:SS}(h:At f s){name:Str}(hx:s.comp.xt=0)(hr:s.here+8<=4096)(hn:fy name=0)(he:s.ext.length<70):iq f name false 0=(DN f name,0)/\At (DN f name) (s.begun name):=by
 have h0:=h.h0
 have h8:=h.h8
 obtain⟨m,rfl,hm⟩:=h.ex
 have R:=h.room hm
 have hl:((ig 167++s.ext).length:Int)=167+s.ext.length:=by rw[List.length_append,qw];omega
 have e:=Ou (f:=⟨vS s m,s.comp⟩) R hx (by show s.here+8<=_;exact hr) (by decide) hn (by show((ig 167++s.ext).length:Int)<250;omega) (by show((ig 167++s.ext).length:Int)<1024;omega)
 have hm1:=hm.store Vf (a:=s.here) (gY.2 ⟨by omega,h8,hr⟩)
 have hm2:=hm1.store Zx (a:=8) rfl
 refine⟨e,⟨⟨stM (stM m s.here 256) 8 (-1),?_,hm2⟩,GS (Eb h.std h0) _,by show 1368<=s.here+8;omega,by show s.here+8<=4096;exact hr,by show(s.here+8)%8=0;omega,by show(s.ext++[_]).length<=80;rw[List.length_append,List.length_singleton];omega⟩⟩
 unfold DN vS SS.begun nI bQ
 dsimp only
 rw[List.append_assoc,List.length_append,qw]
def Qg{f:af}{s:SS}(h:At f s)(hx:s.comp.xt≠0)(hr:s.here+8<=4096)(hcf:s.comp.cf=[])(ho:s.comp.on=false)(he:s.ext.length≠0)(hd:s.comp.dict=((167+(s.ext.length-1):Nat):Int)):
  ∃f',At f' s.ended/\nu f=(f',0):=by
 have h0:=h.h0
 have h8:=h.h8
 have hx8:=h.ext
 obtain⟨m,rfl,hm⟩:=h.ex
 have R:=h.room hm
 have hb:(Fw s.ext).length=s.ext.length-1:=by unfold Fw;rw[List.length_take];omega
 have e:=WN (f:=⟨vS s m,s.comp⟩) (D:=ig 167++Fw s.ext) (w:=CZ s.ext) R hx hcf ho (by show ig 167++s.ext=_;rw[List.append_assoc,<-Dr he]) (by rw[List.length_append,qw,hb];exact hd) (by show s.here+8<=_;exact hr) (by decide)
 have hm1:=hm.store ad3 (a:=s.here) (gY.2 ⟨by omega,h8,hr⟩)
 have hm2:=hm1.store bI (a:=8) rfl
 refine⟨_,⟨⟨stM (stM m s.here 32) 8 0,?_,hm2⟩,GS (Eb h.std h0) _,by show 1368<=s.here+8;omega,by show s.here+8<=4096;exact hr,by show(s.here+8)%8=0;omega,by show(Fw s.ext++[_]).length<=80;rw[List.length_append,List.length_singleton,hb];omega⟩,e⟩
 unfold RR vS SS.ended bQ
 dsimp only
 rw[List.append_assoc]
def Vy:rR [40,100,111,101,115,41]=112:=by decide +kernel
def cW(s:SS)(w:Str):Option SS :=
 match xiS s w with
 | none=>if (dc (ig 167++s.ext) w).2.2=false/\(dK w (gL s.cs 0)).2=true/\s.cmp=true/\s.here+16<=4096 then some ((s.lay 40).lay (dK w (gL s.cs 0)).1)else none
 | some y =>
  if s.cmp=true/\s.here+24<=4096 then
   if y.x.flags%2=0 then some (s.lay y.x.xt)
   else if y.x.flags%2=1/\300<=y.k then
    if cv.getD (y.k-300).toNat []=[59]then(if s.comp.cf.length=0/\s.comp.on=false/\s.ext.length≠0/\s.comp.dict=((167+(s.ext.length-1):Nat):Int)then some s.ended else none)
    else if cv.getD (y.k-300).toNat []=[68,79,69,83,62]then some (s.lay 112)
    else if spF (cv.getD (y.k-300).toNat [])=none then cBr s (cv.getD (y.k-300).toNat [])else none
   else none
  else none
instance (name:Str):Decidable (spF name=none):=by
 cases h:spF name with
 | none=>exact .isTrue rfl
 | some g=>exact .isFalse (by simp)
def aD5{s s':SS}{w:Str}(h:cW s w=some s'):SW s w s' 0:=by
 unfold cW at h
 cases hx:xiS s w with
 | none =>
  rw[hx]at h
  obtain⟨⟨a,b,c,d⟩,rfl⟩:=rl h
  exact ab0 a (Prod.ext rfl b) c d
 | some y =>
  rw[hx]at h
  dsimp only at h
  by_cases q:s.cmp=true/\s.here+24<=4096
  case neg=>rw[if_neg q]at h;cases h
  rw[if_pos q]at h
  have hxt:s.comp.xt≠0:=by
   have:=q.1
   unfold SS.cmp at this
   exact(oT this).1
  rcases tQ h with ⟨hi,rfl⟩|⟨hi,h⟩
  ·exact aa5 hx q.1 hi (by omega)
  by_cases h3:y.x.flags%2=1/\300<=y.k
  case neg=>rw[if_neg h3]at h;cases h
  rw[if_pos h3]at h
  generalize hn:cv.getD (y.k-300).toNat []=name at h
  refine VH hx q.1 h3.1 h3.2 hn fun f a=>?_
  by_cases n0:name=[59]
  ·rw[if_pos n0]at h
   obtain⟨⟨c1,c2,c3,c4⟩,rfl⟩:=rl h
   obtain⟨f',a',e⟩:=Qg a hxt (by omega) (List.length_eq_zero_iff.1 c1) c2 c3 c4
   refine⟨f',a',fun tx p u=>?_⟩
   rw[n0,Fk (g:=Gg) rfl]
   unfold Gg lx
   rw[show(bg f tx p u).f=f from rfl,e,Bd rfl,if_pos (show(bg f tx p u).err=0 from rfl)];rfl
  rw[if_neg n0]at h
  by_cases n1:name=[68,79,69,83,62]
  ·rw[if_pos n1]at h
   injection h with h
   subst h
   have l:=l7 a (n:=112) (by unfold ae;omega) (by omega)
   refine⟨_,l.2,fun tx p u=>?_⟩
   rw[n1,Fk (g:=Ml) rfl]
   unfold Ml yg xj
   rw[Vy,do0 rfl,show(bg f tx p u).f.vm=f.vm from rfl,l.1,wM rfl];rfl
  rw[if_neg n1]at h
  by_cases ns:spF name=none
  case neg=>rw[if_neg ns]at h;cases h
  rw[if_pos ns]at h
  obtain⟨f',a',e1,e2⟩:=aI0 h a
  refine⟨f',a',fun tx p u=>?_⟩
  rw[YQ ns,OT (l:=bg f tx p u) e1 rfl]
  show(⟨⟨f'.vm,{f.comp with cf:=f'.comp.cf}⟩,tx,p,u,0⟩:ai)=_
  rw[<-e2];rfl
structure LA (f0:af) (tx:Str) (u0:Int) (k:Nat) (p:Str) (ws:List Tk) (s:SS) (u:Int):Prop where
 etx:tx=p++xb ws
 go:∃f,At f s/\zl f0 tx ⟨f0,0,max u0 0⟩ ⟨f,p.length,u⟩ k
 hu:0<=u/\u<=5000
def LA.start{f0:af}{u0:Int}{ws:List Tk}{s:SS}(h:At f0 s)(hu:0<=u0/\u0<=5000):LA f0 (xb ws) u0 0 [] ws s u0 :=
 ⟨rfl,⟨f0,h,by rw[show max u0 0=u0 by omega];exact .rf _ _ _⟩,hu⟩
def LA.init{f0:af}{tx:Str}{u0:Int}{ws:List Tk}{s:SS}(h:At f0 s)(hu:0<=u0/\u0<=5000)(e:tx=xb ws):LA f0 tx u0 0 [] ws s u0:=by rw[e];exact .start h hu
section
variable {f0 : af} {tx p : Str} {u0 u c : Int} {k : Nat} {t : Tk} {ws : List Tk} {s s' : SS}
def LA.step(h:LA f0 tx u0 k p (t::ws) s u)(ht:okT t)(hw:SW s t.2 s' c)(hc:0<=c/\c<=u):LA f0 tx u0 (k+1) (nxT p t ws) ws s' (u-c):=by
 obtain⟨f,a,g⟩:=h.go
 have hu:=h.hu
 obtain⟨f',a',e⟩:=hw f a
 refine⟨h.etx.trans (Kw p t ws),⟨f',a',?_⟩,by omega⟩
 refine g.tr (.one (e tx _ _ u ?_ ht.2.1 hu.1 hc.2 hu.2))
 rw[h.etx];exact y7 p ws ht
def LA.fin(h:LA f0 tx u0 k p [] s u)(hk:k<=tx.length+1):∃f,At f s/\m9 f0 tx u0=(vH f,u,0):=by
 obtain⟨f,a,g⟩:=h.go
 exact⟨f,a,Qy g hk h.hu.1 (by rw[h.etx];exact U5 p)⟩
def cWs(s:SS):List Tk->Option SS
 | []=>some s
 | t::ws=>match cW s t.2 with
  | none=>none
  | some s'=>cWs s' ws
def QO{s s':SS}{t:Tk}{ws:List Tk}(h:cWs s (t::ws)=some s'):∃s1,cW s t.2=some s1/\cWs s1 ws=some s':=by
 have h:(match cW s t.2 with|none=>none|some s1=>cWs s1 ws)=some s':=h
 generalize cW s t.2=o at h
 cases o with
 | none=>cases h
 | some s1=>exact⟨s1,rfl,h⟩
def LA.words:∀(ws:List Tk) {vs:List Tk} {p:Str} {s s':SS} {k:Nat},LA f0 tx u0 k p (ws++vs) s u->(∀t∈ws,okT t)->cWs s ws=some s'->∃q,LA f0 tx u0 (k+ws.length) q vs s' u
 | [],vs,p,s,s',k,h,_,hc=>by
  have e:s=s':=Option.some.inj (show some s=some s' from hc)
  rw[<-e];exact⟨p,h⟩
 | t::ws,vs,p,s,s',k,h,ht,hc=>by
  obtain⟨s1,hw,hc⟩:=QO hc
  have h1:=LA.step (ws:=ws++vs) h (ht t (List.mem_cons_self ..)) (aD5 hw) ⟨Int.le_refl _,h.hu.1⟩
  rw[show u-0=u by omega]at h1
  obtain⟨q,r⟩:=LA.words ws h1 (fun x hx=>ht x (List.mem_cons_of_mem _ hx)) hc
  exact⟨q,by rw[show k+(t::ws).length=k+1+ws.length by rw[List.length_cons];omega];exact r⟩
end
open Go.RowKit
section
variable {v : VVm} {L : Nat} {g : Int -> Int} {d r : List Int} {f : List jt} {ip xt x : Int}
end
def rS(s:SS)(m:bn)(r:List Int)(ip fu:Int):bJ:=mr (vS s m) s.d r [] ip fu
def XS(n:Nat)(s:SS)(r:List Int)(ip:Int)(s':SS)(r':List Int)(ip':Int):Prop:=∀m,jg m 4096 (gL s.cs)->um (gL s.cs)->∃m',jg m' 4096 (gL s'.cs)/\um (gL s'.cs)/\∀fu:Int,(n:Int)<=fu->fu<=5000->GoE n (rS s m r ip fu) (rS s' m' r' ip' (fu-n))
section
variable {s s' s'' : SS} {r r' r'' : List Int} {ip ip' ip'' x n : Int} {d d' : List Int}
def XS.tr{a b:Nat}(h:XS a s r ip s' r' ip')(k:XS b s' r' ip' s'' r'' ip''):XS (a+b) s r ip s'' r'' ip'':=by
 intro m hm hs
 obtain⟨m',hm',hs',g⟩:=h m hm hs
 obtain⟨m'',hm'',hs'',g'⟩:=k m' hm' hs'
 refine⟨m'',hm'',hs'',fun fu h1 h2=>?_⟩
 have q:=GoE.trans (g fu (by omega) h2) (g' (fu-a) (by omega) (by omega))
 rw[show fu-(a:Int)-(b:Int)=fu-((a+b:Nat):Int) by omega,Nat.add_comm]at q
 exact q
def XS.rf:XS 0 s r ip s r ip:=fun m hm hs=>⟨m,hm,hs,fun fu _ _=>by rw[show fu-((0:Nat):Int)=fu by omega];exact .nil _⟩
def ak8{g1:∀m fu,jg m 4096 (gL s.cs)->um (gL s.cs)->1<=fu/\fu<=300000->Go1 (rS s m r ip fu) (rS s' m r' ip' (fu-1))}(hc:gL s'.cs=gL s.cs):XS 1 s r ip s' r' ip':=fun m hm hs =>
 ⟨m,by rw[hc];exact hm,by rw[hc];exact hs,fun fu h1 h2=>.cons (g1 m fu hm hs ⟨h1,by omega⟩) rfl (by show ¬fu<1;omega) (.nil _)⟩
def as2(i:Nat)(hi:i<130)(ha:okA 4096 ip=true)(hx:gL s.cs ip=32+8*(i:Int))(hk:∀m,jg m 4096 (gL s.cs)->mB (mz (vS s m) s.d r [] (ip+8)) (32+8*(i:Int)) (i:Int)=mz (vS s' m) s'.d r' [] ip')(hc:gL s'.cs=gL s.cs):XS 1 s r ip s' r' ip' :=
 ak8 (g1:=fun m fu hm hs hf=>aE7 (At.mach hm) hs.std i hi hf ha hx (hk m hm)) hc
def SS.st(s:SS)(d:List Int):SS:={s with d:=d}
def at8(i:Nat)(d':List Int)(h1:23<=i/\i<130)(ha:okA 4096 ip=true)(hx:gL s.cs ip=32+8*(i:Int))(hd:∀m,jg m 4096 (gL s.cs)->doS (mk (vS s m) s.d r []) (i:Int)=(mk (vS (s.st d') m) d' r [],0)):XS 1 s r ip (s.st d') r (ip+8) :=
 as2 i h1.2 ha hx (fun m hm=>Ry (by omega) (by omega) (hd m hm)) rfl
def VK(ha:okA 4096 ip=true)(hx:gL s.cs ip=32):XS 1 s (r++[x]) ip s r x :=
 as2 0 (by decide) ha hx (fun m hm=>ae4) rfl
end
def XR(s:SS)(xt:Int)(s':SS)(c:Int):Prop:=∀f,At f s->∃f',At f' s'/\∀(tx:Str) (a u:Int),0<=u->c<=u->u<=5000->mn (bg f tx a u) xt=⟨f',tx,a,u-c,0⟩
def Sk(s s':SS):Prop:=s'.here=s.here/\s'.ext=s.ext/\s'.comp=s.comp
def P4{f:af}{s s':SS}(h:At f s){m:bn}(hm:jg m 4096 (gL s'.cs))(hs:um (gL s'.cs))(k:Sk s s'):At ⟨vS s' m,s.comp⟩ s' :=
 ⟨⟨m,by rw[k.2.2],hm⟩,hs,by rw[k.1];exact h.h0,by rw[k.1];exact h.h1,by rw[k.1];exact h.h8,by rw[k.2.1];exact h.ext⟩
def Lw{s s':SS}(i:Nat)(h1:23<=i/\i<=129)(hc:gL s'.cs=gL s.cs)(k:Sk s s')(hd:∀m,jg m 4096 (gL s.cs)->doS (mk (vS s m) s.d [] []) (i:Int)=(mk (vS s' m) s'.d [] [],0)):XR s (32+8*(i:Int)) s' 2:=by
 intro f h
 have hstd:=h.std
 have cm:f.comp=s.comp:=by obtain⟨m,rfl,hm⟩:=h.ex;rfl
 obtain⟨m,e,hm⟩:=h.ex
 have hm':jg m 4096 (gL s'.cs):=by rw[hc];exact hm
 have hs':um (gL s'.cs):=by rw[hc];exact hstd
 refine⟨⟨vS s' m,s.comp⟩,P4 h hm' hs' k,fun tx a u u0 cu u9=>?_⟩
 subst e
 exact Pd (l:=bg ⟨vS s m,s.comp⟩ tx a u) (u:=vS s' m) (d':=s'.d) (At.mach hm) hstd.std (At.mach hm') hs'.std h1.1 h1.2 (hd m hm) ⟨cu,by show u<=300000;omega⟩ rfl
def SL{s s':SS}{n:Nat}{xt:Int}(hx:okA 4096 xt=true)(hq:gL s.cs xt=256)(k:Sk s s')(hr:XS n s [16] (xt+8) s' [] 16):XR s xt s' ((n+2:Nat):Int):=by
 intro f h
 have hstd:=h.std
 obtain⟨m,e,hm⟩:=h.ex
 obtain⟨m',hm',hs',g⟩:=hr m hm hstd
 refine⟨⟨vS s' m',s.comp⟩,P4 h hm' hs' k,fun tx a u u0 cu u9=>?_⟩
 subst e
 exact Ka (l:=bg ⟨vS s m,s.comp⟩ tx a u) (u:=vS s' m') (d':=s'.d) (n:=n) (At.mach hm) hx hq (At.mach hm') hs'.std (g (u-1) (by omega) (by omega)) ⟨by show(n:Int)+2<=u;omega,by show u<=300000;omega⟩ rfl
def LC{s s':SS}{w:Str}{y:XI}{c:Int}(h:xiS s w=some y)(hc:s.cmp=false)(ho:mM y.x y.k=false)(h3:¬300<=y.k)(hx:XR s y.x.xt s' c):SW s w s' c:=by
 obtain⟨hf,ha,hk,hkk⟩:=LV h
 refine zx hf fun f a=>?_
 obtain⟨f',a',e⟩:=hx f a
 refine⟨f',a',fun tx p u u0 cu u9=>⟨true,?_⟩⟩
 have ek:av f.vm y.x.xt=(y.k,0):=by rw[y5 a ha (by rw[<-hk];exact hkk),hk]
 have ec:cw (bg f tx p u).f=false:=by rw[show cw (bg f tx p u).f=cw f from rfl,uC a];exact hc
 rw[VB (l:=bg f tx p u) ek h3 (by rw[ho];rfl) (by rw[ec];rfl),e tx p u u0 cu u9]
def WL{f0:af}{tx p:Str}{u0 u:Int}{k:Nat}{t n:Tk}{ws:List Tk}{s s':SS}{y:XI}{name:Str}(h:LA f0 tx u0 k p (t::n::ws) s u)(ht:okT t)(hn:okT n)
  (hx:xiS s t.2=some y) (hc:s.cmp=false) (ho:mM y.x y.k=false) (h3:300<=y.k) (hnm:cv.getD (y.k-300).toNat []=name)
  (hs:∀f,At f s->∃f',At f' s'/\∀(tx:Str) (a a2 u:Int),bE tx a=(n.2,a2)->rY (bg f tx a u) name=bg f' tx a2 u):LA f0 tx u0 (k+1) (nxT (nxT p t (n::ws)) n ws) ws s' u:=by
 obtain⟨f,a,g⟩:=h.go
 have hu:=h.hu
 obtain⟨hf,ha,hk,hkk⟩:=LV hx
 obtain⟨f',a',e⟩:=hs f a
 have htx:=h.etx
 have w1:bE tx (p.length:Int)=(t.2,((nxT p t (n::ws)).length:Int)):=by rw[htx];exact y7 p (n::ws) ht
 have t2:tx=nxT p t (n::ws)++xb (n::ws):=htx.trans (Kw p t (n::ws))
 have w2:bE tx ((nxT p t (n::ws)).length:Int)=(n.2,((nxT (nxT p t (n::ws)) n ws).length:Int)):=by rw[t2];exact y7 _ ws hn
 refine⟨t2.trans (Kw _ n ws),⟨f',a',g.tr (.one ?_)⟩,hu⟩
 have ek:av f.vm y.x.xt=(y.k,0):=by rw[y5 a ha (by rw[<-hk];exact hkk),hk]
 have ec:∀b,cw (bg f tx b u).f=false:=fun b=>by rw[show cw (bg f tx b u).f=cw f from rfl,uC a];exact hc
 have eo:nE (bg f tx ((nxT p t (n::ws)).length:Int) (max u 0)) t.2=(bg f' tx ((nxT (nxT p t (n::ws)) n ws).length:Int) u,false):=by
  rw[show max u 0=u by omega,Ci (x:=y.x) (i:=(dc (ig 167++s.ext) t.2).2.1) (by show dc f.vm.dict t.2=_;rw[wF a];exact hf)]
  rw[LH (l:=bg f tx _ u) ek h3 (by rw[ho];rfl) (by rw[ec];rfl),hnm,e tx _ _ u w2]
 exact XX w1 ht.2.1 eo rfl
def Qo{f:af}{tx n:Str}{a a2 u:Int}(h:bE tx a=(n,a2))(h0:n≠[]):bW (bg f tx a u)=(bg f tx a2 u,n):=by
 unfold bW
 rw[show(bg f tx a u).s=tx from rfl,show(bg f tx a u).at_=a from rfl,h,if_neg h0];rfl
def OL{f f':af}{tx n:Str}{a a2 u:Int}(h:bE tx a=(n,a2))(h0:n≠[])(hb:iq f n false 0=(f',0)):rY (bg f tx a u) [58]=bg f' tx a2 u:=by
 rw[Fk (g:=FF) rfl]
 unfold FF vr
 rw[Qo h h0]
 dsimp only
 rw[if_pos (show(bg f tx a2 u).err=0 from rfl),show(bg f tx a2 u).f=f from rfl,hb]
 unfold lx
 rw[Bd (show(bg f tx a2 u).err=0 from rfl),if_pos (show(bg f tx a2 u).err=0 from rfl)];rfl
def F6{f0:af}{tx p:Str}{u0 u:Int}{k:Nat}{t n:Tk}{ws:List Tk}{s:SS}{y:XI}(h:LA f0 tx u0 k p (t::n::ws) s u)(ht:okT t)(hn:okT n)
  (hx:xiS s t.2=some y) (hk:y.k=300/\y.x.flags=0) (hxt:s.comp.xt=0) (hr:s.here+8<=4096) (hnm:fy n.2=0) (he:s.ext.length<70):LA f0 tx u0 (k+1) (nxT (nxT p t (n::ws)) n ws) ws (s.begun n.2) u:=by
 refine WL h ht hn hx (by unfold SS.cmp;rw[hxt];rfl) (by unfold mM;rw[hk.1,hk.2];rfl) (by omega) (name:=[58]) (by rw[hk.1];decide +kernel) fun f a=>?_
 have b:=SH a hxt hr hnm he
 exact⟨_,b.2,fun tx a1 a2 u hw=>OL hw hn.2.1 b.1⟩
open Go.RowKit
def af5{v:VVm}{x b:Int}{r:List Int}(hb:(am v.mem 0).1=b)(s:Str)(hs:dh x b=(s,0))(hd:1<=v.conf.data)(ho:¬((s++[32]).length:Int)>v.conf.out-v.out.length):doS (mk v [x] r []) 110=(mk {v with out:=v.out++(s++[32])} [] r [],0):=by
 have e:doS (mk v [x] r []) 110=(if (dB (mk v [x] r []) (sa (dh x (am v.mem 0).1))).2.2≠0 then(mk v [x] r [],(dB (mk v [x] r []) (sa (dh x (am v.mem 0).1))).2.2)else if v.conf.data<((0+(dB (mk v [x] r []) (sa (dh x (am v.mem 0).1))).2.1.length:Nat):Int)then(mk v [x] r [],-3)else({(dB (mk v [x] r []) (sa (dh x (am v.mem 0).1))).1 with d:=[]++(dB (mk v [x] r []) (sa (dh x (am v.mem 0).1))).2.1},0)):=by kernel_rfl
 have p:dB (mk v [x] r []) (sa (dh x (am v.mem 0).1))=(mk {v with out:=v.out++(s++[32])} [x] r [],[],0):=by
  rw[hb,hs]
  unfold sa dB
  rw[if_pos rfl]
  unfold i8
  rw[if_neg (by exact ho)];rfl
 rw[e,p,if_neg (fun z=>z rfl),if_neg (by show ¬v.conf.data<((0:Nat):Int);omega)];rfl
def LU{f:af}{s:SS}(h:At f s):At (vH f) s:=by
 obtain⟨m,rfl,hm⟩:=h.ex
 exact⟨⟨⟨m.b,[]⟩,rfl,hm.bare⟩,h.std,h.h0,h.h1,h.h8,h.ext⟩
def LA.free{f0:af}{tx p:Str}{u0 u:Int}{k:Nat}{s:SS}(h:LA f0 tx u0 k p [] s u)(hk:k<=tx.length+1):∃f,At f s/\m9 f0 tx u0=(f,u,0):=by
 obtain⟨f,a,e⟩:=h.fin hk
 exact⟨_,LU a,e⟩
def tk(w:Str):Tk:=([],w)
def wS{w:Str}(h:(!w.isEmpty&&w.all fun c=>decide (32<c.toNat))=true):okT (tk w):=by
 rw[Bool.and_eq_true,List.all_eq_true]at h
 refine⟨(fun c hc=>by cases hc),fun z=>?_,fun c hc=>oT (h.2 c hc)⟩
 have z:w=[]:=z
 rw[z]at h
 exact absurd h.1 (by decide)
def Lb{l:List Str}(h:(l.all fun w=>!w.isEmpty&&w.all fun c=>decide (32<c.toNat))=true):∀t∈l.map tk,okT t:=fun t ht=>by
 obtain⟨w,hw,rfl⟩:=List.mem_map.1 ht
 exact wS (List.all_eq_true.1 h w hw)
def sA1:SS:=⟨[],[(8,0),(1392,32),(1384,360),(1376,216),(8,-1),(1368,256)],1400,[⟨[83,81],1368,0⟩],0,[],kN⟩
def sA:SS:={sA1 with out:=[50,53,32]}
def sQ:XI:=⟨⟨[83,81],1368,0⟩,256⟩
def ar1(s:SS)(n:Int)(hcs:s.cs=sA1.cs)(hd:s.d=[n]):XS 3 s [16] 1376 (s.st [wrap64 (n*n)]) [] 16:=by
 obtain⟨d,cs,here,ext,last,out,comp⟩:=s
 simp only at hcs hd
 subst hcs hd
 exact(at8 23 [n,n] (by decide) rfl (by kernel_rfl) (fun m _=>by kernel_rfl)).tr ((at8 41 [wrap64 (n*n)] (by decide) rfl (by kernel_rfl) (fun m _=>by kernel_rfl)).tr (VK (r:=[]) rfl (by kernel_rfl)))
def ap3{s s':SS}{m:bn}{x:Int}{t:Str}(hm:jg m 4096 (gL s.cs))(hb:gL s.cs 0=10)(hd:s.d=[x])(ht:dh x 10=(t,0))(ho:(s.out.length+t.length:Nat)<1999)(e:s'={s with d:=[],out:=s.out++(t++[32])}):doS (mk (vS s m) s.d [] []) 110=(mk (vS s' m) s'.d [] [],0):=by
 have hf:(am (vS s m).mem 0).1=10:=by rw[show(vS s m).mem=m from rfl,hm.cell 0 (by decide) (by decide) (by decide),hb]
 rw[hd,e]
 exact af5 hf t ht (by show(1:Int)<=32;decide) (by show ¬((t++[32]).length:Int)>2000-(s.out.length:Int);rw[List.length_append,List.length_singleton];omega)
def az0:∃f,At f sA/\m9 fO [58,32,83,81,32,68,85,80,32,42,32,59,32,53,32,83,81,32,46] 100=(f,93,0):=by
 have h0:LA fO [58,32,83,81,32,68,85,80,32,42,32,59,32,53,32,83,81,32,46] 100 0 [] ([[58],[83,81],[68,85,80],[42],[59],[53],[83,81],[46]].map tk) sO 100:=.init aI1 (by decide) rfl
 have h1:=F6 (ws:=[[68,85,80],[42],[59],[53],[83,81],[46]].map tk) h0 (wS rfl) (wS rfl) (y:=⟨⟨[58],1072,0⟩,300⟩) (by kernel_rfl) ⟨rfl,rfl⟩ rfl (by decide) rfl (by decide)
 obtain⟨q,h2⟩:=LA.words ([[68,85,80],[42],[59]].map tk) (vs:=[[53],[83,81],[46]].map tk) (s':=sA1) h1 (Lb rfl) (by kernel_rfl)
 have h3:=LA.step h2 (wS rfl) (Qq (n:=5) (by kernel_rfl) (by kernel_rfl) rfl (by decide)) (by decide)
 have run:XS 3 {sA1 with d:=[5]} [16] 1376 {sA1 with d:=[25]} [] 16:=by
  have q:=ar1 {sA1 with d:=[5]} 5 rfl rfl
  rw[show wrap64 (5*5)=25 by unfold wrap64;omega]at q
  exact q
 have h4:=LA.step (s':={sA1 with d:=[25]}) h3 (wS rfl) (LC (y:=sQ) (c:=5) (by kernel_rfl) rfl rfl (by decide) (SL (n:=3) (xt:=1368) rfl (by kernel_rfl) ⟨rfl,rfl,rfl⟩ run)) (by decide)
 have h5:=LA.step (s':=sA) h4 (wS rfl) (LC (y:=⟨⟨[46],912,0⟩,110⟩) (c:=2) (by kernel_rfl) rfl rfl (by decide) (Lw 110 (by decide) rfl ⟨rfl,rfl,rfl⟩ fun m hm=>ap3 hm (by kernel_rfl) rfl (x:=25) (t:=[50,53]) (by kernel_rfl) (by decide) rfl)) (by decide)
 exact h5.free (by decide)
def sB:SS:=⟨[],[(1416,0),(1408,56),(8,-1),(1400,256),(8,0),(1392,32),(1384,360),(1376,216),(8,-1),(1368,256)],1424,[⟨[83,81],1368,0⟩,⟨[88],1400,2⟩],0,[50,53,32],⟨1400,[⟨1,1416,[]⟩],1400,168,0,false,0⟩⟩
def aq1{f:af}(a:At f sA):∃f',At f' sB/\m9 f [58,32,88,32,73,70] 100=(f',100,0):=by
 have h0:LA f [58,32,88,32,73,70] 100 0 [] ([[58],[88],[73,70]].map tk) sA 100:=.init a (by decide) rfl
 have h1:=F6 (ws:=[[73,70]].map tk) h0 (wS rfl) (wS rfl) (y:=⟨⟨[58],1072,0⟩,300⟩) (by kernel_rfl) ⟨rfl,rfl⟩ rfl (by decide) rfl (by decide)
 obtain⟨q,h2⟩:=LA.words ([[73,70]].map tk) (vs:=[]) (s':=sB) h1 (Lb rfl) (by kernel_rfl)
 exact h2.free (by decide)
def sC3:SS:=⟨[],[(8,0),(1424,32),(1416,1424),(1416,0),(1408,56),(8,-1),(1400,256),(8,0),(1392,32),(1384,360),(1376,216),(8,-1),(1368,256)],1432,[⟨[83,81],1368,0⟩,⟨[88],1400,0⟩],0,[50,53,32],kN⟩
def N5{f:af}(h:f.comp.xt=0):j6 f=f:=by unfold j6;rw[if_pos h]
def ab1{f0 f:af}{s0 s:SS}(h0:At f0 s0)(h:At f s)(hx:s.comp.xt=0):At (M1 f0 f) {s with d:=[]}:=by
 obtain⟨m0,rfl,hm0⟩:=h0.ex
 obtain⟨m,rfl,hm⟩:=h.ex
 unfold M1
 rw[N5 (by exact hx)]
 exact⟨⟨m,rfl,hm⟩,h.std,h.h0,h.h1,h.h8,h.ext⟩
def W1{f:af}{s:SS}(h:At f s){w tx:Str}{p a u:Int}(hw:bE tx p=(w,a))(h0:w≠[])(hu:0<=u)(hf:(dc (ig 167++s.ext) w).2.2=false)(hn:(dK w (gL s.cs 0)).2=false):kR f tx p u=(f,p,u,true,-13):=by
 have e:nE (bg f tx a (max u 0)) w=(oOk (bg f tx a (max u 0)) (-13),false):=by
  unfold nE
  rw[show(bg f tx a (max u 0)).f=f from rfl,wF h,hf,if_neg (by decide)]
  unfold Js
  rw[show(bg f tx a (max u 0)).f=f from rfl,FL h,hn,if_pos rfl]
 have q:=KZ (f:=f) (s:=tx) (a:=p) (fuel:=u) (r:=(oOk (bg f tx a (max u 0)) (-13),false)) (by rw[hw];exact h0) (by rw[hw];exact e) (by rw[ok0 rfl];show(-13:Int)≠0;decide) rfl
 rw[q,ok0 rfl,show max u 0=u by omega]
def LA.none{f0:af}{tx p:Str}{u0 u:Int}{k:Nat}{t:Tk}{ws:List Tk}{s s0:SS}(h:LA f0 tx u0 k p (t::ws) s u)(h0:At f0 s0)(ht:okT t)(hk:k<=tx.length+1)(hf:(dc (ig 167++s.ext) t.2).2.2=false)(hn:(dK t.2 (gL s.cs 0)).2=false)(hx:s.comp.xt=0):
  ∃f,At f {s with d:=[]}/\m9 f0 tx u0=(f,u,-13):=by
 obtain⟨f,a,g⟩:=h.go
 have hw:bE tx (p.length:Int)=(t.2,((nxT p t ws).length:Int)):=by rw[h.etx];exact y7 p ws ht
 exact⟨_,LU (ab1 h0 a hx),TO g hk (W1 a hw ht.2.1 h.hu.1 hf hn) (by decide)⟩
def aj5{f:af}(a:At f sB):∃f',At f' sC3/\m9 f [84,72,69,78,32,59,32,110,111,112,101] 100=(f',100,-13):=by
 have h0:LA f [84,72,69,78,32,59,32,110,111,112,101] 100 0 [] ([[84,72,69,78],[59],[110,111,112,101]].map tk) sB 100:=.init a (by decide) rfl
 obtain⟨q,h2⟩:=LA.words ([[84,72,69,78],[59]].map tk) (vs:=[[110,111,112,101]].map tk) (s':=sC3) h0 (Lb rfl) (by kernel_rfl)
 exact h2.none a (wS rfl) (by decide) (by kernel_rfl) (by kernel_rfl) rfl
def ay8{f:af}(a:At f sA):∃f',At f' {sA with d:=[7]}/\kR f [32,32,55,32,56] 0 9=(f',4,9,true,0):=by
 obtain⟨f',a',e⟩:=Qq (s:=sA) (w:=[55]) (n:=7) (by kernel_rfl) (by kernel_rfl) rfl (by decide) f a
 exact⟨f',a',e [32,32,55,32,56] 0 4 9 (by kernel_rfl) (by decide) (by decide) (by decide) (by decide)⟩
def aw3{f:af}(a:At f {sA with d:=[7]}):∃f',At f' {sA with d:=[7,7]}/\L8 f 216 [] 0 9=(f',0,7,0):=by
 obtain⟨f',a',e⟩:=Lw (s:={sA with d:=[7]}) (s':={sA with d:=[7,7]}) 23 (by decide) rfl ⟨rfl,rfl,rfl⟩ (fun m _=>by kernel_rfl) f a
 refine⟨f',a',?_⟩
 have q:=e [] 0 9 (by decide) (by decide) (by decide)
 unfold L8
 rw[show max (9:Int) 0=9 from rfl]
 have q:mn (bg f [] 0 9) 216=⟨f',[],0,7,0⟩:=q
 rw[q]
def N3:ab prog 10 [] (bS fO):=by
 refine zY func10 fun B=>?_
 refine zu1 ?_
 refine zp1 ?_
 refine zc rfl func24 ((Vd cO LI) _) ?_
 refine zy5 ?_
 refine zs1 ?_
 refine zu3 ?_
 refine zR ?_
 rfl
def okO:OkF 0 fO:=by
 refine zB XO fun x hx=>?_
 obtain⟨i,hi,rfl⟩:=List.mem_map.1 (show x∈(List.range 167).map vR from hx)
 have:=List.mem_range.1 hi
 show ae ((32+8*i:Nat):Int)
 unfold ae;omega
def YG{l l':List Int}(h:l=l')(hl:l'.length<=1000000):ab prog 20 [sq ap l,sq ap l'] (boo true):=by
 subst h
 have:=NK l l hl hl
 rwa [decide_eq_true rfl]at this
def PG(a:Addr)(f:FuncId)(args:List PV)(res:PV):Prop:=∀(H:List Ob),(∀o∈hJ a,∃k:Nat,H[k]?=some o)->HC prog f args H res H
def Uu(a:Addr)(f0 fA fB fC fD fE:af)(n0:ab prog 10 [] (bS f0))(pA:PG a 12 [bS f0,str [58,32,83,81,32,68,85,80,32,42,32,59,32,53,32,83,81,32,46],i64 100] (vB (fA,93,0)))(pB:PG a 12 [bS fA,str [58,32,88,32,73,70],i64 100] (vB (fB,100,0)))
  (pC:PG a 12 [bS fB,str [84,72,69,78,32,59,32,110,111,112,101],i64 100] (vB (fC,100,-13))) (pD:PG a 21 [bS fA,str [32,32,55,32,56],i64 0,i64 9] (Mu (fD,4,9,true,0))) (pE:PG a 22 [bS fD,i64 216,str [],i64 0,i64 9] (Lf (fE,0,7,0)))
  (cA:ab prog 23 [bS fA] (boo false)) (cB:ab prog 23 [bS fB] (boo true)) (cC:ab prog 23 [bS fC] (boo false)) (oA:fA.vm.out=[50,53,32]) (dD:fD.vm.d=[7]) (dE:fE.vm.d=[7,7]):∀(H:List Ob),(∀o∈hJ a,∃k:Nat,H[k]?=some o)->HC prog 9 [] H (boo true) H:=by
 refine it (gj a) tG (rs:=[.tmp 0]) func9 rfl rfl rfl (by simp) (by simp) (fun B=>?_)
 refine zu1 ?_
 refine z8 ?_
 refine zc rfl func10 ((n0) _) ?_
 refine zs2 ?_
 refine zp1 ?_
 refine zc rfl func12 (pA _ (cp 0 1 rfl rfl)) ?_
 refine zy5 ?_
 refine zs3 ?_
 refine zp1 ?_
 refine zc rfl func12 (pB _ (cp 0 1 rfl rfl)) ?_
 refine zy5 ?_
 refine zs3 ?_
 refine zp1 ?_
 refine zc rfl func12 (pC _ (cp 0 1 rfl rfl)) ?_
 refine zy5 ?_
 refine zs3 ?_
 refine zp1 ?_
 refine zc rfl func21 (pD _ (cp 0 1 rfl rfl)) ?_
 refine zy5 ?_
 refine zy5 ?_
 refine zs2 ?_
 refine zp1 ?_
 refine zc rfl func22 (pE _ (cp 0 1 rfl rfl)) ?_
 refine zy5 ?_
 refine zs5 ?_
 refine zp3 ?_
 refine gN 56 rfl (by rfl) ?_
 refine zy3 ?_
 refine Wd rfl rfl (oB (lO tG rfl) rfl (lO tG rfl) rfl (lO tG rfl) rfl rfl rfl) ?_
 refine z1 ?_
 refine zq 61 ?_
 refine zy2 ?_
 refine gN 63 rfl (by exact decide_eq_true oA) ?_
 refine zy4 ?_
 refine gN 67 rfl (by rfl) ?_
 refine z1 ?_
 refine zc rfl func23 ((cA) _) ?_
 refine zy3 ?_
 refine gN 72 rfl (by rfl) ?_
 refine zy4 ?_
 refine gN 76 rfl (by rfl) ?_
 refine z1 ?_
 refine zc rfl func23 ((cB) _) ?_
 refine zy2 ?_
 refine gN 80 rfl (by rfl) ?_
 refine zy4 ?_
 refine gN 84 rfl (by rfl) ?_
 refine z1 ?_
 refine zc rfl func23 ((cC) _) ?_
 refine zy3 ?_
 refine gN 89 rfl (by rfl) ?_
 refine zy4 ?_
 refine gN 93 rfl (by rfl) ?_
 refine zy3 ?_
 refine gN 96 rfl (by rfl) ?_
 refine zy4 ?_
 refine gN 100 rfl (by rfl) ?_
 refine zy4 ?_
 refine gN 104 rfl (by rfl) ?_
 refine zy4 ?_
 refine Wa 108 rfl (bsL ap [_] rfl rfl) ?_
 refine zc rfl func20 ((YG dD (by decide)) _) ?_
 refine zy2 ?_
 refine gN 111 rfl (by rfl) ?_
 refine zy4 ?_
 refine gN 115 rfl (by rfl) ?_
 refine zy4 ?_
 refine Wa 119 rfl (bsL ap [_,_] rfl rfl) ?_
 refine zc rfl func20 ((YG dE (by decide)) _) ?_
 refine zs2 ?_
 refine zR ?_
 rfl
def Ft{f:af}{s:SS}(h:At f s){b:Bool}(hb:s.cmp=b):ab prog 23 [bS f] (boo b):=by
 have hm:f.vm.mem.b.length<=140737488355328:=by
  obtain⟨m,rfl,hm⟩:=h.ex
  have:=hm.len
  show m.b.length<=_;omega
 have:=j8 f hm
 rwa [uC h,hb]at this
def Jc{f:af}{s:SS}(h:At f s):f.vm.out=s.out/\f.vm.d=s.d/\f.comp=s.comp:=by obtain⟨m,rfl,hm⟩:=h.ex;exact⟨rfl,rfl,rfl⟩
def Fg(a:Addr){f f':af}{tx:Str}{fuel u e:Int}(h:OkF 0 f)(ht:tx.length<=1000)(hu:fuel<=5000)(hl:m9 f tx fuel=(f',u,e)):PG a 12 [bS f,str tx,i64 fuel] (vB (f',u,e))/\OkF 0 f':=by
 have p:PG a 12 [bS f,str tx,i64 fuel] (vB (m9 f tx fuel)):=HO a h ht hu (by decide)
 have o:=(Ia h ht hu (by decide)).2.1
 rw[hl]at p o
 exact⟨p,o⟩
def am1(a:Addr):∀(H:List Ob),(∀o∈hJ a,∃k:Nat,H[k]?=some o)->HC prog 9 [] H (boo true) H:=by
 obtain⟨fA,aA,eA⟩:=az0
 obtain⟨fB,aB,eB⟩:=aq1 aA
 obtain⟨fC,aC,eC⟩:=aj5 aB
 obtain⟨fD,aD,eD⟩:=ay8 aA
 obtain⟨fE,aE,eE⟩:=aw3 aD
 obtain⟨pA,kA⟩:=Fg a okO (by decide) (by decide) eA
 obtain⟨pB,kB⟩:=Fg a kA (by decide) (by decide) eB
 obtain⟨pC,kC⟩:=Fg a kB (by decide) (by decide) eC
 have wD:=okw (s:=[32,32,55,32,56]) (a:=0) (fuel:=9) kA (by decide) (by decide) (by decide) (by decide)
 have pD:PG a 21 _ _:=By a fA [32,32,55,32,56] 0 9 0 ⟨T6 kA (by decide) (by decide),kA.g,by decide,by decide⟩
 rw[eD]at pD wD
 have pE:PG a 22 _ _:=JH a fD 216 [] 0 9 _ wD.f.g (by unfold ae;omega) (by decide) (by show 0+270+3*Int.toNat 9-3*Int.toNat 9<=190000;decide) (by decide)
 rw[eE]at pE
 exact Uu a fO fA fB fC fD fE N3 pA pB pC pD pE (Ft aA rfl) (Ft aB rfl) (Ft aC rfl) (Jc aA).1 (Jc aD).2.1 (Jc aE).2.1
def dgB(c:UInt8):Bool:=decide (48<=c.toNat)&&decide (c.toNat<=57)
def OK:Str->Bool
 | []=>false
 | c::l=>(decide (c=45)||dgB c)&&(l.all dgB&&(c::l).any dgB)
def CQ(c:UInt8)(l:Str):OK (c::l)=((decide (c=45)||dgB c)&&(l.all dgB&&(c::l).any dgB)):=rfl
def Z9:∀d<10,dgB (chr d)=true:=by decide
def UX(u:Nat):(ef u 10).all dgB=true:=by
 unfold ef
 rw[List.all_reverse,List.all_eq_true]
 intro c hc
 obtain⟨d,hd,rfl⟩:=List.mem_map.1 hc
 exact Z9 d (MR 10 (by decide) 64 u d hd)
def IX(u:Nat):OK (ef u 10)=true/\OK (45::ef u 10)=true:=by
 have h:=UX u
 have hn:=tP u 10
 cases e:ef u 10 with
 | nil=>exact absurd e hn
 | cons c l =>
  rw[e]at h
  rw[List.all_cons,Bool.and_eq_true]at h
  constructor
  ·rw[CQ,h.1,h.2,List.any_cons,h.1];simp
  rw[CQ,List.all_cons,h.1,h.2,List.any_cons,List.any_cons,h.1];simp
def am3(n:Int):OK (dh n 10).1=true:=by
 unfold dh
 rw[if_pos (by decide)]
 dsimp only
 split
 ·exact(IX _).1
 exact(IX _).2
def R3{c:UInt8}(h:c=45\/dgB c=true):upC c=c:=I4 (by
 rcases h with rfl|h
 ·decide
 unfold dgB at h;simp at h;omega)
def an4{s:Str}(h:OK s=true):Ht s=s:=by
 cases s with
 | nil=>rfl
 | cons c l =>
  unfold OK at h
  rw[Bool.and_eq_true,Bool.and_eq_true,Bool.or_eq_true,decide_eq_true_eq,List.all_eq_true]at h
  show upC c::l.map upC=_
  rw[R3 h.1,List.map_congr_left (fun x hx=>R3 (.inr (h.2.1 x hx))),List.map_id']
def U6{b:Int}{c:UInt8}(h:okD b c=true):32<c.toNat:=by
 rw[uf]at h
 have:=h.1
 unfold wd at this
 (repeat' split at this)<;>omega
def ar3{n b:Int}(hb:isB b=true):okT (tk (dh n b).1):=by
 obtain⟨B,rfl,h2,h3⟩:=sH hb
 have hd:∀u,∀c∈ef u B,32<c.toNat:=fun u c hc=>U6 (List.all_eq_true.1 (ux B h2 h3 u) c hc)
 refine⟨fun c hc=>(by cases hc),?_,?_⟩
 ·show(dh n (B:Int)).1≠[]
  unfold dh
  rw[if_pos hb]
  dsimp only
  split
  ·exact tP _ _
  simp
 show ∀c∈(dh n (B:Int)).1,_
 unfold dh
 rw[if_pos hb,Int.toNat_natCast]
 dsimp only
 split
 ·exact hd _
 intro c hc
 rcases List.mem_cons.1 hc with rfl|hc
 ·decide
 exact hd _ c hc
def az9(l ext:List aS)(name:Str)(h:∀e∈ext,yN e name=false):dc (l++ext) name=dc l name:=by
 have k:∀(n:Nat) (ext:List aS),ext.length=n->(∀e∈ext,yN e name=false)->dc (l++ext) name=dc l name:=by
  intro n
  induction n with
  | zero=>intro ext hl _;rw[List.length_eq_zero_iff.1 hl,List.append_nil]
  | succ n ih =>
   intro ext hl he
   have e:=Dr (l:=ext) (by omega)
   have hb:(Fw ext).length=n:=by unfold Fw;rw[List.length_take];omega
   have hx:yN (CZ ext) name=false:=he _ (by rw[e];exact List.mem_append_right _ (by rw[<-e];exact List.mem_singleton.2 rfl))
   rw[e,<-List.append_assoc,OQ,if_neg (by rw[hx];decide)]
   exact ih _ hb fun x hx=>he x (List.mem_of_mem_take hx)
 exact k _ ext rfl h
open Go.WideShapes
def aj6{P:Program}{a:Addr}{f:FuncId}{args:List PV}{vs:List Value}{w:World}(hf:aw args)(h:∀(H:List Ob),(∀o∈hJ a,∃k:Nat,H[k]?=some o)->HC P f args H (.val (.bool true)) H)
  (h0:w.cell? ⟨1,0,none⟩=some (haltV a)) (h1:w.cell? ⟨0,0,none⟩=some etV) (hr:au (c0 w) args vs) :
  Calls P f vs.toArray w fun e w'=>e=.returned (.bool true)/\Below w.heap.size w w':=by
 have dull:∀{j:Nat} {oj:Ob},(hJ a)[j]?=some oj->oj.live=true->False:=fun q1 q2=>by
  obtain⟨g,u,rfl⟩:=gj a _ (List.mem_of_getElem? q1);cases q2
 have nw:∀b off,¬(False\/kE (fun _=>none) (hJ a) b off):=by
  rintro b off (q|⟨i,oi,q1,_,q3⟩)
  ·exact q
  obtain⟨g,u,rfl⟩:=gj a _ (List.mem_of_getElem? q1);cases q3
 have s:Sim (fun _ _=>False) (hJ a) (fun _=>none) w:=by
  refine⟨fun i j b oi oj q _ l=>(dull q l).elim,fun i b oi q l=>(dull q l).elim,fun b off q=>q.elim,fun i oi q=>?_⟩
  have hm:=List.mem_of_getElem? q
  unfold hJ at hm
  simp only[List.mem_cons,List.not_mem_nil,or_false]at hm
  rcases hm with rfl|rfl
  ·exact⟨h0,nw _ _⟩
  exact⟨h1,nw _ _⟩
 have hr':au (cx (fun _ _=>False) (hJ a) (fun _=>none) w) args vs:=dz (c:=c0 w) (c':=cx (fun _ _=>False) (hJ a) (fun _=>none) w) rfl (fun b off q=>(nw b off q).elim) hf hr
 refine Calls.mono (h (hJ a) (fun o ho=>by obtain⟨k,hk⟩:=List.getElem?_of_mem ho;exact⟨k,hk⟩) (fun _ _=>False) (fun _=>none) w vs s hr') ?_
 rintro e w' ⟨v,σ',rfl,h1,_,h3⟩
 unfold Rep at h1
 subst h1
 exact⟨rfl,⟨h3.os,h3.tape,h3.output,h3.size,fun b hb=>h3.block b hb (fun i oi hi hl=>(dull hi hl).elim)⟩⟩
open Go.WideShapes
def Nw(u b:Nat):(ef u b).length<=64:=by
 have h:∀k u,(mV b k u).length<=k:=by
  intro k
  induction k with
  | zero=>intro u;exact Nat.le_refl _
  | succ k ih =>
   intro u
   unfold mV
   rw[List.length_cons]
   split
   ·exact Nat.succ_le_succ (Nat.zero_le _)
   exact Nat.succ_le_succ (ih _)
 unfold ef
 rw[List.length_reverse,List.length_map];exact h 64 u
def as5(n b:Int):(dh n b).1.length<=65:=by
 have h:=Nw
 unfold dh
 split
 ·dsimp only
  split
  ·exact Nat.le_trans (h _ _) (by decide)
  rw[List.length_cons];exact Nat.succ_le_succ (h _ _)
 exact Nat.zero_le _
def aC9{n b:Int}(hb:isB b=true):dh n b=((dh n b).1,0):=by unfold dh;rw[if_pos hb]
end Go.Proofs.YtjcminooghmpeaaGreatDoor
