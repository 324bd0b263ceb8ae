import Derived.Test.YtjcminooghmpeaaGreatDoorPk12
set_option linter.all false
set_option maxRecDepth 100000
set_option maxHeartbeats 40000000
open Go.Proofs.Tryz
namespace Go.Proofs.YtjcminooghmpeaaGreatDoor
open Go.RowKit
variable {v : VVm} {L : Nat} {g : Int -> Int} {d r : List Int} {f : List jt} {ip fu xt q x n : Int}
section
variable {d' r' : List Int} {f' : List jt} {v' : VVm} {ip' w : Int}
end
def aN9(M:mX v L g)(hx:okA L (xt+16)=true)(hx0:0<=xt)(hn:g (xt+16)=n)(hd:d.length<32):mB (mz v d r f ip) xt 258=mz v (d++[n]) r f ip:=by
 have e:mB (mz v d r f ip) xt 258=jp (bu (mz v d r f ip) (W64 (xt+16))).1 (bu (mz v d r f ip) (W64 (xt+16))).2:=by kernel_rfl
 obtain⟨h0,h1,h2⟩:=gY.1 hx
 have:=M.hL
 rw[e,CI (by omega) (by omega),Rr M hx,hn]
 dsimp only
 rw[aC6 M hd]
def aN2(M:mX v L g)(hx:okA L (xt+16)=true)(hx0:0<=xt)(hn:g (xt+8)=n)(hd:d.length<32)(hr:r.length<32):mB (mz v d r f ip) xt 259=mz v (d++[xt+16]) (r++[ip]) f n:=by
 have e:mB (mz v d r f ip) xt 259=(let a:=bu (mz v d r f ip) (W64 (xt+8));{ey (jp a.1 (W64 (xt+16))) (jp a.1 (W64 (xt+16))).ip with ip:=a.2}):=by kernel_rfl
 obtain⟨h0,h1,h2⟩:=gY.1 hx
 have:=M.hL
 rw[e,CI (n:=xt+8) (by omega) (by omega),CI (n:=xt+16) (by omega) (by omega),Rr M (x:=xt+8) (gY.2 ⟨by omega,by omega,by omega⟩),hn]
 dsimp only
 rw[aC6 M hd]
 show({ey (mz v (d++[xt+16]) r f ip) ip with ip:=n}:VWk)=_
 rw[Sp M hr];rfl
section
variable {d' r' : List Int} {f' : List jt} {v' : VVm} {ip' w : Int}
end
open Go.RowKit
def aJ8(v:VVm)(l:List Int):VVm:=l.foldl bQ v
def aK4{L:Nat}{c:xY}:∀(l:List Int) (v:VVm) (g:Int->Int),jU v L g->v.here+8*(l.length:Int)<=(L:Int)->gA l->l.foldl cg ⟨⟨v,c⟩,0⟩=⟨⟨aJ8 v l,c⟩,0⟩
 | [],v,g,R,_,_=>rfl
 | n::l,v,g,R,h,hf=>by
  rw[List.length_cons]at h
  have R1:=jj (n:=n) R (by omega) (hf n (List.mem_cons_self ..))
  rw[List.foldl_cons,C3 (w:=⟨⟨v,c⟩,0⟩) R (by show v.here+8<=_;omega) rfl]
  exact aK4 l (bQ v n) (rZ g v.here n) R1 (by show v.here+8+8*(l.length:Int)<=_;omega) (fun x hx=>hf x (List.mem_cons_of_mem _ hx))
def aL2(v:VVm)(name:Str)(last:Bool)(l:List Int):VVm:=if last=true then {aJ8 (nI v name 0) l with last:=v.here} else aJ8 (nI v name 0) l
def aJ9{f:af}{name:Str}{last:Bool}{l:List Int}{L:Nat}{g:Int->Int}(R:jU f.vm L g)(hx:f.comp.xt=0)(hl:gA l)(h:f.vm.here+8*(l.length:Int)<=(L:Int))(hn:fy name=0)(hw:(f.vm.dict.length:Int)<f.vm.conf.words)(hw2:(f.vm.dict.length:Int)<1024):
  cK f name last l=({f with vm:=aL2 f.vm name last l},0):=by
 have hb:aK f=⟨f,0⟩:=by unfold aK;rw[if_pos hx]
 have e1:eS ⟨f,0⟩ name 0 l=(⟨⟨aJ8 (nI f.vm name 0) l,f.comp⟩,0⟩,f.vm.here):=by
  unfold eS
  rw[NO (w:=⟨f,0⟩) R rfl (by show f.vm.here<=_;omega) hn hw hw2]
  refine Prod.ext ?_ ?_
  ·exact aK4 l (nI f.vm name 0) g (yp R 0) h hl
  show(aN f.vm.mem f.vm.here).2.1=_
  rw[C9 R (by omega)]
 unfold cK
 rw[if_neg (fun z=>z hx),hb,e1]
 unfold jm aL2
 cases last<;>rfl
section
variable {f0 : af} {tx p : Str} {u0 u c : Int} {k : Nat} {t : Tk} {ws : List Tk} {s s' : SS}
def aK6:∀(ws:List Tk),(∀t∈ws,okT t)->ws.length<=(xb ws).length
 | [],_=>Nat.le_refl _
 | [t],h=>by
  have:=(h t (List.mem_cons_self ..)).2.1
  show 1<=(t.1++t.2).length
  have:=List.length_pos_iff.2 this
  rw[List.length_append];omega
 | t::v::ws,h=>by
  have ih:=aK6 (v::ws) fun x hx=>h x (List.mem_cons_of_mem _ hx)
  show(v::ws).length+1<=(t.1++(t.2++(32::xb (v::ws)))).length
  simp only[List.length_append,List.length_cons]at ih ⊢
  omega
end
open Go.RowKit
def aM1:((ig 167).all fun w=>!OK (Ht w.name))=true:=by kernel_rfl
def aM9{s:Str}(h:OK s=true)(w:aS)(hw:w∈ig 167):yN w s=false:=by
 have k:=List.all_eq_true.1 aM1 w hw
 unfold yN YN
 rw[an4 h]
 by_cases q:Ht w.name=s
 ·rw[q,h]at k;cases k
 rw[decide_eq_false q,Bool.and_false]
def aK9{s:Str}(h:OK s=true):∀k,k<=167->(mv (ig 167) s k).2.2=false
 | 0,_=>rfl
 | k+1,hk=>by
  unfold mv
  rw[if_neg]
  ·exact aK9 h k (by omega)
  rw[aM9 h _ (by rw[List.getD_eq_getElem?_getD,List.getElem?_eq_getElem (by rw[qw];omega)];exact List.getElem_mem _)]
  decide
def aM8{s:Str}(h:OK s=true):(dc (ig 167) s).2.2=false:=by
 unfold dc;rw[qw];exact aK9 h 167 (Nat.le_refl _)
def aM7{n:Int}{w:aS}(h:OK (Ht w.name)=false):yN w (dh n 10).1=false:=by
 have e:=an4 (am3 n)
 unfold yN YN
 rw[e]
 by_cases q:Ht w.name=(dh n 10).1
 ·rw[q,am3 n]at h;cases h
 rw[decide_eq_false q,Bool.and_false]
def aL6{v:VVm}{L:Nat}{g:Int->Int}{n:Int}(R:jU v L g)(h:v.here+8<=(L:Int)):cy v.mem v.here n=(stM v.mem v.here n,v.here+8,0):=by
 have e:=EE (n:=n) R h
 have e1:=congrArg (fun p:VVm×Int=>p.1.mem) e
 have e2:=congrArg (fun p:VVm×Int=>p.1.here) e
 have e3:=congrArg (fun p:VVm×Int=>p.2) e
 exact Prod.ext e1 (Prod.ext e2 e3)
def aM4{v:VVm}{n:Int}{r:List Int}{m:bn}{h:Int}(hc:cy v.mem v.here n=(m,h,0))(hd:1<=v.conf.data):doS (mk v [n] r []) 95=(mk {v with mem:=m,here:=h} [] r [],0):=by
 have e:doS (mk v [n] r []) 95=(if (fg (mk v [n] r []) (cy v.mem v.here n)).2.2≠0 then(mk v [n] r [],(fg (mk v [n] r []) (cy v.mem v.here n)).2.2)else if v.conf.data<((0+(fg (mk v [n] r []) (cy v.mem v.here n)).2.1.length:Nat):Int)then(mk v [n] r [],-3)else({(fg (mk v [n] r []) (cy v.mem v.here n)).1 with d:=[]++(fg (mk v [n] r []) (cy v.mem v.here n)).2.1},0)):=by kernel_rfl
 rw[e,hc]
 have p:fg (mk v [n] r []) (m,h,0)=({mk v [n] r []with mem:=m,here:=h},[],0):=by kernel_rfl
 rw[p,if_neg (fun z=>z rfl),if_neg (by show ¬v.conf.data<((0:Nat):Int);omega)];rfl
def aN3{v:VVm}{a n:Int}{r:List Int}(hc:am v.mem a=(n,0))(hd:v.conf.data=32):doS (mk v [a] r []) 83=(mk v [n] r [],0):=by
 have e:doS (mk v [a] r []) 83=(if (am v.mem a).2≠0 then(mk v [a] r [],(am v.mem a).2)else if v.conf.data<((1:Nat):Int)then(mk v [a] r [],-3)else(mk v ([]++[(am v.mem a).1]) r [],0)):=by kernel_rfl
 rw[e,hc,if_neg (fun z=>z rfl),if_neg (by rw[hd];decide)];rfl
def aN4{v:VVm}{a n x:Int}{r:List Int}(hc:am v.mem a=(n,0))(hd:v.conf.data=32):doS (mk v [x,a] r []) 83=(mk v [x,n] r [],0):=by
 have e:doS (mk v [x,a] r []) 83=(if (am v.mem a).2≠0 then(mk v [x,a] r [],(am v.mem a).2)else if v.conf.data<((2:Nat):Int)then(mk v [x,a] r [],-3)else(mk v ([x]++[(am v.mem a).1]) r [],0)):=by kernel_rfl
 rw[e,hc,if_neg (fun z=>z rfl),if_neg (by rw[hd];decide)];rfl
def aM6{v:VVm}{a n x y:Int}{r:List Int}(hc:am v.mem a=(n,0))(hd:v.conf.data=32):doS (mk v [x,y,a] r []) 83=(mk v [x,y,n] r [],0):=by
 have e:doS (mk v [x,y,a] r []) 83=(if (am v.mem a).2≠0 then(mk v [x,y,a] r [],(am v.mem a).2)else if v.conf.data<((3:Nat):Int)then(mk v [x,y,a] r [],-3)else(mk v ([x,y]++[(am v.mem a).1]) r [],0)):=by kernel_rfl
 rw[e,hc,if_neg (fun z=>z rfl),if_neg (by rw[hd];decide)];rfl
def SS.aw2(s:SS)(name:Str):SS:={s with ext:=s.ext++[⟨name,s.here,0⟩],cs:=(s.here+8,0)::(s.here,257)::s.cs,here:=s.here+8+8,last:=s.here}
def SS.made3(s:SS)(name:Str)(n:Int):SS:={s with ext:=s.ext++[⟨name,s.here,0⟩],cs:=(s.here+8+8,n)::(s.here+8,0)::(s.here,258)::s.cs,here:=s.here+8+8+8}
def aL3:ae 257:=by unfold ae;omega
def aL1:ae 258:=by unfold ae;omega
section
variable {s : SS} {m : bn} {name : Str} {n : Int}
def aL4(hm:jg m 4096 (gL s.cs))(h0:1368<=s.here)(h8:s.here%8=0)(d r:List Int):jU (mk (vS s m) d r []) 4096 (gL s.cs):=⟨⟨hm,by decide,by decide,rfl,rfl⟩,by show 0<=s.here;omega,h8⟩
def aK8(he:s.ext.length<70):((ig 167++s.ext).length:Int)<250:=by rw[List.length_append,qw];omega
def aM3(hm:jg m 4096 (gL s.cs))(h0:1368<=s.here)(h8:s.here%8=0)(hr:s.here+16<=4096)(hn:fy name=0)(he:s.ext.length<70):
  ∃m',jg m' 4096 (gL (s.aw2 name).cs)/\∀(d r:List Int) (c:xY),c.xt=0->cK ⟨mk (vS s m) d r [],c⟩ name true [257,0]=(⟨mk (vS (s.aw2 name) m') d r [],c⟩,0):=by
 have h1:=hm.store aL3 (a:=s.here) (gY.2 ⟨by omega,h8,by omega⟩)
 have h2:=h1.store bI (a:=s.here+8) (gY.2 ⟨by omega,by omega,by omega⟩)
 refine⟨stM (stM m s.here 257) (s.here+8) 0,h2,fun d r c hx=>?_⟩
 have q:=aK8 he
 rw[aJ9 (f:=⟨mk (vS s m) d r [],c⟩) (aL4 hm h0 h8 d r) hx (hZ aL3 bI) (by show s.here+8*((2:Nat):Int)<=4096;omega) hn (by show((ig 167++s.ext).length:Int)<250;exact q) (by show((ig 167++s.ext).length:Int)<1024;omega)]
 refine Prod.ext ?_ rfl
 unfold aL2 aJ8 SS.aw2 vS nI bQ mk
 dsimp only[List.foldl]
 rw[if_pos rfl,List.append_assoc]
def aN7{a b c:Int}(h1:ae a)(h2:ae b)(h3:ae c):gA [a,b,c]:=fun x hx=>by simp at hx;rcases hx with rfl|rfl|rfl<;>assumption
def aM5(hm:jg m 4096 (gL s.cs))(h0:1368<=s.here)(h8:s.here%8=0)(hr:s.here+24<=4096)(hn:fy name=0)(he:s.ext.length<70)(hv:ae n):
  ∃m',jg m' 4096 (gL (s.made3 name n).cs)/\∀(c:xY),c.xt=0->cK ⟨vS s m,c⟩ name false [258,0,n]=(⟨vS (s.made3 name n) m',c⟩,0):=by
 have h1:=hm.store aL1 (a:=s.here) (gY.2 ⟨by omega,h8,by omega⟩)
 have h2:=h1.store bI (a:=s.here+8) (gY.2 ⟨by omega,by omega,by omega⟩)
 have h3:=h2.store hv (a:=s.here+8+8) (gY.2 ⟨by omega,by omega,by omega⟩)
 refine⟨stM (stM (stM m s.here 258) (s.here+8) 0) (s.here+8+8) n,h3,fun c hx=>?_⟩
 have q:=aK8 he
 rw[aJ9 (f:=⟨vS s m,c⟩) (aL4 hm h0 h8 s.d []) hx (aN7 aL1 bI hv) (by show s.here+8*((3:Nat):Int)<=4096;omega) hn (by show((ig 167++s.ext).length:Int)<250;exact q) (by show((ig 167++s.ext).length:Int)<1024;omega)]
 refine Prod.ext ?_ rfl
 unfold aL2 aJ8 SS.made3 vS nI bQ
 dsimp only[List.foldl]
 rw[if_neg (by decide),List.append_assoc]
end
def XN(s:SS)(xt:Int)(name:Str)(s':SS)(c:Int):Prop:=∀f,At f s->∃f',At f' s'/\∀(tx:Str) (a a2 u:Int),bE tx a=(name,a2)->0<=u->c<=u->u<=5000->mn (bg f tx a u) xt=⟨f',tx,a2,u-c,0⟩
def aN8:kC=302:=by decide +kernel
def aL8{s:SS}{m:bn}{d r:List Int}{ip fu:Int}(hm:jg m 4096 (gL s.cs))(hs:um (gL s.cs))(ha:okA 4096 ip=true)(hx:gL s.cs ip=1088):cI (mr (vS s m) d r [] ip fu)=(true,ip+8):=by
 have q:=gY.1 ha
 have e1:am (mr (vS s m) d r [] ip fu).vm.mem (mr (vS s m) d r [] ip fu).ip=(1088,0):=by
  show am m ip=_
  rw[hm.cell ip q.1 q.2.1 q.2.2,hx]
 have e2:av (mr (vS s m) d r [] ip fu).vm 1088=(302,0):=by
  have c:am m 1088=(302,0):=by
   rw[hm.cell 1088 (by decide) (by decide) (by decide)]
   have:=hs.prim 132 (by decide)
   exact Prod.ext this rfl
  unfold av
  rw[show(mr (vS s m) d r [] ip fu).vm.mem=m from rfl,c]
  rfl
 unfold cI
 rw[if_neg (by show ¬false=true;decide),e1,if_neg (by decide)]
 unfold BK
 rw[e2,aN8]
 refine Prod.ext rfl ?_
 show W64 (ip+8)=ip+8
 exact CI (by omega) (by omega)
def aK2{s s':SS}{xt:Int}{name:Str}{n:Nat}(hx:okA 4096 xt=true)(hq:gL s.cs xt=256)(ha:okA 4096 (xt+8)=true)(hc:gL s.cs (xt+8)=1088)(hr:s.here+16<=4096)(hnm:fy name=0)(hn0:name≠[])(he:s.ext.length<70)(hxt:s.comp.xt=0)
  (run:XS n (s.aw2 name) [16] (xt+16) s' [] 16) (kc:s'.comp=s.comp) (k0:1368<=s'.here/\s'.here<=4096/\s'.here%8=0/\s'.ext.length<=80):XN s xt name s' ((n+3:Nat):Int):=by
 intro f h
 have hstd:=h.std
 obtain⟨m,e,hm⟩:=h.ex
 obtain⟨m2,hm2,cr⟩:=aM3 hm h.h0 h.h8 hr hnm he
 have hstd2:um (gL (s.aw2 name).cs):=(hstd.set (.inl h.h0)).set (.inl (by have:=h.h0;omega))
 obtain⟨m3,hm3,hs3,g⟩:=run m2 hm2 hstd2
 refine⟨⟨vS s' m3,s.comp⟩,⟨⟨m3,by rw[kc],hm3⟩,hs3,k0.1,k0.2.1,k0.2.2.1,k0.2.2.2⟩,fun tx a a2 u hw u0 cu u9=>?_⟩
 subst e
 have hxk:=gY.1 hx
 obtain⟨k,hk⟩:∃k,u.toNat+2=(((k+1)+n)+1)+1:=⟨u.toNat-1-n,by omega⟩
 have g1:Go1 (mw (vS s m) s.d [] [] 16 xt u) (mr (vS s m) s.d ([]++[16]) [] (xt+8) (u-1)):=P7 (At.mach hm) ⟨by omega,by omega⟩ hx hq (by decide)
 have e1:=(GoE.cons g1 rfl (by show ¬u<1;omega) (.nil _)).ex (bg ⟨vS s m,s.comp⟩ tx a u) (((k+1)+n)+1)
 have ec:=aL8 (d:=s.d) (r:=[]++[16]) (fu:=u-1) hm hstd ha hc
 have eC:eJ (kQ (bg ⟨vS s m,s.comp⟩ tx a u) (mr (vS s m) s.d ([]++[16]) [] (xt+8) (u-1)))=⟨⟨mk (vS (s.aw2 name) m2) s.d ([]++[16]) [],s.comp⟩,tx,a2,0,0⟩:=by
  have eN:bW (kQ (bg ⟨vS s m,s.comp⟩ tx a u) (mr (vS s m) s.d ([]++[16]) [] (xt+8) (u-1)))=(⟨⟨mk (vS s m) s.d ([]++[16]) [],s.comp⟩,tx,a2,0,0⟩,name):=by
   unfold bW
   rw[show(kQ (bg ⟨vS s m,s.comp⟩ tx a u) (mr (vS s m) s.d ([]++[16]) [] (xt+8) (u-1))).s=tx from rfl,show(kQ (bg ⟨vS s m,s.comp⟩ tx a u) (mr (vS s m) s.d ([]++[16]) [] (xt+8) (u-1))).at_=a from rfl,hw,if_neg hn0];rfl
  unfold eJ jR
  rw[eN,if_pos rfl]
  dsimp only
  rw[cr s.d ([]++[16]) s.comp hxt]
  unfold lx
  rw[Bd rfl,if_pos rfl]
 have eM:exM ⟨bg ⟨vS s m,s.comp⟩ tx a u,mr (vS s m) s.d ([]++[16]) [] (xt+8) (u-1),false,0⟩=(bg ⟨vS s m,s.comp⟩ tx a2 u,rS (s.aw2 name) m2 [16] (xt+16) (u-2),0):=by
  unfold exM
  dsimp only
  rw[ec,aB3 (by show ¬u-1<1;omega) (by rw[eC])]
  rw[eC]
  refine Prod.ext rfl (Prod.ext ?_ rfl)
  show KR (mk (vS (s.aw2 name) m2) s.d ([]++[16]) []) (mr (vS s m) s.d ([]++[16]) [] (xt+8) (u-1)) (xt+8+8)=_
  unfold KR
  rw[show(mr (vS s m) s.d ([]++[16]) [] (xt+8) (u-1)).fuel=u-1 from rfl,CI (n:=u-1-1) (by omega) (by omega),show u-1-1=u-2 by omega,show xt+8+8=xt+16 by omega];rfl
 have e2:=(g (u-2) (by omega) (by omega)).ex (bg ⟨vS s m,s.comp⟩ tx a2 u) (k+1)
 have hl:=MS (v:=vS s' m3) (d:=s'.d) (r:=[]) (f:=[]) (fu:=u-2-n) (At.mach hm3) hs3.std ⟨by omega,by omega⟩
 have e3:=UO (bg ⟨vS s m,s.comp⟩ tx a2 u) (o:=true) hl rfl (by show ¬u-2-n<1;omega) k
 unfold mn
 have eR:exR (bg ⟨vS s m,s.comp⟩ tx a u) xt=⟨bg ⟨vS s m,s.comp⟩ tx a2 u,mr (vS s' m3) s'.d [] [] 24 (u-2-n-1),true,0⟩:=by
  unfold exR Ch
  rw[show(bg ⟨vS s m,s.comp⟩ tx a u).fuel=u from rfl,hk]
  refine e1.trans ?_
  rw[To YF,Xr (x:=⟨_,_,false,0⟩) (by rw[ec]),eM]
  exact e2.trans e3
 rw[eR,Bd rfl]
 show(⟨⟨vS s' m3,s.comp⟩,tx,a2,u-2-n-1,0⟩:ai)=_
 rw[show u-2-(n:Int)-1=u-((n+3:Nat):Int) by omega]
def aK3{f0:af}{tx p:Str}{u0 u c:Int}{k:Nat}{t n:Tk}{ws:List Tk}{s s':SS}{y:XI}(h:LA f0 tx u0 k p (t::n::ws) s u)(ht:okT t)(hn:okT n)
  (hx:xiS s t.2=some y) (hc:s.cmp=false) (ho:mM y.x y.k=false) (h3:¬300<=y.k) (hm:XN s y.x.xt n.2 s' c) (hcu:0<=c/\c<=u):LA f0 tx u0 (k+1) (nxT (nxT p t (n::ws)) n ws) ws s' (u-c):=by
 obtain⟨f,a,g⟩:=h.go
 have hu:=h.hu
 obtain⟨hf,ha,hk,hkk⟩:=LV hx
 obtain⟨f',a',e⟩:=hm f a
 have htx:=h.etx
 have w1:bE tx (p.length:Int)=(t.2,((nxT p t (n::ws)).length:Int)):=by rw[htx];exact y7 p (n::ws) ht
 have t2:tx=nxT p t (n::ws)++xb (n::ws):=htx.trans (Kw p t (n::ws))
 have w2:bE tx ((nxT p t (n::ws)).length:Int)=(n.2,((nxT (nxT p t (n::ws)) n ws).length:Int)):=by rw[t2];exact y7 _ ws hn
 refine⟨t2.trans (Kw _ n ws),⟨f',a',g.tr (.one ?_)⟩,by omega⟩
 have ek:av f.vm y.x.xt=(y.k,0):=by rw[y5 a ha (by rw[<-hk];exact hkk),hk]
 have ec:∀b,cw (bg f tx b u).f=false:=fun b=>by rw[show cw (bg f tx b u).f=cw f from rfl,uC a];exact hc
 have eo:nE (bg f tx ((nxT p t (n::ws)).length:Int) (max u 0)) t.2=(⟨f',tx,((nxT (nxT p t (n::ws)) n ws).length:Int),u-c,0⟩,true):=by
  rw[show max u 0=u by omega,Ci (x:=y.x) (i:=(dc (ig 167++s.ext) t.2).2.1) (by show dc f.vm.dict t.2=_;rw[wF a];exact hf)]
  rw[VB (l:=bg f tx _ u) ek h3 (by rw[ho];rfl) (by rw[ec];rfl),e tx _ _ u w2 hu.1 hcu.2 hu.2]
 exact XX w1 ht.2.1 eo rfl
def aK7{s s1 s':SS}{r1:List Int}{n:Nat}{xt ip1:Int}(k:Sk s s')(hc:gL s1.cs=gL s.cs)(g1:∀m fu,jg m 4096 (gL s.cs)->um (gL s.cs)->1<=fu/\fu<=300000->Go1 (mw (vS s m) s.d [] [] 16 xt fu) (rS s1 m r1 ip1 (fu-1)))(run:XS n s1 r1 ip1 s' [] 16):XR s xt s' ((n+2:Nat):Int):=by
 intro f h
 have hstd:=h.std
 obtain⟨m,e,hm⟩:=h.ex
 obtain⟨m',hm',hs',g⟩:=run m (by rw[hc];exact hm) (by rw[hc];exact hstd)
 refine⟨⟨vS s' m',s.comp⟩,P4 h hm' hs' k,fun tx a u u0 cu u9=>?_⟩
 subst e
 have g2:=MS (v:=vS s' m') (d:=s'.d) (r:=[]) (f:=[]) (fu:=u-1-n) (At.mach hm') hs'.std ⟨by omega,by omega⟩
 refine(Dj (l:=bg ⟨vS s m,s.comp⟩ tx a u) (xt:=xt) (n:=n+1) (s:=rS s' m' [] 16 (u-1-n)) (GoE.cons (g1 m u hm hstd ⟨by omega,by omega⟩) rfl (by show ¬u<1;omega) (g (u-1) (by omega) (by omega))) g2 rfl (by show ¬u-1-n<1;omega) (by show 0<=u;omega) (by show((n+1:Nat):Int)<=u;omega) rfl).trans ?_
 show(⟨⟨vS s' m',s.comp⟩,tx,a,u-1-n-1,0⟩:ai)=_
 rw[show u-1-(n:Int)-1=u-((n+2:Nat):Int) by omega]
def aN0{s:SS}{xt n:Int}(ha:okA 4096 xt=true)(hq:gL s.cs xt=258)(hb:okA 4096 (xt+16)=true)(hn:gL s.cs (xt+16)=n)(hd:s.d.length<32):XR s xt (s.st (s.d++[n])) 2 :=
 aK7 (s1:=s.st (s.d++[n])) (n:=0) (r1:=[]) (ip1:=16) ⟨rfl,rfl,rfl⟩ rfl (fun m fu hm hs hf=>Y8 (At.mach hm) hf ha hq (.inr (.inl (by omega))) (aN9 (At.mach hm) hb (gY.1 ha).1 hn hd)) .rf
def aK0{s s':SS}{xt ip:Int}{n:Nat}(ha:okA 4096 xt=true)(hq:gL s.cs xt=259)(hb:okA 4096 (xt+16)=true)(hn:gL s.cs (xt+8)=ip)(hd:s.d.length<32)(k:Sk s s')(run:XS n (s.st (s.d++[xt+16])) [16] ip s' [] 16):XR s xt s' ((n+2:Nat):Int) :=
 aK7 (s1:=s.st (s.d++[xt+16])) (r1:=[]++[16]) k rfl (fun m fu hm hs hf=>Y8 (At.mach hm) hf ha hq (.inr (.inl (by omega))) (aN2 (At.mach hm) hb (gY.1 ha).1 hn hd (by decide))) run
def aN6{s s':SS}{r r':List Int}{ip ip':Int}(i:Nat)(hi:i<130)(ha:okA 4096 ip=true)(hx:gL s.cs ip=32+8*(i:Int))(hs:um (gL s.cs)->um (gL s'.cs))(hk:∀m,jg m 4096 (gL s.cs)->∃m',jg m' 4096 (gL s'.cs)/\mB (mz (vS s m) s.d r [] (ip+8)) (32+8*(i:Int)) (i:Int)=mz (vS s' m') s'.d r' [] ip'):XS 1 s r ip s' r' ip':=fun m hm hd=>by
 obtain⟨m',hm',e⟩:=hk m hm
 exact⟨m',hm',hs hd,fun fu h1 h2=>.cons (aE7 (At.mach hm) hd.std i hi ⟨h1,by omega⟩ ha hx e) rfl (by show ¬fu<1;omega) (.nil _)⟩
def aK1{s:SS}{r:List Int}{ip n:Int}(ha:okA 4096 ip=true)(hx:gL s.cs ip=792)(hd:s.d=[n])(hn:ae n)(h0:1368<=s.here)(h8:s.here%8=0)(hr:s.here+8<=4096):XS 1 s r ip {s with d:=[],cs:=(s.here,n)::s.cs,here:=s.here+8} r (ip+8) :=
 aN6 95 (by decide) ha hx (fun h=>h.set (.inl h0)) fun m hm=>by
  have R:jU (vS s m) 4096 (gL s.cs):=⟨At.mach hm,by show 0<=s.here;omega,h8⟩
  have c:=aL6 (n:=n) R (by show s.here+8<=_;exact hr)
  refine⟨stM m s.here n,hm.store hn (gY.2 ⟨by omega,h8,hr⟩),?_⟩
  rw[hd]
  exact Ry (by decide) (by decide) (aM4 c (by show(1:Int)<=32;decide))
def aK5{s:SS}{r:List Int}{ip a x:Int}(ha:okA 4096 ip=true)(hx:gL s.cs ip=112)(hl:s.last=a)(h0:1368<=a)(hb:okA 4096 a=true)(hc:okA 4096 (a+8)=true)(hq:gL s.cs a=257):XS 1 s (r++[x]) ip {s with cs:=(a+8,ip+8)::(a,259)::s.cs} r x :=
 aN6 10 (by decide) ha hx (fun h=>(h.set (.inl h0)).set (.inl (by omega))) fun m hm=>by
  have q:=gY.1 ha
  have qa:=gY.1 hb
  have f259:ae 259:=by unfold ae;omega
  have fip:ae (ip+8):=by unfold ae;omega
  have h1:=hm.store f259 hb
  have h2:=h1.store fip hc
  have p1:ay m a 259=(stM m a 259,0):=hm.put hb
  have p2:ay (stM m a 259) (a+8) (ip+8)=(stM (stM m a 259) (a+8) (ip+8),0):=h1.put hc
  refine⟨stM (stM m a 259) (a+8) (ip+8),h2,?_⟩
  have e:mB (mz (vS s m) s.d (r++[x]) [] (ip+8)) (32+8*((10:Nat):Int)) ((10:Nat):Int)=Dp (mz (vS s m) s.d (r++[x]) [] (ip+8)):=by kernel_rfl
  have ek:av (mk (vS s m) s.d (r++[x]) []) a=(257,0):=X5 (At.mach hm) hb hq (.inr (.inl (by omega)))
  have el:(mz (vS s m) s.d (r++[x]) [] (ip+8)).v.last=a:=hl
  have d1:mY (mz (vS s m) s.d (r++[x]) [] (ip+8)) a 259=mz (vS s (stM m a 259)) s.d (r++[x]) [] (ip+8):=by
   show({cG (mz (vS s m) s.d (r++[x]) [] (ip+8)) (ay m a 259).2 with v:=tb (mk (vS s m) s.d (r++[x]) []) (ay m a 259).1}:VWk)=_
   rw[p1];rfl
  have d2:mY (mz (vS s (stM m a 259)) s.d (r++[x]) [] (ip+8)) (a+8) (ip+8)=mz (vS s (stM (stM m a 259) (a+8) (ip+8))) s.d (r++[x]) [] (ip+8):=by
   show({cG (mz (vS s (stM m a 259)) s.d (r++[x]) [] (ip+8)) (ay (stM m a 259) (a+8) (ip+8)).2 with v:=tb (mk (vS s (stM m a 259)) s.d (r++[x]) []) (ay (stM m a 259) (a+8) (ip+8)).1}:VWk)=_
   rw[p2];rfl
  rw[e]
  unfold Dp
  dsimp only
  rw[el,if_neg (by
   show ¬(a=0\/(av (mk (vS s m) s.d (r++[x]) []) a).2≠0\/_)
   rw[ek]
   rintro(z|z|z)
   ·omega
   ·exact z rfl
   exact z.1 (congrArg Prod.fst ek)),d1]
  rw[show(mz (vS s (stM m a 259)) s.d (r++[x]) [] (ip+8)).v.last=a from hl,CI (n:=a+8) (by omega) (by omega),show(mz (vS s (stM m a 259)) s.d (r++[x]) [] (ip+8)).ip=ip+8 from rfl,d2,UW]
  rfl
def aL7{f f':af}{tx nm:Str}{a a2 u n:Int}{v:VVm}(h:bE tx a=(nm,a2))(h0:nm≠[])(hp:eg f.vm=(n,v,0))(hb:cK {f with vm:=v} nm false [258,0,n]=(f',0)):rY (bg f tx a u) [67,79,78,83,84,65,78,84]=bg f' tx a2 u:=by
 rw[Fk (g:=KA) rfl]
 unfold KA tJ
 have e:mS (bg f tx a u)=(bg {f with vm:=v} tx a u,n):=by
  unfold mS
  rw[show(bg f tx a u).f.vm=f.vm from rfl,hp]
  refine Prod.ext ?_ rfl
  show gC (bg f tx a u) (v,0)=_
  rw[wM rfl];rfl
 rw[e]
 dsimp only
 rw[if_pos (show(bg {f with vm:=v} tx a u).err=0 from rfl)]
 unfold jR
 rw[Qo h h0]
 dsimp only
 rw[if_pos (show(bg {f with vm:=v} tx a2 u).err=0 from rfl),show(bg {f with vm:=v} tx a2 u).f={f with vm:=v} from rfl,hb]
 unfold lx
 rw[Bd (show(bg {f with vm:=v} tx a2 u).err=0 from rfl),if_pos (show(bg {f with vm:=v} tx a2 u).err=0 from rfl)];rfl
def aL9{f0:af}{tx p:Str}{u0 u v:Int}{k:Nat}{t n:Tk}{ws:List Tk}{s:SS}{y:XI}(h:LA f0 tx u0 k p (t::n::ws) s u)(ht:okT t)(hn:okT n)
  (hx:xiS s t.2=some y) (hk:y.k=305/\y.x.flags=0) (hxt:s.comp.xt=0) (hd:s.d=[v]) (hv:ae v) (hr:s.here+24<=4096) (hnm:fy n.2=0) (he:s.ext.length<70):LA f0 tx u0 (k+1) (nxT (nxT p t (n::ws)) n ws) ws ((s.st []).made3 n.2 v) u:=by
 refine WL h ht hn hx (by unfold SS.cmp;rw[hxt];rfl) (by unfold mM;rw[hk.1,hk.2];rfl) (by omega) (name:=[67,79,78,83,84,65,78,84]) (by rw[hk.1];decide +kernel) fun f a=>?_
 have h0:=a.h0
 have h8:=a.h8
 have hs:=a.std
 obtain⟨m,rfl,hm⟩:=a.ex
 obtain⟨m',hm',cr⟩:=aM5 (s:=s.st []) (name:=n.2) hm h0 h8 hr hnm he hv
 refine⟨⟨vS ((s.st []).made3 n.2 v) m',s.comp⟩,⟨⟨m',rfl,hm'⟩,((hs.set (.inl h0)).set (.inl (show(1368:Int)<=s.here+8 by omega))).set (.inl (show(1368:Int)<=s.here+8+8 by omega)),by show 1368<=s.here+8+8+8;omega,by show s.here+8+8+8<=4096;omega,by show(s.here+8+8+8)%8=0;omega,by show(s.ext++[_]).length<=80;rw[List.length_append,List.length_singleton];omega⟩,fun tx a1 a2 u hw=>?_⟩
 refine aL7 hw hn.2.1 (v:=vS (s.st []) m) (n:=v) ?_ (cr s.comp hxt)
 unfold eg
 rw[show(vS s m).d=s.d from rfl,hd];rfl
open Go.RowKit
def aL5{n:Int}{l:List aS}(h:(l.all fun w=>!OK (Ht w.name))=true):(dc (ig 167++l) (dh n 10).1).2.2=false:=by
 rw[az9 _ _ _ fun x hx=>aM7 (by have:=List.all_eq_true.1 h x hx;simpa using this)];exact aM8 (am3 n)
def aJ6{s:SS}{n:Int}(hn:ae n)(h:(s.ext.all fun w=>!OK (Ht w.name))=true)(hb:gL s.cs 0=10)(hc:s.cmp=false)(hd:s.d.length<32):SW s (dh n 10).1 {s with d:=s.d++[n]} 0 :=
 Qq (aL5 h) (by rw[hb];exact ZQ n 10 (oT rfl) hn) hc hd
def aJ5(n:Int):okT (tk (dh n 10).1):=ar3 (oT rfl)
def csF:List (Int×Int):=[(8,0),(1416,32),(1408,344),(1400,696),(1392,112),(1384,792),(1376,1088),(8,-1),(1368,256)]
def sF0:SS:=⟨[],csF,1424,[⟨[65,68,68,69,82],1368,0⟩],0,[],kN⟩
def sF1(n:Int):SS:=⟨[],(1432,1400)::(1424,259)::(1440,n)::(1432,0)::(1424,257)::csF,1448,[⟨[65,68,68,69,82],1368,0⟩,⟨[111,110,101],1424,0⟩],1424,[],kN⟩
def sF2(n m:Int):SS:=⟨[],(1456,1400)::(1448,259)::(1464,m)::(1456,0)::(1448,257)::(sF1 n).cs,1472,[⟨[65,68,68,69,82],1368,0⟩,⟨[111,110,101],1424,0⟩,⟨[116,119,111],1448,0⟩],1448,[],kN⟩
def yF:XI:=⟨⟨[65,68,68,69,82],1368,0⟩,256⟩
def lnF(n m k:Int):List Tk:=[tk [58],tk [65,68,68,69,82],tk [67,82,69,65,84,69],tk [44],tk [68,79,69,83,62],tk [64],tk [43],tk [59],tk (dh n 10).1,tk [65,68,68,69,82],tk [111,110,101],tk (dh m 10).1,tk [65,68,68,69,82],tk [116,119,111],tk (dh k 10).1,tk [111,110,101],tk (dh k 10).1,tk [116,119,111]]
def aN5(n m k:Int):∀t∈lnF n m k,okT t:=fun t ht=>by
 unfold lnF at ht
 simp only[List.mem_cons,List.not_mem_nil,or_false]at ht
 rcases ht with rfl|rfl|rfl|rfl|rfl|rfl|rfl|rfl|rfl|rfl|rfl|rfl|rfl|rfl|rfl|rfl|rfl|rfl<;>first|exact wS rfl|exact aJ5 _
def aM0(n m k:Int)(hn:ae n)(hm:ae m)(hk:ae k):∃f u,At f {sF2 n m with d:=[wrap64 (k+n),wrap64 (k+m)]} /\
  m9 fO (xb (lnF n m k)) 200=(f,u,0):=by
 have h0:LA fO (xb (lnF n m k)) 200 0 [] [tk [58],tk [65,68,68,69,82],tk [67,82,69,65,84,69],tk [44],tk [68,79,69,83,62],tk [64],tk [43],tk [59],tk (dh n 10).1,tk [65,68,68,69,82],tk [111,110,101],tk (dh m 10).1,tk [65,68,68,69,82],tk [116,119,111],tk (dh k 10).1,tk [111,110,101],tk (dh k 10).1,tk [116,119,111]] sO 200:=.start aI1 (oT rfl)
 have h1:=F6 h0 (wS rfl) (wS rfl) (y:=⟨⟨[58],1072,0⟩,300⟩) (by kernel_rfl) ⟨rfl,rfl⟩ rfl (oT rfl) rfl (oT rfl)
 obtain⟨q,h2⟩:=LA.words ([[67,82,69,65,84,69],[44],[68,79,69,83,62],[64],[43],[59]].map tk) (s':=sF0) h1 (Lb rfl) (by kernel_rfl)
 have h3:=LA.step h2 (aJ5 n) (aJ6 hn rfl rfl rfl (oT rfl)) (oT rfl)
 have r1:XS 2 (SS.aw2 {sF0 with d:=[n]} [111,110,101]) [16] (1368+16) (sF1 n) [] 16:=(aK1 (n:=n) rfl (by kernel_rfl) rfl hn (oT rfl) (oT rfl) (oT rfl)).tr (aK5 (r:=[]) (a:=1424) rfl (by kernel_rfl) rfl (oT rfl) rfl rfl (by kernel_rfl))
 have h4:=aK3 h3 (wS rfl) (wS rfl) (y:=yF) (c:=5) (by kernel_rfl) rfl rfl (oT rfl) (aK2 (n:=2) (xt:=1368) rfl (by kernel_rfl) rfl (by kernel_rfl) (oT rfl) rfl (oT rfl) (oT rfl) rfl r1 rfl (oT rfl)) (oT rfl)
 have h5:=LA.step h4 (aJ5 m) (aJ6 hm rfl rfl rfl (oT rfl)) (oT rfl)
 have r2:XS 2 (SS.aw2 {sF1 n with d:=[m]} [116,119,111]) [16] (1368+16) (sF2 n m) [] 16:=(aK1 (n:=m) rfl (by kernel_rfl) rfl hm (oT rfl) (oT rfl) (oT rfl)).tr (aK5 (r:=[]) (a:=1448) rfl (by kernel_rfl) rfl (oT rfl) rfl rfl (by kernel_rfl))
 have h6:=aK3 h5 (wS rfl) (wS rfl) (y:=yF) (c:=5) (by kernel_rfl) rfl rfl (oT rfl) (aK2 (n:=2) (xt:=1368) rfl (by kernel_rfl) rfl (by kernel_rfl) (oT rfl) rfl (oT rfl) (oT rfl) rfl r2 rfl (oT rfl)) (oT rfl)
 have h7:=LA.step h6 (aJ5 k) (aJ6 hk rfl rfl rfl (oT rfl)) (oT rfl)
 have a1:XS 1 {sF2 n m with d:=[k,1440]} [16] 1400 {sF2 n m with d:=[k,n]} [16] 1408:=at8 83 [k,n] (oT rfl) rfl (by kernel_rfl) (fun m' hm'=>aN4 (by rw[show(vS {sF2 n m with d:=[k,1440]} m').mem=m' from rfl,hm'.cell 1440 (oT rfl) (oT rfl) (oT rfl)];rfl) rfl)
 have a2:XS 1 {sF2 n m with d:=[k,n]} [16] 1408 {sF2 n m with d:=[wrap64 (k+n)]} [16] 1416:=at8 39 [wrap64 (k+n)] (oT rfl) rfl (by kernel_rfl) (fun m' _=>by kernel_rfl)
 have a3:XS 1 {sF2 n m with d:=[wrap64 (k+n)]} ([]++[16]) 1416 {sF2 n m with d:=[wrap64 (k+n)]} [] 16:=VK (r:=[]) rfl (by kernel_rfl)
 have h8:=LA.step (s':={sF2 n m with d:=[wrap64 (k+n)]}) h7 (wS rfl) (LC (y:=⟨⟨[111,110,101],1424,0⟩,259⟩) (c:=5) (by kernel_rfl) rfl rfl (oT rfl) (aK0 (ip:=1400) (n:=3) rfl (by kernel_rfl) rfl (by kernel_rfl) (oT rfl) ⟨rfl,rfl,rfl⟩ ((a1.tr a2).tr a3))) (oT rfl)
 have h9:=LA.step h8 (aJ5 k) (aJ6 hk rfl rfl rfl (oT rfl)) (oT rfl)
 have b1:XS 1 {sF2 n m with d:=[wrap64 (k+n),k,1464]} [16] 1400 {sF2 n m with d:=[wrap64 (k+n),k,m]} [16] 1408:=at8 83 [wrap64 (k+n),k,m] (oT rfl) rfl (by kernel_rfl) (fun m' hm'=>aM6 (by rw[show(vS {sF2 n m with d:=[wrap64 (k+n),k,1464]} m').mem=m' from rfl,hm'.cell 1464 (oT rfl) (oT rfl) (oT rfl)];rfl) rfl)
 have b2:XS 1 {sF2 n m with d:=[wrap64 (k+n),k,m]} [16] 1408 {sF2 n m with d:=[wrap64 (k+n),wrap64 (k+m)]} [16] 1416:=at8 39 [wrap64 (k+n),wrap64 (k+m)] (oT rfl) rfl (by kernel_rfl) (fun m' _=>by kernel_rfl)
 have b3:XS 1 {sF2 n m with d:=[wrap64 (k+n),wrap64 (k+m)]} ([]++[16]) 1416 {sF2 n m with d:=[wrap64 (k+n),wrap64 (k+m)]} [] 16:=VK (r:=[]) rfl (by kernel_rfl)
 have hA:=LA.step (s':={sF2 n m with d:=[wrap64 (k+n),wrap64 (k+m)]}) h9 (wS rfl) (LC (y:=⟨⟨[116,119,111],1448,0⟩,259⟩) (c:=5) (by kernel_rfl) rfl rfl (oT rfl) (aK0 (ip:=1400) (n:=3) rfl (by kernel_rfl) rfl (by kernel_rfl) (oT rfl) ⟨rfl,rfl,rfl⟩ ((b1.tr b2).tr b3))) (oT rfl)
 have hl:(lnF n m k).length<=(xb (lnF n m k)).length:=aK6 _ (aN5 n m k)
 obtain⟨f,a,e⟩:=hA.free (Nat.le_trans (m:=18) (Nat.le_of_ble_eq_true rfl) (Nat.le_trans hl (Nat.le_succ _)))
 exact⟨f,_,a,e⟩
def csG:List (Int×Int):=[(8,0),(1408,32),(1400,696),(1392,112),(1384,792),(1376,1088),(8,-1),(1368,256)]
def sC0:SS:=⟨[],csG,1416,[⟨[67,79,78],1368,0⟩],0,[],kN⟩
def sC1(n:Int):SS:=⟨[],(1424,1400)::(1416,259)::(1432,n)::(1424,0)::(1416,257)::csG,1440,[⟨[67,79,78],1368,0⟩,⟨[120],1416,0⟩],1416,[],kN⟩
def sC2(n:Int):SS:=⟨[],(1456,n)::(1448,0)::(1440,258)::(sC1 n).cs,1464,[⟨[67,79,78],1368,0⟩,⟨[120],1416,0⟩,⟨[121],1440,0⟩],1416,[],kN⟩
def lnG(n:Int):List Tk:=[tk [58],tk [67,79,78],tk [67,82,69,65,84,69],tk [44],tk [68,79,69,83,62],tk [64],tk [59],tk (dh n 10).1,tk [67,79,78],tk [120],tk (dh n 10).1,tk [67,79,78,83,84,65,78,84],tk [121],tk [120],tk [121],tk [120],tk [51],tk [39,81,39],tk [68,82,79,80],tk [68,82,79,80]]
def aN1(n:Int):∀t∈lnG n,okT t:=fun t ht=>by
 unfold lnG at ht
 simp only[List.mem_cons,List.not_mem_nil,or_false]at ht
 rcases ht with rfl|rfl|rfl|rfl|rfl|rfl|rfl|rfl|rfl|rfl|rfl|rfl|rfl|rfl|rfl|rfl|rfl|rfl|rfl|rfl<;>first|exact wS rfl|exact aJ5 _
def aM2(n:Int)(hn:ae n):∃f u,At f {sC2 n with d:=[n,n,n]} /\
  m9 fO (xb (lnG n)) 200=(f,u,0):=by
 have h0:LA fO (xb (lnG n)) 200 0 [] [tk [58],tk [67,79,78],tk [67,82,69,65,84,69],tk [44],tk [68,79,69,83,62],tk [64],tk [59],tk (dh n 10).1,tk [67,79,78],tk [120],tk (dh n 10).1,tk [67,79,78,83,84,65,78,84],tk [121],tk [120],tk [121],tk [120],tk [51],tk [39,81,39],tk [68,82,79,80],tk [68,82,79,80]] sO 200:=.start aI1 (oT rfl)
 have h1:=F6 h0 (wS rfl) (wS rfl) (y:=⟨⟨[58],1072,0⟩,300⟩) (by kernel_rfl) ⟨rfl,rfl⟩ rfl (oT rfl) rfl (oT rfl)
 obtain⟨q,h2⟩:=LA.words ([[67,82,69,65,84,69],[44],[68,79,69,83,62],[64],[59]].map tk) (s':=sC0) h1 (Lb rfl) (by kernel_rfl)
 have h3:=LA.step h2 (aJ5 n) (aJ6 hn rfl rfl rfl (oT rfl)) (oT rfl)
 have r1:XS 2 (SS.aw2 {sC0 with d:=[n]} [120]) [16] (1368+16) (sC1 n) [] 16:=(aK1 (n:=n) rfl (by kernel_rfl) rfl hn (oT rfl) (oT rfl) (oT rfl)).tr (aK5 (r:=[]) (a:=1416) rfl (by kernel_rfl) rfl (oT rfl) rfl rfl (by kernel_rfl))
 have h4:=aK3 h3 (wS rfl) (wS rfl) (y:=⟨⟨[67,79,78],1368,0⟩,256⟩) (c:=5) (by kernel_rfl) rfl rfl (oT rfl) (aK2 (n:=2) (xt:=1368) rfl (by kernel_rfl) rfl (by kernel_rfl) (oT rfl) rfl (oT rfl) (oT rfl) rfl r1 rfl (oT rfl)) (oT rfl)
 have h5:=LA.step h4 (aJ5 n) (aJ6 hn rfl rfl rfl (oT rfl)) (oT rfl)
 have h6:=aL9 (v:=n) h5 (wS rfl) (wS rfl) (y:=⟨⟨[67,79,78,83,84,65,78,84],1112,0⟩,305⟩) (by kernel_rfl) ⟨rfl,rfl⟩ rfl rfl hn (oT rfl) rfl (oT rfl)
 have a1:XS 1 {sC2 n with d:=[1432]} [16] 1400 {sC2 n with d:=[n]} [16] 1408:=at8 83 [n] (oT rfl) rfl (by kernel_rfl) (fun m' hm'=>aN3 (by rw[show(vS {sC2 n with d:=[1432]} m').mem=m' from rfl,hm'.cell 1432 (oT rfl) (oT rfl) (oT rfl)];rfl) rfl)
 have a3:XS 1 {sC2 n with d:=[n]} ([]++[16]) 1408 {sC2 n with d:=[n]} [] 16:=VK (r:=[]) rfl (by kernel_rfl)
 have h7:=LA.step (s':={sC2 n with d:=[n]}) h6 (wS rfl) (LC (y:=⟨⟨[120],1416,0⟩,259⟩) (c:=4) (by kernel_rfl) rfl rfl (oT rfl) (aK0 (s:=sC2 n) (ip:=1400) (n:=2) rfl (by kernel_rfl) rfl (by kernel_rfl) (oT rfl) ⟨rfl,rfl,rfl⟩ (a1.tr a3))) (oT rfl)
 have h8:=LA.step (s':={sC2 n with d:=[n,n]}) h7 (wS rfl) (LC (y:=⟨⟨[121],1440,0⟩,258⟩) (c:=2) (by kernel_rfl) rfl rfl (oT rfl) (aN0 (n:=n) rfl (by kernel_rfl) rfl (by kernel_rfl) (oT rfl))) (oT rfl)
 have b1:XS 1 {sC2 n with d:=[n,n,1432]} [16] 1400 {sC2 n with d:=[n,n,n]} [16] 1408:=at8 83 [n,n,n] (oT rfl) rfl (by kernel_rfl) (fun m' hm'=>aM6 (by rw[show(vS {sC2 n with d:=[n,n,1432]} m').mem=m' from rfl,hm'.cell 1432 (oT rfl) (oT rfl) (oT rfl)];rfl) rfl)
 have b3:XS 1 {sC2 n with d:=[n,n,n]} ([]++[16]) 1408 {sC2 n with d:=[n,n,n]} [] 16:=VK (r:=[]) rfl (by kernel_rfl)
 have h9:=LA.step (s':={sC2 n with d:=[n,n,n]}) h8 (wS rfl) (LC (y:=⟨⟨[120],1416,0⟩,259⟩) (c:=4) (by kernel_rfl) rfl rfl (oT rfl) (aK0 (s:={sC2 n with d:=[n,n]}) (ip:=1400) (n:=2) rfl (by kernel_rfl) rfl (by kernel_rfl) (oT rfl) ⟨rfl,rfl,rfl⟩ (b1.tr b3))) (oT rfl)
 have hA:=LA.step h9 (wS rfl) (Qq (n:=3) (by kernel_rfl) (by kernel_rfl) rfl (oT rfl)) (oT rfl)
 have hB:=LA.step hA (wS rfl) (Qq (n:=81) (by kernel_rfl) (by kernel_rfl) rfl (oT rfl)) (oT rfl)
 have hC:=LA.step (s':={sC2 n with d:=[n,n,n,3]}) hB (wS rfl) (LC (y:=⟨⟨[68,82,79,80],224,0⟩,24⟩) (c:=2) (by kernel_rfl) rfl rfl (oT rfl) (Lw 24 (oT rfl) rfl ⟨rfl,rfl,rfl⟩ (fun m _=>by kernel_rfl))) (oT rfl)
 have hD:=LA.step (s':={sC2 n with d:=[n,n,n]}) hC (wS rfl) (LC (y:=⟨⟨[68,82,79,80],224,0⟩,24⟩) (c:=2) (by kernel_rfl) rfl rfl (oT rfl) (Lw 24 (oT rfl) rfl ⟨rfl,rfl,rfl⟩ (fun m _=>by kernel_rfl))) (oT rfl)
 have hl:(lnG n).length<=(xb (lnG n)).length:=aK6 _ (aN1 n)
 obtain⟨f,a,e⟩:=hD.free (Nat.le_trans (m:=20) (Nat.le_of_ble_eq_true rfl) (Nat.le_trans hl (Nat.le_succ _)))
 exact⟨f,_,a,e⟩
open Go.WideShapes
def aL0(a:Addr)(n m k:Int)(f0 fF fG:af)(uF uG:Int)(A B C:Str)(sh:PG a 9 [] (boo true))(n0:ab prog 10 [] (bS f0))(hs:A.length<=100/\B.length<=100/\C.length<=100)
  (p1:ab prog 18 [i64 n,i64 10] (ng (A,0))) (p2:ab prog 18 [i64 m,i64 10] (ng (B,0))) (p3:ab prog 18 [i64 k,i64 10] (ng (C,0)))
  (pF:PG a 12 [bS f0,str ([58,32,65,68,68,69,82,32,67,82,69,65,84,69,32,44,32,68,79,69,83,62,32,64,32,43,32,59,32]++A++[32,65,68,68,69,82,32,111,110,101,32]++B++[32,65,68,68,69,82,32,116,119,111,32]++C++[32,111,110,101,32]++C++[32,116,119,111]),i64 200] (vB (fF,uF,0)))
  (pG:PG a 12 [bS f0,str ([58,32,67,79,78,32,67,82,69,65,84,69,32,44,32,68,79,69,83,62,32,64,32,59,32]++A++[32,67,79,78,32,120,32]++A++[32,67,79,78,83,84,65,78,84,32,121,32,120,32,121,32,120,32,51,32,39,81,39,32,68,82,79,80,32,68,82,79,80]),i64 200] (vB (fG,uG,0)))
  (dF:fF.vm.d=[IntKind.i64.wrap (k+n),IntKind.i64.wrap (k+m)]) (dG:fG.vm.d=[n,n,n]):∀(H:List Ob),(∀o∈hJ a,∃k:Nat,H[k]?=some o)->HC prog 6 [i64 n,i64 m,i64 k] H (boo true) H:=by
 refine it (gj a) tG (rs:=[.tmp 6]) func6 rfl rfl rfl (by simp) (by simp) (fun B=>?_)
 refine zu1 ?_
 refine z8 ?_
 refine zc rfl func9 (sh _ (cp 0 1 rfl rfl)) ?_
 refine zs1 ?_
 refine zp1 ?_
 refine zc rfl func18 ((p1) _) ?_
 refine zs5 ?_
 refine zp1 ?_
 refine zc rfl func18 ((p2) _) ?_
 refine zs5 ?_
 refine zp1 ?_
 refine zc rfl func18 ((p3) _) ?_
 refine zs5 ?_
 refine z8 ?_
 refine zc rfl func10 ((n0) _) ?_
 refine z1 ?_
 refine z2 ?_ (q:=(by simp only[ew];((simp_all;omega))))
 refine Wa 39 rfl (JL _ _) ?_
 refine z2 ?_ (q:=(by simp only[ew];((simp_all;omega))))
 refine Wa 40 rfl (JL _ _) ?_
 refine z1 ?_
 refine z2 ?_ (q:=(by simp only[ew];((simp_all;omega))))
 refine Wa 42 rfl (JL _ _) ?_
 refine z2 ?_ (q:=(by simp only[ew];((simp_all;omega))))
 refine Wa 43 rfl (JL _ _) ?_
 refine z1 ?_
 refine z2 ?_ (q:=(by simp only[ew];((simp_all;omega))))
 refine Wa 45 rfl (JL _ _) ?_
 refine z2 ?_ (q:=(by simp only[ew];((simp_all;omega))))
 refine Wa 46 rfl (JL _ _) ?_
 refine z1 ?_
 refine z2 ?_ (q:=(by simp only[ew];((simp_all;omega))))
 refine Wa 48 rfl (JL _ _) ?_
 refine z2 ?_ (q:=(by simp only[ew];((simp_all;omega))))
 refine Wa 49 rfl (JL _ _) ?_
 refine zc rfl func12 (pF _ (cp 0 1 rfl rfl)) ?_
 refine zy5 ?_
 refine zs3 ?_
 refine z8 ?_
 refine zc rfl func10 ((n0) _) ?_
 refine z1 ?_
 refine z2 ?_ (q:=(by simp only[ew];((simp_all;omega))))
 refine Wa 57 rfl (JL _ _) ?_
 refine z2 ?_ (q:=(by simp only[ew];((simp_all;omega))))
 refine Wa 58 rfl (JL _ _) ?_
 refine z1 ?_
 refine z2 ?_ (q:=(by simp only[ew];((simp_all;omega))))
 refine Wa 60 rfl (JL _ _) ?_
 refine z2 ?_ (q:=(by simp only[ew];((simp_all;omega))))
 refine Wa 61 rfl (JL _ _) ?_
 refine zc rfl func12 (pG _ (cp 0 1 rfl rfl)) ?_
 refine zy5 ?_
 refine zs3 ?_
 refine zp2 ?_
 refine gN 67 rfl (by rfl) ?_
 refine zy4 ?_
 refine gN 71 rfl (by rfl) ?_
 refine zy5 ?_
 refine zy5 ?_
 refine Wa 81 rfl (bsL ap [_,_] rfl rfl) ?_
 refine zc rfl func20 ((YG dF (Nat.le_of_ble_eq_true rfl)) _) ?_
 refine zy2 ?_
 refine gN 84 rfl (by rfl) ?_
 refine zy4 ?_
 refine gN 88 rfl (by rfl) ?_
 refine zy5 ?_
 refine zy2 ?_
 refine Wa 95 rfl (bsL ap [_,_,_] rfl rfl) ?_
 refine zc rfl func20 ((YG dG (Nat.le_of_ble_eq_true rfl)) _) ?_
 refine zs2 ?_
 refine zR ?_
 rfl
def aJ7(a:Addr)(n m k:Int)(hn:ae n)(hm:ae m)(hk:ae k):∀(H:List Ob),(∀o∈hJ a,∃k:Nat,H[k]?=some o)->HC prog 6 [i64 n,i64 m,i64 k] H (boo true) H:=by
 have l1:=as5 n 10
 have l2:=as5 m 10
 have l3:=as5 k 10
 have p1:=aH3 n 10 hn
 have p2:=aH3 m 10 hm
 have p3:=aH3 k 10 hk
 rw[aC9 (b:=10) (by decide)]at p1 p2 p3
 obtain⟨fF,uF,aF,eF⟩:=aM0 n m k hn hm hk
 obtain⟨fG,uG,aG,eG⟩:=aM2 n hn
 have tF:xb (lnF n m k)=[58,32,65,68,68,69,82,32,67,82,69,65,84,69,32,44,32,68,79,69,83,62,32,64,32,43,32,59,32]++(dh n 10).1++[32,65,68,68,69,82,32,111,110,101,32]++(dh m 10).1++[32,65,68,68,69,82,32,116,119,111,32]++(dh k 10).1++[32,111,110,101,32]++(dh k 10).1++[32,116,119,111]:=by
  simp only[lnF,lnG,xb,tk,List.nil_append,List.append_assoc,List.cons_append]
 have tG:xb (lnG n)=[58,32,67,79,78,32,67,82,69,65,84,69,32,44,32,68,79,69,83,62,32,64,32,59,32]++(dh n 10).1++[32,67,79,78,32,120,32]++(dh n 10).1++[32,67,79,78,83,84,65,78,84,32,121,32,120,32,121,32,120,32,51,32,39,81,39,32,68,82,79,80,32,68,82,79,80]:=by
  simp only[lnF,lnG,xb,tk,List.nil_append,List.append_assoc,List.cons_append]
 rw[tF]at eF
 rw[tG]at eG
 obtain⟨pF,_⟩:=Fg a okO (by simp only[List.length_append,List.length_cons,List.length_nil];omega) (by decide) eF
 obtain⟨pG,_⟩:=Fg a okO (by simp only[List.length_append,List.length_cons,List.length_nil];omega) (by decide) eG
 exact aL0 a n m k fO fF fG uF uG _ _ _ (am1 a) N3 ⟨by omega,by omega,by omega⟩ p1 p2 p3 pF pG (by rw[(Jc aF).2.1,bU,bU]) (Jc aG).2.1
def walk_OuterDefines(a:Addr)(v0 v1 v2:Value)(w:World)(h0:w.cell? ⟨1,0,none⟩=some (haltV a))(h1:w.cell? ⟨0,0,none⟩=some etV)(r0:YV w 3 v0)(r1:YV w 3 v1)(r2:YV w 3 v2):
  Calls prog 6 #[v0,v1,v2] w fun e w'=>e=.returned (.bool true)/\Below w.heap.size w w':=by
 obtain⟨n,hn,p0⟩:=am6 r0
 obtain⟨m,hm,p1⟩:=am6 r1
 obtain⟨k,hk,p2⟩:=am6 r2
 exact aj6 (args:=[i64 n,i64 m,i64 k]) (by simp[aw,aU]) (aJ7 a n m k hn hm hk) h0 h1 (aj.2 ⟨p0,aj.2 ⟨p1,aj.2 ⟨p2,az.2 rfl⟩⟩⟩)
end Go.Proofs.YtjcminooghmpeaaGreatDoor
