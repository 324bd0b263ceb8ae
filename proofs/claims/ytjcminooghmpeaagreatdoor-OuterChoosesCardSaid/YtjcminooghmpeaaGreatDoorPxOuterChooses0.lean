import Derived.Test.YtjcminooghmpeaaGreatDoorPk12
set_option linter.all false
set_option maxRecDepth 100000
set_option maxHeartbeats 40000000
open Go.Proofs.Tryz
namespace Go.Proofs.YtjcminooghmpeaaGreatDoor
open Go.RowKit
variable {v : VVm} {L : Nat} {g : Int -> Int} {d r : List Int} {f : List jt} {ip fu xt q x n : Int}
def aK8:bo (d++[x])=(x,d,0):=by
 unfold bo
 rw[if_neg (by simp)]
 simp
def aJ7:gq (mz v (d++[x]) r f ip)=(mz v d r f ip,x):=by
 have e:eg (mk v (d++[x]) r f)=(x,mk v d r f,0):=by
  show((bo (d++[x])).1,{mk v (d++[x]) r f with d:=(bo (d++[x])).2.1},(bo (d++[x])).2.2)=_
  rw[aK8];rfl
 show(({cG (mz v (d++[x]) r f ip) (eg (mk v (d++[x]) r f)).2.2 with v:=(eg (mk v (d++[x]) r f)).2.1}:VWk),(eg (mk v (d++[x]) r f)).1)=_
 rw[e];rfl
def aL0:lf (mz v d (r++[x]) f ip) 0=(mz v d (r++[x]) f ip,x):=by
 unfold lf
 rw[if_neg (by show ¬((r++[x]).length:Int)<=0;simp only[List.length_append,List.length_singleton];omega)]
 show(mz v d (r++[x]) f ip,(r++[x]).getD ((r++[x]).length-1-0) 0)=_
 simp
def aM9{y:Int}:lf (mz v d (r++[y]++[x]) f ip) 1=(mz v d (r++[y]++[x]) f ip,y):=by
 unfold lf
 rw[if_neg (by show ¬((r++[y]++[x]).length:Int)<=1;simp;omega)]
 show(mz v d (r++[y]++[x]) f ip,(r++[y]++[x]).getD ((r++[y]++[x]).length-1-1) 0)=_
 simp
def aL2(M:mX v L g)(h:okA L ip=true):dTo (mz v d r f ip)=mz v d r f (g ip):=by
 show({(bu (mz v d r f ip) ip).1 with ip:=(bu (mz v d r f ip) ip).2}:VWk)=_
 rw[Rr M h];rfl
section
variable {d' r' : List Int} {f' : List jt} {v' : VVm} {ip' w : Int}
end
def aN7(M:mX v L g)(h:okA L ip=true)(hn:g ip=n)(hd:d.length<32):mB (mz v d r f ip) xt 1=mz v (d++[n]) r f (ip+8):=by
 have e:mB (mz v d r f ip) xt 1=jW (jp (bu (mz v d r f ip) ip).1 (bu (mz v d r f ip) ip).2):=by kernel_rfl
 rw[e,Rr M h,hn]
 dsimp only
 rw[aC6 M hd,VW M h]
def aN2(M:mX v L g)(h:okA L ip=true){l:Int}(hl:x=l):mB (mz v (d++[l]++[x]) r f ip) xt 5=mz v d r f (g ip):=by
 have e:mB (mz v (d++[l]++[x]) r f ip) xt 5=(let t:=wU (mz v (d++[l]++[x]) r f ip);if t.2.1=t.2.2 then dTo t.1 else jW (ey (ey t.1 t.2.2) t.2.1)):=by kernel_rfl
 have t:wU (mz v (d++[l]++[x]) r f ip)=(mz v d r f ip,x,l):=by
  unfold wU;rw[aJ7];dsimp only;rw[aJ7]
 rw[e,t];dsimp only;rw[if_pos hl,aL2 M h]
def aN4(M:mX v L g)(h:okA L ip=true){l:Int}(hl:x≠l)(hr:r.length+1<32):mB (mz v (d++[l]++[x]) r f ip) xt 5=mz v d (r++[l]++[x]) f (ip+8):=by
 have e:mB (mz v (d++[l]++[x]) r f ip) xt 5=(let t:=wU (mz v (d++[l]++[x]) r f ip);if t.2.1=t.2.2 then dTo t.1 else jW (ey (ey t.1 t.2.2) t.2.1)):=by kernel_rfl
 have t:wU (mz v (d++[l]++[x]) r f ip)=(mz v d r f ip,x,l):=by
  unfold wU;rw[aJ7];dsimp only;rw[aJ7]
 rw[e,t];dsimp only;rw[if_neg hl,Sp M (by omega),Sp M (by simp;omega),VW M h]
def aL5{l:Int}(M:mX v L g)(h:okA L ip=true)(hr:r.length+1<32):mB (mz v d (r++[l]++[x]) f ip) xt 6=if (ox x l 1).2 then mz v d r f (ip+8)else mz v d (r++[l]++[(ox x l 1).1]) f (g ip):=by
 have e:mB (mz v d (r++[l]++[x]) f ip) xt 6=Ad (mz v d (r++[l]++[x]) f ip) 1:=by kernel_rfl
 rw[e]
 unfold Ad
 dsimp only
 rw[aM9]
 dsimp only
 rw[aL0]
 dsimp only
 rw[if_neg (show ¬(mz v d (r++[l]++[x]) f ip).bad≠0 from fun h=>h rfl),UW]
 dsimp only
 by_cases hs:(ox x l 1).2=true
 ·rw[if_pos hs,if_pos hs,UW,VW M h]
 rw[if_neg hs,if_neg hs,Sp M (by simp;omega),aL2 M h]
def k_I(M:mX v L g)(hd:d.length<32):mB (mz v d (r++[x]) f ip) xt 15=mz v (d++[x]) (r++[x]) f ip:=by
 have e:mB (mz v d (r++[x]) f ip) xt 15=jp (lf (mz v d (r++[x]) f ip) 0).1 (lf (mz v d (r++[x]) f ip) 0).2:=by kernel_rfl
 rw[e,aL0];dsimp only;rw[aC6 M hd]
section
variable {d' r' : List Int} {f' : List jt} {v' : VVm} {ip' w : Int}
end
open Go.RowKit
section
variable {f0 : af} {tx p : Str} {u0 u c : Int} {k : Nat} {t : Tk} {ws : List Tk} {s s' : SS}
def aL3:∀(ws:List Tk),(∀t∈ws,okT t)->ws.length<=(xb ws).length
 | [],_=>Nat.le_refl _
 | [t],h=>by
  have:=(h t (List.mem_cons_self ..)).2.1
  show 1<=(t.1++t.2).length
  have:=List.length_pos_iff.2 this
  rw[List.length_append];omega
 | t::v::ws,h=>by
  have ih:=aL3 (v::ws) fun x hx=>h x (List.mem_cons_of_mem _ hx)
  show(v::ws).length+1<=(t.1++(t.2++(32::xb (v::ws)))).length
  simp only[List.length_append,List.length_cons]at ih ⊢
  omega
end
open Go.RowKit
section
variable {v : VVm} {L : Nat} {g : Int -> Int} {d r : List Int} {f : List jt} {ip xt x : Int}
def aN9(M:mX v L g)(h:okA L ip=true):mB (mz v d r f ip) xt 2=mz v d r f (g ip):=by
 have e:mB (mz v d r f ip) xt 2=dTo (mz v d r f ip):=by kernel_rfl
 rw[e,aL2 M h]
def aN5(M:mX v L g)(h:okA L ip=true)(hx:x=0):mB (mz v (d++[x]) r f ip) xt 3=mz v d r f (g ip):=by
 have e:mB (mz v (d++[x]) r f ip) xt 3=(if (gq (mz v (d++[x]) r f ip)).2=0 then dTo (gq (mz v (d++[x]) r f ip)).1 else jW (gq (mz v (d++[x]) r f ip)).1):=by kernel_rfl
 rw[e,aJ7];dsimp only;rw[if_pos hx,aL2 M h]
def aN3(M:mX v L g)(h:okA L ip=true)(hx:x≠0):mB (mz v (d++[x]) r f ip) xt 3=mz v d r f (ip+8):=by
 have e:mB (mz v (d++[x]) r f ip) xt 3=(if (gq (mz v (d++[x]) r f ip)).2=0 then dTo (gq (mz v (d++[x]) r f ip)).1 else jW (gq (mz v (d++[x]) r f ip)).1):=by kernel_rfl
 rw[e,aJ7];dsimp only;rw[if_neg hx,VW M h]
end
section
variable {s s' s'' : SS} {r r' r'' : List Int} {ip ip' ip'' x n : Int} {d d' : List Int}
def aJ5(ha:okA 4096 ip=true)(hx:gL s.cs ip=40)(hb:okA 4096 (ip+8)=true)(hn:gL s.cs (ip+8)=n)(hd:s.d.length<32):XS 1 s r ip (s.st (s.d++[n])) r (ip+16) :=
 as2 1 (by decide) ha hx (fun m hm=>by have:=aN7 (At.mach hm) hb hn hd (r:=r) (f:=[]) (xt:=32+8*((1:Nat):Int));rw[show ip+8+8=ip+16 by omega]at this;exact this) rfl
def aL1(ha:okA 4096 ip=true)(hx:gL s.cs ip=48)(hb:okA 4096 (ip+8)=true)(hn:gL s.cs (ip+8)=n):XS 1 s r ip s r n :=
 as2 2 (by decide) ha hx (fun m hm=>by rw[<-hn];exact aN9 (At.mach hm) hb) rfl
def aJ9(ha:okA 4096 ip=true)(hx:gL s.cs ip=56)(hb:okA 4096 (ip+8)=true)(hn:gL s.cs (ip+8)=n)(hs:s.d=d++[x])(h0:x=0):XS 1 s r ip (s.st d) r n :=
 as2 3 (by decide) ha hx (fun m hm=>by rw[<-hn,hs];exact aN5 (At.mach hm) hb h0) rfl
def aK0(ha:okA 4096 ip=true)(hx:gL s.cs ip=56)(hb:okA 4096 (ip+8)=true)(hs:s.d=d++[x])(h0:x≠0):XS 1 s r ip (s.st d) r (ip+16) :=
 as2 3 (by decide) ha hx (fun m hm=>by rw[hs];have:=aN3 (At.mach hm) hb h0 (d:=d) (r:=r) (f:=[]) (xt:=32+8*((3:Nat):Int));rw[show ip+8+8=ip+16 by omega]at this;exact this) rfl
def aM6(ha:okA 4096 ip=true)(hx:gL s.cs ip=72)(hb:okA 4096 (ip+8)=true)(hn:gL s.cs (ip+8)=n){l:Int}(hs:s.d=d++[l]++[x])(h0:x=l):XS 1 s r ip (s.st d) r n :=
 as2 5 (by decide) ha hx (fun m hm=>by rw[<-hn,hs];exact aN2 (At.mach hm) hb h0) rfl
def aM8(ha:okA 4096 ip=true)(hx:gL s.cs ip=72)(hb:okA 4096 (ip+8)=true){l:Int}(hs:s.d=d++[l]++[x])(h0:x≠l)(hr:r.length+1<32):XS 1 s r ip (s.st d) (r++[l]++[x]) (ip+16) :=
 as2 5 (by decide) ha hx (fun m hm=>by rw[hs];have:=aN4 (At.mach hm) hb h0 hr (d:=d) (f:=[]) (xt:=32+8*((5:Nat):Int));rw[show ip+8+8=ip+16 by omega]at this;exact this) rfl
def aM0(ha:okA 4096 ip=true)(hx:gL s.cs ip=80)(hb:okA 4096 (ip+8)=true){l:Int}(h0:(ox x l 1).2=true)(hr:r.length+1<32):XS 1 s (r++[l]++[x]) ip s r (ip+16) :=
 as2 6 (by decide) ha hx (fun m hm=>by have:=aL5 (At.mach hm) hb hr (d:=s.d) (x:=x) (l:=l) (f:=[]) (xt:=32+8*((6:Nat):Int));rw[if_pos h0,show ip+8+8=ip+16 by omega]at this;exact this) rfl
def aL7(ha:okA 4096 ip=true)(hx:gL s.cs ip=80)(hb:okA 4096 (ip+8)=true)(hn:gL s.cs (ip+8)=n){l:Int}(h0:(ox x l 1).2=false)(hr:r.length+1<32):XS 1 s (r++[l]++[x]) ip s (r++[l]++[(ox x l 1).1]) n :=
 as2 6 (by decide) ha hx (fun m hm=>by have:=aL5 (At.mach hm) hb hr (d:=s.d) (x:=x) (l:=l) (f:=[]) (xt:=32+8*((6:Nat):Int));rw[if_neg (by rw[h0];decide),hn]at this;exact this) rfl
def aO0(ha:okA 4096 ip=true)(hx:gL s.cs ip=152)(hd:s.d.length<32):XS 1 s (r++[x]) ip (s.st (s.d++[x])) (r++[x]) (ip+8) :=
 as2 15 (by decide) ha hx (fun m hm=>k_I (At.mach hm) hd) rfl
end
open Go.RowKit
def aL6:((ig 167).all fun w=>!OK (Ht w.name))=true:=by kernel_rfl
def aM5{s:Str}(h:OK s=true)(w:aS)(hw:w∈ig 167):yN w s=false:=by
 have k:=List.all_eq_true.1 aL6 w hw
 unfold yN YN
 rw[an4 h]
 by_cases q:Ht w.name=s
 ·rw[q,h]at k;cases k
 rw[decide_eq_false q,Bool.and_false]
def aK7{s:Str}(h:OK s=true):∀k,k<=167->(mv (ig 167) s k).2.2=false
 | 0,_=>rfl
 | k+1,hk=>by
  unfold mv
  rw[if_neg]
  ·exact aK7 h k (by omega)
  rw[aM5 h _ (by rw[List.getD_eq_getElem?_getD,List.getElem?_eq_getElem (by rw[qw];omega)];exact List.getElem_mem _)]
  decide
def aM3{s:Str}(h:OK s=true):(dc (ig 167) s).2.2=false:=by
 unfold dc;rw[qw];exact aK7 h 167 (Nat.le_refl _)
def aK1{n:Int}{e:aS}(h:yN e (dh n 10).1=false):(dc (ig 167++[e]) (dh n 10).1).2.2=false:=by
 rw[az9 _ _ _ fun x hx=>by rw[List.mem_singleton.1 hx];exact h];exact aM3 (am3 n)
def aK3{n:Int}{w:aS}(h:OK (Ht w.name)=false):yN w (dh n 10).1=false:=by
 have e:=an4 (am3 n)
 unfold yN YN
 rw[e]
 by_cases q:Ht w.name=(dh n 10).1
 ·rw[q,am3 n]at h;cases h
 rw[decide_eq_false q,Bool.and_false]
open Go.WideShapes
def aM2{w:World}{v:Value}(h:YV w 5 v):∃k:Nat,k<256/\Rep (c0 w) (.val (.int .u8 (k:Int))) v:=by
 obtain⟨n,rfl,h2⟩:=O9 underlying5 h
 have h3:0<=n/\n<=255:=by simp[Lit.wf,IntKind.min,IntKind.max,IntKind.bits,IntKind.signed]at h2;omega
 obtain⟨k,rfl⟩:∃k:Nat,n=(k:Int):=⟨n.toNat,by omega⟩
 exact⟨k,by omega,aq _ _⟩
open Go.WideShapes
def aN1{k:Nat}(hk:k<256)(n:Nat)(hn:0<n):IntKind.i64.wrap (k:Int)=(k:Int)/\((k:Int)).tmod (n:Int)=((k%n:Nat):Int):=by
 constructor
 ·simp only[bU];unfold wrap64;omega
 rw[Int.tmod_eq_emod_of_nonneg (by omega)];omega
def sG:SS:=⟨[],[(8,0),(1520,32),(1440,1520),(1496,1520),(1512,1),(1504,40),(1464,1504),(1496,0),(1488,48),(1480,0),(1472,40),(1464,0),(1456,56),(1448,560),(1400,1448),(1440,0),(1432,48),(1424,-1),(1416,40),(1408,224),(1400,0),(1392,56),(1384,568),(1376,216),(8,-1),(1368,256)],1528,[⟨[115,103,110],1368,0⟩],0,[],kN⟩
def sK:SS:=⟨[],[(8,0),(1544,32),(1424,1544),(1536,1432),(1528,80),(1496,1528),(1520,344),(1512,1000),(1504,40),(1472,1504),(1496,0),(1488,48),(1480,528),(1472,0),(1464,56),(1456,376),(1448,2),(1440,40),(1432,152),(1424,0),(1416,72),(1408,0),(1400,40),(1392,232),(1384,0),(1376,40),(8,-1),(1368,256)],1552,[⟨[99,110,116],1368,0⟩],0,[],kN⟩
def sD:SS:=⟨[],[(8,0),(1480,32),(1472,224),(1416,1472),(1464,1400),(1456,48),(1448,536),(1440,232),(1432,528),(1424,232),(1416,0),(1408,56),(1400,216),(1392,232),(1384,0),(1376,40),(8,-1),(1368,256)],1488,[⟨[100,111,119,110],1368,0⟩],0,[],kN⟩
def aK2{f0:af}{sd s':SS}{name:Str}{ws:List Str}{u0 c n:Int}{y:XI}(a0:At f0 sO)(hu:0<=u0/\u0<=5000)(hn:ae n)(h1_ok:okT (tk name))(hnm:fy name=0)
  (hk:∀t∈ws.map tk,okT t) (hc:cWs (sO.begun name) (ws.map tk)=some sd) (hcm:sd.cmp=false) (hd0:sd.d=[]) (hb0:gL sd.cs 0=10) (hfind:(dc (ig 167++sd.ext) (dh n 10).1).2.2=false)
  (hx:xiS {sd with d:=[n]} name=some y) (ho:mM y.x y.k=false) (h3:¬300<=y.k) (hr:XR {sd with d:=[n]} y.x.xt s' c) (hcu:0<=c/\c<=u0) :
  ∃f,At f s'/\m9 f0 (xb (tk [58]::tk name::(ws.map tk++[tk (dh n 10).1,tk name]))) u0=(f,u0-c,0):=by
 have b10:isB 10=true:=by decide
 have h0:LA f0 (xb (tk [58]::tk name::(ws.map tk++[tk (dh n 10).1,tk name]))) u0 0 [] (tk [58]::tk name::(ws.map tk++[tk (dh n 10).1,tk name])) sO u0:=.start a0 hu
 have h1:=F6 h0 (wS rfl) h1_ok (y:=⟨⟨[58],1072,0⟩,300⟩) (by kernel_rfl) ⟨rfl,rfl⟩ rfl (by decide) hnm (by decide)
 obtain⟨q,h2⟩:=LA.words (ws.map tk) (s':=sd) h1 hk hc
 have h3':=LA.step h2 (ar3 b10) (Qq (n:=n) hfind (by show dK _ (gL sd.cs 0)=_;rw[hb0];exact ZQ n 10 b10 hn) hcm (by rw[hd0];decide)) ⟨Int.le_refl _,by omega⟩
 have e:({sd with d:=sd.d++[n]}:SS)={sd with d:=[n]}:=by rw[hd0];rfl
 rw[e]at h3'
 have hcm':SS.cmp {sd with d:=[n]}=false:=hcm
 have h4:=LA.step (s':=s') (c:=c) h3' h1_ok (LC hx hcm' ho h3 hr) (by omega)
 have h5:=h4.free (by
  have:=aL3 (tk [58]::tk name::(ws.map tk++[tk (dh n 10).1,tk name])) ?_
  ·simp only[List.length_cons,List.length_append,List.length_nil]at this
   omega
  intro t ht
  rcases List.mem_cons.1 ht with rfl|ht
  ·exact wS rfl
  rcases List.mem_cons.1 ht with rfl|ht
  ·exact h1_ok
  rcases List.mem_append.1 ht with ht|ht
  ·exact hk t ht
  rcases List.mem_cons.1 ht with rfl|ht
  ·exact ar3 b10
  rw[List.mem_singleton.1 ht];exact h1_ok)
 rw[show u0-0-c=u0-c by omega]at h5
 exact h5
def sgI(n:Int):Int:=if n<0 then -1 else if n=0 then 0 else 1
def aN0(n:Int):∃k,k<=20/\XS k {sG with d:=[n]} [16] 1376 {sG with d:=[sgI n]} [] 16:=by
 have a1:XS 1 {sG with d:=[n]} [16] 1376 {sG with d:=[n,n]} [16] 1384:=at8 23 [n,n] (by decide) rfl (by kernel_rfl) (fun m _=>by kernel_rfl)
 have ez:(wI [48,60] n).1=fH (decide (n<0)):=by kernel_rfl
 have a2:XS 1 {sG with d:=[n,n]} [16] 1384 {sG with d:=[n,(wI [48,60] n).1]} [16] 1392:=at8 67 [n,(wI [48,60] n).1] (by decide) rfl (by kernel_rfl) (fun m _=>by kernel_rfl)
 have a:=a1.tr a2
 by_cases h:n<0
 ·rw[ez,decide_eq_true h,show fH true = -1 from rfl]at a
  have b1:XS 1 {sG with d:=[n,-1]} [16] 1392 {sG with d:=[n]} [16] 1408:=aK0 (d:=[n]) (x:=-1) rfl (by kernel_rfl) rfl rfl (by decide)
  have b2:XS 1 {sG with d:=[n]} [16] 1408 {sG with d:=[]} [16] 1416:=at8 24 [] (by decide) rfl (by kernel_rfl) (fun m _=>by kernel_rfl)
  have b3:XS 1 {sG with d:=[]} [16] 1416 {sG with d:=[-1]} [16] 1432:=aJ5 rfl (by kernel_rfl) rfl (by kernel_rfl) (by decide)
  have b4:XS 1 {sG with d:=[-1]} [16] 1432 {sG with d:=[-1]} [16] 1520:=aL1 rfl (by kernel_rfl) rfl (by kernel_rfl)
  have b5:XS 1 {sG with d:=[-1]} [16] 1520 {sG with d:=[-1]} [] 16:=VK (r:=[]) rfl (by kernel_rfl)
  refine⟨_,?_,((((a.tr b1).tr b2).tr b3).tr b4).tr (by unfold sgI;rw[if_pos h];exact b5)⟩
  decide
 rw[ez,decide_eq_false h,show fH false=0 from rfl]at a
 have b1:XS 1 {sG with d:=[n,0]} [16] 1392 {sG with d:=[n]} [16] 1448:=aJ9 (d:=[n]) (x:=0) rfl (by kernel_rfl) rfl (by kernel_rfl) rfl rfl
 have e0:(wI [48,61] n).1=fH (decide (n=0)):=by kernel_rfl
 have b2:XS 1 {sG with d:=[n]} [16] 1448 {sG with d:=[(wI [48,61] n).1]} [16] 1456:=at8 66 [(wI [48,61] n).1] (by decide) rfl (by kernel_rfl) (fun m _=>by kernel_rfl)
 have b:=(a.tr b1).tr b2
 by_cases h0:n=0
 ·rw[e0,decide_eq_true h0,show fH true = -1 from rfl]at b
  have c1:XS 1 {sG with d:=[-1]} [16] 1456 {sG with d:=[]} [16] 1472:=aK0 (d:=[]) (x:=-1) rfl (by kernel_rfl) rfl rfl (by decide)
  have c2:XS 1 {sG with d:=[]} [16] 1472 {sG with d:=[0]} [16] 1488:=aJ5 rfl (by kernel_rfl) rfl (by kernel_rfl) (by decide)
  have c3:XS 1 {sG with d:=[0]} [16] 1488 {sG with d:=[0]} [16] 1520:=aL1 rfl (by kernel_rfl) rfl (by kernel_rfl)
  have c4:XS 1 {sG with d:=[0]} [16] 1520 {sG with d:=[0]} [] 16:=VK (r:=[]) rfl (by kernel_rfl)
  refine⟨_,?_,((b.tr c1).tr c2).tr (c3.tr (by unfold sgI;rw[if_neg h,if_pos h0];exact c4))⟩
  decide
 rw[e0,decide_eq_false h0,show fH false=0 from rfl]at b
 have c1:XS 1 {sG with d:=[0]} [16] 1456 {sG with d:=[]} [16] 1504:=aJ9 (d:=[]) (x:=0) rfl (by kernel_rfl) rfl (by kernel_rfl) rfl rfl
 have c2:XS 1 {sG with d:=[]} [16] 1504 {sG with d:=[1]} [16] 1520:=aJ5 rfl (by kernel_rfl) rfl (by kernel_rfl) (by decide)
 have c4:XS 1 {sG with d:=[1]} [16] 1520 {sG with d:=[1]} [] 16:=VK (r:=[]) rfl (by kernel_rfl)
 refine⟨_,?_,(b.tr c1).tr (c2.tr (by unfold sgI;rw[if_neg h,if_neg h0];exact c4))⟩
 decide
def aL9(n:Int)(hn:ae n):∃f u,At f {sG with d:=[sgI n]}/\m9 fO (xb (tk [58]::tk [115,103,110]::(([[68,85,80],[48,60],[73,70],[68,82,79,80],[45,49],[69,76,83,69],[48,61],[73,70],[48],[69,76,83,69],[49],[84,72,69,78],[84,72,69,78],[59]]:List Str).map tk++[tk (dh n 10).1,tk [115,103,110]]))) 200=(f,u,0):=by
 obtain⟨k,hk,r⟩:=aN0 n
 obtain⟨f,a,e⟩:=aK2 (name:=[115,103,110]) (sd:=sG) (s':={sG with d:=[sgI n]}) (ws:=[[68,85,80],[48,60],[73,70],[68,82,79,80],[45,49],[69,76,83,69],[48,61],[73,70],[48],[69,76,83,69],[49],[84,72,69,78],[84,72,69,78],[59]]) (y:=⟨⟨[115,103,110],1368,0⟩,256⟩) (c:=((k+2:Nat):Int)) aI1 (u0:=200) (by decide) hn (wS rfl) rfl (Lb rfl) (by kernel_rfl) rfl rfl rfl (aK1 (aK3 rfl)) (by kernel_rfl) rfl (by decide) (SL rfl (by kernel_rfl) ⟨rfl,rfl,rfl⟩ r) (by omega)
 exact⟨f,_,a,e⟩
def cA(i:Nat):Int:=((i/2+1000*(i-i/2):Nat):Int)
def aN8:∀n:Nat,n<41->(nG (n:Int) 2).2.1=((n%2:Nat):Int):=by decide
def aM1{i k:Nat}(hi:i<k)(hk:k<=41):ox (i:Int) (k:Int) 1=(((i+1:Nat):Int),decide (i+1=k)):=by
 have w1:W64 ((i:Int)+1)=((i+1:Nat):Int):=by rw[CI (by omega) (by omega)];omega
 have w2:W64 ((i:Int)-k)=(i:Int)-k:=J0 (by unfold ae;omega)
 have w3:W64 ((i:Int)-k+1)=(i:Int)-k+1:=J0 (by unfold ae;omega)
 unfold ox
 rw[w1,w2,w3,if_pos (by decide),decide_eq_true (by omega:(i:Int)-k<0),Bool.true_and]
 congr 1
 by_cases q:i+1=k
 ·rw[decide_eq_true q];exact decide_eq_true (by omega)
 rw[decide_eq_false q];exact decide_eq_false (by omega)
def aN6{i:Nat}(h:i<=41):0<=cA i/\cA i<=41000:=by unfold cA;omega
def aJ6{n:Int}(h0:0<=n)(h1:n<=1000000):wrap64 n=n:=by unfold wrap64;omega
def aK6(i k:Nat)(hi:i<k)(hk:k<=40):∃n,n<=8/\XS n {sK with d:=[cA i]} ([16]++[(k:Int)]++[(i:Int)]) 1432 {sK with d:=[cA (i+1)]} ([16]++[(k:Int)]++[(i:Int)]) 1528:=by
 have b:=aN6 (i:=i) (by omega)
 have a1:XS 1 {sK with d:=[cA i]} ([16]++[(k:Int)]++[(i:Int)]) 1432 {sK with d:=[cA i,(i:Int)]} ([16]++[(k:Int)]++[(i:Int)]) 1440:=aO0 rfl (by kernel_rfl) (by show(1:Nat)<32;decide)
 have a2:XS 1 {sK with d:=[cA i,(i:Int)]} ([16]++[(k:Int)]++[(i:Int)]) 1440 {sK with d:=[cA i,(i:Int),2]} ([16]++[(k:Int)]++[(i:Int)]) 1456:=aJ5 rfl (by kernel_rfl) rfl (by kernel_rfl) (by show(2:Nat)<32;decide)
 have a3:XS 1 {sK with d:=[cA i,(i:Int),2]} ([16]++[(k:Int)]++[(i:Int)]) 1456 {sK with d:=[cA i,(nG (i:Int) 2).2.1]} ([16]++[(k:Int)]++[(i:Int)]) 1464:=at8 43 [cA i,(nG (i:Int) 2).2.1] (by decide) rfl (by kernel_rfl) (fun m _=>by kernel_rfl)
 have a:=(a1.tr a2).tr a3
 rw[aN8 i (by omega)]at a
 by_cases q:i%2=1
 ·rw[q]at a
  have b1:XS 1 {sK with d:=[cA i,((1:Nat):Int)]} ([16]++[(k:Int)]++[(i:Int)]) 1464 {sK with d:=[cA i]} ([16]++[(k:Int)]++[(i:Int)]) 1480:=aK0 (d:=[cA i]) rfl (by kernel_rfl) rfl rfl (by decide)
  have b2:XS 1 {sK with d:=[cA i]} ([16]++[(k:Int)]++[(i:Int)]) 1480 {sK with d:=[wrap64 (cA i+1)]} ([16]++[(k:Int)]++[(i:Int)]) 1488:=at8 62 [wrap64 (cA i+1)] (by decide) rfl (by kernel_rfl) (fun m _=>by kernel_rfl)
  rw[aJ6 (by omega) (by omega),show cA i+1=cA (i+1) by unfold cA;omega]at b2
  have b3:XS 1 {sK with d:=[cA (i+1)]} ([16]++[(k:Int)]++[(i:Int)]) 1488 {sK with d:=[cA (i+1)]} ([16]++[(k:Int)]++[(i:Int)]) 1528:=aL1 rfl (by kernel_rfl) rfl (by kernel_rfl)
  refine⟨_,?_,((a.tr b1).tr b2).tr b3⟩
  decide
 rw[show i%2=0 by omega]at a
 have b1:XS 1 {sK with d:=[cA i,((0:Nat):Int)]} ([16]++[(k:Int)]++[(i:Int)]) 1464 {sK with d:=[cA i]} ([16]++[(k:Int)]++[(i:Int)]) 1504:=aJ9 (d:=[cA i]) rfl (by kernel_rfl) rfl (by kernel_rfl) rfl rfl
 have b2:XS 1 {sK with d:=[cA i]} ([16]++[(k:Int)]++[(i:Int)]) 1504 {sK with d:=[cA i,1000]} ([16]++[(k:Int)]++[(i:Int)]) 1520:=aJ5 rfl (by kernel_rfl) rfl (by kernel_rfl) (by show(1:Nat)<32;decide)
 have b3:XS 1 {sK with d:=[cA i,1000]} ([16]++[(k:Int)]++[(i:Int)]) 1520 {sK with d:=[wrap64 (cA i+1000)]} ([16]++[(k:Int)]++[(i:Int)]) 1528:=at8 39 [wrap64 (cA i+1000)] (by decide) rfl (by kernel_rfl) (fun m _=>by kernel_rfl)
 rw[aJ6 (by omega) (by omega),show cA i+1000=cA (i+1) by unfold cA;omega]at b3
 refine⟨_,?_,((a.tr b1).tr b2).tr b3⟩
 decide
def aK5:∀(j i k:Nat),k=i+1+j->k<=40->∃n,n<=9*(j+1)/\XS n {sK with d:=[cA i]} ([16]++[(k:Int)]++[(i:Int)]) 1432 {sK with d:=[cA k]} [16] 1544
 | 0,i,k,hk,h40=>by
  obtain⟨n,hn,r⟩:=aK6 i k (by omega) h40
  have hs:=aM1 (i:=i) (k:=k) (by omega) (by omega)
  have e:XS 1 {sK with d:=[cA (i+1)]} ([16]++[(k:Int)]++[(i:Int)]) 1528 {sK with d:=[cA (i+1)]} [16] 1544:=aM0 rfl (by kernel_rfl) rfl (by rw[hs];exact decide_eq_true (by omega)) (by decide)
  rw[show k=i+1 by omega]at r e ⊢
  exact⟨n+1,by omega,r.tr e⟩
 | j+1,i,k,hk,h40=>by
  obtain⟨n,hn,r⟩:=aK6 i k (by omega) h40
  have hs:=aM1 (i:=i) (k:=k) (by omega) (by omega)
  have e:XS 1 {sK with d:=[cA (i+1)]} ([16]++[(k:Int)]++[(i:Int)]) 1528 {sK with d:=[cA (i+1)]} ([16]++[(k:Int)]++[(ox (i:Int) (k:Int) 1).1]) 1432:=aL7 rfl (by kernel_rfl) rfl (by kernel_rfl) (by rw[hs];exact decide_eq_false (by omega)) (by decide)
  rw[hs]at e
  obtain⟨n2,hn2,r2⟩:=aK5 j (i+1) k (by omega) h40
  exact⟨n+1+n2,by omega,(r.tr e).tr r2⟩
def aM7(k:Nat)(hk:k<=40):∃n,n<=400/\XS n {sK with d:=[(k:Int)]} [16] 1376 {sK with d:=[cA k]} [] 16:=by
 have a1:XS 1 {sK with d:=[(k:Int)]} [16] 1376 {sK with d:=[(k:Int),0]} [16] 1392:=aJ5 rfl (by kernel_rfl) rfl (by kernel_rfl) (by show(1:Nat)<32;decide)
 have a2:XS 1 {sK with d:=[(k:Int),0]} [16] 1392 {sK with d:=[0,(k:Int)]} [16] 1400:=at8 25 [0,(k:Int)] (by decide) rfl (by kernel_rfl) (fun m _=>by kernel_rfl)
 have a3:XS 1 {sK with d:=[0,(k:Int)]} [16] 1400 {sK with d:=[0,(k:Int),0]} [16] 1416:=aJ5 rfl (by kernel_rfl) rfl (by kernel_rfl) (by show(2:Nat)<32;decide)
 have a:=(a1.tr a2).tr a3
 have z:XS 1 {sK with d:=[cA k]} ([]++[16]) 1544 {sK with d:=[cA k]} [] 16:=VK (r:=[]) rfl (by kernel_rfl)
 by_cases h0:k=0
 ·subst h0
  have b:XS 1 {sK with d:=[0,((0:Nat):Int),0]} [16] 1416 {sK with d:=[cA 0]} [16] 1544:=aM6 (d:=[0]) (l:=0) (x:=0) rfl (by kernel_rfl) rfl (by kernel_rfl) rfl rfl
  exact⟨_,by decide,(a.tr b).tr z⟩
 have b:XS 1 {sK with d:=[0,(k:Int),0]} [16] 1416 {sK with d:=[cA 0]} ([16]++[(k:Int)]++[((0:Nat):Int)]) 1432:=aM8 (d:=[0]) (l:=(k:Int)) (x:=0) rfl (by kernel_rfl) rfl rfl (by omega) (by decide)
 obtain⟨n,hn,r⟩:=aK5 (k-1) 0 k (by omega) hk
 refine⟨_,?_,((a.tr b).tr r).tr z⟩
 omega
def aM4(k:Nat)(hk:k<=40):∃f u,At f {sK with d:=[cA k]}/\m9 fO (xb (tk [58]::tk [99,110,116]::(([[48],[83,87,65,80],[48],[63,68,79],[73],[50],[77,79,68],[73,70],[49,43],[69,76,83,69],[49,48,48,48],[43],[84,72,69,78],[76,79,79,80],[59]]:List Str).map tk++[tk (dh (k:Int) 10).1,tk [99,110,116]]))) 1000=(f,u,0):=by
 obtain⟨n,hn,r⟩:=aM7 k hk
 obtain⟨f,a,e⟩:=aK2 (name:=[99,110,116]) (sd:=sK) (s':={sK with d:=[cA k]}) (ws:=[[48],[83,87,65,80],[48],[63,68,79],[73],[50],[77,79,68],[73,70],[49,43],[69,76,83,69],[49,48,48,48],[43],[84,72,69,78],[76,79,79,80],[59]]) (y:=⟨⟨[99,110,116],1368,0⟩,256⟩) (c:=((n+2:Nat):Int)) aI1 (u0:=1000) (by decide) (n:=(k:Int)) (by unfold ae;omega) (wS rfl) rfl (Lb rfl) (by kernel_rfl) rfl rfl rfl (aK1 (aK3 rfl)) (by kernel_rfl) rfl (by decide) (SL rfl (by kernel_rfl) ⟨rfl,rfl,rfl⟩ r) (by omega)
 exact⟨f,_,a,e⟩
def aK4:∀(b a:Nat),a+b<=40->∃n,n<=7*b+4/\XS n {sD with d:=[(a:Int),(b:Int)]} [16] 1400 {sD with d:=[((a+b:Nat):Int)]} [] 16
 | 0,a,h=>by
  have a1:XS 1 {sD with d:=[(a:Int),((0:Nat):Int)]} [16] 1400 {sD with d:=[(a:Int),((0:Nat):Int),((0:Nat):Int)]} [16] 1408:=at8 23 [(a:Int),((0:Nat):Int),((0:Nat):Int)] (by decide) rfl (by kernel_rfl) (fun m _=>by kernel_rfl)
  have a2:XS 1 {sD with d:=[(a:Int),((0:Nat):Int),((0:Nat):Int)]} [16] 1408 {sD with d:=[(a:Int),((0:Nat):Int)]} [16] 1472:=aJ9 (d:=[(a:Int),((0:Nat):Int)]) rfl (by kernel_rfl) rfl (by kernel_rfl) rfl rfl
  have a3:XS 1 {sD with d:=[(a:Int),((0:Nat):Int)]} [16] 1472 {sD with d:=[((a+0:Nat):Int)]} ([]++[16]) 1480:=at8 24 [(a:Int)] (by decide) rfl (by kernel_rfl) (fun m _=>by kernel_rfl)
  have z:XS 1 {sD with d:=[((a+0:Nat):Int)]} ([]++[16]) 1480 {sD with d:=[((a+0:Nat):Int)]} [] 16:=VK (r:=[]) rfl (by kernel_rfl)
  exact⟨_,by decide,((a1.tr a2).tr a3).tr z⟩
 | b+1,a,h=>by
  have a1:XS 1 {sD with d:=[(a:Int),((b+1:Nat):Int)]} [16] 1400 {sD with d:=[(a:Int),((b+1:Nat):Int),((b+1:Nat):Int)]} [16] 1408:=at8 23 [(a:Int),((b+1:Nat):Int),((b+1:Nat):Int)] (by decide) rfl (by kernel_rfl) (fun m _=>by kernel_rfl)
  have a2:XS 1 {sD with d:=[(a:Int),((b+1:Nat):Int),((b+1:Nat):Int)]} [16] 1408 {sD with d:=[(a:Int),((b+1:Nat):Int)]} [16] 1424:=aK0 (d:=[(a:Int),((b+1:Nat):Int)]) rfl (by kernel_rfl) rfl rfl (by omega)
  have a3:XS 1 {sD with d:=[(a:Int),((b+1:Nat):Int)]} [16] 1424 {sD with d:=[((b+1:Nat):Int),(a:Int)]} [16] 1432:=at8 25 [((b+1:Nat):Int),(a:Int)] (by decide) rfl (by kernel_rfl) (fun m _=>by kernel_rfl)
  have a4:XS 1 {sD with d:=[((b+1:Nat):Int),(a:Int)]} [16] 1432 {sD with d:=[((b+1:Nat):Int),wrap64 ((a:Int)+1)]} [16] 1440:=at8 62 [((b+1:Nat):Int),wrap64 ((a:Int)+1)] (by decide) rfl (by kernel_rfl) (fun m _=>by kernel_rfl)
  rw[aJ6 (n:=(a:Int)+1) (by omega) (by omega),show(a:Int)+1=((a+1:Nat):Int) by omega]at a4
  have a5:XS 1 {sD with d:=[((b+1:Nat):Int),((a+1:Nat):Int)]} [16] 1440 {sD with d:=[((a+1:Nat):Int),((b+1:Nat):Int)]} [16] 1448:=at8 25 [((a+1:Nat):Int),((b+1:Nat):Int)] (by decide) rfl (by kernel_rfl) (fun m _=>by kernel_rfl)
  have a6:XS 1 {sD with d:=[((a+1:Nat):Int),((b+1:Nat):Int)]} [16] 1448 {sD with d:=[((a+1:Nat):Int),wrap64 (((b+1:Nat):Int)-1)]} [16] 1456:=at8 63 [((a+1:Nat):Int),wrap64 (((b+1:Nat):Int)-1)] (by decide) rfl (by kernel_rfl) (fun m _=>by kernel_rfl)
  rw[aJ6 (n:=((b+1:Nat):Int)-1) (by omega) (by omega),show((b+1:Nat):Int)-1=(b:Int) by omega]at a6
  have a7:XS 1 {sD with d:=[((a+1:Nat):Int),(b:Int)]} [16] 1456 {sD with d:=[((a+1:Nat):Int),(b:Int)]} [16] 1400:=aL1 rfl (by kernel_rfl) rfl (by kernel_rfl)
  obtain⟨n,hn,r⟩:=aK4 b (a+1) (by omega)
  rw[show a+1+b=a+(b+1) by omega]at r
  exact⟨_,by omega,((((((a1.tr a2).tr a3).tr a4).tr a5).tr a6).tr a7).tr r⟩
def aL8(k:Nat)(hk:k<=40):∃n,n<=400/\XS n {sD with d:=[(k:Int)]} [16] 1376 {sD with d:=[(k:Int)]} [] 16:=by
 have a1:XS 1 {sD with d:=[(k:Int)]} [16] 1376 {sD with d:=[(k:Int),0]} [16] 1392:=aJ5 rfl (by kernel_rfl) rfl (by kernel_rfl) (by show(1:Nat)<32;decide)
 have a2:XS 1 {sD with d:=[(k:Int),0]} [16] 1392 {sD with d:=[((0:Nat):Int),(k:Int)]} [16] 1400:=at8 25 [0,(k:Int)] (by decide) rfl (by kernel_rfl) (fun m _=>by kernel_rfl)
 obtain⟨n,hn,r⟩:=aK4 k 0 (by omega)
 rw[Nat.zero_add]at r
 refine⟨_,?_,(a1.tr a2).tr r⟩
 omega
def aL4(k:Nat)(hk:k<=40):∃f u,At f {sD with d:=[(k:Int)]}/\m9 fO (xb (tk [58]::tk [100,111,119,110]::(([[48],[83,87,65,80],[66,69,71,73,78],[68,85,80],[87,72,73,76,69],[83,87,65,80],[49,43],[83,87,65,80],[49,45],[82,69,80,69,65,84],[68,82,79,80],[59]]:List Str).map tk++[tk (dh (k:Int) 10).1,tk [100,111,119,110]]))) 1000=(f,u,0):=by
 obtain⟨n,hn,r⟩:=aL8 k hk
 obtain⟨f,a,e⟩:=aK2 (name:=[100,111,119,110]) (sd:=sD) (s':={sD with d:=[(k:Int)]}) (ws:=[[48],[83,87,65,80],[66,69,71,73,78],[68,85,80],[87,72,73,76,69],[83,87,65,80],[49,43],[83,87,65,80],[49,45],[82,69,80,69,65,84],[68,82,79,80],[59]]) (y:=⟨⟨[100,111,119,110],1368,0⟩,256⟩) (c:=((n+2:Nat):Int)) aI1 (u0:=1000) (by decide) (n:=(k:Int)) (by unfold ae;omega) (wS rfl) rfl (Lb rfl) (by kernel_rfl) rfl rfl rfl (aK1 (aK3 rfl)) (by kernel_rfl) rfl (by decide) (SL rfl (by kernel_rfl) ⟨rfl,rfl,rfl⟩ r) (by omega)
 exact⟨f,_,a,e⟩
open Go.WideShapes
def aK9(a:Addr)(n:Int)(c k:Nat)(hc:c<256)(hk:c%40=k)(f0 fF fG fI:af)(uF uG uI:Int)(A B:Str)(sh:PG a 9 [] (boo true))(n0:ab prog 10 [] (bS f0))(hs:A.length<=100/\B.length<=100)
  (p1:ab prog 18 [i64 n,i64 10] (ng (A,0))) (p2:ab prog 18 [i64 (k:Int),i64 10] (ng (B,0)))
  (pF:PG a 12 [bS f0,str ([58,32,115,103,110,32,68,85,80,32,48,60,32,73,70,32,68,82,79,80,32,45,49,32,69,76,83,69,32,48,61,32,73,70,32,48,32,69,76,83,69,32,49,32,84,72,69,78,32,84,72,69,78,32,59,32]++A++[32,115,103,110]),i64 200] (vB (fF,uF,0)))
  (pG:PG a 12 [bS f0,str ([58,32,99,110,116,32,48,32,83,87,65,80,32,48,32,63,68,79,32,73,32,50,32,77,79,68,32,73,70,32,49,43,32,69,76,83,69,32,49,48,48,48,32,43,32,84,72,69,78,32,76,79,79,80,32,59,32]++B++[32,99,110,116]),i64 1000] (vB (fG,uG,0)))
  (pI:PG a 12 [bS f0,str ([58,32,100,111,119,110,32,48,32,83,87,65,80,32,66,69,71,73,78,32,68,85,80,32,87,72,73,76,69,32,83,87,65,80,32,49,43,32,83,87,65,80,32,49,45,32,82,69,80,69,65,84,32,68,82,79,80,32,59,32]++B++[32,100,111,119,110]),i64 1000] (vB (fI,uI,0)))
  (dF:fF.vm.d=[sgI n]) (dG:fG.vm.d=[cA k]) (dI:fI.vm.d=[(k:Int)]):∀(H:List Ob),(∀o∈hJ a,∃k:Nat,H[k]?=some o)->HC prog 7 [i64 n,.val (.int .u8 (c:Int))] H (boo true) H:=by
 have kw:=(aN1 hc 40 (by decide)).1
 have km:=(aN1 hc 40 (by decide)).2
 rw[hk]at km
 have hk2:k<40:=by omega
 have e1:IntKind.i64.wrap ((k:Int).tdiv 2)=((k/2:Nat):Int):=by rw[Int.tdiv_eq_ediv_of_nonneg (by omega),gZ (by omega) (by omega)];omega
 have e2:IntKind.i64.wrap ((k:Int)-((k/2:Nat):Int))=((k-k/2:Nat):Int):=by rw[gZ (by omega) (by omega)];omega
 have e3:IntKind.i64.wrap (1000*((k-k/2:Nat):Int))=((1000*(k-k/2):Nat):Int):=by rw[gZ (by omega) (by omega)];omega
 have e4:IntKind.i64.wrap (((k/2:Nat):Int)+((1000*(k-k/2):Nat):Int))=cA k:=by unfold cA;rw[gZ (by omega) (by omega)];omega
 refine it (gj a) tG (rs:=[.tmp 4]) func7 rfl rfl rfl (by simp) (by simp) (fun B=>?_)
 refine zu1 ?_
 refine z8 ?_
 refine zc rfl func9 (sh _ (cp 0 1 rfl rfl)) ?_
 refine zs1 ?_
 refine zp1 ?_
 refine zc rfl func18 ((p1) _) ?_
 refine zs5 ?_
 refine zp2 ?_
 refine Wa 29 rfl (congrArg (fun z=>PV.val (Value.int .i64 z)) kw) ?_
 refine z1 ?_
 refine Wa 30 rfl (congrArg (fun z=>PV.val (Value.int .i64 z)) km) ?_
 refine zc rfl func18 ((p2) _) ?_
 refine zs5 ?_
 refine z8 ?_
 refine zc rfl func10 ((n0) _) ?_
 refine z1 ?_
 refine z2 ?_ (q:=(by simp only[ew];((simp_all;omega))))
 refine Wa 37 rfl (JL _ _) ?_
 refine z2 ?_ (q:=(by simp only[ew];((simp_all;omega))))
 refine Wa 38 rfl (JL _ _) ?_
 refine zc rfl func12 (pF _ (cp 0 1 rfl rfl)) ?_
 refine zy5 ?_
 refine zs3 ?_
 refine z8 ?_
 refine zc rfl func10 ((n0) _) ?_
 refine z1 ?_
 refine z2 ?_ (q:=(by simp only[ew];((simp_all;omega))))
 refine Wa 46 rfl (JL _ _) ?_
 refine z2 ?_ (q:=(by simp only[ew];((simp_all;omega))))
 refine Wa 47 rfl (JL _ _) ?_
 refine zc rfl func12 (pG _ (cp 0 1 rfl rfl)) ?_
 refine zy5 ?_
 refine zs3 ?_
 refine z8 ?_
 refine zc rfl func10 ((n0) _) ?_
 refine z1 ?_
 refine z2 ?_ (q:=(by simp only[ew];((simp_all;omega))))
 refine Wa 55 rfl (JL _ _) ?_
 refine z2 ?_ (q:=(by simp only[ew];((simp_all;omega))))
 refine Wa 56 rfl (JL _ _) ?_
 refine zc rfl func12 (pI _ (cp 0 1 rfl rfl)) ?_
 refine zy5 ?_
 refine zs3 ?_
 refine zu1 ?_
 refine Ws<|zu2 ?_
 refine Wi rfl (fun hi1=>?_) (fun hi1=>?_)
 ·have q1:n<0:=oT hi1
  refine aa rfl ?_
  refine zs1 ?_
  refine Ws<|zu2 ?_
  refine Wi rfl (fun hi2=>?_) (fun hi2=>?_)
  ·have q2:n=0:=by simpa using hi2
   have dF2:fF.vm.d=[0]:=by rw[dF,q2];rfl
   refine aa rfl ?_
   refine zs1 ?_
   refine zp2 ?_
   refine Wa 66 rfl (congrArg (fun z=>PV.val (Value.int .i64 z)) kw) ?_
   refine z1 ?_
   refine Wa 67 rfl (congrArg (fun z=>PV.val (Value.int .i64 z)) km) ?_
   refine zs1 ?_
   refine zp2 ?_
   refine gN 69 rfl (by rfl) ?_
   refine zy4 ?_
   refine gN 73 rfl (by rfl) ?_
   refine zy5 ?_
   refine Wa 78 rfl (bsL ap [_] rfl rfl) ?_
   refine zc rfl func20 ((YG dF2 (Nat.le_of_ble_eq_true rfl)) _) ?_
   refine zy2 ?_
   refine gN 81 rfl (by rfl) ?_
   refine zy4 ?_
   refine gN 85 rfl (by rfl) ?_
   refine zy5 ?_
   refine Wa 90 rfl (congrArg (fun z=>PV.val (Value.int .i64 z)) e1) ?_
   refine zy3 ?_
   refine Wa 93 rfl (congrArg (fun z=>PV.val (Value.int .i64 z)) e1) ?_
   refine z1 ?_
   refine Wa 94 rfl (congrArg (fun z=>PV.val (Value.int .i64 z)) e2) ?_
   refine z1 ?_
   refine Wa 95 rfl (congrArg (fun z=>PV.val (Value.int .i64 z)) e3) ?_
   refine z1 ?_
   refine Wa 96 rfl (congrArg (fun z=>PV.val (Value.int .i64 z)) e4) ?_
   refine z1 ?_
   refine Wa 97 rfl (bsL ap [_] rfl rfl) ?_
   refine zc rfl func20 ((YG dG (Nat.le_of_ble_eq_true rfl)) _) ?_
   refine zy2 ?_
   refine gN 100 rfl (by rfl) ?_
   refine zy4 ?_
   refine gN 104 rfl (by rfl) ?_
   refine zy5 ?_
   refine Wa 109 rfl (bsL ap [_] rfl rfl) ?_
   refine zc rfl func20 ((YG dI (Nat.le_of_ble_eq_true rfl)) _) ?_
   refine zs2 ?_
   refine zR ?_
   rfl
  have q2:¬n=0:=by simpa using hi2
  have dF2:fF.vm.d=[if n<0 then -1 else 1]:=by rw[dF];unfold sgI;by_cases z:n<0<;>simp[z,q2]
  rw[if_pos q1]at dF2
  refine Wj<|zp2 ?_
  refine Wa 66 rfl (congrArg (fun z=>PV.val (Value.int .i64 z)) kw) ?_
  refine z1 ?_
  refine Wa 67 rfl (congrArg (fun z=>PV.val (Value.int .i64 z)) km) ?_
  refine zs1 ?_
  refine zp2 ?_
  refine gN 69 rfl (by rfl) ?_
  refine zy4 ?_
  refine gN 73 rfl (by rfl) ?_
  refine zy5 ?_
  refine Wa 78 rfl (bsL ap [_] rfl rfl) ?_
  refine zc rfl func20 ((YG dF2 (Nat.le_of_ble_eq_true rfl)) _) ?_
  refine zy2 ?_
  refine gN 81 rfl (by rfl) ?_
  refine zy4 ?_
  refine gN 85 rfl (by rfl) ?_
  refine zy5 ?_
  refine Wa 90 rfl (congrArg (fun z=>PV.val (Value.int .i64 z)) e1) ?_
  refine zy3 ?_
  refine Wa 93 rfl (congrArg (fun z=>PV.val (Value.int .i64 z)) e1) ?_
  refine z1 ?_
  refine Wa 94 rfl (congrArg (fun z=>PV.val (Value.int .i64 z)) e2) ?_
  refine z1 ?_
  refine Wa 95 rfl (congrArg (fun z=>PV.val (Value.int .i64 z)) e3) ?_
  refine z1 ?_
  refine Wa 96 rfl (congrArg (fun z=>PV.val (Value.int .i64 z)) e4) ?_
  refine z1 ?_
  refine Wa 97 rfl (bsL ap [_] rfl rfl) ?_
  refine zc rfl func20 ((YG dG (Nat.le_of_ble_eq_true rfl)) _) ?_
  refine zy2 ?_
  refine gN 100 rfl (by rfl) ?_
  refine zy4 ?_
  refine gN 104 rfl (by rfl) ?_
  refine zy5 ?_
  refine Wa 109 rfl (bsL ap [_] rfl rfl) ?_
  refine zc rfl func20 ((YG dI (Nat.le_of_ble_eq_true rfl)) _) ?_
  refine zs2 ?_
  refine zR ?_
  rfl
 have q1:¬n<0:=oF hi1
 refine Wj<|Ws<|zu2 ?_
 refine Wi rfl (fun hi2=>?_) (fun hi2=>?_)
 ·have q2:n=0:=by simpa using hi2
  have dF2:fF.vm.d=[0]:=by rw[dF,q2];rfl
  refine aa rfl ?_
  refine zs1 ?_
  refine zp2 ?_
  refine Wa 66 rfl (congrArg (fun z=>PV.val (Value.int .i64 z)) kw) ?_
  refine z1 ?_
  refine Wa 67 rfl (congrArg (fun z=>PV.val (Value.int .i64 z)) km) ?_
  refine zs1 ?_
  refine zp2 ?_
  refine gN 69 rfl (by rfl) ?_
  refine zy4 ?_
  refine gN 73 rfl (by rfl) ?_
  refine zy5 ?_
  refine Wa 78 rfl (bsL ap [_] rfl rfl) ?_
  refine zc rfl func20 ((YG dF2 (Nat.le_of_ble_eq_true rfl)) _) ?_
  refine zy2 ?_
  refine gN 81 rfl (by rfl) ?_
  refine zy4 ?_
  refine gN 85 rfl (by rfl) ?_
  refine zy5 ?_
  refine Wa 90 rfl (congrArg (fun z=>PV.val (Value.int .i64 z)) e1) ?_
  refine zy3 ?_
  refine Wa 93 rfl (congrArg (fun z=>PV.val (Value.int .i64 z)) e1) ?_
  refine z1 ?_
  refine Wa 94 rfl (congrArg (fun z=>PV.val (Value.int .i64 z)) e2) ?_
  refine z1 ?_
  refine Wa 95 rfl (congrArg (fun z=>PV.val (Value.int .i64 z)) e3) ?_
  refine z1 ?_
  refine Wa 96 rfl (congrArg (fun z=>PV.val (Value.int .i64 z)) e4) ?_
  refine z1 ?_
  refine Wa 97 rfl (bsL ap [_] rfl rfl) ?_
  refine zc rfl func20 ((YG dG (Nat.le_of_ble_eq_true rfl)) _) ?_
  refine zy2 ?_
  refine gN 100 rfl (by rfl) ?_
  refine zy4 ?_
  refine gN 104 rfl (by rfl) ?_
  refine zy5 ?_
  refine Wa 109 rfl (bsL ap [_] rfl rfl) ?_
  refine zc rfl func20 ((YG dI (Nat.le_of_ble_eq_true rfl)) _) ?_
  refine zs2 ?_
  refine zR ?_
  rfl
 have q2:¬n=0:=by simpa using hi2
 have dF2:fF.vm.d=[if n<0 then -1 else 1]:=by rw[dF];unfold sgI;by_cases z:n<0<;>simp[z,q2]
 rw[if_neg q1]at dF2
 refine Wj<|zp2 ?_
 refine Wa 66 rfl (congrArg (fun z=>PV.val (Value.int .i64 z)) kw) ?_
 refine z1 ?_
 refine Wa 67 rfl (congrArg (fun z=>PV.val (Value.int .i64 z)) km) ?_
 refine zs1 ?_
 refine zp2 ?_
 refine gN 69 rfl (by rfl) ?_
 refine zy4 ?_
 refine gN 73 rfl (by rfl) ?_
 refine zy5 ?_
 refine Wa 78 rfl (bsL ap [_] rfl rfl) ?_
 refine zc rfl func20 ((YG dF2 (Nat.le_of_ble_eq_true rfl)) _) ?_
 refine zy2 ?_
 refine gN 81 rfl (by rfl) ?_
 refine zy4 ?_
 refine gN 85 rfl (by rfl) ?_
 refine zy5 ?_
 refine Wa 90 rfl (congrArg (fun z=>PV.val (Value.int .i64 z)) e1) ?_
 refine zy3 ?_
 refine Wa 93 rfl (congrArg (fun z=>PV.val (Value.int .i64 z)) e1) ?_
 refine z1 ?_
 refine Wa 94 rfl (congrArg (fun z=>PV.val (Value.int .i64 z)) e2) ?_
 refine z1 ?_
 refine Wa 95 rfl (congrArg (fun z=>PV.val (Value.int .i64 z)) e3) ?_
 refine z1 ?_
 refine Wa 96 rfl (congrArg (fun z=>PV.val (Value.int .i64 z)) e4) ?_
 refine z1 ?_
 refine Wa 97 rfl (bsL ap [_] rfl rfl) ?_
 refine zc rfl func20 ((YG dG (Nat.le_of_ble_eq_true rfl)) _) ?_
 refine zy2 ?_
 refine gN 100 rfl (by rfl) ?_
 refine zy4 ?_
 refine gN 104 rfl (by rfl) ?_
 refine zy5 ?_
 refine Wa 109 rfl (bsL ap [_] rfl rfl) ?_
 refine zc rfl func20 ((YG dI (Nat.le_of_ble_eq_true rfl)) _) ?_
 refine zs2 ?_
 refine zR ?_
 rfl
def aJ8(a:Addr)(n:Int)(hn:ae n)(c:Nat)(hc:c<256):∀(H:List Ob),(∀o∈hJ a,∃k:Nat,H[k]?=some o)->HC prog 7 [i64 n,.val (.int .u8 (c:Int))] H (boo true) H:=by
 obtain⟨k,hk⟩:∃k,c%40=k:=⟨_,rfl⟩
 have hk2:k<=40:=by omega
 have l1:=as5 n 10
 have l2:=as5 (k:Int) 10
 have p1:=aH3 n 10 hn
 have p2:=aH3 (k:Int) 10 (by omega)
 rw[aC9 (b:=10) (by decide)]at p1 p2
 obtain⟨fF,uF,aF,eF⟩:=aL9 n hn
 obtain⟨fG,uG,aG,eG⟩:=aM4 k hk2
 obtain⟨fI,uI,aI,eI⟩:=aL4 k hk2
 have tF:xb (tk [58]::tk [115,103,110]::(([[68,85,80],[48,60],[73,70],[68,82,79,80],[45,49],[69,76,83,69],[48,61],[73,70],[48],[69,76,83,69],[49],[84,72,69,78],[84,72,69,78],[59]]:List Str).map tk++[tk (dh n 10).1,tk [115,103,110]]))=[58,32,115,103,110,32,68,85,80,32,48,60,32,73,70,32,68,82,79,80,32,45,49,32,69,76,83,69,32,48,61,32,73,70,32,48,32,69,76,83,69,32,49,32,84,72,69,78,32,84,72,69,78,32,59,32]++(dh n 10).1++[32,115,103,110]:=by
  simp only[xb,tk,List.map,List.nil_append,List.append_assoc,List.cons_append]
 have tG:xb (tk [58]::tk [99,110,116]::(([[48],[83,87,65,80],[48],[63,68,79],[73],[50],[77,79,68],[73,70],[49,43],[69,76,83,69],[49,48,48,48],[43],[84,72,69,78],[76,79,79,80],[59]]:List Str).map tk++[tk (dh (k:Int) 10).1,tk [99,110,116]]))=[58,32,99,110,116,32,48,32,83,87,65,80,32,48,32,63,68,79,32,73,32,50,32,77,79,68,32,73,70,32,49,43,32,69,76,83,69,32,49,48,48,48,32,43,32,84,72,69,78,32,76,79,79,80,32,59,32]++(dh (k:Int) 10).1++[32,99,110,116]:=by
  simp only[xb,tk,List.map,List.nil_append,List.append_assoc,List.cons_append]
 have tI:xb (tk [58]::tk [100,111,119,110]::(([[48],[83,87,65,80],[66,69,71,73,78],[68,85,80],[87,72,73,76,69],[83,87,65,80],[49,43],[83,87,65,80],[49,45],[82,69,80,69,65,84],[68,82,79,80],[59]]:List Str).map tk++[tk (dh (k:Int) 10).1,tk [100,111,119,110]]))=[58,32,100,111,119,110,32,48,32,83,87,65,80,32,66,69,71,73,78,32,68,85,80,32,87,72,73,76,69,32,83,87,65,80,32,49,43,32,83,87,65,80,32,49,45,32,82,69,80,69,65,84,32,68,82,79,80,32,59,32]++(dh (k:Int) 10).1++[32,100,111,119,110]:=by
  simp only[xb,tk,List.map,List.nil_append,List.append_assoc,List.cons_append]
 rw[tF]at eF
 rw[tG]at eG
 rw[tI]at eI
 obtain⟨pF,_⟩:=Fg a okO (by simp only[List.length_append,List.length_cons,List.length_nil];omega) (by decide) eF
 obtain⟨pG,_⟩:=Fg a okO (by simp only[List.length_append,List.length_cons,List.length_nil];omega) (by decide) eG
 obtain⟨pI,_⟩:=Fg a okO (by simp only[List.length_append,List.length_cons,List.length_nil];omega) (by decide) eI
 exact aK9 a n c k hc hk fO fF fG fI uF uG uI _ _ (am1 a) N3 ⟨by omega,by omega⟩ p1 p2 pF pG pI (Jc aF).2.1 (Jc aG).2.1 (Jc aI).2.1
def walk_OuterChooses(a:Addr)(v0 v1:Value)(w:World)(h0:w.cell? ⟨1,0,none⟩=some (haltV a))(h1:w.cell? ⟨0,0,none⟩=some etV)(r0:YV w 3 v0)(r1:YV w 5 v1):
  Calls prog 7 #[v0,v1] w fun e w'=>e=.returned (.bool true)/\Below w.heap.size w w':=by
 obtain⟨n,hn,p0⟩:=am6 r0
 obtain⟨k,hk,p1⟩:=aM2 r1
 exact aj6 (args:=[i64 n,.val (.int .u8 (k:Int))]) (by simp[aw,aU]) (aJ8 a n hn k hk) h0 h1 (aj.2 ⟨p0,aj.2 ⟨p1,az.2 rfl⟩⟩)
end Go.Proofs.YtjcminooghmpeaaGreatDoor
