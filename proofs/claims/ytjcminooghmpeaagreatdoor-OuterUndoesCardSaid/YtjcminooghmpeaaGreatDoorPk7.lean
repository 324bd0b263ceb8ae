import Derived.Test.YtjcminooghmpeaaGreatDoorPk6
set_option linter.all false
set_option maxRecDepth 100000
set_option maxHeartbeats 40000000
open Go.Proofs.Tryz
namespace Go.Proofs.YtjcminooghmpeaaGreatDoor
open Go.RowKit
def dw{name:Str}{s:List Int}{limit:Int}{tk:Nat}{lv:List Int}(h1:nY name s=(tk:Int))(h2:yF name (s.drop (s.length-tk)) s.length=lv):
  dz name s limit=if s.length<tk then(s,true,-4)else lD s tk lv limit:=by
 have e:(nY name s).toNat=tk:=by rw[h1];rfl
 unfold dz
 rw[e,h2,h1,if_neg (by omega)]
 by_cases h:s.length<tk
 ·rw[if_pos h,if_pos (by omega)]
 rw[if_neg h,if_neg (by omega)]
 unfold lD
 rfl
def M9(s:List Int)(limit:Int)(hs:s.length<=100000)(hm : -9223372036854775808<=limit/\limit<=9223372036854775807):af prog 199 [str [68,69,80,84,72],sq au s,i64 limit] (A6 (dz [68,69,80,84,72] s limit)):=by
 refine zY func199 fun B=>?_
 refine zu3 ?_
 refine Ws<|zu1 ?_
 refine Wl<|zp1 ?_
 refine zq 17 ?_
 refine zs1 ?_
 refine Wt rfl (by decide) ?_
 refine zp4 ?_
 refine Wa 21 rfl (bsL au [_] rfl rfl) ?_
 refine z1 ?_
 refine zc rfl func237 ((pr s 0 _ limit hs (by omega) (by simp) hm) _) ?_
 refine zy5 ?_
 refine zs1 ?_
 refine zR ?_
 rw[dw (tk:=0) (lv:=[(s.length:Int)]) rfl rfl,if_neg (by omega)];rfl
def AV{s:List Int}{k:Nat}:(s.drop k).getD 0 0=s.getD k 0:=by unfold List.getD;rw[List.getElem?_drop];rfl
def IP{s:List Int}{k n:Nat}(h:k<n):(s.take n).getD k 0=s.getD k 0:=by unfold List.getD;rw[List.getElem?_take,if_pos h]
def T7{name:Str}{s:List Int}{limit:Int}{roll:Bool}(hp:nY name s=zd s)(hc:s.length=0\/s.getD (s.length-1) 0<0\/(s.length:Int)-1<=s.getD (s.length-1) 0):jh s roll limit=dz name s limit:=by
 have e:zd s=(s.length:Int)+1:=by rw[zd,if_pos hc]
 unfold dz
 rw[hp,e,if_neg (by omega),if_pos (by omega)]
 unfold jh
 rw[if_pos]
 unfold bk
 split
 ·exact .inl (by simp)
 rename_i h0
 refine .inr ?_
 rcases hc with hc|hc|hc
 ·exact absurd hc h0
 ·exact .inl hc
 refine .inr ?_
 simp only[List.length_take];omega
def NM{name:Str}{s:List Int}{limit:Int}{roll:Bool}(hp:nY name s=zd s)(hl:∀x d,yF name x d=if roll then(x.take (x.length-1)).drop 1++[xat x 0]else x.take (x.length-1)++[xat x 0])
  (hc:¬(s.length=0\/s.getD (s.length-1) 0<0\/(s.length:Int)-1<=s.getD (s.length-1) 0)):jh s roll limit=dz name s limit:=by
 have h0:s.length≠0:=fun h=>hc (.inl h)
 obtain⟨t,ht⟩:∃t:Nat,s.getD (s.length-1) 0=t:=⟨(s.getD (s.length-1) 0).toNat,by have:¬s.getD (s.length-1) 0<0:=fun h=>hc (.inr (.inl h));omega⟩
 have hlt:t+2<=s.length:=by have:¬((s.length:Int)-1<=s.getD (s.length-1) 0):=fun h=>hc (.inr (.inr h));omega
 have e:zd s=((t+2:Nat):Int):=by rw[zd,if_neg hc,ht];rfl
 have hd:(s.drop (s.length-(t+2))).length=t+2:=by rw[List.length_drop];omega
 have hx:xat (s.drop (s.length-(t+2))) 0=s.getD (s.length-(t+2)) 0:=AV
 have hpop:bk s=((t:Int),s.take (s.length-1),0):=by unfold bk;rw[if_neg h0,ht]
 rw[dw (tk:=t+2) (hp.trans e) (hl _ _),if_neg (by omega)]
 unfold jh
 rw[hpop]
 simp only[List.length_take,Int.toNat_natCast,Nat.min_eq_left (show s.length-1<=s.length by omega)]
 rw[if_neg (by rintro(h|h|h)<;>omega),hd,hx]
 have e1:s.length-1-1-t=s.length-(t+2):=by omega
 rw[e1,IP (by omega)]
 cases roll with
 | true =>
  simp only[if_true]
  congr 2
  rw[List.drop_take,List.drop_take,List.drop_drop]
  have e2:s.length-(t+2)+1=s.length-(t+2)+1:=rfl
  have e3:s.length-1-(s.length-(t+2)+1)=t+2-1-1:=by omega
  rw[e3]
 | false =>
  simp only[Bool.false_eq_true,if_false]
  unfold lD
  have hl1:((s.drop (s.length-(t+2))).take (t+2-1)++[s.getD (s.length-(t+2)) 0]).length=t+2:=by rw[List.length_append,List.length_take,hd];simp
  have e2:s.length-(t+2)+((s.drop (s.length-(t+2))).take (t+2-1)++[s.getD (s.length-(t+2)) 0]).length=s.length-1+[s.getD (s.length-(t+2)) 0].length:=by rw[hl1];simp;omega
  rw[e2,<-List.append_assoc,<-List.take_add]
  have e3:s.length-(t+2)+(t+2-1)=s.length-1:=by omega
  rw[e3]
def vy{name:Str}{s:List Int}{limit:Int}{roll:Bool}(hp:nY name s=zd s)(hl:∀x d,yF name x d=if roll then(x.take (x.length-1)).drop 1++[xat x 0]else x.take (x.length-1)++[xat x 0]):
  jh s roll limit=dz name s limit:=by
 by_cases hc:s.length=0\/s.getD (s.length-1) 0<0\/(s.length:Int)-1<=s.getD (s.length-1) 0
 ·exact T7 hp hc
 exact NM hp hl hc
def Qm(s:List Int)(limit:Int)(hs:s.length<=100000)(hm : -9223372036854775808<=limit/\limit<=9223372036854775807):af prog 199 [str [80,73,67,75],sq au s,i64 limit] (A6 (jh s false limit)):=by
 refine zY func199 fun B=>?_
 refine zu3 ?_
 refine Ws<|zu1 ?_
 refine Wl<|zp1 ?_
 refine zq 17 ?_
 refine zs1 ?_
 refine Wf rfl (by decide) ?_
 refine Ws<|zp1 ?_
 refine zq 28 ?_
 refine zs1 ?_
 refine Wt rfl (by decide) ?_
 refine Wj<|Wt rfl (by decide) ?_
 refine zp3 ?_
 refine zq 32 ?_
 refine z1 ?_
 refine zc rfl func238 ((GJ s _ limit hs hm) _) ?_
 refine zy5 ?_
 refine zs1 ?_
 refine zR ?_
 rfl
def QC(s:List Int)(limit:Int)(hs:s.length<=100000)(hm : -9223372036854775808<=limit/\limit<=9223372036854775807):af prog 199 [str [82,79,76,76],sq au s,i64 limit] (A6 (jh s true limit)):=by
 refine zY func199 fun B=>?_
 refine zu3 ?_
 refine Ws<|zu1 ?_
 refine Wl<|zp1 ?_
 refine zq 17 ?_
 refine zs1 ?_
 refine Wf rfl (by decide) ?_
 refine Ws<|zp1 ?_
 refine zq 28 ?_
 refine zs1 ?_
 refine Wf rfl (by decide) ?_
 refine aa rfl ?_
 refine z1 ?_
 refine zq 29 ?_
 refine zs1 ?_
 refine Wt rfl (by decide) ?_
 refine zp3 ?_
 refine zq 32 ?_
 refine z1 ?_
 refine zc rfl func238 ((GJ s _ limit hs hm) _) ?_
 refine zy5 ?_
 refine zs1 ?_
 refine zR ?_
 rfl
def B6(s:List Int)(limit:Int):List Int×Bool×Int :=
 if s.length=0 then(s,true,-4)else lD s 1 (if s.getD (s.length-1) 0=0 then [xat (s.drop (s.length-1)) 0]else [xat (s.drop (s.length-1)) 0,xat (s.drop (s.length-1)) 0]) limit
def Qj(s:List Int)(limit:Int)(hs:s.length<=100000)(hm : -9223372036854775808<=limit/\limit<=9223372036854775807):af prog 199 [str [63,68,85,80],sq au s,i64 limit] (A6 (B6 s limit)):=by
 refine zY func199 fun B=>?_
 refine zu3 ?_
 refine Ws<|zu1 ?_
 refine Wl<|zp1 ?_
 refine zq 17 ?_
 refine zs1 ?_
 refine Wf rfl (by decide) ?_
 refine Ws<|zp1 ?_
 refine zq 28 ?_
 refine zs1 ?_
 refine Wf rfl (by decide) ?_
 refine aa rfl ?_
 refine z1 ?_
 refine zq 29 ?_
 refine zs1 ?_
 refine Wf rfl (by decide) ?_
 refine Wj<|z8 ?_
 refine zc rfl func239 ((yr) _) ?_
 refine z1 ?_
 refine Wd rfl rfl (ba (b:=true) (e:=292) (key:=.s [63,68,85,80]) (by kernel_rfl) (lO tG rfl) (by kernel_rfl) rfl rfl rfl rfl (by kernel_rfl) ((show gJ Ew AT (.s [63,68,85,80]) (PV.agg [i64 0,str []])=(PV.agg [i64 0,str []],false) from rfl))) ?_
 refine zy5 ?_
 refine zs1 ?_
 refine Ws<|zp2 ?_
 refine zq 45 ?_
 refine Wn<|Wt rfl (by decide) ?_
 refine zu3 ?_
 refine zp4 ?_
 refine Wb 50 rfl (fun hg1=>?_) (fun hg1=>?_)
 ·have h0:¬s.length=0:=by(try simp only[dnL]at *);omega
  have w1:IntKind.i64.wrap ((s.length:Int)-1)=((s.length-1:Nat):Int):=by((rw[bB];unfold wrap64;(try simp only[dnL]at *);omega))
  refine zy4 ?_
  refine Wa 54 rfl (zI9 w1) ?_
  refine Wv tG rfl rfl rfl (by omega) (iN au 1 (fun _=>rfl) 0 (by omega)) ?_
  refine zs3 ?_
  refine Wi rfl (fun hi5=>?_) (fun hi5=>?_)
  ·have h1:s.getD (s.length-1) 0=0:=oT hi5
   refine aa rfl ?_
   refine zs2 ?_
   refine Ws<|zu2 ?_
   refine Wf rfl rfl ?_
   refine Wj<|Ws<|zu5 ?_
   refine Wf rfl (by(simp only[dnL]at *;omega)) ?_
   refine Wj<|zp5 ?_
   refine z1 ?_
   refine Wa 74 rfl (zI9 w1) ?_
   refine z2 ?_ (q:=(by(simp_all;done)))
   refine Wa 75 rfl (cF au 1 (fun _=>rfl) (by omega)) ?_
   refine Wa 75 rfl ((show _=sq au (s.drop (s.length-1)) by rw[List.take_length,Int.toNat_natCast];rfl)) ?_
   refine zs1 ?_
   refine zu1 ?_
   refine Ws<|zp2 ?_
   refine Wd rfl rfl (oI (lO tG rfl) rfl rfl rfl) ?_
   refine Wn<|Wl<|jF 4 ?_
   show W _ _ _ _ _ _ _
   refine z8 ?_
   refine Wd rfl rfl (sS rfl rfl rfl (by decide) (by decide)) ?_
   refine zs1 ?_
   refine Ws<|Wt rfl rfl ?_
   refine Wj<|Wl<|zu2 ?_
   refine aa rfl ?_
   refine zy4 ?_
   refine Wa 85 rfl ((show _=PV.val (.int .i32 0) from rfl)) ?_
   refine Wv tG rfl rfl rfl (by simp only[List.length_drop];omega) (iN au 1 (fun _=>rfl) 0 (by simp only[List.length_drop];omega)) ?_
   refine zy2 ?_
   refine Wa 88 rfl (bsL au [_] rfl rfl) ?_
   refine Wd rfl rfl (bK (lO tG rfl) rfl (lO tG rfl) (lO tG rfl) rfl rfl (by exact⟨_,rfl⟩) (by exact⟨rfl,rfl,al _ 1 (fun _=>rfl) _,bi _ (fun _=>rfl) _⟩) (by rfl) (by((simp_all;done))) (by((simp_all;done)))) ?_
   refine Wa 89 rfl (Th au _) ?_
   refine zs1 ?_
   show W _ _ _ _ _ _ _
   refine z8 ?_
   refine Wd rfl rfl (oJ rfl rfl rfl (by decide)) ?_
   refine zs1 ?_
   refine Ws<|Wf rfl rfl ?_
   refine aU ?_
   refine zp5 ?_
   refine zc rfl func237 ((pr s 1 _ limit hs (by omega) (by simp) hm) _) ?_
   refine zy5 ?_
   refine zs1 ?_
   refine zR ?_
   rw[B6,if_neg h0,if_pos h1];rfl
  have h1:¬s.getD (s.length-1) 0=0:=oF hi5
  refine Wj<|Ws<|zu2 ?_
  refine Wf rfl rfl ?_
  refine Wj<|Ws<|zu5 ?_
  refine Wf rfl (by(simp only[dnL]at *;omega)) ?_
  refine Wj<|zp5 ?_
  refine z1 ?_
  refine Wa 74 rfl (zI9 w1) ?_
  refine z2 ?_ (q:=(by(simp_all;done)))
  refine Wa 75 rfl (cF au 1 (fun _=>rfl) (by omega)) ?_
  refine Wa 75 rfl ((show _=sq au (s.drop (s.length-1)) by rw[List.take_length,Int.toNat_natCast];rfl)) ?_
  refine zs1 ?_
  refine zu1 ?_
  refine Ws<|zp2 ?_
  refine Wd rfl rfl (oI (lO tG rfl) rfl rfl rfl) ?_
  refine Wn<|Wl<|jF 4 ?_
  show W _ _ _ _ _ _ _
  refine z8 ?_
  refine Wd rfl rfl (sS rfl rfl rfl (by decide) (by decide)) ?_
  refine zs1 ?_
  refine Ws<|Wt rfl rfl ?_
  refine Wj<|Wl<|zu2 ?_
  refine aa rfl ?_
  refine zy4 ?_
  refine Wa 85 rfl ((show _=PV.val (.int .i32 0) from rfl)) ?_
  refine Wv tG rfl rfl rfl (by simp only[List.length_drop];omega) (iN au 1 (fun _=>rfl) 0 (by simp only[List.length_drop];omega)) ?_
  refine zy2 ?_
  refine Wa 88 rfl (bsL au [_] rfl rfl) ?_
  refine Wd rfl rfl (bK (lO tG rfl) rfl (lO tG rfl) (lO tG rfl) rfl rfl (by exact⟨_,rfl⟩) (by exact⟨rfl,rfl,al _ 1 (fun _=>rfl) _,bi _ (fun _=>rfl) _⟩) (by rfl) (by((simp_all;done))) (by((simp_all;done)))) ?_
  refine Wa 89 rfl (Th au _) ?_
  refine zs1 ?_
  show W _ _ _ _ _ _ _
  refine z8 ?_
  refine Wd rfl rfl (sS rfl rfl rfl (by decide) (by decide)) ?_
  refine zs1 ?_
  refine Ws<|Wt rfl rfl ?_
  refine Wj<|Wl<|zu2 ?_
  refine aa rfl ?_
  refine zy4 ?_
  refine Wa 85 rfl ((show _=PV.val (.int .i32 0) from rfl)) ?_
  refine Wv tG rfl rfl rfl (by simp only[List.length_drop];omega) (iN au 1 (fun _=>rfl) 0 (by simp only[List.length_drop];omega)) ?_
  refine zy2 ?_
  refine Wa 88 rfl (bsL au [_] rfl rfl) ?_
  refine Wd rfl rfl (cH (lO tG rfl) rfl (lO tG rfl) (lO tG rfl) rfl rfl rfl rfl (by simp) (by exact⟨_,rfl⟩) (by exact⟨rfl,rfl,al _ 1 (fun _=>rfl) _,bi _ (fun _=>rfl) _⟩) (by((simp_all;done))) (by((simp_all;done)))) ?_
  refine Wa 89 rfl (bT au) ?_
  refine zs1 ?_
  show W _ _ _ _ _ _ _
  refine z8 ?_
  refine Wd rfl rfl (oJ rfl rfl rfl (by decide)) ?_
  refine zs1 ?_
  refine Ws<|Wf rfl rfl ?_
  refine aU ?_
  refine zp5 ?_
  refine zc rfl func237 ((pr s 1 _ limit hs (by omega) (by simp) hm) _) ?_
  refine zy5 ?_
  refine zs1 ?_
  refine zR ?_
  rw[B6,if_neg h0,if_neg h1];rfl
 have h0:s.length=0:=by(try simp only[dnL]at *);omega
 have w1:IntKind.i64.wrap ((s.length:Int)-1) = -1:=by((rw[bB];unfold wrap64;(try simp only[dnL]at *);omega))
 iterate 7 refine z6 ?_
 refine zs1 ?_
 refine Wf rfl rfl ?_
 refine Wj<|Ws<|zu2 ?_
 refine Wf rfl rfl ?_
 refine Wj<|Ws<|zu5 ?_
 refine Wt rfl (by(simp only[dnL]at *;omega)) ?_
 refine zu4 ?_
 refine zR ?_
 rw[B6,if_pos h0];rfl
def oY:List Str:=[[68,85,80],[68,82,79,80],[83,87,65,80],[79,86,69,82],[78,73,80],[84,85,67,75],[82,79,84],[45,82,79,84],[50,68,85,80],[50,68,82,79,80],[50,83,87,65,80],[50,79,86,69,82],[63,68,85,80],[80,73,67,75],[82,79,76,76],[68,69,80,84,72]]
def EC(s:List Int)(limit:Int):B6 s limit=dz [63,68,85,80] s limit:=by
 rw[dw (tk:=1) (lv:=if xat (s.drop (s.length-1)) 0=0 then s.drop (s.length-1)else [xat (s.drop (s.length-1)) 0,xat (s.drop (s.length-1)) 0]) rfl rfl]
 unfold B6
 by_cases h0:s.length=0
 ·rw[if_pos h0,if_pos (show s.length<1 by omega)]
 rw[if_neg h0,if_neg (show ¬s.length<1 by omega)]
 have hx:xat (s.drop (s.length-1)) 0=s.getD (s.length-1) 0:=AV
 have hd:s.drop (s.length-1)=[s.getD (s.length-1) 0]:=by
  rw[List.drop_eq_getElem_cons (by omega),show s.length-1+1=s.length by omega,List.drop_length]
  simp[List.getD,List.getElem?_eq_getElem (show s.length-1<s.length by omega)]
 rw[hx,hd]
def E9(name:Str)(hn:name∈oY)(s:List Int)(limit:Int)(hs:s.length<=100000)(hm : -9223372036854775808<=limit/\limit<=9223372036854775807):af prog 199 [str name,sq au s,i64 limit] (A6 (dz name s limit)):=by
 simp only[oY,List.mem_cons,List.not_mem_nil,or_false]at hn
 rcases hn with rfl|rfl|rfl|rfl|rfl|rfl|rfl|rfl|rfl|rfl|rfl|rfl|rfl|rfl|rfl|rfl
 ·rw[dw (tk:=1) (lv:=([97,97]:Str).map fun c=>(s.drop (s.length-1)).getD (c.toNat-97) 0) rfl rfl]
  exact iz _ s limit 1 [97,97] hs hm (by decide) (by decide) (by decide) (by decide) rfl (by decide) (by decide) (by decide)
 ·rw[dw (tk:=1) (lv:=([]:Str).map fun c=>(s.drop (s.length-1)).getD (c.toNat-97) 0) rfl rfl]
  exact iz _ s limit 1 [] hs hm (by decide) (by decide) (by decide) (by decide) rfl (by decide) (by decide) (by decide)
 ·rw[dw (tk:=2) (lv:=([98,97]:Str).map fun c=>(s.drop (s.length-2)).getD (c.toNat-97) 0) rfl rfl]
  exact iz _ s limit 2 [98,97] hs hm (by decide) (by decide) (by decide) (by decide) rfl (by decide) (by decide) (by decide)
 ·rw[dw (tk:=2) (lv:=([97,98,97]:Str).map fun c=>(s.drop (s.length-2)).getD (c.toNat-97) 0) rfl rfl]
  exact iz _ s limit 2 [97,98,97] hs hm (by decide) (by decide) (by decide) (by decide) rfl (by decide) (by decide) (by decide)
 ·rw[dw (tk:=2) (lv:=([98]:Str).map fun c=>(s.drop (s.length-2)).getD (c.toNat-97) 0) rfl rfl]
  exact iz _ s limit 2 [98] hs hm (by decide) (by decide) (by decide) (by decide) rfl (by decide) (by decide) (by decide)
 ·rw[dw (tk:=2) (lv:=([98,97,98]:Str).map fun c=>(s.drop (s.length-2)).getD (c.toNat-97) 0) rfl rfl]
  exact iz _ s limit 2 [98,97,98] hs hm (by decide) (by decide) (by decide) (by decide) rfl (by decide) (by decide) (by decide)
 ·rw[dw (tk:=3) (lv:=([98,99,97]:Str).map fun c=>(s.drop (s.length-3)).getD (c.toNat-97) 0) rfl rfl]
  exact iz _ s limit 3 [98,99,97] hs hm (by decide) (by decide) (by decide) (by decide) rfl (by decide) (by decide) (by decide)
 ·rw[dw (tk:=3) (lv:=([99,97,98]:Str).map fun c=>(s.drop (s.length-3)).getD (c.toNat-97) 0) rfl rfl]
  exact iz _ s limit 3 [99,97,98] hs hm (by decide) (by decide) (by decide) (by decide) rfl (by decide) (by decide) (by decide)
 ·rw[dw (tk:=2) (lv:=([97,98,97,98]:Str).map fun c=>(s.drop (s.length-2)).getD (c.toNat-97) 0) rfl rfl]
  exact iz _ s limit 2 [97,98,97,98] hs hm (by decide) (by decide) (by decide) (by decide) rfl (by decide) (by decide) (by decide)
 ·rw[dw (tk:=2) (lv:=([]:Str).map fun c=>(s.drop (s.length-2)).getD (c.toNat-97) 0) rfl rfl]
  exact iz _ s limit 2 [] hs hm (by decide) (by decide) (by decide) (by decide) rfl (by decide) (by decide) (by decide)
 ·rw[dw (tk:=4) (lv:=([99,100,97,98]:Str).map fun c=>(s.drop (s.length-4)).getD (c.toNat-97) 0) rfl rfl]
  exact iz _ s limit 4 [99,100,97,98] hs hm (by decide) (by decide) (by decide) (by decide) rfl (by decide) (by decide) (by decide)
 ·rw[dw (tk:=4) (lv:=([97,98,99,100,97,98]:Str).map fun c=>(s.drop (s.length-4)).getD (c.toNat-97) 0) rfl rfl]
  exact iz _ s limit 4 [97,98,99,100,97,98] hs hm (by decide) (by decide) (by decide) (by decide) rfl (by decide) (by decide) (by decide)
 ·rw[<-EC];exact Qj s limit hs hm
 ·rw[<-vy (name:=[80,73,67,75]) (roll:=false) rfl (fun _ _=>rfl)];exact Qm s limit hs hm
 ·rw[<-vy (name:=[82,79,76,76]) (roll:=true) rfl (fun _ _=>rfl)];exact QC s limit hs hm
 exact M9 s limit hs hm
def sR(n:Int):af prog 165 [i64 n] (boo (decide (23<=n/\n<=129))):=by
 refine zY func165 fun B=>?_
 refine zu1 ?_
 refine zp3 ?_
 refine Wb 5 rfl (fun hg1=>?_) (fun hg1=>?_)
 ·have h0:23<=n:=oT hg1
  refine zs4 ?_
  refine zR ?_
  exact congrArg boo (by rw[Bool.eq_iff_iff,decide_eq_true_eq,decide_eq_true_eq];omega)
 have h0:¬23<=n:=oF hg1
 iterate 2 refine z6 ?_
 refine zs2 ?_
 refine zR ?_
 exact congrArg boo (decide_eq_false (by omega)).symm
def aD6(name:Str)(x:List Int)(hx:XOk 2 x):af prog 241 ([sq au x]++[.row [str name]]) (tLv ([(lJ name (xat x 0) (xat x 1)).1],(lJ name (xat x 0) (xat x 1)).2.2)):=by
 have hl:=hx.len
 refine zY func241 fun B=>?_
 refine zu2 ?_
 refine Ws<|am [1,0,0,1,0,0,1,0,0,0,0,0,0,0,0] [0,1,2,3,4,5,6,7,8,9,10,11,12,13,14] mG rfl (by kernel_rfl) ?_
 refine z5 ?_
 refine z3 ?_
 refine z9i ?_
 refine z5 ?_
 refine z3 ?_
 refine z9i ?_
 refine z5 ?_
 refine Xc rfl rfl rfl rfl (fun _=>dC rfl func242 rfl rfl ((W7 name _ _ (hx.fit 1)) _)) ?_
 iterate 7 refine z3 ?_
 refine ap ?_
 refine zp2 ?_
 refine Wa 21 rfl (bsL au [_] rfl rfl) ?_
 refine zs3 ?_
 refine zR ?_
 rfl
def aE1(name:Str)(x:List Int)(hx:XOk 1 x):af prog 243 ([sq au x]++[.row [str name]]) (tLv ([(vr name (xat x 0)).1],0)):=by
 have hl:=hx.len
 refine zY func243 fun B=>?_
 refine zu2 ?_
 refine Ws<|am [1,0,0,1,0,0,0,0,0,0] [0,1,2,3,4,5,6,7,8,9] mG rfl (by kernel_rfl) ?_
 refine z5 ?_
 refine z3 ?_
 refine z9i ?_
 refine z5 ?_
 refine Xc rfl rfl rfl rfl (fun _=>dC rfl func244 rfl rfl ((Kp name _ (hx.fit 0)) _)) ?_
 iterate 5 refine z3 ?_
 refine ap ?_
 refine zp2 ?_
 refine Wa 16 rfl (bsL au [_] rfl rfl) ?_
 refine zc rfl func245 ((lx _) _) ?_
 refine zs4 ?_
 refine zR ?_
 rfl
def M4(n:Int)(name:Str)(hn:n<=58):af prog 200 [i64 n,str name] (bm 2 271 [.row [fnP 241 [.row [str name]]]]):=by
 refine zY func200 fun B=>?_
 refine zp1 ?_
 refine bQ 3 _ rfl rfl rfl ?_
 refine zs1 ?_
 refine Ws<|Wl<|zu3 ?_
 refine Wt rfl (by exact decide_eq_true hn) ?_
 refine zp1 ?_
 refine zc rfl func240 ((jq 2 241 [.row [str name]] (by simp)) _) ?_
 refine zs1 ?_
 refine zR ?_
 rfl
def Nm(n:Int)(name:Str)(h0:58<n)(hn:n<=72):af prog 200 [i64 n,str name] (bm 1 271 [.row [fnP 243 [.row [str name]]]]):=by
 refine zY func200 fun B=>?_
 refine zp1 ?_
 refine bQ 3 _ rfl rfl rfl ?_
 refine zs1 ?_
 refine Ws<|Wl<|zu3 ?_
 refine Wf rfl (by exact decide_eq_false (by omega)) ?_
 refine zu3 ?_
 refine Wt rfl (by exact decide_eq_true hn) ?_
 refine zp1 ?_
 refine zc rfl func240 ((jq 1 243 [.row [str name]] (by simp)) _) ?_
 refine zs1 ?_
 refine zR ?_
 rfl
def doR(v:VVm)(k:Nat)(r:VVm×List Int×Int):VVm×Int :=
 if v.d.length<k then(v,-4)else if r.2.2≠0 then(v,r.2.2)else
 if v.conf.data<((v.d.length-k+r.2.1.length:Nat):Int)then(v,-3)else({r.1 with d:=v.d.take (v.d.length-k)++r.2.1},0)
def af2(v:VVm)(n:Int)(hn:¬(23<=n/\n<=129)):af prog 166 [eVm v,i64 n] (tVm (v,-24)):=by
 refine zY func166 fun B=>?_
 refine zu3 ?_
 refine Ws<|zp1 ?_
 refine zc rfl func165 ((sR n) _) ?_
 refine zs1 ?_
 refine Wt rfl (by rw[decide_eq_false hn];rfl) ?_
 refine zu3 ?_
 refine zR ?_
 rfl
def wH:aq.length=130:=lf
def JD(v:VVm)(n:Int)(h0:23<=n)(h1:n<=38)(hs:aq.getD n.toNat []∈oY)(hd:v.d.length<=100000)(hm:ab v.conf.data):
  af prog 166 [eVm v,i64 n] (tVm ({v with d:=(dz (aq.getD n.toNat []) v.d v.conf.data).1},(dz (aq.getD n.toNat []) v.d v.conf.data).2.2)):=by
 have hN:=wH
 refine zY func166 fun B=>?_
 refine zu3 ?_
 refine Ws<|zp1 ?_
 refine zc rfl func165 ((sR n) _) ?_
 refine zs1 ?_
 refine Wf rfl (by rw[decide_eq_true ⟨h0,by omega⟩];rfl) ?_
 refine Wj<|z8 ?_
 refine zc rfl func98 ((ny) _) ?_
 refine z1 ?_
 refine Wv tG rfl rfl rfl (by omega) (iR fa 1 (fun _=>rfl) [] (by omega)) ?_
 refine zs2 ?_
 refine zu3 ?_
 refine Ws<|zu2 ?_
 refine Wt rfl (by exact decide_eq_true h1) ?_
 refine zp5 ?_
 refine z1 ?_
 refine zc rfl func199 ((E9 _ hs _ _ hd hm) _) ?_
 refine zy5 ?_
 refine zs2 ?_
 refine zu3 ?_
 refine zu4 ?_
 refine zR ?_
 rfl
def aX(v:VVm)(n:Int)(k:Nat)(f:FuncId)(cap:List PV)(r:VVm×List Int×Int)(h0:39<=n)(h1:n<=129)(hdl:v.d.length<=100000)(hm:ab v.conf.data)(hk:k<=10)(hc:aG cap)
  (hf:af prog 200 [i64 n,str (aq.getD n.toNat [])] (bm k f cap)) (hr:r.2.1.length<=10)
  (hd:k<=v.d.length->∀(H:List Ob) (i:Nat),H[i]?=some (.cells (cVm v) 37)->nD prog f (.ptr i 0::([sq au (v.d.drop (v.d.length-k))]++cap)) H (tLv r.2) (H.set i (.cells (cVm r.1) 37))) :
  af prog 166 [eVm v,i64 n] (tVm (doR v k r)):=by
 have hN:=wH
 have ht:(v.d.take (v.d.length-k)).length=v.d.length-k:=by rw[List.length_take];omega
 refine zY func166 fun B=>?_
 refine zu3 ?_
 refine Ws<|zp1 ?_
 refine zc rfl func165 ((sR n) _) ?_
 refine zs1 ?_
 refine Wf rfl (by rw[decide_eq_true ⟨by omega,h1⟩];rfl) ?_
 refine Wj<|z8 ?_
 refine zc rfl func98 ((ny) _) ?_
 refine z1 ?_
 refine Wv tG rfl rfl rfl (by omega) (iR fa 1 (fun _=>rfl) [] (by omega)) ?_
 refine zs2 ?_
 refine zu3 ?_
 refine Ws<|zu2 ?_
 refine Wf rfl (by exact decide_eq_false (by omega)) ?_
 refine Wj<|zp2 ?_
 refine zc rfl func200 ((hf) _) ?_
 refine zs2 ?_
 refine Ws<|zp5 ?_
 refine zs1 ?_
 refine Wi rfl (fun hi3=>?_) (fun hi3=>?_)
 ·have q0:v.d.length<k:=by(try simp only[dnL]at *);omega
  refine zu3 ?_
  refine zR ?_
  rw[doR,if_pos q0];rfl
 have q0:¬v.d.length<k:=by(try simp only[dnL]at *);omega
 have w1:IntKind.i64.wrap ((v.d.length:Int)-(k:Int))=((v.d.length-k:Nat):Int):=by((rw[bB];unfold wrap64;(try simp only[dnL]at *);omega))
 have w2:IntKind.i64.wrap (((v.d.length-k:Nat):Int)+(r.2.1.length:Int))=((v.d.length-k+r.2.1.length:Nat):Int):=by((rw[bB];unfold wrap64;(try simp only[dnL]at *);omega))
 refine Wj<|zp5 ?_
 refine z1 ?_
 refine Wa 56 rfl (zI9 w1) ?_
 refine zs1 ?_
 refine Ws<|am [0,10,0,4,0,0,0,9,0,0,0,0,0] [0,1,2,3,4,5,6,7,8,9,10,11,12] mG rfl (by kernel_rfl) ?_
 refine z3 ?_
 refine zU 3 ?_
 refine z3 ?_
 refine zU 0 ?_
 refine z3 ?_
 refine z4 ?_ (q:=(by(simp_all;done)))
 refine Xa 63 rfl (cF au 1 (fun _=>rfl) (by omega)) ?_
 refine Xa 63 rfl ((show _=sq au (v.d.drop (v.d.length-k)) by rw[List.take_length,Int.toNat_natCast];rfl)) ?_
 refine Xc rfl rfl rfl rfl (fun _=>dC rfl func201 rfl rfl ((HT _ (by simp;omega)) _)) ?_
 refine ZH 2 rfl rfl rfl rfl (eQ rfl rfl (hd (by omega) _ 2 rfl)) rfl ?_
 iterate 5 refine z3 ?_
 refine ap ?_
 refine Ws<|zu2 ?_
 refine Wi rfl (fun hi4=>?_) (fun hi4=>?_)
 ·have q1:r.2.2≠0:=bne_iff_ne.1 hi4
  refine zu4 ?_
  refine zR ?_
  rw[doR,if_neg q0,if_pos q1];rfl
 have q1:¬r.2.2≠0:=fun h=>h (bne_eq_false_iff_eq.1 hi4)
 refine Wj<|Ws<|zp4 ?_
 refine Wa 75 rfl (zI9 w2) ?_
 refine zs4 ?_
 refine Wi rfl (fun hi5=>?_) (fun hi5=>?_)
 ·have q2:v.conf.data<((v.d.length-k+r.2.1.length:Nat):Int):=oT hi5
  refine zu3 ?_
  refine zR ?_
  rw[doR,if_neg q0,if_neg q1,if_pos q2];rfl
 have q2:¬v.conf.data<((v.d.length-k+r.2.1.length:Nat):Int):=oF hi5
 refine Wj<|zp3 ?_
 refine z2 ?_ (q:=(by(simp_all;done)))
 refine Wa 84 rfl (cF au 1 (fun _=>rfl) (by omega)) ?_
 refine Wa 84 rfl ((show _=sq au (v.d.take (v.d.length-k)) by rw[Int.toNat_natCast,List.drop_zero];rfl)) ?_
 refine zy2 ?_
 refine Wa 86 rfl (bsL Br [_,_] rfl rfl) ?_
 refine zc rfl func202 ((La _ _ (by rw[ht];omega) (by omega)) _) ?_
 refine zs2 ?_
 refine zu3 ?_
 refine zR ?_
 rw[doR,if_neg q0,if_neg q1,if_neg q2];rfl
structure dn (v:VVm):Prop where
 mem:cy v.mem
 old:v.mem.old.length+1<=1000000
 here:fG v.mem v.here
 out2:0<=v.conf.out/\v.conf.out<=900000
 out:v.out.length<=1000000
 pic:v.pic.b.length<=1000000
 req:v.req.length<=100000
 hand:v.hand.length<=1000000
 d:v.d.length<=50000
 fit:∀a∈v.d,ab a
 data:ab v.conf.data
def dn.out1{v:VVm}(h:dn v):0<=v.conf.out/\v.conf.out<=1000000:=by have:=h.out2;omega
def dn.x{v:VVm}(h:dn v){k:Nat}(hk:k<=v.d.length):XOk k (v.d.drop (v.d.length-k)) :=
 ⟨by rw[List.length_drop];omega,fun a ha=>h.fit a (List.mem_of_mem_drop ha)⟩
def Eu(m:bf)(a n:Int):(cv m a n).1.length<=m.b.length:=by
 unfold cv
 split
 ·simp only[List.length_take,List.length_drop];omega
 simp
def MT(b:Nat):∀k u,(tc b k u).length<=k+1:=by
 intro k
 induction k with
 | zero=>intro u;simp[tc]
 | succ k ih=>intro u;unfold tc;split<;>simp;have:=ih (u/b);omega
def rC(u b:Nat):(nG u b).length<=900:=by
 unfold nG
 have:=MT b 64 u
 simp only[List.length_reverse,List.length_map]
 omega
def BG(n b:Int):(iV n b).1.length<=1000:=by
 unfold iV
 split
 ·simp only
  split
  ·have:=rC (U n) b.toNat;omega
  have:=rC (U (wrap64 (-n))) b.toNat;simp only[List.length_cons];omega
 simp
def aJ{v:VVm}{n:Int}(h0:39<=n)(h1:n<=129):doS v n=doR v (bj n (aq.getD n.toNat [])) (bM v n (aq.getD n.toNat []) (v.d.drop (v.d.length-bj n (aq.getD n.toNat [])))):=by
 unfold doS doR
 rw[if_neg (by omega)]
 simp only
 rw[if_neg (by omega)]
def Ma{v:VVm}{k:Nat}{r r':VVm×List Int×Int}(h1:r'.2.2=r.2.2)(h2:r.2.2=0->r'=r):doR v k r'=doR v k r:=by
 by_cases h:r.2.2=0
 ·rw[h2 h]
 unfold doR
 rw[h1]
 simp only[h,ne_eq,not_false_eq_true,if_true]
def NI(v:VVm)(x:List Int):(v,bI v x).2.2=(va v x).2.2:=by
 unfold bI va
 split<;>rfl
def UV(v:VVm)(x:List Int)(h:(va v x).2.2=0):(v,bI v x)=va v x:=by
 unfold bI va at *
 split at h
 ·cases h
 rename_i hc;rw[if_neg hc,if_neg hc]
def Ao(n b:Int):(gy n b).1.length<=1000:=by
 unfold gy
 split
 ·have:=rC (U n) b.toNat;simp only;omega
 simp
def ah7(v:VVm)(hv:dn v)(n:Int)(h0:39<=n)(h1:n<=58):af prog 166 [eVm v,i64 n] (tVm (doS v n)):=by
 have hk:bj n (aq.getD n.toNat [])=2:=by unfold bj;rw[if_pos h1]
 rw[aJ h0 (by omega),hk]
 have e:∀x,bM v n (aq.getD n.toNat []) x=(v,[(lJ (aq.getD n.toNat []) (xat x 0) (xat x 1)).1],(lJ (aq.getD n.toNat []) (xat x 0) (xat x 1)).2.2):=fun x=>by unfold bM;rw[if_pos h1]
 rw[e]
 exact aX v n 2 271 _ _ h0 (by omega) (by have:=hv.d;omega) hv.data (by omega) (by simp) (M4 n _ h1) (by simp) (fun hk H i hi=>⟨⟨_,func271,rfl,rfl⟩,lq 241 [.row [str (aq.getD n.toNat [])]] v _ _ (by simp) (fun H=>⟨⟨_,func241,rfl,rfl⟩,aD6 _ _ (hv.x hk) H⟩) H i hi⟩)
def Z7(v:VVm)(hv:dn v)(n:Int)(h0:58<n)(h1:n<=72):af prog 166 [eVm v,i64 n] (tVm (doS v n)):=by
 have hk:bj n (aq.getD n.toNat [])=1:=by unfold bj;rw[if_neg (by omega),if_pos h1]
 rw[aJ (by omega) (by omega),hk]
 have e:∀x,bM v n (aq.getD n.toNat []) x=(v,[(vr (aq.getD n.toNat []) (xat x 0)).1],0):=fun x=>by unfold bM;rw[if_neg (by omega),if_pos h1]
 rw[e]
 exact aX v n 1 271 _ _ (by omega) (by omega) (by have:=hv.d;omega) hv.data (by omega) (by simp) (Nm n _ h0 h1) (by simp) (fun hk H i hi=>⟨⟨_,func271,rfl,rfl⟩,lq 243 [.row [str (aq.getD n.toNat [])]] v _ _ (by simp) (fun H=>⟨⟨_,func243,rfl,rfl⟩,aE1 _ _ (hv.x hk) H⟩) H i hi⟩)
def at3(v:VVm)(x:List Int):bM v 73 [47,77,79,68] x=(v,bz x):=by kernel_rfl
def ar8(v:VVm)(hv:dn v):af prog 166 [eVm v,i64 73] (tVm (doS v 73)):=by
 have hk:bj 73 (aq.getD (73:Int).toNat [])=2:=by kernel_rfl
 have hn:aq.getD (73:Int).toNat []=[47,77,79,68]:=by kernel_rfl
 rw[aJ (by decide) (by decide),hk,hn,at3]
 refine aX v 73 2 271 [.row [fnP 280 oQ]] _ (by decide) (by decide) (by have:=hv.d;omega) hv.data (by decide) (by simp) (by rw[hn];exact jE 73 _ _ _ _ (by decide) (by simp)  rfl) (by(show List.length _<=_;simp[b8,bC,di,ei,fy,fR,fF,b7,bz,bc,cZ,pUM,pM,cX,da,cY,pSD,bx,bI])) (fun hk H i hi=>?_)
 have hx:=hv.x hk
 generalize v.d.drop (v.d.length-2)=x at hx ⊢
 exact⟨⟨_,func271,rfl,rfl⟩,lq 280 oQ v x (v,bz x).2 (by simp) (fun H=>⟨⟨_,func280,rfl,rfl⟩,aC7 x hx H⟩) H i hi⟩
def al9(v:VVm)(x:List Int):bM v 75 [42,47,77,79,68] x=(v,bc x):=by kernel_rfl
def at5(v:VVm)(hv:dn v):af prog 166 [eVm v,i64 75] (tVm (doS v 75)):=by
 have hk:bj 75 (aq.getD (75:Int).toNat [])=3:=by kernel_rfl
 have hn:aq.getD (75:Int).toNat []=[42,47,77,79,68]:=by kernel_rfl
 rw[aJ (by decide) (by decide),hk,hn,al9]
 refine aX v 75 3 271 [.row [fnP 281 Fu]] _ (by decide) (by decide) (by have:=hv.d;omega) hv.data (by decide) (by simp) (by rw[hn];exact jE 75 _ _ _ _ (by decide) (by simp)  rfl) (by(show List.length _<=_;simp[b8,bC,di,ei,fy,fR,fF,b7,bz,bc,cZ,pUM,pM,cX,da,cY,pSD,bx,bI])) (fun hk H i hi=>?_)
 have hx:=hv.x hk
 generalize v.d.drop (v.d.length-3)=x at hx ⊢
 exact⟨⟨_,func271,rfl,rfl⟩,lq 281 Fu v x (v,bc x).2 (by simp) (fun H=>⟨⟨_,func281,rfl,rfl⟩,aD4 x hx H⟩) H i hi⟩
def av3(v:VVm)(x:List Int):bM v 74 [42,47] x=(v,cZ x):=by kernel_rfl
def at8(v:VVm)(hv:dn v):af prog 166 [eVm v,i64 74] (tVm (doS v 74)):=by
 have hk:bj 74 (aq.getD (74:Int).toNat [])=3:=by kernel_rfl
 have hn:aq.getD (74:Int).toNat []=[42,47]:=by kernel_rfl
 rw[aJ (by decide) (by decide),hk,hn,av3]
 refine aX v 74 3 271 [.row [fnP 282 RI]] _ (by decide) (by decide) (by have:=hv.d;omega) hv.data (by decide) (by simp) (by rw[hn];exact jE 74 _ _ _ _ (by decide) (by simp)  rfl) (by(show List.length _<=_;simp[b8,bC,di,ei,fy,fR,fF,b7,bz,bc,cZ,pUM,pM,cX,da,cY,pSD,bx,bI])) (fun hk H i hi=>?_)
 have hx:=hv.x hk
 generalize v.d.drop (v.d.length-3)=x at hx ⊢
 exact⟨⟨_,func271,rfl,rfl⟩,lq 282 RI v x (v,cZ x).2 (by simp) (fun H=>⟨⟨_,func282,rfl,rfl⟩,aC0 x hx H⟩) H i hi⟩
def as0(v:VVm)(x:List Int):bM v 76 [85,77,42] x=(v,pUM x):=by kernel_rfl
def ay4(v:VVm)(hv:dn v):af prog 166 [eVm v,i64 76] (tVm (doS v 76)):=by
 have hk:bj 76 (aq.getD (76:Int).toNat [])=2:=by kernel_rfl
 have hn:aq.getD (76:Int).toNat []=[85,77,42]:=by kernel_rfl
 rw[aJ (by decide) (by decide),hk,hn,as0]
 refine aX v 76 2 271 [.row [fnP 283 []]] _ (by decide) (by decide) (by have:=hv.d;omega) hv.data (by decide) (by simp) (by rw[hn];exact jE 76 _ _ _ _ (by decide) (by simp)  rfl) (by(show List.length _<=_;simp[b8,bC,di,ei,fy,fR,fF,b7,bz,bc,cZ,pUM,pM,cX,da,cY,pSD,bx,bI])) (fun hk H i hi=>?_)
 have hx:=hv.x hk
 generalize v.d.drop (v.d.length-2)=x at hx ⊢
 exact⟨⟨_,func271,rfl,rfl⟩,lq 283 [] v x (v,pUM x).2 (by simp) (fun H=>⟨⟨_,func283,rfl,rfl⟩,aA8 x hx H⟩) H i hi⟩
def am4(v:VVm)(x:List Int):bM v 78 [77,42] x=(v,pM x):=by kernel_rfl
def ap5(v:VVm)(hv:dn v):af prog 166 [eVm v,i64 78] (tVm (doS v 78)):=by
 have hk:bj 78 (aq.getD (78:Int).toNat [])=2:=by kernel_rfl
 have hn:aq.getD (78:Int).toNat []=[77,42]:=by kernel_rfl
 rw[aJ (by decide) (by decide),hk,hn,am4]
 refine aX v 78 2 271 [.row [fnP 285 []]] _ (by decide) (by decide) (by have:=hv.d;omega) hv.data (by decide) (by simp) (by rw[hn];exact jE 78 _ _ _ _ (by decide) (by simp)  rfl) (by(show List.length _<=_;simp[b8,bC,di,ei,fy,fR,fF,b7,bz,bc,cZ,pUM,pM,cX,da,cY,pSD,bx,bI])) (fun hk H i hi=>?_)
 have hx:=hv.x hk
 generalize v.d.drop (v.d.length-2)=x at hx ⊢
 exact⟨⟨_,func271,rfl,rfl⟩,lq 285 [] v x (v,pM x).2 (by simp) (fun H=>⟨⟨_,func285,rfl,rfl⟩,aB2 x hx H⟩) H i hi⟩
def am8(v:VVm)(x:List Int):bM v 77 [85,77,47,77,79,68] x=(v,cX x):=by kernel_rfl
def av5(v:VVm)(hv:dn v):af prog 166 [eVm v,i64 77] (tVm (doS v 77)):=by
 have hk:bj 77 (aq.getD (77:Int).toNat [])=3:=by kernel_rfl
 have hn:aq.getD (77:Int).toNat []=[85,77,47,77,79,68]:=by kernel_rfl
 rw[aJ (by decide) (by decide),hk,hn,am8]
 refine aX v 77 3 271 [.row [fnP 286 oQ]] _ (by decide) (by decide) (by have:=hv.d;omega) hv.data (by decide) (by simp) (by rw[hn];exact jE 77 _ _ _ _ (by decide) (by simp)  rfl) (by(show List.length _<=_;simp[b8,bC,di,ei,fy,fR,fF,b7,bz,bc,cZ,pUM,pM,cX,da,cY,pSD,bx,bI])) (fun hk H i hi=>?_)
 have hx:=hv.x hk
 generalize v.d.drop (v.d.length-3)=x at hx ⊢
 exact⟨⟨_,func271,rfl,rfl⟩,lq 286 oQ v x (v,cX x).2 (by simp) (fun H=>⟨⟨_,func286,rfl,rfl⟩,aC2 x hx H⟩) H i hi⟩
def ar1(v:VVm)(x:List Int):bM v 79 [83,77,47,82,69,77] x=(v,da x):=by kernel_rfl
def at9(v:VVm)(hv:dn v):af prog 166 [eVm v,i64 79] (tVm (doS v 79)):=by
 have hk:bj 79 (aq.getD (79:Int).toNat [])=3:=by kernel_rfl
 have hn:aq.getD (79:Int).toNat []=[83,77,47,82,69,77]:=by kernel_rfl
 rw[aJ (by decide) (by decide),hk,hn,ar1]
 refine aX v 79 3 271 [.row [fnP 288 oQ]] _ (by decide) (by decide) (by have:=hv.d;omega) hv.data (by decide) (by simp) (by rw[hn];exact jE 79 _ _ _ _ (by decide) (by simp)  rfl) (by(show List.length _<=_;simp[b8,bC,di,ei,fy,fR,fF,b7,bz,bc,cZ,pUM,pM,cX,da,cY,pSD,bx,bI])) (fun hk H i hi=>?_)
 have hx:=hv.x hk
 generalize v.d.drop (v.d.length-3)=x at hx ⊢
 exact⟨⟨_,func271,rfl,rfl⟩,lq 288 oQ v x (v,da x).2 (by simp) (fun H=>⟨⟨_,func288,rfl,rfl⟩,aD8 x hx H⟩) H i hi⟩
def ay2(v:VVm)(x:List Int):bM v 80 [70,77,47,77,79,68] x=(v,cY x):=by kernel_rfl
def ar0(v:VVm)(hv:dn v):af prog 166 [eVm v,i64 80] (tVm (doS v 80)):=by
 have hk:bj 80 (aq.getD (80:Int).toNat [])=3:=by kernel_rfl
 have hn:aq.getD (80:Int).toNat []=[70,77,47,77,79,68]:=by kernel_rfl
 rw[aJ (by decide) (by decide),hk,hn,ay2]
 refine aX v 80 3 271 [.row [fnP 290 oQ]] _ (by decide) (by decide) (by have:=hv.d;omega) hv.data (by decide) (by simp) (by rw[hn];exact jE 80 _ _ _ _ (by decide) (by simp)  rfl) (by(show List.length _<=_;simp[b8,bC,di,ei,fy,fR,fF,b7,bz,bc,cZ,pUM,pM,cX,da,cY,pSD,bx,bI])) (fun hk H i hi=>?_)
 have hx:=hv.x hk
 generalize v.d.drop (v.d.length-3)=x at hx ⊢
 exact⟨⟨_,func271,rfl,rfl⟩,lq 290 oQ v x (v,cY x).2 (by simp) (fun H=>⟨⟨_,func290,rfl,rfl⟩,ay6 x hx H⟩) H i hi⟩
def ao1(v:VVm)(x:List Int):bM v 81 [83,62,68] x=(v,pSD x):=by kernel_rfl
def aw6(v:VVm)(hv:dn v):af prog 166 [eVm v,i64 81] (tVm (doS v 81)):=by
 have hk:bj 81 (aq.getD (81:Int).toNat [])=1:=by kernel_rfl
 have hn:aq.getD (81:Int).toNat []=[83,62,68]:=by kernel_rfl
 rw[aJ (by decide) (by decide),hk,hn,ao1]
 refine aX v 81 1 271 [.row [fnP 291 []]] _ (by decide) (by decide) (by have:=hv.d;omega) hv.data (by decide) (by simp) (by rw[hn];exact jE 81 _ _ _ _ (by decide) (by simp)  rfl) (by(show List.length _<=_;simp[b8,bC,di,ei,fy,fR,fF,b7,bz,bc,cZ,pUM,pM,cX,da,cY,pSD,bx,bI])) (fun hk H i hi=>?_)
 have hx:=hv.x hk
 generalize v.d.drop (v.d.length-1)=x at hx ⊢
 exact⟨⟨_,func271,rfl,rfl⟩,lq 291 [] v x (v,pSD x).2 (by simp) (fun H=>⟨⟨_,func291,rfl,rfl⟩,az4 x hx H⟩) H i hi⟩
def as7(v:VVm)(x:List Int):bM v 82 [87,73,84,72,73,78] x=(v,bx x):=by kernel_rfl
def ax7(v:VVm)(hv:dn v):af prog 166 [eVm v,i64 82] (tVm (doS v 82)):=by
 have hk:bj 82 (aq.getD (82:Int).toNat [])=3:=by kernel_rfl
 have hn:aq.getD (82:Int).toNat []=[87,73,84,72,73,78]:=by kernel_rfl
 rw[aJ (by decide) (by decide),hk,hn,as7]
 refine aX v 82 3 271 [.row [fnP 293 []]] _ (by decide) (by decide) (by have:=hv.d;omega) hv.data (by decide) (by simp) (by rw[hn];exact jE 82 _ _ _ _ (by decide) (by simp)  rfl) (by(show List.length _<=_;simp[b8,bC,di,ei,fy,fR,fF,b7,bz,bc,cZ,pUM,pM,cX,da,cY,pSD,bx,bI])) (fun hk H i hi=>?_)
 have hx:=hv.x hk
 generalize v.d.drop (v.d.length-3)=x at hx ⊢
 exact⟨⟨_,func271,rfl,rfl⟩,lq 293 [] v x (v,bx x).2 (by simp) (fun H=>⟨⟨_,func293,rfl,rfl⟩,av2 x hx H⟩) H i hi⟩
def ay5(v:VVm)(x:List Int):bM v 83 [64] x=b8 v x:=by kernel_rfl
def ax6(v:VVm)(hv:dn v):af prog 166 [eVm v,i64 83] (tVm (doS v 83)):=by
 have hk:bj 83 (aq.getD (83:Int).toNat [])=1:=by kernel_rfl
 have hn:aq.getD (83:Int).toNat []=[64]:=by kernel_rfl
 rw[aJ (by decide) (by decide),hk,hn,ay5]
 refine aX v 83 1 367 [.row [fnP 39 []]] _ (by decide) (by decide) (by have:=hv.d;omega) hv.data (by decide) (by simp) (by rw[hn];exact jH 83 _ _ _ _ (by decide) (by simp) rfl rfl) (by(show List.length _<=_;simp[b8,bC,di,ei,fy,fR,fF,b7,bz,bc,cZ,pUM,pM,cX,da,cY,pSD,bx,bI])) (fun hk H i hi=>?_)
 have hx:=hv.x hk
 generalize v.d.drop (v.d.length-1)=x at hx ⊢
 exact⟨⟨_,func367,rfl,rfl⟩,we 39 [] v x _ hx.len (by simp) (fun H=>⟨⟨_,func39,rfl,rfl⟩,(fX v.mem _ (fY hv.mem) (hx.fit 0)) H⟩) H i hi⟩
def aw7(v:VVm)(x:List Int):bM v 86 [67,64] x=bC v x:=by kernel_rfl
def am5(v:VVm)(hv:dn v):af prog 166 [eVm v,i64 86] (tVm (doS v 86)):=by
 have hk:bj 86 (aq.getD (86:Int).toNat [])=1:=by kernel_rfl
 have hn:aq.getD (86:Int).toNat []=[67,64]:=by kernel_rfl
 rw[aJ (by decide) (by decide),hk,hn,aw7]
 refine aX v 86 1 367 [.row [fnP 296 []]] _ (by decide) (by decide) (by have:=hv.d;omega) hv.data (by decide) (by simp) (by rw[hn];exact jH 86 _ _ _ _ (by decide) (by simp) rfl rfl) (by(show List.length _<=_;simp[b8,bC,di,ei,fy,fR,fF,b7,bz,bc,cZ,pUM,pM,cX,da,cY,pSD,bx,bI])) (fun hk H i hi=>?_)
 have hx:=hv.x hk
 generalize v.d.drop (v.d.length-1)=x at hx ⊢
 exact⟨⟨_,func367,rfl,rfl⟩,we 296 [] v x _ hx.len (by simp) (fun H=>⟨⟨_,func296,rfl,rfl⟩,(tv v.mem _ hv.mem (hx.fit 0)) H⟩) H i hi⟩
def ao2(v:VVm)(x:List Int):bM v 84 [33] x=di v (aH v.mem (xat x 1) (xat x 0)):=by kernel_rfl
def ao3(v:VVm)(hv:dn v):af prog 166 [eVm v,i64 84] (tVm (doS v 84)):=by
 have hk:bj 84 (aq.getD (84:Int).toNat [])=2:=by kernel_rfl
 have hn:aq.getD (84:Int).toNat []=[33]:=by kernel_rfl
 rw[aJ (by decide) (by decide),hk,hn,ao2]
 refine aX v 84 2 368 [.row [fnP 298 []]] _ (by decide) (by decide) (by have:=hv.d;omega) hv.data (by decide) (by simp) (by rw[hn];exact jH 84 _ _ _ _ (by decide) (by simp) rfl rfl) (by(show List.length _<=_;simp[b8,bC,di,ei,fy,fR,fF,b7,bz,bc,cZ,pUM,pM,cX,da,cY,pSD,bx,bI])) (fun hk H i hi=>?_)
 have hx:=hv.x hk
 generalize v.d.drop (v.d.length-2)=x at hx ⊢
 exact⟨⟨_,func368,rfl,rfl⟩,na 298 [] v x _ (by simp) (fun H=>⟨⟨_,func298,rfl,rfl⟩,aE3 v x hv.mem hx H⟩) H i hi⟩
def ax4(v:VVm)(x:List Int):bM v 87 [67,33] x=di v (mN v.mem (xat x 1) (xat x 0)):=by kernel_rfl
def ay3(v:VVm)(hv:dn v):af prog 166 [eVm v,i64 87] (tVm (doS v 87)):=by
 have hk:bj 87 (aq.getD (87:Int).toNat [])=2:=by kernel_rfl
 have hn:aq.getD (87:Int).toNat []=[67,33]:=by kernel_rfl
 rw[aJ (by decide) (by decide),hk,hn,ax4]
 refine aX v 87 2 368 [.row [fnP 299 []]] _ (by decide) (by decide) (by have:=hv.d;omega) hv.data (by decide) (by simp) (by rw[hn];exact jH 87 _ _ _ _ (by decide) (by simp) rfl rfl) (by(show List.length _<=_;simp[b8,bC,di,ei,fy,fR,fF,b7,bz,bc,cZ,pUM,pM,cX,da,cY,pSD,bx,bI])) (fun hk H i hi=>?_)
 have hx:=hv.x hk
 generalize v.d.drop (v.d.length-2)=x at hx ⊢
 exact⟨⟨_,func368,rfl,rfl⟩,na 299 [] v x _ (by simp) (fun H=>⟨⟨_,func299,rfl,rfl⟩,aF4 v x hv.mem hx H⟩) H i hi⟩
def ao9(v:VVm)(x:List Int):bM v 85 [43,33] x=di v (ro v x):=by kernel_rfl
def av9(v:VVm)(hv:dn v):af prog 166 [eVm v,i64 85] (tVm (doS v 85)):=by
 have hk:bj 85 (aq.getD (85:Int).toNat [])=2:=by kernel_rfl
 have hn:aq.getD (85:Int).toNat []=[43,33]:=by kernel_rfl
 rw[aJ (by decide) (by decide),hk,hn,ao9]
 refine aX v 85 2 368 [.row [fnP 301 []]] _ (by decide) (by decide) (by have:=hv.d;omega) hv.data (by decide) (by simp) (by rw[hn];exact jH 85 _ _ _ _ (by decide) (by simp) rfl rfl) (by(show List.length _<=_;simp[b8,bC,di,ei,fy,fR,fF,b7,bz,bc,cZ,pUM,pM,cX,da,cY,pSD,bx,bI])) (fun hk H i hi=>?_)
 have hx:=hv.x hk
 generalize v.d.drop (v.d.length-2)=x at hx ⊢
 exact⟨⟨_,func368,rfl,rfl⟩,na 301 [] v x _ (by simp) (fun H=>⟨⟨_,func301,rfl,rfl⟩,aC1 v x hv.mem hx H⟩) H i hi⟩
def av0(v:VVm)(x:List Int):bM v 88 [50,64] x=kK v x:=by kernel_rfl
def ay0(v:VVm)(hv:dn v):af prog 166 [eVm v,i64 88] (tVm (doS v 88)):=by
 have hk:bj 88 (aq.getD (88:Int).toNat [])=1:=by kernel_rfl
 have hn:aq.getD (88:Int).toNat []=[50,64]:=by kernel_rfl
 rw[aJ (by decide) (by decide),hk,hn,av0]
 refine aX v 88 1 302 [] _ (by decide) (by decide) (by have:=hv.d;omega) hv.data (by decide) (by simp) (by rw[hn];exact jH 88 _ _ _ _ (by decide) (by simp) rfl rfl) (by unfold kK;split<;>simp) (fun hk H i hi=>?_)
 have hx:=hv.x hk
 generalize v.d.drop (v.d.length-1)=x at hx ⊢
 exact⟨⟨_,func302,rfl,rfl⟩,aE7 v x hv.mem hx H i hi⟩
def an0(v:VVm)(x:List Int):bM v 89 [50,33] x=di v (oe v x):=by kernel_rfl
def ay7(v:VVm)(hv:dn v):af prog 166 [eVm v,i64 89] (tVm (doS v 89)):=by
 have hk:bj 89 (aq.getD (89:Int).toNat [])=3:=by kernel_rfl
 have hn:aq.getD (89:Int).toNat []=[50,33]:=by kernel_rfl
 rw[aJ (by decide) (by decide),hk,hn,an0]
 refine aX v 89 3 368 [.row [fnP 303 []]] _ (by decide) (by decide) (by have:=hv.d;omega) hv.data (by decide) (by simp) (by rw[hn];exact jH 89 _ _ _ _ (by decide) (by simp) rfl rfl) (by(show List.length _<=_;simp[b8,bC,di,ei,fy,fR,fF,b7,bz,bc,cZ,pUM,pM,cX,da,cY,pSD,bx,bI])) (fun hk H i hi=>?_)
 have hx:=hv.x hk
 generalize v.d.drop (v.d.length-3)=x at hx ⊢
 exact⟨⟨_,func368,rfl,rfl⟩,na 303 [] v x _ (by simp) (fun H=>⟨⟨_,func303,rfl,rfl⟩,aA2 v x hv.mem hv.old hx H⟩) H i hi⟩
def ap8(v:VVm)(x:List Int):bM v 90 [70,73,76,76] x=di v (mM v.mem (xat x 0) (xat x 1) (xat x 2)):=by kernel_rfl
def at6(v:VVm)(hv:dn v):af prog 166 [eVm v,i64 90] (tVm (doS v 90)):=by
 have hk:bj 90 (aq.getD (90:Int).toNat [])=3:=by kernel_rfl
 have hn:aq.getD (90:Int).toNat []=[70,73,76,76]:=by kernel_rfl
 rw[aJ (by decide) (by decide),hk,hn,ap8]
 refine aX v 90 3 368 [.row [fnP 304 []]] _ (by decide) (by decide) (by have:=hv.d;omega) hv.data (by decide) (by simp) (by rw[hn];exact jH 90 _ _ _ _ (by decide) (by simp) rfl rfl) (by(show List.length _<=_;simp[b8,bC,di,ei,fy,fR,fF,b7,bz,bc,cZ,pUM,pM,cX,da,cY,pSD,bx,bI])) (fun hk H i hi=>?_)
 have hx:=hv.x hk
 generalize v.d.drop (v.d.length-3)=x at hx ⊢
 exact⟨⟨_,func368,rfl,rfl⟩,na 304 [] v x _ (by simp) (fun H=>⟨⟨_,func304,rfl,rfl⟩,aA7 v x hv.mem hx H⟩) H i hi⟩
def ap7(v:VVm)(x:List Int):bM v 91 [77,79,86,69] x=di v (mL v.mem (xat x 0) (xat x 1) (xat x 2)):=by kernel_rfl
def an1(v:VVm)(hv:dn v):af prog 166 [eVm v,i64 91] (tVm (doS v 91)):=by
 have hk:bj 91 (aq.getD (91:Int).toNat [])=3:=by kernel_rfl
 have hn:aq.getD (91:Int).toNat []=[77,79,86,69]:=by kernel_rfl
 rw[aJ (by decide) (by decide),hk,hn,ap7]
 refine aX v 91 3 368 [.row [fnP 306 []]] _ (by decide) (by decide) (by have:=hv.d;omega) hv.data (by decide) (by simp) (by rw[hn];exact jH 91 _ _ _ _ (by decide) (by simp) rfl rfl) (by(show List.length _<=_;simp[b8,bC,di,ei,fy,fR,fF,b7,bz,bc,cZ,pUM,pM,cX,da,cY,pSD,bx,bI])) (fun hk H i hi=>?_)
 have hx:=hv.x hk
 generalize v.d.drop (v.d.length-3)=x at hx ⊢
 exact⟨⟨_,func368,rfl,rfl⟩,na 306 [] v x _ (by simp) (fun H=>⟨⟨_,func306,rfl,rfl⟩,aA6 v x hv.mem hx H⟩) H i hi⟩
def am1(v:VVm)(x:List Int):bM v 92 [67,79,85,78,84] x=b7 v x:=by kernel_rfl
def al7(v:VVm)(hv:dn v):af prog 166 [eVm v,i64 92] (tVm (doS v 92)):=by
 have hk:bj 92 (aq.getD (92:Int).toNat [])=1:=by kernel_rfl
 have hn:aq.getD (92:Int).toNat []=[67,79,85,78,84]:=by kernel_rfl
 rw[aJ (by decide) (by decide),hk,hn,am1]
 refine aX v 92 1 308 [] _ (by decide) (by decide) (by have:=hv.d;omega) hv.data (by decide) (by simp) (by rw[hn];exact jH 92 _ _ _ _ (by decide) (by simp) rfl rfl) (by(show List.length _<=_;simp[b8,bC,di,ei,fy,fR,fF,b7,bz,bc,cZ,pUM,pM,cX,da,cY,pSD,bx,bI])) (fun hk H i hi=>?_)
 have hx:=hv.x hk
 generalize v.d.drop (v.d.length-1)=x at hx ⊢
 exact⟨⟨_,func308,rfl,rfl⟩,aC5 v x hv.mem hx H i hi⟩
def aq1(v:VVm)(x:List Int):bM v 93 [72,69,82,69] x=(v,[v.here],0):=by kernel_rfl
def az1(v:VVm)(hv:dn v):af prog 166 [eVm v,i64 93] (tVm (doS v 93)):=by
 have hk:bj 93 (aq.getD (93:Int).toNat [])=0:=by kernel_rfl
 have hn:aq.getD (93:Int).toNat []=[72,69,82,69]:=by kernel_rfl
 rw[aJ (by decide) (by decide),hk,hn,aq1]
 refine aX v 93 0 370 [.row [fnP 315 []]] _ (by decide) (by decide) (by have:=hv.d;omega) hv.data (by decide) (by simp) (by rw[hn];exact ir 93 _ _ _ _ (by decide) (by simp) rfl rfl rfl) (by(show List.length _<=_;simp[b8,bC,di,ei,fy,fR,fF,b7,bz,bc,cZ,pUM,pM,cX,da,cY,pSD,bx,bI])) (fun hk H i hi=>?_)
 have hx:=hv.x hk
 generalize v.d.drop (v.d.length-0)=x at hx ⊢
 exact⟨⟨_,func370,rfl,rfl⟩,mV 315 [] v x _ (by simp) (fun H=>⟨⟨_,func315,rfl,rfl⟩,aF3 v H⟩) H i hi⟩
def at4(v:VVm)(x:List Int):bM v 94 [65,76,76,79,84] x=ei v (tH v x):=by kernel_rfl
def aw5(v:VVm)(hv:dn v):af prog 166 [eVm v,i64 94] (tVm (doS v 94)):=by
 have hk:bj 94 (aq.getD (94:Int).toNat [])=1:=by kernel_rfl
 have hn:aq.getD (94:Int).toNat []=[65,76,76,79,84]:=by kernel_rfl
 rw[aJ (by decide) (by decide),hk,hn,at4]
 refine aX v 94 1 371 [.row [fnP 317 []]] _ (by decide) (by decide) (by have:=hv.d;omega) hv.data (by decide) (by simp) (by rw[hn];exact ir 94 _ _ _ _ (by decide) (by simp) rfl rfl rfl) (by(show List.length _<=_;simp[b8,bC,di,ei,fy,fR,fF,b7,bz,bc,cZ,pUM,pM,cX,da,cY,pSD,bx,bI])) (fun hk H i hi=>?_)
 have hx:=hv.x hk
 generalize v.d.drop (v.d.length-1)=x at hx ⊢
 exact⟨⟨_,func371,rfl,rfl⟩,Es 317 [] v x _ (by simp) (fun H=>⟨⟨_,func317,rfl,rfl⟩,aB7 v x hv.mem hv.here hx H⟩) H i hi⟩
def at2(v:VVm)(x:List Int):bM v 95 [44] x=ei v (bW v.mem v.here (xat x 0)):=by kernel_rfl
def au7(v:VVm)(hv:dn v):af prog 166 [eVm v,i64 95] (tVm (doS v 95)):=by
 have hk:bj 95 (aq.getD (95:Int).toNat [])=1:=by kernel_rfl
 have hn:aq.getD (95:Int).toNat []=[44]:=by kernel_rfl
 rw[aJ (by decide) (by decide),hk,hn,at2]
 refine aX v 95 1 371 [.row [fnP 319 []]] _ (by decide) (by decide) (by have:=hv.d;omega) hv.data (by decide) (by simp) (by rw[hn];exact ir 95 _ _ _ _ (by decide) (by simp) rfl rfl rfl) (by(show List.length _<=_;simp[b8,bC,di,ei,fy,fR,fF,b7,bz,bc,cZ,pUM,pM,cX,da,cY,pSD,bx,bI])) (fun hk H i hi=>?_)
 have hx:=hv.x hk
 generalize v.d.drop (v.d.length-1)=x at hx ⊢
 exact⟨⟨_,func371,rfl,rfl⟩,Es 319 [] v x _ (by simp) (fun H=>⟨⟨_,func319,rfl,rfl⟩,aD7 v x hv.mem hv.here hx H⟩) H i hi⟩
def ar6(v:VVm)(x:List Int):bM v 96 [67,44] x=ei v (cJ v.mem v.here [loB (xat x 0)]):=by kernel_rfl
def ar9(v:VVm)(hv:dn v):af prog 166 [eVm v,i64 96] (tVm (doS v 96)):=by
 have hk:bj 96 (aq.getD (96:Int).toNat [])=1:=by kernel_rfl
 have hn:aq.getD (96:Int).toNat []=[67,44]:=by kernel_rfl
 rw[aJ (by decide) (by decide),hk,hn,ar6]
 refine aX v 96 1 371 [.row [fnP 320 []]] _ (by decide) (by decide) (by have:=hv.d;omega) hv.data (by decide) (by simp) (by rw[hn];exact ir 96 _ _ _ _ (by decide) (by simp) rfl rfl rfl) (by(show List.length _<=_;simp[b8,bC,di,ei,fy,fR,fF,b7,bz,bc,cZ,pUM,pM,cX,da,cY,pSD,bx,bI])) (fun hk H i hi=>?_)
 have hx:=hv.x hk
 generalize v.d.drop (v.d.length-1)=x at hx ⊢
 exact⟨⟨_,func371,rfl,rfl⟩,Es 320 [] v x _ (by simp) (fun H=>⟨⟨_,func320,rfl,rfl⟩,aF6 v x hv.mem hv.here hx H⟩) H i hi⟩
def aq7(v:VVm)(x:List Int):bM v 97 [65,76,73,71,78] x=ei v (aM v.mem v.here):=by kernel_rfl
def aw0(v:VVm)(hv:dn v):af prog 166 [eVm v,i64 97] (tVm (doS v 97)):=by
 have hk:bj 97 (aq.getD (97:Int).toNat [])=0:=by kernel_rfl
 have hn:aq.getD (97:Int).toNat []=[65,76,73,71,78]:=by kernel_rfl
 rw[aJ (by decide) (by decide),hk,hn,aq7]
 refine aX v 97 0 371 [.row [fnP 321 []]] _ (by decide) (by decide) (by have:=hv.d;omega) hv.data (by decide) (by simp) (by rw[hn];exact ir 97 _ _ _ _ (by decide) (by simp) rfl rfl rfl) (by(show List.length _<=_;simp[b8,bC,di,ei,fy,fR,fF,b7,bz,bc,cZ,pUM,pM,cX,da,cY,pSD,bx,bI])) (fun hk H i hi=>?_)
 have hx:=hv.x hk
 generalize v.d.drop (v.d.length-0)=x at hx ⊢
 exact⟨⟨_,func371,rfl,rfl⟩,Es 321 [] v x _ (by simp) (fun H=>⟨⟨_,func321,rfl,rfl⟩,aD0 v x hv.mem hv.here H⟩) H i hi⟩
def as4(v:VVm)(x:List Int):bM v 98 [66,65,83,69] x=(v,[0],0):=by kernel_rfl
def au1(v:VVm)(hv:dn v):af prog 166 [eVm v,i64 98] (tVm (doS v 98)):=by
 have hk:bj 98 (aq.getD (98:Int).toNat [])=0:=by kernel_rfl
 have hn:aq.getD (98:Int).toNat []=[66,65,83,69]:=by kernel_rfl
 rw[aJ (by decide) (by decide),hk,hn,as4]
 refine aX v 98 0 370 [.row [fnP 314 [.row [i64 (0)]]]] _ (by decide) (by decide) (by have:=hv.d;omega) hv.data (by decide) (by simp) (by rw[hn];exact ir 98 _ _ _ _ (by decide) (by simp) rfl rfl rfl) (by(show List.length _<=_;simp[b8,bC,di,ei,fy,fR,fF,b7,bz,bc,cZ,pUM,pM,cX,da,cY,pSD,bx,bI])) (fun hk H i hi=>?_)
 have hx:=hv.x hk
 generalize v.d.drop (v.d.length-0)=x at hx ⊢
 exact⟨⟨_,func370,rfl,rfl⟩,mV 314 [.row [i64 (0)]] v x (0) (by simp) (fun H=>⟨⟨_,func314,rfl,rfl⟩,rN v (0) H⟩) H i hi⟩
def ap1(v:VVm)(x:List Int):bM v 99 [83,84,65,84,69] x=(v,[8],0):=by kernel_rfl
def ap9(v:VVm)(hv:dn v):af prog 166 [eVm v,i64 99] (tVm (doS v 99)):=by
 have hk:bj 99 (aq.getD (99:Int).toNat [])=0:=by kernel_rfl
 have hn:aq.getD (99:Int).toNat []=[83,84,65,84,69]:=by kernel_rfl
 rw[aJ (by decide) (by decide),hk,hn,ap1]
 refine aX v 99 0 370 [.row [fnP 314 [.row [i64 (8)]]]] _ (by decide) (by decide) (by have:=hv.d;omega) hv.data (by decide) (by simp) (by rw[hn];exact ir 99 _ _ _ _ (by decide) (by simp) rfl rfl rfl) (by(show List.length _<=_;simp[b8,bC,di,ei,fy,fR,fF,b7,bz,bc,cZ,pUM,pM,cX,da,cY,pSD,bx,bI])) (fun hk H i hi=>?_)
 have hx:=hv.x hk
 generalize v.d.drop (v.d.length-0)=x at hx ⊢
 exact⟨⟨_,func370,rfl,rfl⟩,mV 314 [.row [i64 (8)]] v x (8) (by simp) (fun H=>⟨⟨_,func314,rfl,rfl⟩,rN v (8) H⟩) H i hi⟩
def Zl(v:VVm)(x:List Int):bM v 100 [84,82,85,69] x=(v,[-1],0):=by kernel_rfl
def aa0(v:VVm)(hv:dn v):af prog 166 [eVm v,i64 100] (tVm (doS v 100)):=by
 have hk:bj 100 (aq.getD (100:Int).toNat [])=0:=by kernel_rfl
 have hn:aq.getD (100:Int).toNat []=[84,82,85,69]:=by kernel_rfl
 rw[aJ (by decide) (by decide),hk,hn,Zl]
 refine aX v 100 0 370 [.row [fnP 314 [.row [i64 (-1)]]]] _ (by decide) (by decide) (by have:=hv.d;omega) hv.data (by decide) (by simp) (by rw[hn];exact ir 100 _ _ _ _ (by decide) (by simp) rfl rfl rfl) (by(show List.length _<=_;simp[b8,bC,di,ei,fy,fR,fF,b7,bz,bc,cZ,pUM,pM,cX,da,cY,pSD,bx,bI])) (fun hk H i hi=>?_)
 have hx:=hv.x hk
 generalize v.d.drop (v.d.length-0)=x at hx ⊢
 exact⟨⟨_,func370,rfl,rfl⟩,mV 314 [.row [i64 (-1)]] v x (-1) (by simp) (fun H=>⟨⟨_,func314,rfl,rfl⟩,rN v (-1) H⟩) H i hi⟩
def YM(v:VVm)(x:List Int):bM v 101 [70,65,76,83,69] x=(v,[0],0):=by kernel_rfl
def ag2(v:VVm)(hv:dn v):af prog 166 [eVm v,i64 101] (tVm (doS v 101)):=by
 have hk:bj 101 (aq.getD (101:Int).toNat [])=0:=by kernel_rfl
 have hn:aq.getD (101:Int).toNat []=[70,65,76,83,69]:=by kernel_rfl
 rw[aJ (by decide) (by decide),hk,hn,YM]
 refine aX v 101 0 370 [.row [fnP 314 [.row [i64 (0)]]]] _ (by decide) (by decide) (by have:=hv.d;omega) hv.data (by decide) (by simp) (by rw[hn];exact ir 101 _ _ _ _ (by decide) (by simp) rfl rfl rfl) (by(show List.length _<=_;simp[b8,bC,di,ei,fy,fR,fF,b7,bz,bc,cZ,pUM,pM,cX,da,cY,pSD,bx,bI])) (fun hk H i hi=>?_)
 have hx:=hv.x hk
 generalize v.d.drop (v.d.length-0)=x at hx ⊢
 exact⟨⟨_,func370,rfl,rfl⟩,mV 314 [.row [i64 (0)]] v x (0) (by simp) (fun H=>⟨⟨_,func314,rfl,rfl⟩,rN v (0) H⟩) H i hi⟩
def af9(v:VVm)(x:List Int):bM v 102 [66,76] x=(v,[32],0):=by kernel_rfl
def ZI(v:VVm)(hv:dn v):af prog 166 [eVm v,i64 102] (tVm (doS v 102)):=by
 have hk:bj 102 (aq.getD (102:Int).toNat [])=0:=by kernel_rfl
 have hn:aq.getD (102:Int).toNat []=[66,76]:=by kernel_rfl
 rw[aJ (by decide) (by decide),hk,hn,af9]
 refine aX v 102 0 370 [.row [fnP 314 [.row [i64 (32)]]]] _ (by decide) (by decide) (by have:=hv.d;omega) hv.data (by decide) (by simp) (by rw[hn];exact ir 102 _ _ _ _ (by decide) (by simp) rfl rfl rfl) (by(show List.length _<=_;simp[b8,bC,di,ei,fy,fR,fF,b7,bz,bc,cZ,pUM,pM,cX,da,cY,pSD,bx,bI])) (fun hk H i hi=>?_)
 have hx:=hv.x hk
 generalize v.d.drop (v.d.length-0)=x at hx ⊢
 exact⟨⟨_,func370,rfl,rfl⟩,mV 314 [.row [i64 (32)]] v x (32) (by simp) (fun H=>⟨⟨_,func314,rfl,rfl⟩,rN v (32) H⟩) H i hi⟩
def af7(v:VVm)(x:List Int):bM v 103 [68,69,67,73,77,65,76] x=di v (aH v.mem 0 10):=by kernel_rfl
def ad3(v:VVm)(hv:dn v):af prog 166 [eVm v,i64 103] (tVm (doS v 103)):=by
 have hk:bj 103 (aq.getD (103:Int).toNat [])=0:=by kernel_rfl
 have hn:aq.getD (103:Int).toNat []=[68,69,67,73,77,65,76]:=by kernel_rfl
 rw[aJ (by decide) (by decide),hk,hn,af7]
 refine aX v 103 0 310 [.row [i64 10]] _ (by decide) (by decide) (by have:=hv.d;omega) hv.data (by decide) (by simp) (by rw[hn];exact ir 103 _ _ _ _ (by decide) (by simp) rfl rfl rfl) (by(show List.length _<=_;simp[b8,bC,di,ei,fy,fR,fF,b7,bz,bc,cZ,pUM,pM,cX,da,cY,pSD,bx,bI])) (fun hk H i hi=>?_)
 have hx:=hv.x hk
 generalize v.d.drop (v.d.length-0)=x at hx ⊢
 exact⟨⟨_,func310,rfl,rfl⟩,Sz v x 10 hv.mem H i hi⟩
def ag6(v:VVm)(x:List Int):bM v 104 [72,69,88] x=di v (aH v.mem 0 16):=by kernel_rfl
def af3(v:VVm)(hv:dn v):af prog 166 [eVm v,i64 104] (tVm (doS v 104)):=by
 have hk:bj 104 (aq.getD (104:Int).toNat [])=0:=by kernel_rfl
 have hn:aq.getD (104:Int).toNat []=[72,69,88]:=by kernel_rfl
 rw[aJ (by decide) (by decide),hk,hn,ag6]
 refine aX v 104 0 310 [.row [i64 16]] _ (by decide) (by decide) (by have:=hv.d;omega) hv.data (by decide) (by simp) (by rw[hn];exact ir 104 _ _ _ _ (by decide) (by simp) rfl rfl rfl) (by(show List.length _<=_;simp[b8,bC,di,ei,fy,fR,fF,b7,bz,bc,cZ,pUM,pM,cX,da,cY,pSD,bx,bI])) (fun hk H i hi=>?_)
 have hx:=hv.x hk
 generalize v.d.drop (v.d.length-0)=x at hx ⊢
 exact⟨⟨_,func310,rfl,rfl⟩,Sz v x 16 hv.mem H i hi⟩
def Y5(v:VVm)(x:List Int):bM v 105 [69,77,73,84] x=dm v ([loB (xat x 0)],0):=by kernel_rfl
def Z5(v:VVm)(hv:dn v):af prog 166 [eVm v,i64 105] (tVm (doS v 105)):=by
 have hk:bj 105 (aq.getD (105:Int).toNat [])=1:=by kernel_rfl
 have hn:aq.getD (105:Int).toNat []=[69,77,73,84]:=by kernel_rfl
 rw[aJ (by decide) (by decide),hk,hn,Y5]
 refine aX v 105 1 372 [.row [fnP 328 []]] _ (by decide) (by decide) (by have:=hv.d;omega) hv.data (by decide) (by simp) (by rw[hn];exact ng 105 _ _ _ _ (by decide) (by simp) rfl rfl rfl rfl) (by unfold dm;split<;>simp) (fun hk H i hi=>?_)
 have hx:=hv.x hk
 generalize v.d.drop (v.d.length-1)=x at hx ⊢
 exact⟨⟨_,func372,rfl,rfl⟩,t8 328 [] v x ([loB (xat x 0)],0) hv.out1 hv.out (by simp) (by simp) (fun H=>⟨⟨_,func328,rfl,rfl⟩,aC8 v x hx H⟩) H i hi⟩
def ab8(v:VVm)(x:List Int):bM v 106 [67,82] x=dm v ([10],0):=by kernel_rfl
def YN(v:VVm)(hv:dn v):af prog 166 [eVm v,i64 106] (tVm (doS v 106)):=by
 have hk:bj 106 (aq.getD (106:Int).toNat [])=0:=by kernel_rfl
 have hn:aq.getD (106:Int).toNat []=[67,82]:=by kernel_rfl
 rw[aJ (by decide) (by decide),hk,hn,ab8]
 refine aX v 106 0 372 [.row [fnP 327 [.row [str [10]]]]] _ (by decide) (by decide) (by have:=hv.d;omega) hv.data (by decide) (by simp) (by rw[hn];exact ng 106 _ _ _ _ (by decide) (by simp) rfl rfl rfl rfl) (by unfold dm;split<;>simp) (fun hk H i hi=>?_)
 have hx:=hv.x hk
 generalize v.d.drop (v.d.length-0)=x at hx ⊢
 exact⟨⟨_,func372,rfl,rfl⟩,t8 327 [.row [str [10]]] v x ([10],0) hv.out1 hv.out (by simp) (by simp) (fun H=>⟨⟨_,func327,rfl,rfl⟩,PN [10] v x H⟩) H i hi⟩
def aa8(v:VVm)(x:List Int):bM v 107 [83,80,65,67,69] x=dm v ([32],0):=by kernel_rfl
def Zt(v:VVm)(hv:dn v):af prog 166 [eVm v,i64 107] (tVm (doS v 107)):=by
 have hk:bj 107 (aq.getD (107:Int).toNat [])=0:=by kernel_rfl
 have hn:aq.getD (107:Int).toNat []=[83,80,65,67,69]:=by kernel_rfl
 rw[aJ (by decide) (by decide),hk,hn,aa8]
 refine aX v 107 0 372 [.row [fnP 327 [.row [str [32]]]]] _ (by decide) (by decide) (by have:=hv.d;omega) hv.data (by decide) (by simp) (by rw[hn];exact ng 107 _ _ _ _ (by decide) (by simp) rfl rfl rfl rfl) (by unfold dm;split<;>simp) (fun hk H i hi=>?_)
 have hx:=hv.x hk
 generalize v.d.drop (v.d.length-0)=x at hx ⊢
 exact⟨⟨_,func372,rfl,rfl⟩,t8 327 [.row [str [32]]] v x ([32],0) hv.out1 hv.out (by simp) (by simp) (fun H=>⟨⟨_,func327,rfl,rfl⟩,PN [32] v x H⟩) H i hi⟩
def Z1(v:VVm)(x:List Int):bM v 108 [83,80,65,67,69,83] x=dm v (vc v x,0):=by kernel_rfl
def aa6(v:VVm)(hv:dn v):af prog 166 [eVm v,i64 108] (tVm (doS v 108)):=by
 have hk:bj 108 (aq.getD (108:Int).toNat [])=1:=by kernel_rfl
 have hn:aq.getD (108:Int).toNat []=[83,80,65,67,69,83]:=by kernel_rfl
 rw[aJ (by decide) (by decide),hk,hn,Z1]
 refine aX v 108 1 372 [.row [fnP 329 []]] _ (by decide) (by decide) (by have:=hv.d;omega) hv.data (by decide) (by simp) (by rw[hn];exact ng 108 _ _ _ _ (by decide) (by simp) rfl rfl rfl rfl) (by unfold dm;split<;>simp) (fun hk H i hi=>?_)
 have hx:=hv.x hk
 generalize v.d.drop (v.d.length-1)=x at hx ⊢
 exact⟨⟨_,func372,rfl,rfl⟩,t8 329 [] v x (vc v x,0) hv.out1 hv.out (by have:=hv.out2;simp only[vc,List.length_replicate];omega) (by simp) (fun H=>⟨⟨_,func329,rfl,rfl⟩,aB5 v x hv.out2 hx H⟩) H i hi⟩
def Zw(v:VVm)(x:List Int):bM v 109 [84,89,80,69] x=dm v (cv v.mem (xat x 0) (xat x 1)):=by kernel_rfl
def YL(v:VVm)(hv:dn v):af prog 166 [eVm v,i64 109] (tVm (doS v 109)):=by
 have hk:bj 109 (aq.getD (109:Int).toNat [])=2:=by kernel_rfl
 have hn:aq.getD (109:Int).toNat []=[84,89,80,69]:=by kernel_rfl
 rw[aJ (by decide) (by decide),hk,hn,Zw]
 refine aX v 109 2 372 [.row [fnP 331 []]] _ (by decide) (by decide) (by have:=hv.d;omega) hv.data (by decide) (by simp) (by rw[hn];exact ng 109 _ _ _ _ (by decide) (by simp) rfl rfl rfl rfl) (by unfold dm;split<;>simp) (fun hk H i hi=>?_)
 have hx:=hv.x hk
 generalize v.d.drop (v.d.length-2)=x at hx ⊢
 exact⟨⟨_,func372,rfl,rfl⟩,t8 331 [] v x (cv v.mem (xat x 0) (xat x 1)) hv.out1 hv.out (by have:=Eu v.mem (xat x 0) (xat x 1);have:=hv.mem.b;omega) (by simp) (fun H=>⟨⟨_,func331,rfl,rfl⟩,aC4 v x hv.mem hx H⟩) H i hi⟩
def Y2(v:VVm)(x:List Int):bM v 110 [46] x=dm v (rh (iV (xat x 0) (j5 v))):=by kernel_rfl
def ai8(v:VVm)(hv:dn v):af prog 166 [eVm v,i64 110] (tVm (doS v 110)):=by
 have hk:bj 110 (aq.getD (110:Int).toNat [])=1:=by kernel_rfl
 have hn:aq.getD (110:Int).toNat []=[46]:=by kernel_rfl
 rw[aJ (by decide) (by decide),hk,hn,Y2]
 refine aX v 110 1 372 [.row [fnP 324 [.row [fnP 332 []]]]] _ (by decide) (by decide) (by have:=hv.d;omega) hv.data (by decide) (by simp) (by rw[hn];exact ng 110 _ _ _ _ (by decide) (by simp) rfl rfl rfl rfl) (by unfold dm;split<;>simp) (fun hk H i hi=>?_)
 have hx:=hv.x hk
 generalize v.d.drop (v.d.length-1)=x at hx ⊢
 exact⟨⟨_,func372,rfl,rfl⟩,t8 324 [.row [fnP 332 []]] v x (rh (iV (xat x 0) (j5 v))) hv.out1 hv.out (by have:=BG (xat x 0) (j5 v);simp only[rh,List.length_append,List.length_singleton];omega) (by simp) (fun H=>⟨⟨_,func324,rfl,rfl⟩,E7 332 [] v x (iV (xat x 0) (j5 v)) hx.len (fY hv.mem) (by have:=BG (xat x 0) (j5 v);omega) (by simp) (fun H=>⟨⟨_,func332,rfl,rfl⟩,aa3 _ _ (hx.fit 0) H⟩) H⟩) H i hi⟩
def ad1(v:VVm)(x:List Int):bM v 111 [85,46] x=dm v (rh (gy (xat x 0) (j5 v))):=by kernel_rfl
def Zs(v:VVm)(hv:dn v):af prog 166 [eVm v,i64 111] (tVm (doS v 111)):=by
 have hk:bj 111 (aq.getD (111:Int).toNat [])=1:=by kernel_rfl
 have hn:aq.getD (111:Int).toNat []=[85,46]:=by kernel_rfl
 rw[aJ (by decide) (by decide),hk,hn,ad1]
 refine aX v 111 1 372 [.row [fnP 324 [.row [fnP 333 []]]]] _ (by decide) (by decide) (by have:=hv.d;omega) hv.data (by decide) (by simp) (by rw[hn];exact ng 111 _ _ _ _ (by decide) (by simp) rfl rfl rfl rfl) (by unfold dm;split<;>simp) (fun hk H i hi=>?_)
 have hx:=hv.x hk
 generalize v.d.drop (v.d.length-1)=x at hx ⊢
 exact⟨⟨_,func372,rfl,rfl⟩,t8 324 [.row [fnP 333 []]] v x (rh (gy (xat x 0) (j5 v))) hv.out1 hv.out (by have:=Ao (xat x 0) (j5 v);simp only[rh,List.length_append,List.length_singleton];omega) (by simp) (fun H=>⟨⟨_,func324,rfl,rfl⟩,E7 333 [] v x (gy (xat x 0) (j5 v)) hx.len (fY hv.mem) (by have:=Ao (xat x 0) (j5 v);omega) (by simp) (fun H=>⟨⟨_,func333,rfl,rfl⟩,Xt _ _ (hx.fit 0) H⟩) H⟩) H i hi⟩
def Zy(v:VVm)(x:List Int):bM v 112 [60,35] x=(tp v ⟨[],true⟩,[],0):=by kernel_rfl
def ZE(v:VVm)(hv:dn v):af prog 166 [eVm v,i64 112] (tVm (doS v 112)):=by
 have hk:bj 112 (aq.getD (112:Int).toNat [])=0:=by kernel_rfl
 have hn:aq.getD (112:Int).toNat []=[60,35]:=by kernel_rfl
 rw[aJ (by decide) (by decide),hk,hn,Zy]
 refine aX v 112 0 336 [] _ (by decide) (by decide) (by have:=hv.d;omega) hv.data (by decide) (by simp) (by rw[hn];exact oW 112 _ _ _ _ (by decide) (by simp) rfl rfl rfl rfl rfl) (by(show List.length _<=_;simp[b8,bC,di,ei,fy,fR,fF,b7,bz,bc,cZ,pUM,pM,cX,da,cY,pSD,bx,bI])) (fun hk H i hi=>?_)
 have hx:=hv.x hk
 generalize v.d.drop (v.d.length-0)=x at hx ⊢
 exact⟨⟨_,func336,rfl,rfl⟩,aE5 v x H i hi⟩
def ad2(v:VVm)(x:List Int):bM v 113 [35] x=fR v x:=by kernel_rfl
def ae6(v:VVm)(hv:dn v):af prog 166 [eVm v,i64 113] (tVm (doS v 113)):=by
 have hk:bj 113 (aq.getD (113:Int).toNat [])=2:=by kernel_rfl
 have hn:aq.getD (113:Int).toNat []=[35]:=by kernel_rfl
 rw[aJ (by decide) (by decide),hk,hn,ad2]
 refine aX v 113 2 338 [] _ (by decide) (by decide) (by have:=hv.d;omega) hv.data (by decide) (by simp) (by rw[hn];exact oW 113 _ _ _ _ (by decide) (by simp) rfl rfl rfl rfl rfl) (by(show List.length _<=_;simp[b8,bC,di,ei,fy,fR,fF,b7,bz,bc,cZ,pUM,pM,cX,da,cY,pSD,bx,bI])) (fun hk H i hi=>?_)
 have hx:=hv.x hk
 generalize v.d.drop (v.d.length-2)=x at hx ⊢
 exact⟨⟨_,func338,rfl,rfl⟩,aB4 v x hv.pic (fY hv.mem) hx H i hi⟩
def YY(v:VVm)(x:List Int):bM v 114 [35,83] x=fF v x:=by kernel_rfl
def ZM(v:VVm)(hv:dn v):af prog 166 [eVm v,i64 114] (tVm (doS v 114)):=by
 have hk:bj 114 (aq.getD (114:Int).toNat [])=2:=by kernel_rfl
 have hn:aq.getD (114:Int).toNat []=[35,83]:=by kernel_rfl
 rw[aJ (by decide) (by decide),hk,hn,YY]
 refine aX v 114 2 340 [] _ (by decide) (by decide) (by have:=hv.d;omega) hv.data (by decide) (by simp) (by rw[hn];exact oW 114 _ _ _ _ (by decide) (by simp) rfl rfl rfl rfl rfl) (by(show List.length _<=_;simp[b8,bC,di,ei,fy,fR,fF,b7,bz,bc,cZ,pUM,pM,cX,da,cY,pSD,bx,bI])) (fun hk H i hi=>?_)
 have hx:=hv.x hk
 generalize v.d.drop (v.d.length-2)=x at hx ⊢
 exact⟨⟨_,func340,rfl,rfl⟩,aB1 v x hv.pic (fY hv.mem) hx H i hi⟩
def ad8(v:VVm)(x:List Int):bM v 115 [72,79,76,68] x=fy v (gm v.pic (xat x 0)):=by kernel_rfl
def ah2(v:VVm)(hv:dn v):af prog 166 [eVm v,i64 115] (tVm (doS v 115)):=by
 have hk:bj 115 (aq.getD (115:Int).toNat [])=1:=by kernel_rfl
 have hn:aq.getD (115:Int).toNat []=[72,79,76,68]:=by kernel_rfl
 rw[aJ (by decide) (by decide),hk,hn,ad8]
 refine aX v 115 1 335 [.row [fnP 342 []]] _ (by decide) (by decide) (by have:=hv.d;omega) hv.data (by decide) (by simp) (by rw[hn];exact oW 115 _ _ _ _ (by decide) (by simp) rfl rfl rfl rfl rfl) (by(show List.length _<=_;simp[b8,bC,di,ei,fy,fR,fF,b7,bz,bc,cZ,pUM,pM,cX,da,cY,pSD,bx,bI])) (fun hk H i hi=>?_)
 have hx:=hv.x hk
 generalize v.d.drop (v.d.length-1)=x at hx ⊢
 exact⟨⟨_,func335,rfl,rfl⟩,Yz 342 [] v x _ hx.len (by simp) (fun H=>⟨⟨_,func342,rfl,rfl⟩,AA v.pic _ hv.pic H⟩) H i hi⟩
def Zq(v:VVm)(x:List Int):bM v 116 [83,73,71,78] x=fy v (ow v.pic (xat x 0)):=by kernel_rfl
def aa9(v:VVm)(hv:dn v):af prog 166 [eVm v,i64 116] (tVm (doS v 116)):=by
 have hk:bj 116 (aq.getD (116:Int).toNat [])=1:=by kernel_rfl
 have hn:aq.getD (116:Int).toNat []=[83,73,71,78]:=by kernel_rfl
 rw[aJ (by decide) (by decide),hk,hn,Zq]
 refine aX v 116 1 335 [.row [fnP 343 []]] _ (by decide) (by decide) (by have:=hv.d;omega) hv.data (by decide) (by simp) (by rw[hn];exact oW 116 _ _ _ _ (by decide) (by simp) rfl rfl rfl rfl rfl) (by(show List.length _<=_;simp[b8,bC,di,ei,fy,fR,fF,b7,bz,bc,cZ,pUM,pM,cX,da,cY,pSD,bx,bI])) (fun hk H i hi=>?_)
 have hx:=hv.x hk
 generalize v.d.drop (v.d.length-1)=x at hx ⊢
 exact⟨⟨_,func335,rfl,rfl⟩,Yz 343 [] v x _ hx.len (by simp) (fun H=>⟨⟨_,func343,rfl,rfl⟩,Sc v.pic _ hv.pic H⟩) H i hi⟩
def Zi(v:VVm)(x:List Int):bM v 117 [35,62] x=wV v:=by kernel_rfl
def ac3(v:VVm)(hv:dn v):af prog 166 [eVm v,i64 117] (tVm (doS v 117)):=by
 have hk:bj 117 (aq.getD (117:Int).toNat [])=2:=by kernel_rfl
 have hn:aq.getD (117:Int).toNat []=[35,62]:=by kernel_rfl
 rw[aJ (by decide) (by decide),hk,hn,Zi]
 refine aX v 117 2 344 [] _ (by decide) (by decide) (by have:=hv.d;omega) hv.data (by decide) (by simp) (by rw[hn];exact oW 117 _ _ _ _ (by decide) (by simp) rfl rfl rfl rfl rfl) (by unfold wV;split<;>simp) (fun hk H i hi=>?_)
 have hx:=hv.x hk
 generalize v.d.drop (v.d.length-2)=x at hx ⊢
 exact⟨⟨_,func344,rfl,rfl⟩,aB6 v x hv.pic hv.mem H i hi⟩
def ah8(v:VVm)(x:List Int):bM v 118 [62,66,79,68,89] x=va v x:=by kernel_rfl
def Zj(v:VVm)(hv:dn v):af prog 166 [eVm v,i64 118] (tVm (doS v 118)):=by
 have hk:bj 118 (aq.getD (118:Int).toNat [])=1:=by kernel_rfl
 have hn:aq.getD (118:Int).toNat []=[62,66,79,68,89]:=by kernel_rfl
 rw[aJ (by decide) (by decide),hk,hn,ah8]
 rw[<-Ma (r':=(v,bI v (v.d.drop (v.d.length-1)))) (NI v _) (UV v _)]
 refine aX v 118 1 346 [] _ (by decide) (by decide) (by have:=hv.d;omega) hv.data (by decide) (by simp) (by rw[hn];exact iC 118 _ _ _ _ (by decide) (by simp) rfl rfl rfl rfl rfl rfl) (by(show List.length _<=_;simp[b8,bC,di,ei,fy,fR,fF,b7,bz,bc,cZ,pUM,pM,cX,da,cY,pSD,bx,bI])) (fun hk H i hi=>?_)
 have hx:=hv.x hk
 generalize v.d.drop (v.d.length-1)=x at hx ⊢
 exact⟨⟨_,func346,rfl,rfl⟩,aE8 v x (fY hv.mem) hx H i hi⟩
def Y1(v:VVm)(x:List Int):bM v 119 [65,66,79,82,84] x=(v,[],-1):=by kernel_rfl
def ah3(v:VVm)(hv:dn v):af prog 166 [eVm v,i64 119] (tVm (doS v 119)):=by
 have hk:bj 119 (aq.getD (119:Int).toNat [])=0:=by kernel_rfl
 have hn:aq.getD (119:Int).toNat []=[65,66,79,82,84]:=by kernel_rfl
 rw[aJ (by decide) (by decide),hk,hn,Y1]
 refine aX v 119 0 271 [.row [fnP 347 []]] _ (by decide) (by decide) (by have:=hv.d;omega) hv.data (by decide) (by simp) (by rw[hn];exact iC 119 _ _ _ _ (by decide) (by simp) rfl rfl rfl rfl rfl rfl) (by(show List.length _<=_;simp[b8,bC,di,ei,fy,fR,fF,b7,bz,bc,cZ,pUM,pM,cX,da,cY,pSD,bx,bI])) (fun hk H i hi=>?_)
 have hx:=hv.x hk
 generalize v.d.drop (v.d.length-0)=x at hx ⊢
 exact⟨⟨_,func271,rfl,rfl⟩,lq 347 [] v x (v,[],-1).2 (by simp) (fun H=>⟨⟨_,func347,rfl,rfl⟩,aD1 x H⟩) H i hi⟩
def ZW(v:VVm)(x:List Int):bM v 120 [80,79,83,84] x=jJ v x:=by kernel_rfl
def ai4(v:VVm)(hv:dn v):af prog 166 [eVm v,i64 120] (tVm (doS v 120)):=by
 have hk:bj 120 (aq.getD (120:Int).toNat [])=3:=by kernel_rfl
 have hn:aq.getD (120:Int).toNat []=[80,79,83,84]:=by kernel_rfl
 rw[aJ (by decide) (by decide),hk,hn,ZW]
 refine aX v 120 3 383 [.row [i64 1],.row [i64 3]] _ (by decide) (by decide) (by have:=hv.d;omega) hv.data (by decide) (by simp) (by rw[hn];exact iC 120 _ _ _ _ (by decide) (by simp) rfl rfl rfl rfl rfl rfl) (by unfold jJ;split;simp;split<;>simp) (fun hk H i hi=>?_)
 have hx:=hv.x hk
 generalize v.d.drop (v.d.length-3)=x at hx ⊢
 exact⟨⟨_,func383,rfl,rfl⟩,Z3 v x hv.req hv.hand hx H i hi⟩
def ah5(v:VVm)(x:List Int):bM v 121 [65,70,84,69,82] x=dk 2 v x:=by kernel_rfl
def ZO(v:VVm)(hv:dn v):af prog 166 [eVm v,i64 121] (tVm (doS v 121)):=by
 have hk:bj 121 (aq.getD (121:Int).toNat [])=4:=by kernel_rfl
 have hn:aq.getD (121:Int).toNat []=[65,70,84,69,82]:=by kernel_rfl
 rw[aJ (by decide) (by decide),hk,hn,ah5]
 refine aX v 121 4 383 [.row [i64 2],.row [i64 4]] _ (by decide) (by decide) (by have:=hv.d;omega) hv.data (by decide) (by simp) (by rw[hn];exact iC 121 _ _ _ _ (by decide) (by simp) rfl rfl rfl rfl rfl rfl) (by unfold dk;split;simp;split;simp;split;simp;split<;>simp) (fun hk H i hi=>?_)
 have hx:=hv.x hk
 generalize v.d.drop (v.d.length-4)=x at hx ⊢
 exact⟨⟨_,func383,rfl,rfl⟩,LO 2 (by decide) v x hv.req hv.hand hx H i hi⟩
def ZV(v:VVm)(x:List Int):bM v 122 [69,86,69,82,89] x=dk 3 v x:=by kernel_rfl
def ag0(v:VVm)(hv:dn v):af prog 166 [eVm v,i64 122] (tVm (doS v 122)):=by
 have hk:bj 122 (aq.getD (122:Int).toNat [])=4:=by kernel_rfl
 have hn:aq.getD (122:Int).toNat []=[69,86,69,82,89]:=by kernel_rfl
 rw[aJ (by decide) (by decide),hk,hn,ZV]
 refine aX v 122 4 383 [.row [i64 3],.row [i64 4]] _ (by decide) (by decide) (by have:=hv.d;omega) hv.data (by decide) (by simp) (by rw[hn];exact iC 122 _ _ _ _ (by decide) (by simp) rfl rfl rfl rfl rfl rfl) (by unfold dk;split;simp;split;simp;split;simp;split<;>simp) (fun hk H i hi=>?_)
 have hx:=hv.x hk
 generalize v.d.drop (v.d.length-4)=x at hx ⊢
 exact⟨⟨_,func383,rfl,rfl⟩,LO 3 (by decide) v x hv.req hv.hand hx H i hi⟩
def ZG(v:VVm)(x:List Int):bM v 123 [67,65,78,67,69,76] x=jo v x:=by kernel_rfl
def ae8(v:VVm)(hv:dn v):af prog 166 [eVm v,i64 123] (tVm (doS v 123)):=by
 have hk:bj 123 (aq.getD (123:Int).toNat [])=1:=by kernel_rfl
 have hn:aq.getD (123:Int).toNat []=[67,65,78,67,69,76]:=by kernel_rfl
 rw[aJ (by decide) (by decide),hk,hn,ZG]
 refine aX v 123 1 383 [.row [i64 4],.row [i64 1]] _ (by decide) (by decide) (by have:=hv.d;omega) hv.data (by decide) (by simp) (by rw[hn];exact iC 123 _ _ _ _ (by decide) (by simp) rfl rfl rfl rfl rfl rfl) (by unfold jo;split<;>simp) (fun hk H i hi=>?_)
 have hx:=hv.x hk
 generalize v.d.drop (v.d.length-1)=x at hx ⊢
 exact⟨⟨_,func383,rfl,rfl⟩,QR v x hv.req hx H i hi⟩
def Zu(v:VVm)(x:List Int):bM v 124 [65,82,71] x=(v,[v.arg],0):=by kernel_rfl
def ae4(v:VVm)(hv:dn v):af prog 166 [eVm v,i64 124] (tVm (doS v 124)):=by
 have hk:bj 124 (aq.getD (124:Int).toNat [])=0:=by kernel_rfl
 have hn:aq.getD (124:Int).toNat []=[65,82,71]:=by kernel_rfl
 rw[aJ (by decide) (by decide),hk,hn,Zu]
 refine aX v 124 0 370 [.row [fnP 349 []]] _ (by decide) (by decide) (by have:=hv.d;omega) hv.data (by decide) (by simp) (by rw[hn];exact iC 124 _ _ _ _ (by decide) (by simp) rfl rfl rfl rfl rfl rfl) (by(show List.length _<=_;simp[b8,bC,di,ei,fy,fR,fF,b7,bz,bc,cZ,pUM,pM,cX,da,cY,pSD,bx,bI])) (fun hk H i hi=>?_)
 have hx:=hv.x hk
 generalize v.d.drop (v.d.length-0)=x at hx ⊢
 exact⟨⟨_,func370,rfl,rfl⟩,mV 349 [] v x _ (by simp) (fun H=>⟨⟨_,func349,rfl,rfl⟩,az8 v H⟩) H i hi⟩
def ag1(v:VVm)(x:List Int):bM v 125 [83,69,76,70] x=(v,[v.self],0):=by kernel_rfl
def ad9(v:VVm)(hv:dn v):af prog 166 [eVm v,i64 125] (tVm (doS v 125)):=by
 have hk:bj 125 (aq.getD (125:Int).toNat [])=0:=by kernel_rfl
 have hn:aq.getD (125:Int).toNat []=[83,69,76,70]:=by kernel_rfl
 rw[aJ (by decide) (by decide),hk,hn,ag1]
 refine aX v 125 0 370 [.row [fnP 350 []]] _ (by decide) (by decide) (by have:=hv.d;omega) hv.data (by decide) (by simp) (by rw[hn];exact iC 125 _ _ _ _ (by decide) (by simp) rfl rfl rfl rfl rfl rfl) (by(show List.length _<=_;simp[b8,bC,di,ei,fy,fR,fF,b7,bz,bc,cZ,pUM,pM,cX,da,cY,pSD,bx,bI])) (fun hk H i hi=>?_)
 have hx:=hv.x hk
 generalize v.d.drop (v.d.length-0)=x at hx ⊢
 exact⟨⟨_,func370,rfl,rfl⟩,mV 350 [] v x _ (by simp) (fun H=>⟨⟨_,func350,rfl,rfl⟩,aE4 v H⟩) H i hi⟩
def ZA(v:VVm)(x:List Int):bM v 126 [78,79,87] x=(v,[v.now],0):=by kernel_rfl
def ah1(v:VVm)(hv:dn v):af prog 166 [eVm v,i64 126] (tVm (doS v 126)):=by
 have hk:bj 126 (aq.getD (126:Int).toNat [])=0:=by kernel_rfl
 have hn:aq.getD (126:Int).toNat []=[78,79,87]:=by kernel_rfl
 rw[aJ (by decide) (by decide),hk,hn,ZA]
 refine aX v 126 0 370 [.row [fnP 351 []]] _ (by decide) (by decide) (by have:=hv.d;omega) hv.data (by decide) (by simp) (by rw[hn];exact iC 126 _ _ _ _ (by decide) (by simp) rfl rfl rfl rfl rfl rfl) (by(show List.length _<=_;simp[b8,bC,di,ei,fy,fR,fF,b7,bz,bc,cZ,pUM,pM,cX,da,cY,pSD,bx,bI])) (fun hk H i hi=>?_)
 have hx:=hv.x hk
 generalize v.d.drop (v.d.length-0)=x at hx ⊢
 exact⟨⟨_,func370,rfl,rfl⟩,mV 351 [] v x _ (by simp) (fun H=>⟨⟨_,func351,rfl,rfl⟩,aD3 v H⟩) H i hi⟩
def ac8(v:VVm)(x:List Int):bM v 127 [83,69,84,45,83,84,65,84,69] x=gB v x:=by kernel_rfl
def ad0(v:VVm)(hv:dn v):af prog 166 [eVm v,i64 127] (tVm (doS v 127)):=by
 have hk:bj 127 (aq.getD (127:Int).toNat [])=2:=by kernel_rfl
 have hn:aq.getD (127:Int).toNat []=[83,69,84,45,83,84,65,84,69]:=by kernel_rfl
 rw[aJ (by decide) (by decide),hk,hn,ac8]
 refine aX v 127 2 352 [] _ (by decide) (by decide) (by have:=hv.d;omega) hv.data (by decide) (by simp) (by rw[hn];exact iC 127 _ _ _ _ (by decide) (by simp) rfl rfl rfl rfl rfl rfl) (by unfold gB di;split<;>simp) (fun hk H i hi=>?_)
 have hx:=hv.x hk
 generalize v.d.drop (v.d.length-2)=x at hx ⊢
 exact⟨⟨_,func352,rfl,rfl⟩,aF9 v x hv.mem hx H i hi⟩
def Z0(v:VVm)(x:List Int):bM v 128 [65,84,45,83,84,65,84,69] x=iY v x:=by kernel_rfl
def ZY(v:VVm)(hv:dn v):af prog 166 [eVm v,i64 128] (tVm (doS v 128)):=by
 have hk:bj 128 (aq.getD (128:Int).toNat [])=3:=by kernel_rfl
 have hn:aq.getD (128:Int).toNat []=[65,84,45,83,84,65,84,69]:=by kernel_rfl
 rw[aJ (by decide) (by decide),hk,hn,Z0]
 refine aX v 128 3 354 [] _ (by decide) (by decide) (by have:=hv.d;omega) hv.data (by decide) (by simp) (by rw[hn];exact iC 128 _ _ _ _ (by decide) (by simp) rfl rfl rfl rfl rfl rfl) (by unfold iY di;split<;>simp) (fun hk H i hi=>?_)
 have hx:=hv.x hk
 generalize v.d.drop (v.d.length-3)=x at hx ⊢
 exact⟨⟨_,func354,rfl,rfl⟩,aD9 v x hv.mem hx H i hi⟩
def ZP(v:VVm)(x:List Int):bM v 129 [71,69,84,45,83,84,65,84,69] x=b8 v x:=by kernel_rfl
def YK(v:VVm)(hv:dn v):af prog 166 [eVm v,i64 129] (tVm (doS v 129)):=by
 have hk:bj 129 (aq.getD (129:Int).toNat [])=1:=by kernel_rfl
 have hn:aq.getD (129:Int).toNat []=[71,69,84,45,83,84,65,84,69]:=by kernel_rfl
 rw[aJ (by decide) (by decide),hk,hn,ZP]
 refine aX v 129 1 367 [.row [fnP 39 []]] _ (by decide) (by decide) (by have:=hv.d;omega) hv.data (by decide) (by simp) (by rw[hn];exact iC 129 _ _ _ _ (by decide) (by simp) rfl rfl rfl rfl rfl rfl) (by(show List.length _<=_;simp[b8,bC,di,ei,fy,fR,fF,b7,bz,bc,cZ,pUM,pM,cX,da,cY,pSD,bx,bI])) (fun hk H i hi=>?_)
 have hx:=hv.x hk
 generalize v.d.drop (v.d.length-1)=x at hx ⊢
 exact⟨⟨_,func367,rfl,rfl⟩,we 39 [] v x _ hx.len (by simp) (fun H=>⟨⟨_,func39,rfl,rfl⟩,(fX v.mem _ (fY hv.mem) (hx.fit 0)) H⟩) H i hi⟩
def Pn{n:Int}(h0:23<=n)(h1:n<=38):aq.getD n.toNat []∈oY:=by
 have:n=23\/n=24\/n=25\/n=26\/n=27\/n=28\/n=29\/n=30\/n=31\/n=32\/n=33\/n=34\/n=35\/n=36\/n=37\/n=38:=by omega
 rcases this with rfl|rfl|rfl|rfl|rfl|rfl|rfl|rfl|rfl|rfl|rfl|rfl|rfl|rfl|rfl|rfl<;>decide
def VO(v:VVm)(hv:dn v)(n:Int):af prog 166 [eVm v,i64 n] (tVm (doS v n)):=by
 by_cases h:23<=n/\n<=129
 ·by_cases h1:n<=38
  ·have hs:aq.getD n.toNat []∈oY:=Pn h.1 h1
   have e:doS v n=({v with d:=(dz (aq.getD n.toNat []) v.d v.conf.data).1},(dz (aq.getD n.toNat []) v.d v.conf.data).2.2):=by
    unfold doS;rw[if_neg (by omega)];simp only;rw[if_pos h1]
   rw[e]
   exact JD v n h.1 h1 hs (by have:=hv.d;omega) hv.data
  by_cases h2:n<=58
  ·exact ah7 v hv n (by omega) h2
  by_cases h3:n<=72
  ·exact Z7 v hv n (by omega) h3
  have:n=73\/n=74\/n=75\/n=76\/n=77\/n=78\/n=79\/n=80\/n=81\/n=82\/n=83\/n=84\/n=85\/n=86\/n=87\/n=88\/n=89\/n=90\/n=91\/n=92\/n=93\/n=94\/n=95\/n=96\/n=97\/n=98\/n=99\/n=100\/n=101\/n=102\/n=103\/n=104\/n=105\/n=106\/n=107\/n=108\/n=109\/n=110\/n=111\/n=112\/n=113\/n=114\/n=115\/n=116\/n=117\/n=118\/n=119\/n=120\/n=121\/n=122\/n=123\/n=124\/n=125\/n=126\/n=127\/n=128\/n=129:=by omega
  rcases this with rfl|rfl|rfl|rfl|rfl|rfl|rfl|rfl|rfl|rfl|rfl|rfl|rfl|rfl|rfl|rfl|rfl|rfl|rfl|rfl|rfl|rfl|rfl|rfl|rfl|rfl|rfl|rfl|rfl|rfl|rfl|rfl|rfl|rfl|rfl|rfl|rfl|rfl|rfl|rfl|rfl|rfl|rfl|rfl|rfl|rfl|rfl|rfl|rfl|rfl|rfl|rfl|rfl|rfl|rfl|rfl|rfl
  ·exact ar8 v hv
  ·exact at8 v hv
  ·exact at5 v hv
  ·exact ay4 v hv
  ·exact av5 v hv
  ·exact ap5 v hv
  ·exact at9 v hv
  ·exact ar0 v hv
  ·exact aw6 v hv
  ·exact ax7 v hv
  ·exact ax6 v hv
  ·exact ao3 v hv
  ·exact av9 v hv
  ·exact am5 v hv
  ·exact ay3 v hv
  ·exact ay0 v hv
  ·exact ay7 v hv
  ·exact at6 v hv
  ·exact an1 v hv
  ·exact al7 v hv
  ·exact az1 v hv
  ·exact aw5 v hv
  ·exact au7 v hv
  ·exact ar9 v hv
  ·exact aw0 v hv
  ·exact au1 v hv
  ·exact ap9 v hv
  ·exact aa0 v hv
  ·exact ag2 v hv
  ·exact ZI v hv
  ·exact ad3 v hv
  ·exact af3 v hv
  ·exact Z5 v hv
  ·exact YN v hv
  ·exact Zt v hv
  ·exact aa6 v hv
  ·exact YL v hv
  ·exact ai8 v hv
  ·exact Zs v hv
  ·exact ZE v hv
  ·exact ae6 v hv
  ·exact ZM v hv
  ·exact ah2 v hv
  ·exact aa9 v hv
  ·exact ac3 v hv
  ·exact Zj v hv
  ·exact ah3 v hv
  ·exact ai4 v hv
  ·exact ZO v hv
  ·exact ag0 v hv
  ·exact ae8 v hv
  ·exact ae4 v hv
  ·exact ad9 v hv
  ·exact ah1 v hv
  ·exact ad0 v hv
  ·exact ZY v hv
  exact YK v hv
 have e:doS v n=(v,-24):=by unfold doS;rw[if_pos (by omega)]
 rw[e];exact af2 v n h
def To(v:VVm):Bool:=decide (dW v.conf/\lK v.mem=true/\ib v.dict=true/\dV v.pic/\(v.mem.b.length:Int)=v.conf.mem/\1368<=v.here/\v.here<=v.conf.mem)
def pT(f:ja):Bool:=decide (0<=f.d/\f.d<=256/\0<=f.r/\f.r<=256)
def EP(h:rF):Bool:=decide (0<=h.fuel)
def OU(v:VVm):Bool:=decide ((v.d.length:Int)<=v.conf.data/\(v.r.length:Int)<=v.conf.ret/\v.f.length<=64/\(v.dict.length:Int)<=v.conf.words/\(v.out.length:Int)<=v.conf.out/\v.req.length<=16/\0<=v.free/\v.free<=64/\0<=v.next/\v.next<=4611686018427387904/\v.hand.length<=64)
def ES(v:VVm):Bool:=To v&&(v.f.all pT&&(v.hand.all EP&&OU v))
def Sl(n:Int):ab (wrap64 n):=ic n
def Gp(n:Nat):ab (S n):=X2 n
def jy:ab 0:=by unfold ab;omega
def vI(b:Bool):ab (eV b):=by unfold eV ab;split<;>omega
def Hf{a b:Int}(hb:ab b)(h0:b≠0):ab (a.fmod b):=by
 unfold ab at hb ⊢
 rw[Int.fmod_eq_emod]
 have h1:=Int.emod_nonneg a h0
 have h2:a%b<b.natAbs:=by
  rcases Int.lt_or_gt_of_ne h0 with h|h
  ·have:=Int.emod_lt_of_pos a (show 0 < -b by omega);rw[Int.emod_neg]at this;omega
  have:=Int.emod_lt_of_pos a h;omega
 split<;>omega
def RQ{a b:Int}(hb:ab b)(h0:b≠0):ab (a.tmod b):=by
 unfold ab at hb ⊢
 have h1:(a.tmod b).natAbs=a.natAbs%b.natAbs:=Int.natAbs_tmod a b
 have h2:a.natAbs%b.natAbs<b.natAbs:=Nat.mod_lt _ (by omega)
 omega
def By{n:Int}(h:fV n=true):ab n:=by unfold fV at h;unfold ab;simpa using h
def xZ{a b:Int}(hb:ab b):ab (mP a b).1/\ab (mP a b).2.1:=by
 unfold mP
 split
 ·exact⟨jy,jy⟩
 rename_i h0;exact⟨Sl _,Hf hb h0⟩
def rA{lo hi d:Int}(hd:ab d):ab (jt lo hi d).1/\ab (jt lo hi d).2.1:=by
 unfold jt
 split
 ·exact⟨jy,jy⟩
 rename_i h0
 split
 ·rename_i h1;exact⟨By h1,Hf hd h0⟩
 exact⟨jy,jy⟩
def Fp{lo hi d:Int}(hd:ab d):ab (kY lo hi d).1/\ab (kY lo hi d).2.1:=by
 unfold kY
 split
 ·exact⟨jy,jy⟩
 rename_i h0
 split
 ·rename_i h1;exact⟨By h1,RQ hd h0⟩
 exact⟨jy,jy⟩
def uF{lo hi d:Int}:ab (il lo hi d).1/\ab (il lo hi d).2.1:=by
 unfold il
 split
 ·exact⟨jy,jy⟩
 split
 ·exact⟨jy,jy⟩
 exact⟨Gp _,Gp _⟩
def NS(a b:Int)(up:Bool):ab (pX a b up):=by
 unfold pX
 split
 ·exact jy
 split<;>exact Gp _
def VE(o:Op1){a:Int}(ha:ab a):ab (one o a):=by
 unfold ab at *
 cases o<;>simp only[one]<;>first|exact ic _|exact vI _|(split<;>first|exact ic _|omega)|omega
def WZ(o:Op2){a b:Int}(ha:ab a)(hb:ab b):ab (two o a b).1:=by
 cases o<;>simp only[two]<;>first|exact(xZ hb).1|exact(xZ hb).2|exact Sl _|exact NS _ _ _|exact vI _|(split<;>assumption)
def O5(name:Str){a:Int}(ha:ab a):ab (vr name a).1:=by
 unfold vr
 split
 ·exact VE _ ha
 exact jy
def OV(name:Str){a b:Int}(ha:ab a)(hb:ab b):ab (lJ name a b).1:=by
 unfold lJ
 split
 ·exact WZ _ ha hb
 exact jy
def sL(m:bf)(a:Int):ab (an m a).1:=by
 unfold an Ik
 split
 ·exact Sl _
 exact jy
def zA(m:bf)(a:Int):ab (dN m a).1:=by
 unfold dN
 split
 ·have:=(m.b.getD a.toNat 0).toNat_lt;unfold ab;simp only;omega
 exact jy
structure dy (m m':bf) (k:Nat):Prop where
 right:lK m=true->lK m'=true
 len:m'.b.length=m.b.length
 old:m'.old.length<=m.old.length+k
def dy.refl(m:bf)(k:Nat):dy m m k:=⟨id,rfl,Nat.le_add_right _ _⟩
def dy.trans{a b c:bf}{i j:Nat}(h:dy a b i)(g:dy b c j):dy a c (i+j):=⟨fun q=>g.right (h.right q),g.len.trans h.len,by have:=h.old;have:=g.old;omega⟩
def dy.up{a b:bf}{i j:Nat}(h:dy a b i)(hij:i<=j):dy a b j:=⟨h.right,h.len,by have:=h.old;omega⟩
def B0{m m':bf}(h:m'.b.length=m.b.length)(a n:Int):aV m' a n=aV m a n:=by unfold aV;rw[h]
def ke(m:bf)(a:Int)(b:List UInt8):dy m (bV m a b).1 1:=by
 have hl:=vg m a b
 refine⟨fun h=>?_,hl,vA m a b⟩
 unfold lK at h ⊢
 rw[hl]
 rw[Bool.and_eq_true]at h ⊢
 refine⟨?_,h.2⟩
 have hall:∀p∈m.old,aV (bV m a b).1 p.place p.old.length=true:=fun p hp=>by rw[B0 hl];exact List.all_eq_true.1 h.1 p hp
 rw[List.all_eq_true]
 intro p hp
 unfold bV at hp
 split at hp
 ·rename_i ht
  split at hp
  ·exact hall p hp
  rcases List.mem_append.1 hp with hp|hp
  ·exact hall p hp
  simp only[List.mem_singleton]at hp
  subst hp
  rw[B0 hl]
  simp only[List.length_take,List.length_drop]
  rcases u6 ht with h0|⟨h0,h1,h2⟩
  ·unfold aV;exact decide_eq_true (.inl (by omega))
  unfold aV;exact decide_eq_true (.inr ⟨by omega,h1,by omega⟩)
 exact hall p hp
def cM(m:bf)(a n:Int):dy m (aH m a n).1 1:=by
 unfold aH;split
 ·exact ke _ _ _
 exact .refl _ _
def Ib(m:bf)(a n c:Int):dy m (mM m a n c).1 1:=by
 unfold mM;split
 ·exact ke _ _ _
 exact .refl _ _
def J5(m:bf)(a b n:Int):dy m (mL m a b n).1 1:=by
 unfold mL;split
 ·exact ke _ _ _
 exact .refl _ _
def gR{m:bf}{here:Int}(b:List UInt8):dy m (cJ m here b).1 1:=by
 unfold cJ;split
 ·exact .refl _ _
 exact ke _ _ _
def iu{m:bf}{here:Int}(b:List UInt8)(h0:1368<=here)(h1:here<=m.b.length):1368<=(cJ m here b).2.1/\(cJ m here b).2.1<=m.b.length:=by
 unfold cJ;split
 ·exact⟨h0,h1⟩
 simp only;omega
def tJ{p:dL}(c:Int)(h:dV p):dV (gm p c).1:=by
 unfold gm;split
 ·rename_i hc;exact⟨by simp;omega,.inl hc.1⟩
 exact h
def rT{p:dL}(lo hi base:Int)(h:dV p):dV (aN p lo hi base).1:=by
 unfold aN;split
 ·exact h
 split
 ·exact tJ _ h
 exact h
def Ap(base:Int):∀(n:Nat) {q:dL} (lo hi:Int),dV q->dV (qK n q lo hi base).1
 | 0,q,lo,hi,h=>h
 | n+1,q,lo,hi,h=>by
  unfold qK
  split
  ·exact h
  split
  ·exact rT _ _ _ h
  exact Ap base n _ _ (rT _ _ _ h)
def Ni{p:dL}(lo hi base:Int)(h:dV p):dV (tO p lo hi base).1:=by
 unfold tO OC
 split
 ·exact Ap base _ _ _ h
 exact h
def Jq{p:dL}(n:Int)(h:dV p):dV (ow p n).1:=by
 unfold ow;split
 ·exact h
 exact tJ _ h
def Cg{p:dL}{lo hi base:Int}(hl:ab lo)(hh:ab hi):ab (aN p lo hi base).2.1/\ab (aN p lo hi base).2.2.1:=by
 unfold aN;split
 ·exact⟨hl,hh⟩
 split
 ·exact⟨uF.1,uF.1⟩
 exact⟨hl,hh⟩
structure wb (c:VCf):Prop where
 fit:ab c.at_
 len:c.leaves.length<=32
 each:∀x∈c.leaves,ab x
def Rg:wb zCf:=⟨jy,Nat.zero_le _,fun x hx=>by cases hx⟩
structure CK (k:Nat) (w:CW):Prop where
 b:w.v.mem.b.length<=1000000
 old:w.v.mem.old.length+k<=1000000
 h0:1368<=w.v.here
 h1:w.v.here<=w.v.mem.b.length
 len:w.l.length<=32
 cf:∀c∈w.l,wb c
def CK.mem{k:Nat}{w:CW}(h:CK k w):cy w.v.mem:=⟨h.b,by have:=h.old;omega⟩
def CK.here{k:Nat}{w:CW}(h:CK k w):fG w.v.mem w.v.here:=⟨by have:=h.h0;omega,h.h1⟩
def CK.fit{k:Nat}{w:CW}(h:CK k w):ab w.v.here:=h.here.fit h.mem
def CK.down{k j:Nat}{w:CW}(h:CK k w)(hj:j<=k):CK j w:=⟨h.b,by have:=h.old;omega,h.h0,h.h1,h.len,h.cf⟩
def KW{k:Nat}{w:CW}(h:CK k w)(e:Int):CK k (w.fail e):=by
 unfold CW.fail;split
 ·exact⟨h.b,h.old,h.h0,h.h1,h.len,h.cf⟩
 exact h
def r4(m:bf)(here n:Int):dy m (bW m here n).1 1:=by
 unfold bW;split
 ·exact gR _
 exact .refl _ _
def tX{m:bf}{here:Int}(n:Int)(h0:1368<=here)(h1:here<=m.b.length):1368<=(bW m here n).2.1/\(bW m here n).2.1<=m.b.length:=by
 unfold bW;split
 ·exact iu _ h0 h1
 exact⟨h0,h1⟩
def qb{k:Nat}{w:CW}(h:CK (k+1) w)(n:Int):CK k (gi w n):=by
 unfold gi;split
 ·have q:=r4 w.v.mem w.v.here n
  have p:=tX n h.h0 h.h1
  exact⟨by show(bW w.v.mem w.v.here n).1.b.length<=_;rw[q.len];exact h.b,by show(bW w.v.mem w.v.here n).1.old.length+k<=_;have:=q.old;have:=h.old;omega,p.1,by show(bW w.v.mem w.v.here n).2.1<=((bW w.v.mem w.v.here n).1.b.length:Int);rw[q.len];exact p.2,h.len,h.cf⟩
 exact h.down (by omega)
def jk{k:Nat}{w:CW}(h:CK (k+1) w)(name:Str):CK k (ce w name):=qb h _
def KL{k:Nat}{w:CW}(h:CK (k+1) w)(a:Int):CK k (gV w a):=by
 unfold gV;split
 ·have q:=cM w.v.mem a w.v.here
  exact⟨by show(aH w.v.mem a w.v.here).1.b.length<=_;rw[q.len];exact h.b,by show(aH w.v.mem a w.v.here).1.old.length+k<=_;have:=q.old;have:=h.old;omega,h.h0,by show w.v.here<=((aH w.v.mem a w.v.here).1.b.length:Int);rw[q.len];exact h.h1,h.len,h.cf⟩
 exact h.down (by omega)
def Vw{k:Nat}{w:CW}(h:CK k w){c:VCf}(hc:wb c):CK k (io w c):=by
 unfold io;split
 ·exact KW h _
 rename_i q
 exact⟨h.b,h.old,h.h0,h.h1,by show(w.l++[c]).length<=32;simp;omega,fun x hx=>by rcases List.mem_append.1 hx with hx|hx;exact h.cf x hx;rw[List.mem_singleton.1 hx];exact hc⟩
def nt{k:Nat}{w:CW}(h:CK k w)(kind:Int):CK k (aZ w kind).1/\wb (aZ w kind).2:=by
 unfold aZ;split
 ·exact⟨KW h _,Rg⟩
 rename_i q
 refine⟨⟨h.b,h.old,h.h0,h.h1,by show(w.l.take (w.l.length-1)).length<=32;have:=h.len;simp;omega,fun x hx=>h.cf x (List.mem_of_mem_take hx)⟩,?_⟩
 have hl:w.l.length-1<w.l.length:=by have:¬w.l.length=0:=fun z=>q (.inl z);omega
 exact h.cf _ (by rw[List.getD_eq_getElem?_getD,List.getElem?_eq_getElem hl];exact List.getElem_mem hl)
def eO(w:CW)(name:Str):CW:=gi (ce w name) 0
def oX{k:Nat}{w:CW}(h:CK (k+2) w)(name:Str):CK k (eO w name):=qb (jk h name) 0
def pw(w:CW)(name:Str)(h:CK 2 w):∀(H:List Ob) (i:Nat),H[i]?=some (.cells (cCw w) 175)->HC prog 263 (.ptr i 0::[str name]) H (i64 (ce w name).v.here) (H.set i (.cells (cCw (eO w name)) 175)):=by
 refine zM func263 fun B=>?_
 refine zu1 ?_
 refine zp2 ?_
 refine zc rfl func104 ((mO w name h.mem h.here) _ _ rfl) ?_
 refine Wn<|zp1 ?_
 refine zc rfl func105 ((qS (ce w name) 0 (jk h name).mem (jk h name).here) _ _ rfl) ?_
 refine zs1 ?_
 refine Wq<|aP rfl rfl ?_ ?_
 ·rfl
 rfl
def ifC(w:CW):CW:=io (eO w [40,48,98,114,97,110,99,104,41]) ⟨1,(ce w [40,48,98,114,97,110,99,104,41]).v.here,[]⟩
def yX(w:CW):CW:=io (gV (eO (aZ w 1).1 [40,98,114,97,110,99,104,41]) (aZ w 1).2.at_) ⟨1,(ce (aZ w 1).1 [40,98,114,97,110,99,104,41]).v.here,[]⟩
def Ak(w:CW):CW:=gV (aZ w 1).1 (aZ w 1).2.at_
def ud(w:CW):CW:=io w ⟨2,w.v.here,[]⟩
def tI(w:CW):CW:=io (io (eO (aZ w 2).1 [40,48,98,114,97,110,99,104,41]) ⟨1,(ce (aZ w 2).1 [40,48,98,114,97,110,99,104,41]).v.here,[]⟩) (aZ w 2).2
def qf(w:CW):CW:=gV (gi (ce (aZ (aZ w 2).1 1).1 [40,98,114,97,110,99,104,41]) (aZ w 2).2.at_) (aZ (aZ w 2).1 1).2.at_
def uO(name:Str)(w:CW):CW:=gi (ce (aZ w 2).1 name) (aZ w 2).2.at_
def doC(w:CW):CW:=io (ce w [40,100,111,41]) ⟨3,(ce w [40,100,111,41]).v.here,[]⟩
def TL(w:CW):CW:=io (eO w [40,63,100,111,41]) ⟨3,(eO w [40,63,100,111,41]).v.here,[(ce w [40,63,100,111,41]).v.here]⟩
def vP(name:Str)(w:CW):CW:=(aZ w 3).2.leaves.foldl gV (gi (ce (aZ w 3).1 name) (aZ w 3).2.at_)
def ae9{k:Nat}{w:CW}(h:CK k w)(kind:Int):wb ⟨kind,w.v.here,[]⟩:=⟨h.fit,Nat.zero_le _,fun x hx=>by cases hx⟩
def ay8(w:CW)(h:CK 2 w):∀(H:List Ob) (i:Nat),H[i]?=some (.cells (cCw w) 175)->HC prog 222 (.ptr i 0::[]) H (.tup []) (H.set i (.cells (cCw (ifC w)) 175)):=by
 have b:=oX h [40,48,98,114,97,110,99,104,41]
 refine zM func222 fun B=>?_
 refine zp1 ?_
 refine zc rfl func263 ((pw w [40,48,98,114,97,110,99,104,41] h) _ _ rfl) ?_
 refine zs1 ?_
 refine aa rfl ?_
 refine zy3 ?_
 refine zc rfl func264 ((qv (eO w [40,48,98,114,97,110,99,104,41]) ⟨1,(ce w [40,48,98,114,97,110,99,104,41]).v.here,[]⟩ (by have:=b.len;omega)) _ _ rfl) ?_
 refine Wn<|aS rfl rfl ?_ ?_
 ·rfl
 rfl
def WG(w:CW)(h:CK 3 w):∀(H:List Ob) (i:Nat),H[i]?=some (.cells (cCw w) 175)->HC prog 223 (.ptr i 0::[]) H (.tup []) (H.set i (.cells (cCw (yX w)) 175)):=by
 have c:=nt h 1
 have b:=oX c.1 [40,98,114,97,110,99,104,41]
 have d:=KL b (aZ w 1).2.at_
 refine zM func223 fun B=>?_
 refine zp1 ?_
 refine zc rfl func265 ((nC w 1 (by have:=h.len;omega)) _ _ rfl) ?_
 refine zs2 ?_
 refine zp1 ?_
 refine zc rfl func263 ((pw (aZ w 1).1 [40,98,114,97,110,99,104,41] (c.1.down (by omega))) _ _ rfl) ?_
 refine zs1 ?_
 refine zp3 ?_
 refine zc rfl func266 ((yd (eO (aZ w 1).1 [40,98,114,97,110,99,104,41]) (aZ w 1).2.at_ b.mem c.2.fit) _ _ rfl) ?_
 refine Wn<|aa rfl ?_
 refine zy3 ?_
 refine zc rfl func264 ((qv _ ⟨1,(ce (aZ w 1).1 [40,98,114,97,110,99,104,41]).v.here,[]⟩ (by have:=d.len;omega)) _ _ rfl) ?_
 refine Wn<|aS rfl rfl ?_ ?_
 ·rfl
 rfl
def XO(w:CW)(h:CK 1 w):∀(H:List Ob) (i:Nat),H[i]?=some (.cells (cCw w) 175)->HC prog 224 (.ptr i 0::[]) H (.tup []) (H.set i (.cells (cCw (Ak w)) 175)):=by
 have c:=nt h 1
 refine zM func224 fun B=>?_
 refine aa rfl ?_
 refine zy2 ?_
 refine zc rfl func265 ((nC w 1 (by have:=h.len;omega)) _ _ rfl) ?_
 refine z1 ?_
 refine zc rfl func266 ((yd (aZ w 1).1 (aZ w 1).2.at_ c.1.mem c.2.fit) _ _ rfl) ?_
 refine Wn<|aS rfl rfl ?_ ?_
 ·rfl
 rfl
def Rw(w:CW)(h:CK 0 w):∀(H:List Ob) (i:Nat),H[i]?=some (.cells (cCw w) 175)->HC prog 225 (.ptr i 0::[]) H (.tup []) (H.set i (.cells (cCw (ud w)) 175)):=by
 refine zM func225 fun B=>?_
 refine aa rfl ?_
 refine zy5 ?_
 refine zy2 ?_
 refine zc rfl func264 ((qv w ⟨2,w.v.here,[]⟩ (by have:=h.len;omega)) _ _ rfl) ?_
 refine Wn<|aS rfl rfl ?_ ?_
 ·rfl
 rfl
def RF(w:CW)(h:CK 2 w):∀(H:List Ob) (i:Nat),H[i]?=some (.cells (cCw w) 175)->HC prog 226 (.ptr i 0::[]) H (.tup []) (H.set i (.cells (cCw (tI w)) 175)):=by
 have c:=nt h 2
 have b:=oX c.1 [40,48,98,114,97,110,99,104,41]
 have d:=Vw b (ae9 (jk c.1 [40,48,98,114,97,110,99,104,41]) 1)
 refine zM func226 fun B=>?_
 refine zp1 ?_
 refine zc rfl func265 ((nC w 2 (by have:=h.len;omega)) _ _ rfl) ?_
 refine zs2 ?_
 refine zp1 ?_
 refine zc rfl func263 ((pw (aZ w 2).1 [40,48,98,114,97,110,99,104,41] c.1) _ _ rfl) ?_
 refine zs1 ?_
 refine zp3 ?_
 refine zc rfl func264 ((qv _ ⟨1,(ce (aZ w 2).1 [40,48,98,114,97,110,99,104,41]).v.here,[]⟩ (by have:=b.len;omega)) _ _ rfl) ?_
 refine Wn<|aa rfl ?_
 refine zy2 ?_
 refine zc rfl func264 ((qv _ (aZ w 2).2 (by have:=d.len;omega)) _ _ rfl) ?_
 refine Wn<|aS rfl rfl ?_ ?_
 ·rfl
 rfl
def Nj(w:CW)(h:CK 3 w):∀(H:List Ob) (i:Nat),H[i]?=some (.cells (cCw w) 175)->HC prog 227 (.ptr i 0::[]) H (.tup []) (H.set i (.cells (cCw (qf w)) 175)):=by
 have c:=nt h 2
 have o:=nt c.1 1
 have a:=jk o.1 [40,98,114,97,110,99,104,41]
 have b:=qb a (aZ w 2).2.at_
 refine zM func227 fun B=>?_
 refine zp1 ?_
 refine zc rfl func265 ((nC w 2 (by have:=h.len;omega)) _ _ rfl) ?_
 refine zs2 ?_
 refine zp1 ?_
 refine zc rfl func265 ((nC (aZ w 2).1 1 (by have:=c.1.len;omega)) _ _ rfl) ?_
 refine zs2 ?_
 refine zp1 ?_
 refine zc rfl func104 ((mO _ [40,98,114,97,110,99,104,41] o.1.mem o.1.here) _ _ rfl) ?_
 refine Wn<|zp3 ?_
 refine zc rfl func105 ((qS _ (aZ w 2).2.at_ a.mem a.here) _ _ rfl) ?_
 refine Wn<|aa rfl ?_
 refine zy3 ?_
 refine zc rfl func266 ((yd _ (aZ (aZ w 2).1 1).2.at_ b.mem o.2.fit) _ _ rfl) ?_
 refine Wn<|aS rfl rfl ?_ ?_
 ·rfl
 rfl
def Lo(name:Str)(w:CW)(h:CK 2 w):∀(H:List Ob) (i:Nat),H[i]?=some (.cells (cCw w) 175)->HC prog 267 (.ptr i 0::[str name]) H (.tup []) (H.set i (.cells (cCw (uO name w)) 175)):=by
 have c:=nt h 2
 have a:=jk c.1 name
 refine zM func267 fun B=>?_
 refine zp1 ?_
 refine zc rfl func265 ((nC w 2 (by have:=h.len;omega)) _ _ rfl) ?_
 refine zs2 ?_
 refine zp2 ?_
 refine zc rfl func104 ((mO _ name c.1.mem c.1.here) _ _ rfl) ?_
 refine Wn<|aa rfl ?_
 refine zy3 ?_
 refine zc rfl func105 ((qS _ (aZ w 2).2.at_ a.mem a.here) _ _ rfl) ?_
 refine Wn<|aS rfl rfl ?_ ?_
 ·rfl
 rfl
def Pp(w:CW)(h:CK 2 w):∀(H:List Ob) (i:Nat),H[i]?=some (.cells (cCw w) 175)->HC prog 228 (.ptr i 0::[]) H (.tup []) (H.set i (.cells (cCw (uO [40,48,98,114,97,110,99,104,41] w)) 175)):=by
 refine zM func228 fun B=>?_
 refine aa rfl ?_
 refine z1 ?_
 refine zc rfl func267 ((Lo [40,48,98,114,97,110,99,104,41] w h) _ _ rfl) ?_
 refine Wn<|aS rfl rfl ?_ ?_
 ·rfl
 rfl
def PJ(w:CW)(h:CK 2 w):∀(H:List Ob) (i:Nat),H[i]?=some (.cells (cCw w) 175)->HC prog 229 (.ptr i 0::[]) H (.tup []) (H.set i (.cells (cCw (uO [40,98,114,97,110,99,104,41] w)) 175)):=by
 refine zM func229 fun B=>?_
 refine aa rfl ?_
 refine z1 ?_
 refine zc rfl func267 ((Lo [40,98,114,97,110,99,104,41] w h) _ _ rfl) ?_
 refine Wn<|aS rfl rfl ?_ ?_
 ·rfl
 rfl
def am3(w:CW)(h:CK 1 w):∀(H:List Ob) (i:Nat),H[i]?=some (.cells (cCw w) 175)->HC prog 230 (.ptr i 0::[]) H (.tup []) (H.set i (.cells (cCw (doC w)) 175)):=by
 have a:=jk h [40,100,111,41]
 refine zM func230 fun B=>?_
 refine zp1 ?_
 refine zc rfl func104 ((mO w [40,100,111,41] h.mem h.here) _ _ rfl) ?_
 refine Wn<|aa rfl ?_
 refine zy5 ?_
 refine zy2 ?_
 refine zc rfl func264 ((qv _ ⟨3,(ce w [40,100,111,41]).v.here,[]⟩ (by have:=a.len;omega)) _ _ rfl) ?_
 refine Wn<|aS rfl rfl ?_ ?_
 ·rfl
 rfl
def Zr(w:CW)(h:CK 2 w):∀(H:List Ob) (i:Nat),H[i]?=some (.cells (cCw w) 175)->HC prog 231 (.ptr i 0::[]) H (.tup []) (H.set i (.cells (cCw (TL w)) 175)):=by
 have b:=oX h [40,63,100,111,41]
 refine zM func231 fun B=>?_
 refine zp1 ?_
 refine zc rfl func263 ((pw w [40,63,100,111,41] h) _ _ rfl) ?_
 refine zs1 ?_
 refine aa rfl ?_
 refine zy5 ?_
 refine zy3 ?_
 refine Wa 12 rfl ((show _=PV.seq (List.length [(ce w [40,63,100,111,41]).v.here]) (List.flatMap au [(ce w [40,63,100,111,41]).v.here]) .clip from rfl)) ?_
 refine z1 ?_
 refine zc rfl func264 ((qv _ ⟨3,(eO w [40,63,100,111,41]).v.here,[(ce w [40,63,100,111,41]).v.here]⟩ (by have:=b.len;omega)) _ _ rfl) ?_
 refine Wn<|aS rfl rfl ?_ ?_
 ·rfl
 rfl
def N2{l:List Int}{k:Nat}(hk:k<l.length)(w:CW):(l.take (k+1)).foldl gV w=gV ((l.take k).foldl gV w) (l.getD k 0):=by
 rw[fI l k 0 hk,List.foldl_append];rfl
def Lg:∀(l:List Int) (k:Nat) (w:CW),CK (k+l.length) w->CK k (l.foldl gV w)
 | [],_,_,h=>h
 | x::l,k,w,h=>Lg l k _ (KL (by rw[List.length_cons]at h;exact h) x)
def RO(name:Str)(w:CW)(h:CK 40 w):∀(H:List Ob) (i:Nat),H[i]?=some (.cells (cCw w) 175)->HC prog 268 (.ptr i 0::[str name]) H (.tup []) (H.set i (.cells (cCw (vP name w)) 175)):=by
 have c:=nt h 3
 have a:=jk (k:=39) c.1 name
 have b:=qb (k:=38) a (aZ w 3).2.at_
 obtain⟨w1,hw1⟩:∃w1,gi (ce (aZ w 3).1 name) (aZ w 3).2.at_=w1:=⟨_,rfl⟩
 have hl:=c.2.len
 have hE:vP name w=(aZ w 3).2.leaves.foldl gV w1:=by unfold vP;rw[hw1]
 rw[hE]
 rw[hw1]at b
 have p3:=qS _ (aZ w 3).2.at_ a.mem a.here
 rw[hw1]at p3
 refine zM func268 fun B=>?_
 refine zp1 ?_
 refine zc rfl func265 ((nC w 3 (by have:=h.len;omega)) _ _ rfl) ?_
 refine zs2 ?_
 refine zp2 ?_
 refine zc rfl func104 ((mO _ name c.1.mem c.1.here) _ _ rfl) ?_
 refine Wn<|zp3 ?_
 refine zc rfl func105 ((p3) _ _ rfl) ?_
 refine Wn<|zu4 ?_
 refine Wl ?_
 show W _ _ _ _ _ _ _
 refine cQ (fun(k:Nat)=>[(0,.ptr 0 0),(17,sq au (aZ w 3).2.leaves),(18,i64 (aZ w 3).2.leaves.length),(19,i64 k)]) (fun(k:Nat)=>[.cells (cCw (((aZ w 3).2.leaves.take k).foldl gV w1)) 175,.dead]) (fun(k:Nat)=>[]) (fun(k:Nat)=>k<=(aZ w 3).2.leaves.length) (fun(k:Nat)=>(aZ w 3).2.leaves.length-k) (0) (by exact Nat.zero_le _) [] ?_ ?_
 ·exact cV
 intro k hk
 refine zu1 ?_
 refine Ws<|Wi rfl (fun hi1=>?_) (fun hi1=>?_)
 ·have hlt:k<(aZ w 3).2.leaves.length:=by have:=oT hi1;omega
  have e:=N2 hlt w1
  have kk:CK 1 (((aZ w 3).2.leaves.take k).foldl gV w1):=Lg _ _ _ (b.down (by simp;omega))
  refine Wj<|Ws<|Wl<|z8 ?_
  refine Wv tG rfl rfl rfl (by omega) (iN au 1 (fun _=>rfl) 0 (by omega)) ?_
  refine zs2 ?_
  refine aa rfl ?_
  refine zy2 ?_
  refine zc rfl func266 ((yd _ ((aZ w 3).2.leaves.getD k 0) kk.mem (c.2.each _ (by rw[List.getD_eq_getElem?_getD,List.getElem?_eq_getElem hlt];exact List.getElem_mem hlt))) _ _ rfl) ?_
  refine Wn<|aa rfl ?_
  refine zs2 ?_
  rw[<-e]
  exact⟨k+1,[],(by exact hlt),(by omega),cV⟩
 have hge:(aZ w 3).2.leaves.length<=k:=by have:=oF hi1;omega
 refine aU ?_
 refine aS rfl rfl ?_ ?_
 ·rfl
 rw[List.take_of_length_le hge];rfl
def Uo(w:CW)(h:CK 40 w):∀(H:List Ob) (i:Nat),H[i]?=some (.cells (cCw w) 175)->HC prog 232 (.ptr i 0::[]) H (.tup []) (H.set i (.cells (cCw (vP [40,108,111,111,112,41] w)) 175)):=by
 refine zM func232 fun B=>?_
 refine aa rfl ?_
 refine z1 ?_
 refine zc rfl func268 ((RO [40,108,111,111,112,41] w h) _ _ rfl) ?_
 refine Wn<|aS rfl rfl ?_ ?_
 ·rfl
 rfl
def Vg(w:CW)(h:CK 40 w):∀(H:List Ob) (i:Nat),H[i]?=some (.cells (cCw w) 175)->HC prog 233 (.ptr i 0::[]) H (.tup []) (H.set i (.cells (cCw (vP [40,43,108,111,111,112,41] w)) 175)):=by
 refine zM func233 fun B=>?_
 refine aa rfl ?_
 refine z1 ?_
 refine zc rfl func268 ((RO [40,43,108,111,111,112,41] w h) _ _ rfl) ?_
 refine Wn<|aS rfl rfl ?_ ?_
 ·rfl
 rfl
def Jd(w:CW)(n:Int):(gi w n).l=w.l:=by unfold gi;split<;>rfl
def PB(w:CW)(name:Str):(eO w name).l=w.l:=(Jd _ _).trans (Jd _ _)
def ad7(l:List VCf)(h0:0<l.length)(hl:l.length<=1000000):HC prog 269 [sq cCf l] [] (.arw 0 0 l.length) [.cells (l.flatMap cCf) 115]:=by
 refine lZ tG (rs:=[.tmp 2]) func269 rfl rfl rfl (fun B=>?_)
 refine zu1 ?_
 refine Ws<|zp1 ?_
 refine vJ (lO tG rfl) rfl rfl rfl rfl rfl (fun bn1 hn1=>?_)
 refine Wn<|Wi rfl (fun hi1=>?_) (fun hi1=>?_)
 ·exact absurd (hn1 hi1).1 (by omega)
 refine Wj<|zp2 ?_
 refine Wd rfl rfl (kG (lO tG rfl) rfl (lO tG rfl) (lO tG rfl) rfl rfl ⟨_,rfl⟩ ⟨rfl,rfl,al _ 3 (fun _=>rfl) _,bi _ (fun _=>rfl) _⟩ rfl (by dsimp only;omega) (by omega) (by omega)) ?_
 refine Wa 7 rfl (show PV.arw 0 0 (0+l.length)=.arw 0 0 l.length by rw[Nat.zero_add]) ?_
 refine zs1 ?_
 refine Wq<|zH rfl ?_ ?_
 ·rfl
 rfl
def Kx(l:List VCf)(h0:0<l.length)(hl:l.length<=1000000):SY prog 269 [sq cCf l] (fun i=>.arw i 0 l.length) (l.flatMap cCf) 115 :=
 yU (by simp) (bo (fun x=>by simp) _) (.inl ⟨_,fun _=>rfl⟩) (ad7 l h0 hl)
def tD:∀{l:List VCf} {i:Nat},i<l.length->∀n:List Int,cr (l.flatMap cCf) (i*3+2) [sq au n]=(l.set i {l.getD i zCf with leaves:=n}).flatMap cCf
 | x::l,0,_,n=>by simp[cr,cCf,List.flatMap_cons]
 | x::l,i+1,h,n=>by
  have ih:=tD (l:=l) (i:=i) (by simpa using h) n
  have e:∀r:List PV,cr (cCf x++r) ((i+1)*3+2) [sq au n]=cCf x++cr r (i*3+2) [sq au n]:=by
   intro r
   unfold cr
   have h1:(cCf x).length=3:=rfl
   rw[List.take_append,List.drop_append,h1,List.take_of_length_le (by omega),List.drop_of_length_le (by rw[h1];simp),show(i+1)*3+2-3=i*3+2 by omega,show(i+1)*3+2+[sq au n].length-3=i*3+2+[sq au n].length by omega]
   simp
  rw[List.flatMap_cons,e,ih]
  rfl
 | [],i,h,n=>by simp at h
def jd(l:List VCf):Nat->Int
 | 0=>-1
 | k+1=>if (l.getD k zCf).kind=3 then(k:Int)else jd l k
def sn(l:List VCf):∀k,-1<=jd l k/\jd l k<k
 | 0=>⟨by rw[jd];omega,by rw[jd];omega⟩
 | k+1=>by
  rw[jd];split
  ·omega
  have:=sn l k;omega
def Vi{l:List VCf}{k:Nat}(h:k<l.length):l.drop k=l.getD k zCf::l.drop (k+1):=by
 rw[List.drop_eq_getElem_cons h,List.getD_eq_getElem?_getD,List.getElem?_eq_getElem h];rfl
def BV{l:List VCf}{j:Nat}(hj:j<l.length){d:TD}(hd:d.agg=false):kh d (l.flatMap cCf) (0+(j:Int).toNat*3+2)=some (sq au (l.getD j zCf).leaves):=by
 unfold kh
 rw[hd]
 show(l.flatMap cCf)[0+(j:Int).toNat*3+2]?=_
 rw[Int.toNat_natCast,Nat.zero_add]
 have e:=ig cCf 3 (fun _=>rfl) j l
 have:(l.flatMap cCf)[j*3+2]?=((l.flatMap cCf).drop (j*3))[2]?:=by rw[List.getElem?_drop]
 rw[this,e,Vi hj]
 rfl
def qd(w:CW):CW :=
 if jd w.l w.l.length<0\/32<=(w.l.getD (jd w.l w.l.length).toNat zCf).leaves.length then w.fail (-22)else
  {eO (ce w [85,78,76,79,79,80]) [40,98,114,97,110,99,104,41]with l:=w.l.set (jd w.l w.l.length).toNat {w.l.getD (jd w.l w.l.length).toNat zCf with leaves:=(w.l.getD (jd w.l w.l.length).toNat zCf).leaves++[(ce (ce w [85,78,76,79,79,80]) [40,98,114,97,110,99,104,41]).v.here]}}
def Rh(w:CW)(h:CK 3 w):∀(H:List Ob) (i:Nat),H[i]?=some (.cells (cCw w) 175)->HC prog 234 (.ptr i 0::[]) H (.tup []) (H.set i (.cells (cCw (qd w)) 175)):=by
 have hlen:=h.len
 have w0:IntKind.i64.wrap ((w.l.length:Int)-1)=(w.l.length:Int)-1:=gq (by omega) (by omega)
 obtain⟨n,hn⟩:∃n,jd w.l w.l.length=n:=⟨_,rfl⟩
 have hr:=sn w.l w.l.length
 rw[hn]at hr
 have a:=jk h [85,78,76,79,79,80]
 have b:=oX a [40,98,114,97,110,99,104,41]
 have bl:(eO (ce w [85,78,76,79,79,80]) [40,98,114,97,110,99,104,41]).l=w.l:=(PB _ _).trans (Jd _ _)
 obtain⟨z,hz⟩:∃z,eO (ce w [85,78,76,79,79,80]) [40,98,114,97,110,99,104,41]=z:=⟨_,rfl⟩
 obtain⟨at_,ha⟩:∃x,(ce (ce w [85,78,76,79,79,80]) [40,98,114,97,110,99,104,41]).v.here=x:=⟨_,rfl⟩
 have p2:=pw (ce w [85,78,76,79,79,80]) [40,98,114,97,110,99,104,41] a
 have hE:qd w=if n<0\/32<=(w.l.getD n.toNat zCf).leaves.length then w.fail (-22)else {z with l:=w.l.set n.toNat {w.l.getD n.toNat zCf with leaves:=(w.l.getD n.toNat zCf).leaves++[at_]}}:=by unfold qd;rw[hn,hz,ha]
 rw[hz]at p2 bl b
 rw[ha]at p2
 rw[hE]
 refine zM func234 fun B=>?_
 refine zp5 ?_
 refine z1 ?_
 refine Wa 9 rfl (zI9 w0) ?_
 refine zs1 ?_
 refine Ws<|Wl ?_
 show W _ _ _ _ _ _ _
 refine cQ (fun(k:Nat)=>[(0,.ptr 0 0),(2,i64 ((k:Int)-1))]) (fun(k:Nat)=>[.cells (cCw w) 175]) (fun(k:Nat)=>[]) (fun(k:Nat)=>k<=w.l.length/\jd w.l k=n) (fun(k:Nat)=>k) (w.l.length) (by exact⟨Nat.le_refl _,hn⟩) [] ?_ ?_
 ·exact cV
 intro k hk
 refine Ws<|zp3 ?_
 refine Wb 12 rfl (fun hg1=>?_) (fun hg1=>?_)
 ·have h1:1<=k:=by have:=oT hg1;omega
  have e1:((k:Int)-1)=((k-1:Nat):Int):=by omega
  have w1:IntKind.i64.wrap (((k-1:Nat):Int)-1)=((k-1:Nat):Int)-1:=gq (by omega) (by omega)
  have eL:jd w.l k=if (w.l.getD (k-1) zCf).kind=3 then((k-1:Nat):Int)else jd w.l (k-1):=by
   rw[show k=(k-1)+1 by omega,jd];rfl
  refine Wa 2 rfl (congrArg i64 e1) ?_
  refine zy5 ?_
  refine Wv tG rfl rfl rfl (by omega) (iN cCf 3 (fun _=>rfl) zCf (by omega)) ?_
  refine zs4 ?_
  refine Wi rfl (fun hi1=>?_) (fun hi1=>?_)
  ·have q1:¬(w.l.getD (k-1) zCf).kind=3:=by simpa using hi1
   rw[if_neg q1]at eL
   refine Wj<|Wl<|aa rfl ?_
   refine zs3 ?_
   exact⟨k-1,[],(by exact⟨by omega,eL.symm.trans hk.2⟩),(by omega),cV⟩
  have q1:(w.l.getD (k-1) zCf).kind=3:=by simpa using hi1
  rw[if_pos q1]at eL
  have hN:n=((k-1:Nat):Int):=hk.2.symm.trans eL
  refine aA5 2 rfl (congrArg i64 hN.symm) ?_
  refine aU ?_
  refine Ws<|zp3 ?_
  refine Wb 27 rfl (fun hg2=>?_) (fun hg2=>?_)
  ·have q:n<0\/32<=(w.l.getD n.toNat zCf).leaves.length:=.inl (oT hg2)
   iterate 10 refine z6 ?_
   refine zs1 ?_
   refine Wt rfl rfl ?_
   refine zp1 ?_
   refine zc rfl func153 ((lE w (-22)) _ _ rfl) ?_
   refine Wn<|Wq<|aP rfl rfl ?_ ?_
   ·rfl
   rw[if_pos q];rfl
  have hn0:0<=n:=by have:=oF hg2;omega
  obtain⟨j,hj⟩:∃j:Nat,n=(j:Int):=⟨n.toNat,by omega⟩
  subst hj
  have hjl:j<w.l.length:=by omega
  have cj:=h.cf (w.l.getD j zCf) (by rw[List.getD_eq_getElem?_getD,List.getElem?_eq_getElem hjl];exact List.getElem_mem hjl)
  refine zy5 ?_
  refine Wv tG rfl rfl rfl (by omega) (iN cCf 3 (fun _=>rfl) zCf (by omega)) ?_
  refine zs5 ?_
  refine Wi rfl (fun hi2=>?_) (fun hi2=>?_)
  ·have q:(j:Int)<0\/32<=(w.l.getD (j:Int).toNat zCf).leaves.length:=.inr (by have:=oT hi2;rw[Int.toNat_natCast];omega)
   refine zp1 ?_
   refine zc rfl func153 ((lE w (-22)) _ _ rfl) ?_
   refine Wn<|Wq<|aP rfl rfl ?_ ?_
   ·rfl
   rw[if_pos q];rfl
  have q:¬((j:Int)<0\/32<=(w.l.getD (j:Int).toNat zCf).leaves.length):=by
   have:=oF hi2
   rintro(h|h)
   ·omega
   rw[Int.toNat_natCast]at h;omega
  have hl32:(w.l.getD j zCf).leaves.length<32:=by have:=oF hi2;omega
  refine Wj<|zp1 ?_
  refine zc rfl func104 ((mO w [85,78,76,79,79,80] h.mem h.here) _ _ rfl) ?_
  refine Wn<|zp1 ?_
  refine zc rfl func263 ((p2) _ _ rfl) ?_
  refine zs1 ?_
  refine zp5 ?_
  refine Wa 49 rfl (congrArg (sq cCf) bl) ?_
  refine zc rfl func269 (Kx w.l (by omega) (by omega) _) ?_
  refine Wa 50 rfl ((show _=PV.arw 1 0 w.l.length from rfl)) ?_
  refine zs3 ?_
  refine au4 ?_
  refine am [0,0,0,4,0,0,0,0,4,0,0,0,6,0,0,0,0,0,0,3] [0,1,2,3,4,5,6,7,8,9,10,11,12,13,14,15,16,17,18,19] mG rfl (by kernel_rfl) ?_
  iterate 3 refine z3 ?_
  refine zU 0 ?_
  iterate 4 refine z3 ?_
  refine zU 0 ?_
  refine z3 ?_
  refine z4 ?_ (q:=(by omega))
  refine z3 ?_
  refine PZ 1 rfl rfl rfl rfl rfl (fun H2 h2=>co (lO tG rfl) rfl rfl h2 (BV hjl rfl)) ?_
  refine Xc rfl rfl rfl rfl (fun _=>dC rfl func154 rfl rfl ((wa (w.l.getD j zCf).leaves (by omega)) _)) ?_
  iterate 2 refine z3 ?_
  refine Xa 68 rfl ((show _=PV.seq (List.length [at_]) (List.flatMap au [at_]) .clip from rfl)) ?_
  refine fN rfl rfl rfl rfl (fun _=>cg (lO tG rfl) rfl (lO tG rfl) (lO tG rfl) rfl rfl (by exact⟨_,rfl⟩) (by exact⟨rfl,rfl,al _ 1 (fun _=>rfl) _,bi _ (fun _=>rfl) _⟩) (by exact al _ 1 (fun _=>rfl) _) (by((simp_all;omega))) (by((simp_all;omega))) (by exact fp (bo (fun x=>by simp) _) (bo (fun x=>by simp) _))) ?_
  refine Xa 69 rfl (bT au) ?_
  refine z4 ?_ (q:=(by omega))
  refine z3 ?_
  refine kM rfl rfl rfl rfl (bH (lO tG rfl) rfl rfl rfl rfl rfl rfl (by rw[Nat.ble_eq,al cCf 3 (fun _=>rfl)];dsimp only;rw[Int.toNat_natCast];simp;omega)) ?_
  refine L6 (H':=[.cells (cVm z.v++[.arw 1 0 w.l.length,i64 z.bad]) 175,.cells ((w.l.set j {w.l.getD j zCf with leaves:=(w.l.getD j zCf).leaves++[at_]}).flatMap cCf) 115]) (by rw[<-tD hjl];dsimp only;rw[Int.toNat_natCast,Nat.zero_add];rfl) ?_
  refine ap ?_
  have hL:(w.l.set j {w.l.getD j zCf with leaves:=(w.l.getD j zCf).leaves++[at_]}).length=w.l.length:=List.length_set
  refine⟨1,0,23,w.l.length,w.l.length*3,_,_,_,_,by decide,rfl,rfl,rfl,(by rw[al cCf 3 (fun _=>rfl),hL];exact Nat.le_refl _),?_⟩
  refine aS rfl rfl rfl ?_
  rw[if_neg q,List.take_of_length_le (by rw[al cCf 3 (fun _=>rfl),hL];exact Nat.le_refl _),Int.toNat_natCast]
  unfold cCw sq
  dsimp only
  rw[hL];rfl
 have h1:k=0:=by have:=oF hg1;omega
 subst h1
 have hN:n = -1:=hk.2.symm
 refine Wa 2 rfl (show i64 (((0:Nat):Int)-1)=i64 n by rw[hN];rfl) ?_
 iterate 9 refine z6 ?_
 refine zs1 ?_
 refine Wf rfl rfl ?_
 refine aU ?_
 refine Ws<|zp3 ?_
 refine Wb 27 rfl (fun hg2=>?_) (fun hg2=>?_)
 ·have q:n<0\/32<=(w.l.getD n.toNat zCf).leaves.length:=.inl (oT hg2)
  iterate 10 refine z6 ?_
  refine zs1 ?_
  refine Wt rfl rfl ?_
  refine zp1 ?_
  refine zc rfl func153 ((lE w (-22)) _ _ rfl) ?_
  refine Wn<|Wq<|aP rfl rfl ?_ ?_
  ·rfl
  rw[if_pos q];rfl
 have hn0:0<=n:=by have:=oF hg2;omega
 obtain⟨j,hj⟩:∃j:Nat,n=(j:Int):=⟨n.toNat,by omega⟩
 subst hj
 have hjl:j<w.l.length:=by omega
 have cj:=h.cf (w.l.getD j zCf) (by rw[List.getD_eq_getElem?_getD,List.getElem?_eq_getElem hjl];exact List.getElem_mem hjl)
 refine zy5 ?_
 refine Wv tG rfl rfl rfl (by omega) (iN cCf 3 (fun _=>rfl) zCf (by omega)) ?_
 refine zs5 ?_
 refine Wi rfl (fun hi2=>?_) (fun hi2=>?_)
 ·have q:(j:Int)<0\/32<=(w.l.getD (j:Int).toNat zCf).leaves.length:=.inr (by have:=oT hi2;rw[Int.toNat_natCast];omega)
  refine zp1 ?_
  refine zc rfl func153 ((lE w (-22)) _ _ rfl) ?_
  refine Wn<|Wq<|aP rfl rfl ?_ ?_
  ·rfl
  rw[if_pos q];rfl
 have q:¬((j:Int)<0\/32<=(w.l.getD (j:Int).toNat zCf).leaves.length):=by
  have:=oF hi2
  rintro(h|h)
  ·omega
  rw[Int.toNat_natCast]at h;omega
 have hl32:(w.l.getD j zCf).leaves.length<32:=by have:=oF hi2;omega
 refine Wj<|zp1 ?_
 refine zc rfl func104 ((mO w [85,78,76,79,79,80] h.mem h.here) _ _ rfl) ?_
 refine Wn<|zp1 ?_
 refine zc rfl func263 ((p2) _ _ rfl) ?_
 refine zs1 ?_
 refine zp5 ?_
 refine Wa 49 rfl (congrArg (sq cCf) bl) ?_
 refine zc rfl func269 (Kx w.l (by omega) (by omega) _) ?_
 refine Wa 50 rfl ((show _=PV.arw 1 0 w.l.length from rfl)) ?_
 refine zs3 ?_
 refine au4 ?_
 refine am [0,0,0,4,0,0,0,0,4,0,0,0,6,0,0,0,0,0,0,3] [0,1,2,3,4,5,6,7,8,9,10,11,12,13,14,15,16,17,18,19] mG rfl (by kernel_rfl) ?_
 iterate 3 refine z3 ?_
 refine zU 0 ?_
 iterate 4 refine z3 ?_
 refine zU 0 ?_
 refine z3 ?_
 refine z4 ?_ (q:=(by omega))
 refine z3 ?_
 refine PZ 1 rfl rfl rfl rfl rfl (fun H2 h2=>co (lO tG rfl) rfl rfl h2 (BV hjl rfl)) ?_
 refine Xc rfl rfl rfl rfl (fun _=>dC rfl func154 rfl rfl ((wa (w.l.getD j zCf).leaves (by omega)) _)) ?_
 iterate 2 refine z3 ?_
 refine Xa 68 rfl ((show _=PV.seq (List.length [at_]) (List.flatMap au [at_]) .clip from rfl)) ?_
 refine fN rfl rfl rfl rfl (fun _=>cg (lO tG rfl) rfl (lO tG rfl) (lO tG rfl) rfl rfl (by exact⟨_,rfl⟩) (by exact⟨rfl,rfl,al _ 1 (fun _=>rfl) _,bi _ (fun _=>rfl) _⟩) (by exact al _ 1 (fun _=>rfl) _) (by(dsimp only;omega)) (by(omega)) (by exact fp (bo (fun x=>by simp) _) (bo (fun x=>by simp) _))) ?_
 refine Xa 69 rfl (bT au) ?_
 refine z4 ?_ (q:=(by omega))
 refine z3 ?_
 refine kM rfl rfl rfl rfl (bH (lO tG rfl) rfl rfl rfl rfl rfl rfl (by rw[Nat.ble_eq,al cCf 3 (fun _=>rfl)];dsimp only;rw[Int.toNat_natCast];simp;omega)) ?_
 refine L6 (H':=[.cells (cVm z.v++[.arw 1 0 w.l.length,i64 z.bad]) 175,.cells ((w.l.set j {w.l.getD j zCf with leaves:=(w.l.getD j zCf).leaves++[at_]}).flatMap cCf) 115]) (by rw[<-tD hjl];dsimp only;rw[Int.toNat_natCast,Nat.zero_add];rfl) ?_
 refine ap ?_
 have hL:(w.l.set j {w.l.getD j zCf with leaves:=(w.l.getD j zCf).leaves++[at_]}).length=w.l.length:=List.length_set
 refine⟨1,0,23,w.l.length,w.l.length*3,_,_,_,_,by decide,rfl,rfl,rfl,(by rw[al cCf 3 (fun _=>rfl),hL];exact Nat.le_refl _),?_⟩
 refine aS rfl rfl rfl ?_
 rw[if_neg q,List.take_of_length_le (by rw[al cCf 3 (fun _=>rfl),hL];exact Nat.le_refl _),Int.toNat_natCast]
 unfold cCw sq
 dsimp only
 rw[hL];rfl
def brK:List fv:=[.s [73,70],.s [69,76,83,69],.s [84,72,69,78],.s [66,69,71,73,78],.s [87,72,73,76,69],.s [82,69,80,69,65,84],.s [85,78,84,73,76],.s [65,71,65,73,78],.s [68,79],.s [63,68,79],.s [76,79,79,80],.s [43,76,79,79,80],.s [76,69,65,86,69]]
def brV:List PV:=[.fn (.func 222) [] [],.fn (.func 223) [] [],.fn (.func 224) [] [],.fn (.func 225) [] [],.fn (.func 226) [] [],.fn (.func 227) [] [],.fn (.func 228) [] [],.fn (.func 229) [] [],.fn (.func 230) [] [],.fn (.func 231) [] [],.fn (.func 232) [] [],.fn (.func 233) [] [],.fn (.func 234) [] []]
def W2:aQ (.smap brK brV):=by
 unfold aQ brV
 simp[aG,aQ]
def QQ:af prog 192 [] (.smap brK brV):=by
 refine bv tG (rs:=[.tmp 0]) func192 rfl rfl rfl (by(simp[aG,aQ];done)) (by exact W2) (fun B=>?_)
 refine zu1 ?_
 refine z8 ?_
 refine Wd rfl rfl (dc rfl) ?_
 refine zD 256 (.s [73,70]) ?_
 refine zD 256 (.s [69,76,83,69]) ?_
 refine zD 256 (.s [84,72,69,78]) ?_
 refine zD 256 (.s [66,69,71,73,78]) ?_
 refine zD 256 (.s [87,72,73,76,69]) ?_
 refine zD 256 (.s [82,69,80,69,65,84]) ?_
 refine zD 256 (.s [85,78,84,73,76]) ?_
 refine zD 256 (.s [65,71,65,73,78]) ?_
 refine zD 256 (.s [68,79]) ?_
 refine zD 256 (.s [63,68,79]) ?_
 refine zD 256 (.s [76,79,79,80]) ?_
 refine zD 256 (.s [43,76,79,79,80]) ?_
 refine zD 256 (.s [76,69,65,86,69]) ?_
 refine z1 ?_
 refine dZ 2 _ rfl rfl rfl ?_
 refine zs1 ?_
 refine zR ?_
 rfl
def jK(l:List VCf)(name:Str):Bool:=if name=[73,70]\/name=[66,69,71,73,78]\/name=[87,72,73,76,69]\/name=[68,79]\/name=[63,68,79]then decide ((l.length:Int)≥32)else false
def Jt(l:List VCf)(name:Str)(hl:l.length<=1000):af prog 193 [sq cCf l,str name] (boo (jK l name)):=by
 refine zY func193 fun B=>?_
 refine zu1 ?_
 refine Ws<|zu1 ?_
 refine Wl<|Ws<|zp1 ?_
 refine zq 7 ?_
 refine zs1 ?_
 refine Wi rfl (fun hi1=>?_) (fun hi1=>?_)
 ·have q:name=[73,70]\/name=[66,69,71,73,78]\/name=[87,72,73,76,69]\/name=[68,79]\/name=[63,68,79]:=.inl (oT hi1)
  refine Wj<|Wt rfl hi1 ?_
  refine zu4 ?_
  refine zR ?_
  (rw[jK,if_pos q];rfl)
 have n1:=oF hi1
 refine zp1 ?_
 refine zq 8 ?_
 refine zs1 ?_
 refine Wi rfl (fun hi2=>?_) (fun hi2=>?_)
 ·have q:name=[73,70]\/name=[66,69,71,73,78]\/name=[87,72,73,76,69]\/name=[68,79]\/name=[63,68,79]:=.inr (.inl (oT hi2))
  refine Wj<|Wt rfl hi2 ?_
  refine zu4 ?_
  refine zR ?_
  (rw[jK,if_pos q];rfl)
 have n2:=oF hi2
 refine zp1 ?_
 refine zq 9 ?_
 refine zs1 ?_
 refine Wi rfl (fun hi3=>?_) (fun hi3=>?_)
 ·have q:name=[73,70]\/name=[66,69,71,73,78]\/name=[87,72,73,76,69]\/name=[68,79]\/name=[63,68,79]:=.inr (.inr (.inl (oT hi3)))
  refine Wj<|Wt rfl hi3 ?_
  refine zu4 ?_
  refine zR ?_
  (rw[jK,if_pos q];rfl)
 have n3:=oF hi3
 refine zp1 ?_
 refine zq 10 ?_
 refine zs1 ?_
 refine Wi rfl (fun hi4=>?_) (fun hi4=>?_)
 ·have q:name=[73,70]\/name=[66,69,71,73,78]\/name=[87,72,73,76,69]\/name=[68,79]\/name=[63,68,79]:=.inr (.inr (.inr (.inl (oT hi4))))
  refine Wj<|Wt rfl hi4 ?_
  refine zu4 ?_
  refine zR ?_
  (rw[jK,if_pos q];rfl)
 have n4:=oF hi4
 refine aa rfl ?_
 refine z1 ?_
 refine zq 11 ?_
 refine zs1 ?_
 refine Wi rfl (fun hi5=>?_) (fun hi5=>?_)
 ·have q:name=[73,70]\/name=[66,69,71,73,78]\/name=[87,72,73,76,69]\/name=[68,79]\/name=[63,68,79]:=.inr (.inr (.inr (.inr (oT hi5))))
  refine zu4 ?_
  refine zR ?_
  (rw[jK,if_pos q];rfl)
 have n5:=oF hi5
 have q:¬(name=[73,70]\/name=[66,69,71,73,78]\/name=[87,72,73,76,69]\/name=[68,79]\/name=[63,68,79]):=by rintro(h|h|h|h|h);exact n1 h;exact n2 h;exact n3 h;exact n4 h;exact n5 h
 refine Wj<|zu1 ?_
 refine zR ?_
 (rw[jK,if_neg q];rfl)
def brF(name:Str):Option (CW->CW) :=
 if name=[73,70]then some ifC else if name=[69,76,83,69]then some yX else if name=[84,72,69,78]then some Ak else if name=[66,69,71,73,78]then some ud else if name=[87,72,73,76,69]then some tI
 else if name=[82,69,80,69,65,84]then some qf else if name=[85,78,84,73,76]then some (uO [40,48,98,114,97,110,99,104,41])else if name=[65,71,65,73,78]then some (uO [40,98,114,97,110,99,104,41])else if name=[68,79]then some doC
 else if name=[63,68,79]then some TL else if name=[76,79,79,80]then some (vP [40,108,111,111,112,41])else if name=[43,76,79,79,80]then some (vP [40,43,108,111,111,112,41])else if name=[76,69,65,86,69]then some qd else none
def aA9(f:FuncId)(g:CW->CW):Prop:=∀w:CW,CK 40 w->∀(H:List Ob) (i:Nat),H[i]?=some (.cells (cCw w) 175)->nD prog f [.ptr i 0] H (.tup []) (H.set i (.cells (cCw (g w)) 175))
def Qb(name:Str):(∃f g,gJ brK brV (.s name) (.val .nilFunc)=(.fn (.func f) [] [],true)/\brF name=some g/\aA9 f g)\/(gJ brK brV (.s name) (.val .nilFunc)=(.val .nilFunc,false)/\brF name=none):=by
 have no:∀{α:Type} {a b:α},(if False then a else b)=b:=fun {α a b}=>if_neg id
 by_cases c0:name=[73,70]
 ·subst c0;exact .inl ⟨222,_,rfl,rfl,fun w h H i hi=>⟨⟨_,func222,rfl,rfl⟩,ay8 w (h.down (by omega)) H i hi⟩⟩
 by_cases c1:name=[69,76,83,69]
 ·subst c1;exact .inl ⟨223,_,rfl,rfl,fun w h H i hi=>⟨⟨_,func223,rfl,rfl⟩,WG w (h.down (by omega)) H i hi⟩⟩
 by_cases c2:name=[84,72,69,78]
 ·subst c2;exact .inl ⟨224,_,rfl,rfl,fun w h H i hi=>⟨⟨_,func224,rfl,rfl⟩,XO w (h.down (by omega)) H i hi⟩⟩
 by_cases c3:name=[66,69,71,73,78]
 ·subst c3;exact .inl ⟨225,_,rfl,rfl,fun w h H i hi=>⟨⟨_,func225,rfl,rfl⟩,Rw w (h.down (by omega)) H i hi⟩⟩
 by_cases c4:name=[87,72,73,76,69]
 ·subst c4;exact .inl ⟨226,_,rfl,rfl,fun w h H i hi=>⟨⟨_,func226,rfl,rfl⟩,RF w (h.down (by omega)) H i hi⟩⟩
 by_cases c5:name=[82,69,80,69,65,84]
 ·subst c5;exact .inl ⟨227,_,rfl,rfl,fun w h H i hi=>⟨⟨_,func227,rfl,rfl⟩,Nj w (h.down (by omega)) H i hi⟩⟩
 by_cases c6:name=[85,78,84,73,76]
 ·subst c6;exact .inl ⟨228,_,rfl,rfl,fun w h H i hi=>⟨⟨_,func228,rfl,rfl⟩,Pp w (h.down (by omega)) H i hi⟩⟩
 by_cases c7:name=[65,71,65,73,78]
 ·subst c7;exact .inl ⟨229,_,rfl,rfl,fun w h H i hi=>⟨⟨_,func229,rfl,rfl⟩,PJ w (h.down (by omega)) H i hi⟩⟩
 by_cases c8:name=[68,79]
 ·subst c8;exact .inl ⟨230,_,rfl,rfl,fun w h H i hi=>⟨⟨_,func230,rfl,rfl⟩,am3 w (h.down (by omega)) H i hi⟩⟩
 by_cases c9:name=[63,68,79]
 ·subst c9;exact .inl ⟨231,_,rfl,rfl,fun w h H i hi=>⟨⟨_,func231,rfl,rfl⟩,Zr w (h.down (by omega)) H i hi⟩⟩
 by_cases c10:name=[76,79,79,80]
 ·subst c10;exact .inl ⟨232,_,rfl,rfl,fun w h H i hi=>⟨⟨_,func232,rfl,rfl⟩,Uo w h H i hi⟩⟩
 by_cases c11:name=[43,76,79,79,80]
 ·subst c11;exact .inl ⟨233,_,rfl,rfl,fun w h H i hi=>⟨⟨_,func233,rfl,rfl⟩,Vg w h H i hi⟩⟩
 by_cases c12:name=[76,69,65,86,69]
 ·subst c12;exact .inl ⟨234,_,rfl,rfl,fun w h H i hi=>⟨⟨_,func234,rfl,rfl⟩,Rh w (h.down (by omega)) H i hi⟩⟩
 refine .inr ⟨?_,?_⟩
 ·unfold brK brV
  rw[iG,if_neg c0,iG,if_neg c1,iG,if_neg c2,iG,if_neg c3,iG,if_neg c4,iG,if_neg c5,iG,if_neg c6,iG,if_neg c7,iG,if_neg c8,iG,if_neg c9,iG,if_neg c10,iG,if_neg c11,iG,if_neg c12,SR]
 unfold brF
 rw[if_neg c0,if_neg c1,if_neg c2,if_neg c3,if_neg c4,if_neg c5,if_neg c6,if_neg c7,if_neg c8,if_neg c9,if_neg c10,if_neg c11,if_neg c12]
def bh(v:VVm)(l:List VCf)(name:Str):VVm×List VCf×Int :=
 match brF name with
 | none=>(v,l,-22)
 | some g=>if jK l name=true then(v,l,-22)else nS (g ⟨v,l,0⟩) v l
def az0{v:VVm}{l:List VCf}{name:Str}(h:brF name=none):bh v l name=(v,l,-22):=by unfold bh;rw[h]
def L7{v:VVm}{l:List VCf}{name:Str}{g:CW->CW}(h:brF name=some g)(q:jK l name=true):bh v l name=(v,l,-22):=by unfold bh;rw[h];dsimp only;rw[if_pos q]
def nr{v:VVm}{l:List VCf}{name:Str}{g:CW->CW}(h:brF name=some g)(q:¬jK l name=true):bh v l name=nS (g ⟨v,l,0⟩) v l:=by unfold bh;rw[h];dsimp only;rw[if_neg q]
def A8(v:VVm)(l:List VCf)(name:Str)(h:CK 40 ⟨v,l,0⟩):af prog 151 [eVm v,sq cCf l,str name] (.tup [eVm (bh v l name).1,sq cCf (bh v l name).2.1,i64 (bh v l name).2.2]):=by
 have hl:l.length<=32:=h.len
 have hT:=Qb name
 refine zY func151 fun B=>?_
 refine zu4 ?_
 refine z8 ?_
 refine zc rfl func192 ((QQ) _) ?_
 refine z1 ?_
 rcases hT with ⟨f,g,hlk,hon,hc⟩|⟨hlk,hno⟩
 ·refine Wd rfl rfl (ba (b:=true) (e:=256) (key:=.s name) (by kernel_rfl) (lO tG rfl) (by kernel_rfl) rfl rfl rfl rfl (by kernel_rfl) (hlk)) ?_
  refine zs5 ?_
  refine Ws<|zp3 ?_
  refine nB 20 rfl (by rfl) ?_
  refine zy2 ?_
  refine zc rfl func193 ((Jt l name (by omega)) _) ?_
  refine zs1 ?_
  refine Wi rfl (fun hi1=>?_) (fun hi1=>?_)
  ·have q:jK l name=true:=by simpa using hi1
   refine zu5 ?_
   refine zR ?_
   (rw[L7 hon q];rfl)
  have q:¬jK l name=true:=by simpa using hi1
  refine Wj<|zu5 ?_
  refine zp1 ?_
  refine Wc rfl rfl (eQ rfl rfl (hc ⟨v,l,0⟩ h _ 2 rfl)) ?_
  refine Wn<|zp2 ?_
  refine zc rfl func106 ((vE (g ⟨v,l,0⟩) v l) _ _ rfl) ?_
  refine zy5 ?_
  refine zs1 ?_
  refine zR ?_
  (rw[nr hon q];rfl)
 refine Wd rfl rfl (ba (b:=true) (e:=256) (key:=.s name) (by kernel_rfl) (lO tG rfl) (by kernel_rfl) rfl rfl rfl rfl (by kernel_rfl) (hlk)) ?_
 refine zs5 ?_
 refine Ws<|zp3 ?_
 refine dF 20 rfl (by rfl) ?_
 iterate 3 refine z6 ?_
 refine zs1 ?_
 refine Wt rfl rfl ?_
 refine zu5 ?_
 refine zR ?_
 (rw[az0 hno];rfl)
end Go.Proofs.YtjcminooghmpeaaGreatDoor
