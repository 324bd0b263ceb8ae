import Derived.LaidEql
import Derived.RowKitTokens
import Derived.Stop.Asserts
import Derived.Test.YtjcminooghmpeaaGreatDoorPk7
set_option linter.all false
set_option maxRecDepth 100000
set_option maxHeartbeats 40000000
open Go.Proofs.Tryz
namespace Go.Proofs.YtjcminooghmpeaaGreatDoor
open Go.RowKit
structure wW (c:VCf):Prop where
 fit:ae c.at_
 len:c.leaves.length<=32
 each:∀x∈c.leaves,ae x
theorem Q9:wW zCf:=⟨jA,Nat.zero_le _,fun x hx=>by cases hx⟩
structure CK (k:Nat) (w:CW):Prop where
 b:w.v.mem.b.length<=1000000
 old:w.v.mem.old.length+k<=1000000
 h0:1368<=w.v.here
 h1:w.v.here<=w.v.mem.b.length
 len:w.l.length<=32
 cf:∀c∈w.l,wW c
theorem CK.mem{k:Nat}{w:CW}(h:CK k w):cZ w.v.mem:=⟨h.b,by have:=h.old;omega⟩
theorem CK.here{k:Nat}{w:CW}(h:CK k w):ia w.v.mem w.v.here:=⟨by have:=h.h0;omega,h.h1⟩
theorem CK.fit{k:Nat}{w:CW}(h:CK k w):ae w.v.here:=h.here.fit h.mem
theorem CK.down{k j:Nat}{w:CW}(h:CK k w)(hj:j<=k):CK j w:=⟨h.b,by have:=h.old;omega,h.h0,h.h1,h.len,h.cf⟩
theorem K9{k:Nat}{w:CW}(h:CK k w)(e:Int):CK k (w.fail e):=by
 unfold CW.fail;split
 ·exact⟨h.b,h.old,h.h0,h.h1,h.len,h.cf⟩
 exact h
theorem sI(m:bj)(here n:Int):dH m (cv m here n).1 1:=by
 unfold cv;split
 ·exact gS _
 exact .refl _ _
theorem uF{m:bj}{here:Int}(n:Int)(h0:1368<=here)(h1:here<=m.b.length):1368<=(cv m here n).2.1/\(cv m here n).2.1<=m.b.length:=by
 unfold cv;split
 ·exact iu _ h0 h1
 exact⟨h0,h1⟩
theorem qE{k:Nat}{w:CW}(h:CK (k+1) w)(n:Int):CK k (iq w n):=by
 unfold iq;split
 ·have q:=sI w.v.mem w.v.here n
  have p:=uF n h.h0 h.h1
  exact⟨by show(cv w.v.mem w.v.here n).1.b.length<=_;rw[q.len];exact h.b,by show(cv w.v.mem w.v.here n).1.old.length+k<=_;have:=q.old;have:=h.old;omega,p.1,by show(cv w.v.mem w.v.here n).2.1<=((cv w.v.mem w.v.here n).1.b.length:Int);rw[q.len];exact p.2,h.len,h.cf⟩
 exact h.down (by omega)
theorem jn{k:Nat}{w:CW}(h:CK (k+1) w)(name:Str):CK k (cJ w name):=qE h _
theorem K1{k:Nat}{w:CW}(h:CK (k+1) w)(a:Int):CK k (jz w a):=by
 unfold jz;split
 ·have q:=cM w.v.mem a w.v.here
  exact⟨by show(aF w.v.mem a w.v.here).1.b.length<=_;rw[q.len];exact h.b,by show(aF w.v.mem a w.v.here).1.old.length+k<=_;have:=q.old;have:=h.old;omega,h.h0,by show w.v.here<=((aF w.v.mem a w.v.here).1.b.length:Int);rw[q.len];exact h.h1,h.len,h.cf⟩
 exact h.down (by omega)
theorem Vm{k:Nat}{w:CW}(h:CK k w){c:VCf}(hc:wW c):CK k (mN w c):=by
 unfold mN;split
 ·exact K9 h _
 rename_i q
 exact⟨h.b,h.old,h.h0,h.h1,by show(w.l++[c]).length<=32;simp;omega,fun x hx=>by rcases List.mem_append.1 hx with hx|hx;exact h.cf x hx;rw[List.mem_singleton.1 hx];exact hc⟩
theorem nQ{k:Nat}{w:CW}(h:CK k w)(kind:Int):CK k (bh w kind).1/\wW (bh w kind).2:=by
 unfold bh;split
 ·exact⟨K9 h _,Q9⟩
 rename_i q
 refine⟨⟨h.b,h.old,h.h0,h.h1,by show(w.l.take (w.l.length-1)).length<=32;have:=h.len;simp;omega,fun x hx=>h.cf x (List.mem_of_mem_take hx)⟩,?_⟩
 have hl:w.l.length-1<w.l.length:=by have:¬w.l.length=0:=fun z=>q (.inl z);omega
 exact h.cf _ (by rw[List.getD_eq_getElem?_getD,List.getElem?_eq_getElem hl];exact List.getElem_mem hl)
def gn(w:CW)(name:Str):CW:=iq (cJ w name) 0
theorem po{k:Nat}{w:CW}(h:CK (k+2) w)(name:Str):CK k (gn w name):=qE (jn h name) 0
theorem qe(w:CW)(name:Str)(h:CK 2 w):∀(H:List Ob) (i:Nat),H[i]?=some (.cells (cCw w) 175)->HC prog 263 (.ptr i 0::[str name]) H (i64 (cJ w name).v.here) (H.set i (.cells (cCw (gn w name)) 175)):=by
 refine zM func263 fun B=>?_
 refine zu1 ?_
 refine zp2 ?_
 refine zc rfl func104 ((m7 w name h.mem h.here) _ _ rfl) ?_
 refine Wn<|zp1 ?_
 refine zc rfl func105 ((rz (cJ w name) 0 (jn h name).mem (jn h name).here) _ _ rfl) ?_
 refine zs1 ?_
 refine Wq<|aN rfl rfl ?_ ?_
 ·rfl
 rfl
def ifC(w:CW):CW:=mN (gn w [40,48,98,114,97,110,99,104,41]) ⟨1,(cJ w [40,48,98,114,97,110,99,104,41]).v.here,[]⟩
def KM(w:CW):CW:=mN (jz (gn (bh w 1).1 [40,98,114,97,110,99,104,41]) (bh w 1).2.at_) ⟨1,(cJ (bh w 1).1 [40,98,114,97,110,99,104,41]).v.here,[]⟩
def LC(w:CW):CW:=jz (bh w 1).1 (bh w 1).2.at_
def EO(w:CW):CW:=mN w ⟨2,w.v.here,[]⟩
def Dm(w:CW):CW:=mN (mN (gn (bh w 2).1 [40,48,98,114,97,110,99,104,41]) ⟨1,(cJ (bh w 2).1 [40,48,98,114,97,110,99,104,41]).v.here,[]⟩) (bh w 2).2
def yA(w:CW):CW:=jz (iq (cJ (bh (bh w 2).1 1).1 [40,98,114,97,110,99,104,41]) (bh w 2).2.at_) (bh (bh w 2).1 1).2.at_
def B9(name:Str)(w:CW):CW:=iq (cJ (bh w 2).1 name) (bh w 2).2.at_
def doC(w:CW):CW:=mN (cJ w [40,100,111,41]) ⟨3,(cJ w [40,100,111,41]).v.here,[]⟩
def TF(w:CW):CW:=mN (gn w [40,63,100,111,41]) ⟨3,(gn w [40,63,100,111,41]).v.here,[(cJ w [40,63,100,111,41]).v.here]⟩
def Bf(name:Str)(w:CW):CW:=(bh w 3).2.leaves.foldl jz (iq (cJ (bh w 3).1 name) (bh w 3).2.at_)
theorem ad1{k:Nat}{w:CW}(h:CK k w)(kind:Int):wW ⟨kind,w.v.here,[]⟩:=⟨h.fit,Nat.zero_le _,fun x hx=>by cases hx⟩
theorem aw9(w:CW)(h:CK 2 w):∀(H:List Ob) (i:Nat),H[i]?=some (.cells (cCw w) 175)->HC prog 222 (.ptr i 0::[]) H (.tup []) (H.set i (.cells (cCw (ifC w)) 175)):=by
 have b:=po h [40,48,98,114,97,110,99,104,41]
 refine zM func222 fun B=>?_
 refine zp1 ?_
 refine zc rfl func263 ((qe w [40,48,98,114,97,110,99,104,41] h) _ _ rfl) ?_
 refine zs1 ?_
 refine aa rfl ?_
 refine zy3 ?_
 refine zc rfl func264 ((qV (gn w [40,48,98,114,97,110,99,104,41]) ⟨1,(cJ w [40,48,98,114,97,110,99,104,41]).v.here,[]⟩ (by have:=b.len;omega)) _ _ rfl) ?_
 refine Wn<|aU rfl rfl ?_ ?_
 ·rfl
 rfl
theorem Wp(w:CW)(h:CK 3 w):∀(H:List Ob) (i:Nat),H[i]?=some (.cells (cCw w) 175)->HC prog 223 (.ptr i 0::[]) H (.tup []) (H.set i (.cells (cCw (KM w)) 175)):=by
 have c:=nQ h 1
 have b:=po c.1 [40,98,114,97,110,99,104,41]
 have d:=K1 b (bh w 1).2.at_
 refine zM func223 fun B=>?_
 refine zp1 ?_
 refine zc rfl func265 ((nW w 1 (by have:=h.len;omega)) _ _ rfl) ?_
 refine zs2 ?_
 refine zp1 ?_
 refine zc rfl func263 ((qe (bh w 1).1 [40,98,114,97,110,99,104,41] (c.1.down (by omega))) _ _ rfl) ?_
 refine zs1 ?_
 refine zp3 ?_
 refine zc rfl func266 ((yI (gn (bh w 1).1 [40,98,114,97,110,99,104,41]) (bh w 1).2.at_ b.mem c.2.fit) _ _ rfl) ?_
 refine Wn<|aa rfl ?_
 refine zy3 ?_
 refine zc rfl func264 ((qV _ ⟨1,(cJ (bh w 1).1 [40,98,114,97,110,99,104,41]).v.here,[]⟩ (by have:=d.len;omega)) _ _ rfl) ?_
 refine Wn<|aU rfl rfl ?_ ?_
 ·rfl
 rfl
theorem XB(w:CW)(h:CK 1 w):∀(H:List Ob) (i:Nat),H[i]?=some (.cells (cCw w) 175)->HC prog 224 (.ptr i 0::[]) H (.tup []) (H.set i (.cells (cCw (LC w)) 175)):=by
 have c:=nQ h 1
 refine zM func224 fun B=>?_
 refine aa rfl ?_
 refine zy2 ?_
 refine zc rfl func265 ((nW w 1 (by have:=h.len;omega)) _ _ rfl) ?_
 refine z1 ?_
 refine zc rfl func266 ((yI (bh w 1).1 (bh w 1).2.at_ c.1.mem c.2.fit) _ _ rfl) ?_
 refine Wn<|aU rfl rfl ?_ ?_
 ·rfl
 rfl
theorem Rp(w:CW)(h:CK 0 w):∀(H:List Ob) (i:Nat),H[i]?=some (.cells (cCw w) 175)->HC prog 225 (.ptr i 0::[]) H (.tup []) (H.set i (.cells (cCw (EO w)) 175)):=by
 refine zM func225 fun B=>?_
 refine aa rfl ?_
 refine zy5 ?_
 refine zy2 ?_
 refine zc rfl func264 ((qV w ⟨2,w.v.here,[]⟩ (by have:=h.len;omega)) _ _ rfl) ?_
 refine Wn<|aU rfl rfl ?_ ?_
 ·rfl
 rfl
theorem Ry(w:CW)(h:CK 2 w):∀(H:List Ob) (i:Nat),H[i]?=some (.cells (cCw w) 175)->HC prog 226 (.ptr i 0::[]) H (.tup []) (H.set i (.cells (cCw (Dm w)) 175)):=by
 have c:=nQ h 2
 have b:=po c.1 [40,48,98,114,97,110,99,104,41]
 have d:=Vm b (ad1 (jn c.1 [40,48,98,114,97,110,99,104,41]) 1)
 refine zM func226 fun B=>?_
 refine zp1 ?_
 refine zc rfl func265 ((nW w 2 (by have:=h.len;omega)) _ _ rfl) ?_
 refine zs2 ?_
 refine zp1 ?_
 refine zc rfl func263 ((qe (bh w 2).1 [40,48,98,114,97,110,99,104,41] c.1) _ _ rfl) ?_
 refine zs1 ?_
 refine zp3 ?_
 refine zc rfl func264 ((qV _ ⟨1,(cJ (bh w 2).1 [40,48,98,114,97,110,99,104,41]).v.here,[]⟩ (by have:=b.len;omega)) _ _ rfl) ?_
 refine Wn<|aa rfl ?_
 refine zy2 ?_
 refine zc rfl func264 ((qV _ (bh w 2).2 (by have:=d.len;omega)) _ _ rfl) ?_
 refine Wn<|aU rfl rfl ?_ ?_
 ·rfl
 rfl
theorem Ns(w:CW)(h:CK 3 w):∀(H:List Ob) (i:Nat),H[i]?=some (.cells (cCw w) 175)->HC prog 227 (.ptr i 0::[]) H (.tup []) (H.set i (.cells (cCw (yA w)) 175)):=by
 have c:=nQ h 2
 have o:=nQ c.1 1
 have a:=jn o.1 [40,98,114,97,110,99,104,41]
 have b:=qE a (bh w 2).2.at_
 refine zM func227 fun B=>?_
 refine zp1 ?_
 refine zc rfl func265 ((nW w 2 (by have:=h.len;omega)) _ _ rfl) ?_
 refine zs2 ?_
 refine zp1 ?_
 refine zc rfl func265 ((nW (bh w 2).1 1 (by have:=c.1.len;omega)) _ _ rfl) ?_
 refine zs2 ?_
 refine zp1 ?_
 refine zc rfl func104 ((m7 _ [40,98,114,97,110,99,104,41] o.1.mem o.1.here) _ _ rfl) ?_
 refine Wn<|zp3 ?_
 refine zc rfl func105 ((rz _ (bh w 2).2.at_ a.mem a.here) _ _ rfl) ?_
 refine Wn<|aa rfl ?_
 refine zy3 ?_
 refine zc rfl func266 ((yI _ (bh (bh w 2).1 1).2.at_ b.mem o.2.fit) _ _ rfl) ?_
 refine Wn<|aU rfl rfl ?_ ?_
 ·rfl
 rfl
theorem Ly(name:Str)(w:CW)(h:CK 2 w):∀(H:List Ob) (i:Nat),H[i]?=some (.cells (cCw w) 175)->HC prog 267 (.ptr i 0::[str name]) H (.tup []) (H.set i (.cells (cCw (B9 name w)) 175)):=by
 have c:=nQ h 2
 have a:=jn c.1 name
 refine zM func267 fun B=>?_
 refine zp1 ?_
 refine zc rfl func265 ((nW w 2 (by have:=h.len;omega)) _ _ rfl) ?_
 refine zs2 ?_
 refine zp2 ?_
 refine zc rfl func104 ((m7 _ name c.1.mem c.1.here) _ _ rfl) ?_
 refine Wn<|aa rfl ?_
 refine zy3 ?_
 refine zc rfl func105 ((rz _ (bh w 2).2.at_ a.mem a.here) _ _ rfl) ?_
 refine Wn<|aU rfl rfl ?_ ?_
 ·rfl
 rfl
theorem Pq(w:CW)(h:CK 2 w):∀(H:List Ob) (i:Nat),H[i]?=some (.cells (cCw w) 175)->HC prog 228 (.ptr i 0::[]) H (.tup []) (H.set i (.cells (cCw (B9 [40,48,98,114,97,110,99,104,41] w)) 175)):=by
 refine zM func228 fun B=>?_
 refine aa rfl ?_
 refine z1 ?_
 refine zc rfl func267 ((Ly [40,48,98,114,97,110,99,104,41] w h) _ _ rfl) ?_
 refine Wn<|aU rfl rfl ?_ ?_
 ·rfl
 rfl
theorem PJ(w:CW)(h:CK 2 w):∀(H:List Ob) (i:Nat),H[i]?=some (.cells (cCw w) 175)->HC prog 229 (.ptr i 0::[]) H (.tup []) (H.set i (.cells (cCw (B9 [40,98,114,97,110,99,104,41] w)) 175)):=by
 refine zM func229 fun B=>?_
 refine aa rfl ?_
 refine z1 ?_
 refine zc rfl func267 ((Ly [40,98,114,97,110,99,104,41] w h) _ _ rfl) ?_
 refine Wn<|aU rfl rfl ?_ ?_
 ·rfl
 rfl
theorem ak6(w:CW)(h:CK 1 w):∀(H:List Ob) (i:Nat),H[i]?=some (.cells (cCw w) 175)->HC prog 230 (.ptr i 0::[]) H (.tup []) (H.set i (.cells (cCw (doC w)) 175)):=by
 have a:=jn h [40,100,111,41]
 refine zM func230 fun B=>?_
 refine zp1 ?_
 refine zc rfl func104 ((m7 w [40,100,111,41] h.mem h.here) _ _ rfl) ?_
 refine Wn<|aa rfl ?_
 refine zy5 ?_
 refine zy2 ?_
 refine zc rfl func264 ((qV _ ⟨3,(cJ w [40,100,111,41]).v.here,[]⟩ (by have:=a.len;omega)) _ _ rfl) ?_
 refine Wn<|aU rfl rfl ?_ ?_
 ·rfl
 rfl
theorem Y9(w:CW)(h:CK 2 w):∀(H:List Ob) (i:Nat),H[i]?=some (.cells (cCw w) 175)->HC prog 231 (.ptr i 0::[]) H (.tup []) (H.set i (.cells (cCw (TF w)) 175)):=by
 have b:=po h [40,63,100,111,41]
 refine zM func231 fun B=>?_
 refine zp1 ?_
 refine zc rfl func263 ((qe w [40,63,100,111,41] h) _ _ rfl) ?_
 refine zs1 ?_
 refine aa rfl ?_
 refine zy5 ?_
 refine zy3 ?_
 refine Wa 12 rfl ((show _=PV.seq (List.length [(cJ w [40,63,100,111,41]).v.here]) (List.flatMap ap [(cJ w [40,63,100,111,41]).v.here]) .clip from rfl)) ?_
 refine z1 ?_
 refine zc rfl func264 ((qV _ ⟨3,(gn w [40,63,100,111,41]).v.here,[(cJ w [40,63,100,111,41]).v.here]⟩ (by have:=b.len;omega)) _ _ rfl) ?_
 refine Wn<|aU rfl rfl ?_ ?_
 ·rfl
 rfl
theorem N9{l:List Int}{k:Nat}(hk:k<l.length)(w:CW):(l.take (k+1)).foldl jz w=jz ((l.take k).foldl jz w) (l.getD k 0):=by
 rw[jY l k 0 hk,List.foldl_append];rfl
theorem Lr:∀(l:List Int) (k:Nat) (w:CW),CK (k+l.length) w->CK k (l.foldl jz w)
 | [],_,_,h=>h
 | x::l,k,w,h=>Lr l k _ (K1 (by rw[List.length_cons]at h;exact h) x)
theorem RG(name:Str)(w:CW)(h:CK 40 w):∀(H:List Ob) (i:Nat),H[i]?=some (.cells (cCw w) 175)->HC prog 268 (.ptr i 0::[str name]) H (.tup []) (H.set i (.cells (cCw (Bf name w)) 175)):=by
 have c:=nQ h 3
 have a:=jn (k:=39) c.1 name
 have b:=qE (k:=38) a (bh w 3).2.at_
 obtain⟨w1,hw1⟩:∃w1,iq (cJ (bh w 3).1 name) (bh w 3).2.at_=w1:=⟨_,rfl⟩
 have hl:=c.2.len
 have hE:Bf name w=(bh w 3).2.leaves.foldl jz w1:=by unfold Bf;rw[hw1]
 rw[hE]
 rw[hw1]at b
 have p3:=rz _ (bh w 3).2.at_ a.mem a.here
 rw[hw1]at p3
 refine zM func268 fun B=>?_
 refine zp1 ?_
 refine zc rfl func265 ((nW w 3 (by have:=h.len;omega)) _ _ rfl) ?_
 refine zs2 ?_
 refine zp2 ?_
 refine zc rfl func104 ((m7 _ name c.1.mem c.1.here) _ _ rfl) ?_
 refine Wn<|zp3 ?_
 refine zc rfl func105 ((p3) _ _ rfl) ?_
 refine Wn<|zu4 ?_
 refine Wl ?_
 show W _ _ _ _ _ _ _
 refine fX (fun(k:Nat)=>[(0,.ptr 0 0),(17,sq ap (bh w 3).2.leaves),(18,i64 (bh w 3).2.leaves.length),(19,i64 k)]) (fun(k:Nat)=>[.cells (cCw (((bh w 3).2.leaves.take k).foldl jz w1)) 175,.dead]) (fun(k:Nat)=>[]) (fun(k:Nat)=>k<=(bh w 3).2.leaves.length) (fun(k:Nat)=>(bh w 3).2.leaves.length-k) (0) (by exact Nat.zero_le _) [] ?_ ?_
 ·exact fc
 intro k hk
 refine zu1 ?_
 refine Ws<|Wi rfl (fun hi1=>?_) (fun hi1=>?_)
 ·have hlt:k<(bh w 3).2.leaves.length:=by have:=oT hi1;omega
  have e:=N9 hlt w1
  have kk:CK 1 (((bh w 3).2.leaves.take k).foldl jz w1):=Lr _ _ _ (b.down (by simp;omega))
  refine Wj<|Ws<|Wl<|z8 ?_
  refine Wv tG rfl rfl rfl (by omega) (iN ap 1 (fun _=>rfl) 0 (by omega)) ?_
  refine zs2 ?_
  refine aa rfl ?_
  refine zy2 ?_
  refine zc rfl func266 ((yI _ ((bh w 3).2.leaves.getD k 0) kk.mem (c.2.each _ (by rw[List.getD_eq_getElem?_getD,List.getElem?_eq_getElem hlt];exact List.getElem_mem hlt))) _ _ rfl) ?_
  refine Wn<|aa rfl ?_
  refine zs2 ?_
  rw[<-e]
  exact⟨k+1,[],(by exact hlt),(by omega),fc⟩
 have hge:(bh w 3).2.leaves.length<=k:=by have:=oF hi1;omega
 refine bf ?_
 refine aU rfl rfl ?_ ?_
 ·rfl
 rw[List.take_of_length_le hge];rfl
theorem Uh(w:CW)(h:CK 40 w):∀(H:List Ob) (i:Nat),H[i]?=some (.cells (cCw w) 175)->HC prog 232 (.ptr i 0::[]) H (.tup []) (H.set i (.cells (cCw (Bf [40,108,111,111,112,41] w)) 175)):=by
 refine zM func232 fun B=>?_
 refine aa rfl ?_
 refine z1 ?_
 refine zc rfl func268 ((RG [40,108,111,111,112,41] w h) _ _ rfl) ?_
 refine Wn<|aU rfl rfl ?_ ?_
 ·rfl
 rfl
theorem U7(w:CW)(h:CK 40 w):∀(H:List Ob) (i:Nat),H[i]?=some (.cells (cCw w) 175)->HC prog 233 (.ptr i 0::[]) H (.tup []) (H.set i (.cells (cCw (Bf [40,43,108,111,111,112,41] w)) 175)):=by
 refine zM func233 fun B=>?_
 refine aa rfl ?_
 refine z1 ?_
 refine zc rfl func268 ((RG [40,43,108,111,111,112,41] w h) _ _ rfl) ?_
 refine Wn<|aU rfl rfl ?_ ?_
 ·rfl
 rfl
theorem Jt(w:CW)(n:Int):(iq w n).l=w.l:=by unfold iq;split<;>rfl
theorem PC(w:CW)(name:Str):(gn w name).l=w.l:=(Jt _ _).trans (Jt _ _)
theorem ab8(l:List VCf)(h0:0<l.length)(hl:l.length<=1000000):HC prog 269 [sq cCf l] [] (.arw 0 0 l.length) [.cells (l.flatMap cCf) 115]:=by
 refine mi tG (rs:=[.tmp 2]) func269 rfl rfl rfl (fun B=>?_)
 refine zu1 ?_
 refine Ws<|zp1 ?_
 refine wA (lO tG rfl) rfl rfl rfl rfl rfl (fun bn1 hn1=>?_)
 refine Wn<|Wi rfl (fun hi1=>?_) (fun hi1=>?_)
 ·exact absurd (hn1 hi1).1 (by omega)
 refine Wj<|zp2 ?_
 refine Wd rfl rfl (oN (lO tG rfl) rfl (lO tG rfl) (lO tG rfl) rfl rfl ⟨_,rfl⟩ ⟨rfl,rfl,al _ 3 (fun _=>rfl) _,bD _ (fun _=>rfl) _⟩ rfl (by dsimp only;omega) (by omega) (by omega)) ?_
 refine Wa 7 rfl (show PV.arw 0 0 (0+l.length)=.arw 0 0 l.length by rw[Nat.zero_add]) ?_
 refine zs1 ?_
 refine Wq<|Af rfl ?_ ?_
 ·rfl
 rfl
theorem KO(l:List VCf)(h0:0<l.length)(hl:l.length<=1000000):SO prog 269 [sq cCf l] (fun i=>.arw i 0 l.length) (l.flatMap cCf) 115 :=
 zj (by simp) (bt (fun x=>by simp) _) (.inl ⟨_,fun _=>rfl⟩) (ab8 l h0 hl)
theorem ue:∀{l:List VCf} {i:Nat},i<l.length->∀n:List Int,cy (l.flatMap cCf) (i*3+2) [sq ap n]=(l.set i {l.getD i zCf with leaves:=n}).flatMap cCf
 | x::l,0,_,n=>by simp[cy,cCf,List.flatMap_cons]
 | x::l,i+1,h,n=>by
  have ih:=ue (l:=l) (i:=i) (by simpa using h) n
  have e:∀r:List PV,cy (cCf x++r) ((i+1)*3+2) [sq ap n]=cCf x++cy r (i*3+2) [sq ap n]:=by
   intro r
   unfold cy
   have h1:(cCf x).length=3:=rfl
   rw[List.take_append,List.drop_append,h1,List.take_of_length_le (by omega),List.drop_of_length_le (by rw[h1];simp),show(i+1)*3+2-3=i*3+2 by omega,show(i+1)*3+2+[sq ap n].length-3=i*3+2+[sq ap n].length by omega]
   simp
  rw[List.flatMap_cons,e,ih]
  rfl
 | [],i,h,n=>by simp at h
def lj(l:List VCf):Nat->Int
 | 0=>-1
 | k+1=>if (l.getD k zCf).kind=3 then(k:Int)else lj l k
theorem wF(l:List VCf):∀k,-1<=lj l k/\lj l k<k
 | 0=>⟨by rw[lj];omega,by rw[lj];omega⟩
 | k+1=>by
  rw[lj];split
  ·omega
  have:=wF l k;omega
theorem U9{l:List VCf}{k:Nat}(h:k<l.length):l.drop k=l.getD k zCf::l.drop (k+1):=by
 rw[List.drop_eq_getElem_cons h,List.getD_eq_getElem?_getD,List.getElem?_eq_getElem h];rfl
theorem B6{l:List VCf}{j:Nat}(hj:j<l.length){d:TD}(hd:d.agg=false):ku d (l.flatMap cCf) (0+(j:Int).toNat*3+2)=some (sq ap (l.getD j zCf).leaves):=by
 unfold ku
 rw[hd]
 show(l.flatMap cCf)[0+(j:Int).toNat*3+2]?=_
 rw[Int.toNat_natCast,Nat.zero_add]
 have e:=ij cCf 3 (fun _=>rfl) j l
 have:(l.flatMap cCf)[j*3+2]?=((l.flatMap cCf).drop (j*3))[2]?:=by rw[List.getElem?_drop]
 rw[this,e,U9 hj]
 rfl
def wO(w:CW):CW :=
 if lj w.l w.l.length<0\/32<=(w.l.getD (lj w.l w.l.length).toNat zCf).leaves.length then w.fail (-22)else
  {gn (cJ w [85,78,76,79,79,80]) [40,98,114,97,110,99,104,41]with l:=w.l.set (lj w.l w.l.length).toNat {w.l.getD (lj w.l w.l.length).toNat zCf with leaves:=(w.l.getD (lj w.l w.l.length).toNat zCf).leaves++[(cJ (cJ w [85,78,76,79,79,80]) [40,98,114,97,110,99,104,41]).v.here]}}
theorem Rb(w:CW)(h:CK 3 w):∀(H:List Ob) (i:Nat),H[i]?=some (.cells (cCw w) 175)->HC prog 234 (.ptr i 0::[]) H (.tup []) (H.set i (.cells (cCw (wO w)) 175)):=by
 have hlen:=h.len
 have w0:IntKind.i64.wrap ((w.l.length:Int)-1)=(w.l.length:Int)-1:=gE (by omega) (by omega)
 obtain⟨n,hn⟩:∃n,lj w.l w.l.length=n:=⟨_,rfl⟩
 have hr:=wF w.l w.l.length
 rw[hn]at hr
 have a:=jn h [85,78,76,79,79,80]
 have b:=po a [40,98,114,97,110,99,104,41]
 have bl:(gn (cJ w [85,78,76,79,79,80]) [40,98,114,97,110,99,104,41]).l=w.l:=(PC _ _).trans (Jt _ _)
 obtain⟨z,hz⟩:∃z,gn (cJ w [85,78,76,79,79,80]) [40,98,114,97,110,99,104,41]=z:=⟨_,rfl⟩
 obtain⟨at_,ha⟩:∃x,(cJ (cJ w [85,78,76,79,79,80]) [40,98,114,97,110,99,104,41]).v.here=x:=⟨_,rfl⟩
 have p2:=qe (cJ w [85,78,76,79,79,80]) [40,98,114,97,110,99,104,41] a
 have hE:wO w=if n<0\/32<=(w.l.getD n.toNat zCf).leaves.length then w.fail (-22)else {z with l:=w.l.set n.toNat {w.l.getD n.toNat zCf with leaves:=(w.l.getD n.toNat zCf).leaves++[at_]}}:=by unfold wO;rw[hn,hz,ha]
 rw[hz]at p2 bl b
 rw[ha]at p2
 rw[hE]
 refine zM func234 fun B=>?_
 refine zp5 ?_
 refine z1 ?_
 refine Wa 9 rfl (congrArg (fun z=>PV.val (Value.int .i64 z)) w0) ?_
 refine zs1 ?_
 refine Ws<|Wl ?_
 show W _ _ _ _ _ _ _
 refine fX (fun(k:Nat)=>[(0,.ptr 0 0),(2,i64 ((k:Int)-1))]) (fun(k:Nat)=>[.cells (cCw w) 175]) (fun(k:Nat)=>[]) (fun(k:Nat)=>k<=w.l.length/\lj w.l k=n) (fun(k:Nat)=>k) (w.l.length) (by exact⟨Nat.le_refl _,hn⟩) [] ?_ ?_
 ·exact fc
 intro k hk
 refine Ws<|zp3 ?_
 refine Wb 12 rfl (fun hg1=>?_) (fun hg1=>?_)
 ·have h1:1<=k:=by have:=oT hg1;omega
  have e1:((k:Int)-1)=((k-1:Nat):Int):=by omega
  have w1:IntKind.i64.wrap (((k-1:Nat):Int)-1)=((k-1:Nat):Int)-1:=gE (by omega) (by omega)
  have eL:lj w.l k=if (w.l.getD (k-1) zCf).kind=3 then((k-1:Nat):Int)else lj w.l (k-1):=by
   rw[show k=(k-1)+1 by omega,lj];rfl
  refine Wa 2 rfl (congrArg i64 e1) ?_
  refine zy5 ?_
  refine Wv tG rfl rfl rfl (by omega) (iN cCf 3 (fun _=>rfl) zCf (by omega)) ?_
  refine zs4 ?_
  refine Wi rfl (fun hi1=>?_) (fun hi1=>?_)
  ·have q1:¬(w.l.getD (k-1) zCf).kind=3:=by simpa using hi1
   rw[if_neg q1]at eL
   refine Wj<|Wl<|aa rfl ?_
   refine zs3 ?_
   exact⟨k-1,[],(by exact⟨by omega,eL.symm.trans hk.2⟩),(by omega),fc⟩
  have q1:(w.l.getD (k-1) zCf).kind=3:=by simpa using hi1
  rw[if_pos q1]at eL
  have hN:n=((k-1:Nat):Int):=hk.2.symm.trans eL
  refine ay7 2 rfl (congrArg i64 hN.symm) ?_
  refine bf ?_
  refine Ws<|zp3 ?_
  refine Wb 27 rfl (fun hg2=>?_) (fun hg2=>?_)
  ·have q:n<0\/32<=(w.l.getD n.toNat zCf).leaves.length:=.inl (oT hg2)
   iterate 10 refine z6 ?_
   refine zs1 ?_
   refine Wt rfl rfl ?_
   refine zp1 ?_
   refine zc rfl func153 ((lQ w (-22)) _ _ rfl) ?_
   refine Wn<|Wq<|aN rfl rfl ?_ ?_
   ·rfl
   rw[if_pos q];rfl
  have hn0:0<=n:=by have:=oF hg2;omega
  obtain⟨j,hj⟩:∃j:Nat,n=(j:Int):=⟨n.toNat,by omega⟩
  subst hj
  have hjl:j<w.l.length:=by omega
  have cj:=h.cf (w.l.getD j zCf) (by rw[List.getD_eq_getElem?_getD,List.getElem?_eq_getElem hjl];exact List.getElem_mem hjl)
  refine zy5 ?_
  refine Wv tG rfl rfl rfl (by omega) (iN cCf 3 (fun _=>rfl) zCf (by omega)) ?_
  refine zs5 ?_
  refine Wi rfl (fun hi2=>?_) (fun hi2=>?_)
  ·have q:(j:Int)<0\/32<=(w.l.getD (j:Int).toNat zCf).leaves.length:=.inr (by have:=oT hi2;rw[Int.toNat_natCast];omega)
   refine zp1 ?_
   refine zc rfl func153 ((lQ w (-22)) _ _ rfl) ?_
   refine Wn<|Wq<|aN rfl rfl ?_ ?_
   ·rfl
   rw[if_pos q];rfl
  have q:¬((j:Int)<0\/32<=(w.l.getD (j:Int).toNat zCf).leaves.length):=by
   have:=oF hi2
   rintro(h|h)
   ·omega
   rw[Int.toNat_natCast]at h;omega
  have hl32:(w.l.getD j zCf).leaves.length<32:=by have:=oF hi2;omega
  refine Wj<|zp1 ?_
  refine zc rfl func104 ((m7 w [85,78,76,79,79,80] h.mem h.here) _ _ rfl) ?_
  refine Wn<|zp1 ?_
  refine zc rfl func263 ((p2) _ _ rfl) ?_
  refine zs1 ?_
  refine zp5 ?_
  refine Wa 49 rfl (congrArg (sq cCf) bl) ?_
  refine zc rfl func269 (KO w.l (by omega) (by omega) _) ?_
  refine Wa 50 rfl ((show _=PV.arw 1 0 w.l.length from rfl)) ?_
  refine zs3 ?_
  refine as8 ?_
  refine V3.aY [0,0,0,4,0,0,0,0,4,0,0,0,6,0,0,0,0,0,0,3] [0,1,2,3,4,5,6,7,8,9,10,11,12,13,14,15,16,17,18,19] mG rfl (by kernel_rfl) ?_
  iterate 3 refine V3.aO ?_
  refine V3.zU 0 ?_
  iterate 4 refine V3.aO ?_
  refine V3.zU 0 ?_
  refine V3.aO ?_
  refine V3.UB ?_ (q:=(by omega))
  refine V3.aO ?_
  refine V3.Dl 1 rfl rfl rfl rfl rfl (fun H2 h2=>bB (lO tG rfl) rfl rfl h2 (B6 hjl rfl)) ?_
  refine V3.cQ rfl rfl rfl rfl (fun _=>dC rfl func154 rfl rfl ((wV (w.l.getD j zCf).leaves (by omega)) _)) ?_
  iterate 2 refine V3.aO ?_
  refine V3.jm 68 rfl ((show _=PV.seq (List.length [at_]) (List.flatMap ap [at_]) .clip from rfl)) ?_
  refine V3.jT rfl rfl rfl rfl (fun _=>cg (lO tG rfl) rfl (lO tG rfl) (lO tG rfl) rfl rfl (by exact⟨_,rfl⟩) (by exact⟨rfl,rfl,al _ 1 (fun _=>rfl) _,bD _ (fun _=>rfl) _⟩) (by exact al _ 1 (fun _=>rfl) _) (by((simp_all;omega))) (by((simp_all;omega))) (by exact fy (bt (fun x=>by simp) _) (bt (fun x=>by simp) _))) ?_
  refine V3.jm 69 rfl (cw ap) ?_
  refine V3.UB ?_ (q:=(by omega))
  refine V3.aO ?_
  refine V3.Av rfl rfl rfl rfl (bL (lO tG rfl) rfl rfl rfl rfl rfl rfl (by rw[Nat.ble_eq,al cCf 3 (fun _=>rfl)];dsimp only;rw[Int.toNat_natCast];simp;omega)) ?_
  refine V3.KP (H':=[.cells (cVm z.v++[.arw 1 0 w.l.length,i64 z.bad]) 175,.cells ((w.l.set j {w.l.getD j zCf with leaves:=(w.l.getD j zCf).leaves++[at_]}).flatMap cCf) 115]) (by rw[<-ue hjl];dsimp only;rw[Int.toNat_natCast,Nat.zero_add];rfl) ?_
  refine V3.bo ?_
  have hL:(w.l.set j {w.l.getD j zCf with leaves:=(w.l.getD j zCf).leaves++[at_]}).length=w.l.length:=List.length_set
  refine⟨1,0,23,w.l.length,w.l.length*3,_,_,_,_,by decide,rfl,rfl,rfl,(by rw[al cCf 3 (fun _=>rfl),hL];exact Nat.le_refl _),?_⟩
  refine aU rfl rfl rfl ?_
  rw[if_neg q,List.take_of_length_le (by rw[al cCf 3 (fun _=>rfl),hL];exact Nat.le_refl _),Int.toNat_natCast]
  unfold cCw sq
  dsimp only
  rw[hL];rfl
 have h1:k=0:=by have:=oF hg1;omega
 subst h1
 have hN:n = -1:=hk.2.symm
 refine Wa 2 rfl (show i64 (((0:Nat):Int)-1)=i64 n by rw[hN];rfl) ?_
 iterate 9 refine z6 ?_
 refine zs1 ?_
 refine Wf rfl rfl ?_
 refine bf ?_
 refine Ws<|zp3 ?_
 refine Wb 27 rfl (fun hg2=>?_) (fun hg2=>?_)
 ·have q:n<0\/32<=(w.l.getD n.toNat zCf).leaves.length:=.inl (oT hg2)
  iterate 10 refine z6 ?_
  refine zs1 ?_
  refine Wt rfl rfl ?_
  refine zp1 ?_
  refine zc rfl func153 ((lQ w (-22)) _ _ rfl) ?_
  refine Wn<|Wq<|aN rfl rfl ?_ ?_
  ·rfl
  rw[if_pos q];rfl
 have hn0:0<=n:=by have:=oF hg2;omega
 obtain⟨j,hj⟩:∃j:Nat,n=(j:Int):=⟨n.toNat,by omega⟩
 subst hj
 have hjl:j<w.l.length:=by omega
 have cj:=h.cf (w.l.getD j zCf) (by rw[List.getD_eq_getElem?_getD,List.getElem?_eq_getElem hjl];exact List.getElem_mem hjl)
 refine zy5 ?_
 refine Wv tG rfl rfl rfl (by omega) (iN cCf 3 (fun _=>rfl) zCf (by omega)) ?_
 refine zs5 ?_
 refine Wi rfl (fun hi2=>?_) (fun hi2=>?_)
 ·have q:(j:Int)<0\/32<=(w.l.getD (j:Int).toNat zCf).leaves.length:=.inr (by have:=oT hi2;rw[Int.toNat_natCast];omega)
  refine zp1 ?_
  refine zc rfl func153 ((lQ w (-22)) _ _ rfl) ?_
  refine Wn<|Wq<|aN rfl rfl ?_ ?_
  ·rfl
  rw[if_pos q];rfl
 have q:¬((j:Int)<0\/32<=(w.l.getD (j:Int).toNat zCf).leaves.length):=by
  have:=oF hi2
  rintro(h|h)
  ·omega
  rw[Int.toNat_natCast]at h;omega
 have hl32:(w.l.getD j zCf).leaves.length<32:=by have:=oF hi2;omega
 refine Wj<|zp1 ?_
 refine zc rfl func104 ((m7 w [85,78,76,79,79,80] h.mem h.here) _ _ rfl) ?_
 refine Wn<|zp1 ?_
 refine zc rfl func263 ((p2) _ _ rfl) ?_
 refine zs1 ?_
 refine zp5 ?_
 refine Wa 49 rfl (congrArg (sq cCf) bl) ?_
 refine zc rfl func269 (KO w.l (by omega) (by omega) _) ?_
 refine Wa 50 rfl ((show _=PV.arw 1 0 w.l.length from rfl)) ?_
 refine zs3 ?_
 refine as8 ?_
 refine V3.aY [0,0,0,4,0,0,0,0,4,0,0,0,6,0,0,0,0,0,0,3] [0,1,2,3,4,5,6,7,8,9,10,11,12,13,14,15,16,17,18,19] mG rfl (by kernel_rfl) ?_
 iterate 3 refine V3.aO ?_
 refine V3.zU 0 ?_
 iterate 4 refine V3.aO ?_
 refine V3.zU 0 ?_
 refine V3.aO ?_
 refine V3.UB ?_ (q:=(by omega))
 refine V3.aO ?_
 refine V3.Dl 1 rfl rfl rfl rfl rfl (fun H2 h2=>bB (lO tG rfl) rfl rfl h2 (B6 hjl rfl)) ?_
 refine V3.cQ rfl rfl rfl rfl (fun _=>dC rfl func154 rfl rfl ((wV (w.l.getD j zCf).leaves (by omega)) _)) ?_
 iterate 2 refine V3.aO ?_
 refine V3.jm 68 rfl ((show _=PV.seq (List.length [at_]) (List.flatMap ap [at_]) .clip from rfl)) ?_
 refine V3.jT rfl rfl rfl rfl (fun _=>cg (lO tG rfl) rfl (lO tG rfl) (lO tG rfl) rfl rfl (by exact⟨_,rfl⟩) (by exact⟨rfl,rfl,al _ 1 (fun _=>rfl) _,bD _ (fun _=>rfl) _⟩) (by exact al _ 1 (fun _=>rfl) _) (by(dsimp only;omega)) (by(omega)) (by exact fy (bt (fun x=>by simp) _) (bt (fun x=>by simp) _))) ?_
 refine V3.jm 69 rfl (cw ap) ?_
 refine V3.UB ?_ (q:=(by omega))
 refine V3.aO ?_
 refine V3.Av rfl rfl rfl rfl (bL (lO tG rfl) rfl rfl rfl rfl rfl rfl (by rw[Nat.ble_eq,al cCf 3 (fun _=>rfl)];dsimp only;rw[Int.toNat_natCast];simp;omega)) ?_
 refine V3.KP (H':=[.cells (cVm z.v++[.arw 1 0 w.l.length,i64 z.bad]) 175,.cells ((w.l.set j {w.l.getD j zCf with leaves:=(w.l.getD j zCf).leaves++[at_]}).flatMap cCf) 115]) (by rw[<-ue hjl];dsimp only;rw[Int.toNat_natCast,Nat.zero_add];rfl) ?_
 refine V3.bo ?_
 have hL:(w.l.set j {w.l.getD j zCf with leaves:=(w.l.getD j zCf).leaves++[at_]}).length=w.l.length:=List.length_set
 refine⟨1,0,23,w.l.length,w.l.length*3,_,_,_,_,by decide,rfl,rfl,rfl,(by rw[al cCf 3 (fun _=>rfl),hL];exact Nat.le_refl _),?_⟩
 refine aU rfl rfl rfl ?_
 rw[if_neg q,List.take_of_length_le (by rw[al cCf 3 (fun _=>rfl),hL];exact Nat.le_refl _),Int.toNat_natCast]
 unfold cCw sq
 dsimp only
 rw[hL];rfl
def brK:List fG:=[.s [73,70],.s [69,76,83,69],.s [84,72,69,78],.s [66,69,71,73,78],.s [87,72,73,76,69],.s [82,69,80,69,65,84],.s [85,78,84,73,76],.s [65,71,65,73,78],.s [68,79],.s [63,68,79],.s [76,79,79,80],.s [43,76,79,79,80],.s [76,69,65,86,69]]
def brV:List PV:=[.fn (.func 222) [] [],.fn (.func 223) [] [],.fn (.func 224) [] [],.fn (.func 225) [] [],.fn (.func 226) [] [],.fn (.func 227) [] [],.fn (.func 228) [] [],.fn (.func 229) [] [],.fn (.func 230) [] [],.fn (.func 231) [] [],.fn (.func 232) [] [],.fn (.func 233) [] [],.fn (.func 234) [] []]
theorem WM:aS (.smap brK brV):=by
 unfold aS brV
 simp[ay,aS]
theorem QK:ab prog 192 [] (.smap brK brV):=by
 refine bw tG (rs:=[.tmp 0]) func192 rfl rfl rfl (by(simp[ay,aS];done)) (by exact WM) (fun B=>?_)
 refine zu1 ?_
 refine z8 ?_
 refine Wd rfl rfl (dq rfl) ?_
 refine zD 256 (.s [73,70]) ?_
 refine zD 256 (.s [69,76,83,69]) ?_
 refine zD 256 (.s [84,72,69,78]) ?_
 refine zD 256 (.s [66,69,71,73,78]) ?_
 refine zD 256 (.s [87,72,73,76,69]) ?_
 refine zD 256 (.s [82,69,80,69,65,84]) ?_
 refine zD 256 (.s [85,78,84,73,76]) ?_
 refine zD 256 (.s [65,71,65,73,78]) ?_
 refine zD 256 (.s [68,79]) ?_
 refine zD 256 (.s [63,68,79]) ?_
 refine zD 256 (.s [76,79,79,80]) ?_
 refine zD 256 (.s [43,76,79,79,80]) ?_
 refine zD 256 (.s [76,69,65,86,69]) ?_
 refine z1 ?_
 refine ey 2 _ rfl rfl rfl ?_
 refine zs1 ?_
 refine zR ?_
 rfl
def kh(l:List VCf)(name:Str):Bool:=if name=[73,70]\/name=[66,69,71,73,78]\/name=[87,72,73,76,69]\/name=[68,79]\/name=[63,68,79]then decide ((l.length:Int)≥32)else false
theorem JK(l:List VCf)(name:Str)(hl:l.length<=1000):ab prog 193 [sq cCf l,str name] (boo (kh l name)):=by
 refine zY func193 fun B=>?_
 refine zu1 ?_
 refine Ws<|zu1 ?_
 refine Wl<|Ws<|zp1 ?_
 refine zq 7 ?_
 refine zs1 ?_
 refine Wi rfl (fun hi1=>?_) (fun hi1=>?_)
 ·have q:name=[73,70]\/name=[66,69,71,73,78]\/name=[87,72,73,76,69]\/name=[68,79]\/name=[63,68,79]:=.inl (oT hi1)
  refine Wj<|Wt rfl hi1 ?_
  refine zu4 ?_
  refine zR ?_
  (rw[kh,if_pos q];rfl)
 have n1:=oF hi1
 refine zp1 ?_
 refine zq 8 ?_
 refine zs1 ?_
 refine Wi rfl (fun hi2=>?_) (fun hi2=>?_)
 ·have q:name=[73,70]\/name=[66,69,71,73,78]\/name=[87,72,73,76,69]\/name=[68,79]\/name=[63,68,79]:=.inr (.inl (oT hi2))
  refine Wj<|Wt rfl hi2 ?_
  refine zu4 ?_
  refine zR ?_
  (rw[kh,if_pos q];rfl)
 have n2:=oF hi2
 refine zp1 ?_
 refine zq 9 ?_
 refine zs1 ?_
 refine Wi rfl (fun hi3=>?_) (fun hi3=>?_)
 ·have q:name=[73,70]\/name=[66,69,71,73,78]\/name=[87,72,73,76,69]\/name=[68,79]\/name=[63,68,79]:=.inr (.inr (.inl (oT hi3)))
  refine Wj<|Wt rfl hi3 ?_
  refine zu4 ?_
  refine zR ?_
  (rw[kh,if_pos q];rfl)
 have n3:=oF hi3
 refine zp1 ?_
 refine zq 10 ?_
 refine zs1 ?_
 refine Wi rfl (fun hi4=>?_) (fun hi4=>?_)
 ·have q:name=[73,70]\/name=[66,69,71,73,78]\/name=[87,72,73,76,69]\/name=[68,79]\/name=[63,68,79]:=.inr (.inr (.inr (.inl (oT hi4))))
  refine Wj<|Wt rfl hi4 ?_
  refine zu4 ?_
  refine zR ?_
  (rw[kh,if_pos q];rfl)
 have n4:=oF hi4
 refine aa rfl ?_
 refine z1 ?_
 refine zq 11 ?_
 refine zs1 ?_
 refine Wi rfl (fun hi5=>?_) (fun hi5=>?_)
 ·have q:name=[73,70]\/name=[66,69,71,73,78]\/name=[87,72,73,76,69]\/name=[68,79]\/name=[63,68,79]:=.inr (.inr (.inr (.inr (oT hi5))))
  refine zu4 ?_
  refine zR ?_
  (rw[kh,if_pos q];rfl)
 have n5:=oF hi5
 have q:¬(name=[73,70]\/name=[66,69,71,73,78]\/name=[87,72,73,76,69]\/name=[68,79]\/name=[63,68,79]):=by rintro(h|h|h|h|h);exact n1 h;exact n2 h;exact n3 h;exact n4 h;exact n5 h
 refine Wj<|zu1 ?_
 refine zR ?_
 (rw[kh,if_neg q];rfl)
def brF(name:Str):Option (CW->CW) :=
 if name=[73,70]then some ifC else if name=[69,76,83,69]then some KM else if name=[84,72,69,78]then some LC else if name=[66,69,71,73,78]then some EO else if name=[87,72,73,76,69]then some Dm
 else if name=[82,69,80,69,65,84]then some yA else if name=[85,78,84,73,76]then some (B9 [40,48,98,114,97,110,99,104,41])else if name=[65,71,65,73,78]then some (B9 [40,98,114,97,110,99,104,41])else if name=[68,79]then some doC
 else if name=[63,68,79]then some TF else if name=[76,79,79,80]then some (Bf [40,108,111,111,112,41])else if name=[43,76,79,79,80]then some (Bf [40,43,108,111,111,112,41])else if name=[76,69,65,86,69]then some wO else none
def az1(f:FuncId)(g:CW->CW):Prop:=∀w:CW,CK 40 w->∀(H:List Ob) (i:Nat),H[i]?=some (.cells (cCw w) 175)->nX prog f [.ptr i 0] H (.tup []) (H.set i (.cells (cCw (g w)) 175))
theorem P7(name:Str):(∃f g,gN brK brV (.s name) (.val .nilFunc)=(.fn (.func f) [] [],true)/\brF name=some g/\az1 f g)\/(gN brK brV (.s name) (.val .nilFunc)=(.val .nilFunc,false)/\brF name=none):=by
 have no:∀{α:Type} {a b:α},(if False then a else b)=b:=fun {α a b}=>if_neg id
 by_cases c0:name=[73,70]
 ·subst c0;exact .inl ⟨222,_,rfl,rfl,fun w h H i hi=>⟨⟨_,func222,rfl,rfl⟩,aw9 w (h.down (by omega)) H i hi⟩⟩
 by_cases c1:name=[69,76,83,69]
 ·subst c1;exact .inl ⟨223,_,rfl,rfl,fun w h H i hi=>⟨⟨_,func223,rfl,rfl⟩,Wp w (h.down (by omega)) H i hi⟩⟩
 by_cases c2:name=[84,72,69,78]
 ·subst c2;exact .inl ⟨224,_,rfl,rfl,fun w h H i hi=>⟨⟨_,func224,rfl,rfl⟩,XB w (h.down (by omega)) H i hi⟩⟩
 by_cases c3:name=[66,69,71,73,78]
 ·subst c3;exact .inl ⟨225,_,rfl,rfl,fun w h H i hi=>⟨⟨_,func225,rfl,rfl⟩,Rp w (h.down (by omega)) H i hi⟩⟩
 by_cases c4:name=[87,72,73,76,69]
 ·subst c4;exact .inl ⟨226,_,rfl,rfl,fun w h H i hi=>⟨⟨_,func226,rfl,rfl⟩,Ry w (h.down (by omega)) H i hi⟩⟩
 by_cases c5:name=[82,69,80,69,65,84]
 ·subst c5;exact .inl ⟨227,_,rfl,rfl,fun w h H i hi=>⟨⟨_,func227,rfl,rfl⟩,Ns w (h.down (by omega)) H i hi⟩⟩
 by_cases c6:name=[85,78,84,73,76]
 ·subst c6;exact .inl ⟨228,_,rfl,rfl,fun w h H i hi=>⟨⟨_,func228,rfl,rfl⟩,Pq w (h.down (by omega)) H i hi⟩⟩
 by_cases c7:name=[65,71,65,73,78]
 ·subst c7;exact .inl ⟨229,_,rfl,rfl,fun w h H i hi=>⟨⟨_,func229,rfl,rfl⟩,PJ w (h.down (by omega)) H i hi⟩⟩
 by_cases c8:name=[68,79]
 ·subst c8;exact .inl ⟨230,_,rfl,rfl,fun w h H i hi=>⟨⟨_,func230,rfl,rfl⟩,ak6 w (h.down (by omega)) H i hi⟩⟩
 by_cases c9:name=[63,68,79]
 ·subst c9;exact .inl ⟨231,_,rfl,rfl,fun w h H i hi=>⟨⟨_,func231,rfl,rfl⟩,Y9 w (h.down (by omega)) H i hi⟩⟩
 by_cases c10:name=[76,79,79,80]
 ·subst c10;exact .inl ⟨232,_,rfl,rfl,fun w h H i hi=>⟨⟨_,func232,rfl,rfl⟩,Uh w h H i hi⟩⟩
 by_cases c11:name=[43,76,79,79,80]
 ·subst c11;exact .inl ⟨233,_,rfl,rfl,fun w h H i hi=>⟨⟨_,func233,rfl,rfl⟩,U7 w h H i hi⟩⟩
 by_cases c12:name=[76,69,65,86,69]
 ·subst c12;exact .inl ⟨234,_,rfl,rfl,fun w h H i hi=>⟨⟨_,func234,rfl,rfl⟩,Rb w (h.down (by omega)) H i hi⟩⟩
 refine .inr ⟨?_,?_⟩
 ·unfold brK brV
  rw[iF,if_neg c0,iF,if_neg c1,iF,if_neg c2,iF,if_neg c3,iF,if_neg c4,iF,if_neg c5,iF,if_neg c6,iF,if_neg c7,iF,if_neg c8,iF,if_neg c9,iF,if_neg c10,iF,if_neg c11,iF,if_neg c12,SI]
 unfold brF
 rw[if_neg c0,if_neg c1,if_neg c2,if_neg c3,if_neg c4,if_neg c5,if_neg c6,if_neg c7,if_neg c8,if_neg c9,if_neg c10,if_neg c11,if_neg c12]
def bn(v:VVm)(l:List VCf)(name:Str):VVm×List VCf×Int :=
 match brF name with
 | none=>(v,l,-22)
 | some g=>if kh l name=true then(v,l,-22)else oR (g ⟨v,l,0⟩) v l
theorem ax1{v:VVm}{l:List VCf}{name:Str}(h:brF name=none):bn v l name=(v,l,-22):=by unfold bn;rw[h]
theorem XF{v:VVm}{l:List VCf}{name:Str}{g:CW->CW}(h:brF name=some g)(q:kh l name=true):bn v l name=(v,l,-22):=by unfold bn;rw[h];dsimp only;rw[if_pos q]
theorem qD{v:VVm}{l:List VCf}{name:Str}{g:CW->CW}(h:brF name=some g)(q:¬kh l name=true):bn v l name=oR (g ⟨v,l,0⟩) v l:=by unfold bn;rw[h];dsimp only;rw[if_neg q]
theorem Bn(v:VVm)(l:List VCf)(name:Str)(h:CK 40 ⟨v,l,0⟩):ab prog 151 [eVm v,sq cCf l,str name] (.tup [eVm (bn v l name).1,sq cCf (bn v l name).2.1,i64 (bn v l name).2.2]):=by
 have hl:l.length<=32:=h.len
 have hT:=P7 name
 refine zY func151 fun B=>?_
 refine zu4 ?_
 refine z8 ?_
 refine zc rfl func192 ((QK) _) ?_
 refine z1 ?_
 rcases hT with ⟨f,g,hlk,hon,hc⟩|⟨hlk,hno⟩
 ·refine Wd rfl rfl (ba (b:=true) (e:=256) (key:=.s name) (by kernel_rfl) (lO tG rfl) (by kernel_rfl) rfl rfl rfl rfl (by kernel_rfl) (hlk)) ?_
  refine zs5 ?_
  refine Ws<|zp3 ?_
  refine px 20 rfl (by rfl) ?_
  refine zy2 ?_
  refine zc rfl func193 ((JK l name (by omega)) _) ?_
  refine zs1 ?_
  refine Wi rfl (fun hi1=>?_) (fun hi1=>?_)
  ·have q:kh l name=true:=by simpa using hi1
   refine zu5 ?_
   refine zR ?_
   (rw[XF hon q];rfl)
  have q:¬kh l name=true:=by simpa using hi1
  refine Wj<|zu5 ?_
  refine zp1 ?_
  refine Wc rfl rfl (eO rfl rfl (hc ⟨v,l,0⟩ h _ 2 rfl)) ?_
  refine Wn<|zp2 ?_
  refine zc rfl func106 ((wq (g ⟨v,l,0⟩) v l) _ _ rfl) ?_
  refine zy5 ?_
  refine zs1 ?_
  refine zR ?_
  (rw[qD hon q];rfl)
 refine Wd rfl rfl (ba (b:=true) (e:=256) (key:=.s name) (by kernel_rfl) (lO tG rfl) (by kernel_rfl) rfl rfl rfl rfl (by kernel_rfl) (hlk)) ?_
 refine zs5 ?_
 refine Ws<|zp3 ?_
 refine gp 20 rfl (by rfl) ?_
 iterate 3 refine z6 ?_
 refine zs1 ?_
 refine Wt rfl rfl ?_
 refine zu5 ?_
 refine zR ?_
 (rw[ax1 hno];rfl)
structure xC where
 xt:Int
 cf:List VCf
 here:Int
 dict:Int
 last:Int
 on:Bool
 fuel:Int
def kj:xC:=⟨0,[],0,0,0,false,0⟩
def C9(c:xC):List PV:=[i64 c.xt,sq cCf c.cf,i64 c.here,i64 c.dict,i64 c.last,boo c.on,i64 c.fuel]
@[simp] theorem ab7 (c : xC) : ay (C9 c) := by simp [C9]
structure af where
 vm:VVm
 comp:xC
def jB(f:af):List PV:=cVm f.vm++C9 f.comp
@[simp] theorem Gp (f : af) : ay (jB f) := by simp [jB, cVm, C9]
def bQ(f:af):PV:=.agg (jB f)
@[simp] theorem Yb (f : af) : aS (bQ f) := by unfold bQ aS; exact Gp f
structure FW where
 f:af
 bad:Int
def cFw(w:FW):List PV:=jB w.f++[i64 w.bad]
@[simp] theorem au4 (w : FW) : ay (cFw w) := by simp [cFw, jB, cVm, C9]
def okF(w:FW)(e:Int):FW:=if w.bad=0 then {w with bad:=e} else w
theorem Vb{w:FW}{e:Int}(h:w.bad=0):okF w e={w with bad:=e}:=by unfold okF;rw[if_pos h]
theorem av6{w:FW}{e:Int}(h:¬w.bad=0):okF w e=w:=by unfold okF;rw[if_neg h]
theorem lg(w:FW)(e:Int):∀(H:List Ob) (i:Nat),H[i]?=some (.cells (cFw w) 106)->HC prog 93 (.ptr i 30::[i64 e]) H (boo (decide ((okF w e).bad=0))) (H.set i (.cells (cFw (okF w e)) 106)):=by
 refine zM func93 fun B=>?_
 refine zu1 ?_
 refine Ws<|zu5 ?_
 refine Wi rfl (fun hi1=>?_) (fun hi1=>?_)
 ·have h0:w.bad=0:=by simpa using hi1
  refine aa rfl ?_
  refine zs5 ?_
  refine zp5 ?_
  refine zs1 ?_
  refine Wq<|aN rfl rfl ?_ ?_
  ·(rw[Vb h0];rfl)
  (rw[Vb h0];rfl)
 have h0:¬w.bad=0:=by simpa using hi1
 refine Wj<|zp5 ?_
 refine zs1 ?_
 refine Wq<|aN rfl rfl ?_ ?_
 ·(rw[av6 h0];rfl)
 (rw[av6 h0];rfl)
structure FK (k:Nat) (f:af):Prop where
 b:f.vm.mem.b.length<=1000000
 old:f.vm.mem.old.length+k<=1000000
 h0:1368<=f.vm.here
 h1:f.vm.here<=f.vm.mem.b.length
 dict:f.vm.dict.length<=2000
 each:jX f.vm.dict
 hand:f.vm.hand.length<=1000
theorem FK.mem{k:Nat}{f:af}(h:FK k f):cZ f.vm.mem:=⟨h.b,by have:=h.old;omega⟩
theorem FK.here{k:Nat}{f:af}(h:FK k f):ia f.vm.mem f.vm.here:=⟨by have:=h.h0;omega,h.h1⟩
theorem FK.down{k j:Nat}{f:af}(h:FK k f)(hj:j<=k):FK j f:=⟨h.b,by have:=h.old;omega,h.h0,h.h1,h.dict,h.each,h.hand⟩
def FW.lay(w:FW)(n:Int):FW:={f:={w.f with vm:=(qX w.f.vm n).1},bad:=(qX w.f.vm n).2}
def cd(w:FW)(n:Int):FW:=if w.bad=0 then w.lay n else w
theorem TU{w:FW}{n:Int}(h:w.bad=0):cd w n=w.lay n:=by unfold cd;rw[if_pos h]
theorem ag2{w:FW}{n:Int}(h:¬w.bad=0):cd w n=w:=by unfold cd;rw[if_neg h]
theorem xH{w:FW}(h:¬w.bad=0):∀l:List Int,l.foldl cd w=w
 | []=>rfl
 | n::l=>by rw[List.foldl_cons,ag2 h];exact xH h l
theorem ac6{k:Nat}{f:af}(h:FK (k+1) f)(n:Int):FK k {f with vm:=(qX f.vm n).1}:=by
 have q:=sI f.vm.mem f.vm.here n
 have p:=uF n h.h0 h.h1
 exact⟨by show(cv f.vm.mem f.vm.here n).1.b.length<=_;rw[q.len];exact h.b,by show(cv f.vm.mem f.vm.here n).1.old.length+k<=_;have:=q.old;have:=h.old;omega,p.1,by show(cv f.vm.mem f.vm.here n).2.1<=((cv f.vm.mem f.vm.here n).1.b.length:Int);rw[q.len];exact p.2,h.dict,h.each,h.hand⟩
theorem KY{k:Nat}{w:FW}(h:FK (k+1) w.f)(n:Int):FK k (cd w n).f:=by
 unfold cd;split
 ·exact ac6 h n
 exact h.down (by omega)
theorem AT:∀(l:List Int) (k:Nat) (w:FW),FK (k+l.length) w.f->FK k (l.foldl cd w).f
 | [],_,_,h=>h
 | x::l,k,w,h=>AT l k _ (KY (by rw[List.length_cons]at h;exact h) x)
theorem Iz{l:List Int}{k:Nat}(hk:k<l.length)(w:FW):(l.take (k+1)).foldl cd w=cd ((l.take k).foldl cd w) (l.getD k 0):=by
 rw[jY l k 0 hk,List.foldl_append];rfl
theorem zn(w:FW)(l:List Int)(hl:l.length<=1000)(h:FK l.length w.f):∀(H:List Ob) (i:Nat),H[i]?=some (.cells (cFw w) 106)->HC prog 213 (.ptr i 0::[sq ap l]) H (.tup []) (H.set i (.cells (cFw (l.foldl cd w)) 106)):=by
 refine zM func213 fun B=>?_
 refine zu3 ?_
 refine Wl ?_
 show W _ _ _ _ _ _ _
 refine fX (fun(k:Nat)=>[(0,.ptr 0 0),(8,sq ap l),(9,i64 l.length),(10,i64 k)]) (fun(k:Nat)=>[.cells (cFw ((l.take k).foldl cd w)) 106]) (fun(k:Nat)=>[]) (fun(k:Nat)=>k<=l.length) (fun(k:Nat)=>l.length-k) (0) (by exact Nat.zero_le _) [] ?_ ?_
 ·exact fc
 intro k hk
 refine zu1 ?_
 refine Ws<|Wi rfl (fun hi1=>?_) (fun hi1=>?_)
 ·have hlt:k<l.length:=by have:=oT hi1;omega
  have e:=Iz hlt w
  have kk:FK 1 ((l.take k).foldl cd w).f:=AT _ _ _ (h.down (by simp;omega))
  have eT:l.foldl cd w=(l.drop k).foldl cd ((l.take k).foldl cd w):=by rw[<-List.foldl_append,List.take_append_drop]
  obtain⟨x,hx⟩:∃x,(l.take k).foldl cd w=x:=⟨_,rfl⟩
  rw[hx]at e kk eT ⊢
  refine Wj<|Ws<|Wl<|z8 ?_
  refine Wv tG rfl rfl rfl (by omega) (iN ap 1 (fun _=>rfl) 0 (by omega)) ?_
  refine zs2 ?_
  refine Ws<|zp5 ?_
  refine zs1 ?_
  refine Wi rfl (fun hi2=>?_) (fun hi2=>?_)
  ·have q:¬x.bad=0:=by simpa using hi2
   refine Wq<|aN rfl rfl ?_ ?_
   ·rfl
   (rw[eT,xH q];rfl)
  have q:x.bad=0:=by simpa using hi2
  refine Wj<|zp5 ?_
  refine z1 ?_
  refine zc rfl func99 ((wI x.f.vm (l.getD k 0) kk.mem kk.here) _) ?_
  refine zy5 ?_
  refine zs1 ?_
  refine zp5 ?_
  refine zs1 ?_
  refine aa rfl ?_
  refine zy4 ?_
  refine zc rfl func93 (lg ⟨{x.f with vm:=(qX x.f.vm (l.getD k 0)).1},x.bad⟩ (qX x.f.vm (l.getD k 0)).2 _ 0 rfl) ?_
  refine Wn<|aa rfl ?_
  refine z1 ?_
  refine jx (H':=[.cells (cFw ((l.take (k+1)).foldl cd w)) 106,.cells (cVm (qX x.f.vm (l.getD k 0)).1) 37]) (by rw[e,TU q,Vb (by exact q)];rfl) ?_
  refine zs1 ?_
  exact⟨k+1,[],(by exact hlt),(by omega),fc⟩
 have hge:l.length<=k:=by have:=oF hi1;omega
 refine bf ?_
 refine aU rfl rfl ?_ ?_
 ·rfl
 (rw[List.take_of_length_le hge];rfl)
def dR(w:FW)(n:Int):FW:=okF {w with f:={w.f with vm:={w.f.vm with mem:=(aF w.f.vm.mem 8 n).1}}} (aF w.f.vm.mem 8 n).2
theorem vr(w:FW)(n:Int)(h:FK 0 w.f):∀(H:List Ob) (i:Nat),H[i]?=some (.cells (cFw w) 106)->HC prog 52 (.ptr i 0::[i64 n]) H (.tup []) (H.set i (.cells (cFw (dR w n)) 106)):=by
 refine zM func52 fun B=>?_
 refine zp5 ?_
 refine zy2 ?_
 refine zc rfl func92 ((jp w.f.vm.mem 8 n h.mem (by unfold ae;omega)) _) ?_
 refine zy5 ?_
 refine zs1 ?_
 refine zp5 ?_
 refine zs2 ?_
 refine aa rfl ?_
 refine zy4 ?_
 refine zc rfl func93 (lg {w with f:={w.f with vm:={w.f.vm with mem:=(aF w.f.vm.mem 8 n).1}}} (aF w.f.vm.mem 8 n).2 _ 0 rfl) ?_
 refine Wn<|aU rfl rfl ?_ ?_
 ·rfl
 rfl
theorem Kx{k:Nat}{w:FW}(h:FK k w.f)(e:Int):FK k (okF w e).f:=by unfold okF;split<;>exact h
theorem Id{k:Nat}{w:FW}(h:FK (k+1) w.f)(n:Int):FK k (dR w n).f:=by
 refine Kx ?_ _
 have q:=cM w.f.vm.mem 8 n
 exact⟨by show(aF w.f.vm.mem 8 n).1.b.length<=_;rw[q.len];exact h.b,by show(aF w.f.vm.mem 8 n).1.old.length+k<=_;have:=q.old;have:=h.old;omega,h.h0,by show w.f.vm.here<=((aF w.f.vm.mem 8 n).1.b.length:Int);rw[q.len];exact h.h1,h.dict,h.each,h.hand⟩
def gz(w:FW)(f:af):af×Int:=if w.bad≠0 then(f,w.bad)else(w.f,0)
def iE(r:af×Int):PV:=ic (bQ r.1) (i64 r.2)
theorem dO(w:FW)(f:af):∀(H:List Ob) (i:Nat),H[i]?=some (.cells (cFw w) 106)->HC prog 212 (.ptr i 0::[bQ f]) H (ic (bQ (gz w f).1) (i64 (gz w f).2)) (H.set i (.cells (cFw w) 106)):=by
 refine zM func212 fun B=>?_
 refine zu3 ?_
 refine Ws<|zp5 ?_
 refine zs1 ?_
 refine Wi rfl (fun hi1=>?_) (fun hi1=>?_)
 ·have q:w.bad≠0:=by simpa using hi1
  refine Ws<|V3.aY [6,0,0,0,0,4,9,0] [0,1,2,3,4,5,6,7] mG rfl (by kernel_rfl) ?_
  refine V3.zU 1 ?_
  iterate 4 refine V3.aO ?_
  refine V3.zU 0 ?_
  refine V3.bT 2 tG rfl rfl rfl rfl rfl trivial rfl ?_
  refine V3.aO ?_
  refine V3.bo ?_
  refine Wq<|aN rfl rfl ?_ ?_
  ·(rw[gz,if_pos q];rfl)
  rfl
 have q:¬w.bad≠0:=by simpa using hi1
 refine Wj<|zp5 ?_
 refine zs1 ?_
 refine Wq<|aN rfl rfl ?_ ?_
 ·(rw[gz,if_neg q];rfl)
 rfl
theorem ka(f:af):ab prog 51 [bQ f] (boo (!decide (f.comp.xt=0))):=by
 refine zY func51 fun B=>?_
 refine zu2 ?_
 refine zu5 ?_
 refine zR ?_
 exact congrArg boo (by simp only[bne];rfl)
def FW.placed(w:FW)(a:bj×Int×Int)(d:List aR):FW:={w with f:={w.f with vm:={w.f.vm with mem:=a.1,here:=a.2.1,dict:=d}}}
def fg(w:FW)(a:bj×Int×Int)(d:List aR×Int):FW:=if (okF (okF w a.2.2) d.2).bad=0 then(okF (okF w a.2.2) d.2).placed a d.1 else okF (okF w a.2.2) d.2
def ea(w:FW)(name:Str)(flags:Int)(l:List Int):FW×Int :=
 (l.foldl cd (fg w (aM w.f.vm.mem w.f.vm.here) (cz w.f.vm.dict name (aM w.f.vm.mem w.f.vm.here).2.1 flags w.f.vm.conf.words)),(aM w.f.vm.mem w.f.vm.here).2.1)
theorem Yw{l:List aR}{name:Str}{xt flags limit:Int}(h:l.length<=2000)(hd:jX l)(h0:0<=flags)(h7:flags<=7):(cz l name xt flags limit).1.length<=2000/\jX (cz l name xt flags limit).1:=by
 unfold cz
 by_cases q1:eW name≠0
 ·rw[if_pos q1];exact⟨h,hd⟩
 rw[if_neg q1]
 by_cases q2:(if 1024<limit then 1024 else limit)<=(l.length:Int)
 ·rw[if_pos q2];exact⟨h,hd⟩
 rw[if_neg q2]
 have hl:(l.length:Int)<1024:=by split at q2<;>omega
 have hn:name.length<=31:=by
  have:eW name=0:=Decidable.not_not.1 q1
  unfold eW at this
  split at this
  ·cases this
  split at this
  ·cases this
  omega
 refine⟨by show(l++[_]).length<=2000;simp;omega,by show(l++[_]).length<=_;simp;omega,fun x hx=>?_⟩
 rcases List.mem_append.1 hx with hx|hx
 ·exact hd.2 x hx
 rw[List.mem_singleton.1 hx];exact⟨by show name.length<=_;omega,h0,h7⟩
theorem B8{k:Nat}{w:FW}(h:FK (k+1) w.f)(name:Str){flags:Int}(h0:0<=flags)(h7:flags<=7):FK k (fg w (aM w.f.vm.mem w.f.vm.here) (cz w.f.vm.dict name (aM w.f.vm.mem w.f.vm.here).2.1 flags w.f.vm.conf.words)).f:=by
 unfold fg
 split
 ·have q:dH w.f.vm.mem (aM w.f.vm.mem w.f.vm.here).1 1:=gS _
  have p:1368<=(aM w.f.vm.mem w.f.vm.here).2.1/\(aM w.f.vm.mem w.f.vm.here).2.1<=w.f.vm.mem.b.length:=iu _ h.h0 h.h1
  have d:=Yw (name:=name) (xt:=(aM w.f.vm.mem w.f.vm.here).2.1) (limit:=w.f.vm.conf.words) h.dict h.each h0 h7
  have e:(okF (okF w (aM w.f.vm.mem w.f.vm.here).2.2) (cz w.f.vm.dict name (aM w.f.vm.mem w.f.vm.here).2.1 flags w.f.vm.conf.words).2).f=w.f:=by unfold okF;(repeat' split)<;>rfl
  unfold FW.placed
  rw[e]
  exact⟨by show(aM w.f.vm.mem w.f.vm.here).1.b.length<=_;rw[q.len];exact h.b,by show(aM w.f.vm.mem w.f.vm.here).1.old.length+k<=_;have:=q.old;have:=h.old;omega,p.1,by show(aM w.f.vm.mem w.f.vm.here).2.1<=((aM w.f.vm.mem w.f.vm.here).1.b.length:Int);rw[q.len];exact p.2,d.1,d.2,h.hand⟩
 exact Kx (Kx (h.down (by omega)) _) _
theorem Xs{k:Nat}{w:FW}{name:Str}{flags:Int}{l:List Int}(h:FK (k+l.length+1) w.f)(h0:0<=flags)(h7:flags<=7):FK k (ea w name flags l).1.f:=AT l k _ (B8 h name h0 h7)
theorem DN(w:FW)(name:Str)(flags:Int)(l:List Int)(hn:name.length<=1000000)(h0:0<=flags)(h7:flags<=7)(hl:l.length<=1000)(h:FK (l.length+1) w.f):
  ∀(H:List Ob) (i:Nat),H[i]?=some (.cells (cFw w) 106)->HC prog 235 (.ptr i 0::[str name,i64 flags,sq ap l]) H (i64 (ea w name flags l).2) (H.set i (.cells (cFw (ea w name flags l).1) 106)):=by
 obtain⟨a,ha⟩:∃a,aM w.f.vm.mem w.f.vm.here=a:=⟨_,rfl⟩
 obtain⟨d,hd⟩:∃d,cz w.f.vm.dict name a.2.1 flags w.f.vm.conf.words=d:=⟨_,rfl⟩
 have p1:=sg w.f.vm.mem w.f.vm.here h.mem h.here
 have p2:=O3 w.f.vm.dict name a.2.1 flags w.f.vm.conf.words (by have:=h.dict;omega) hn h0 h7
 have kP:=B8 (k:=l.length) h name h0 h7
 have hW:ea w name flags l=(l.foldl cd (fg w a d),a.2.1):=by unfold ea;rw[ha,hd]
 rw[ha]at p1 kP
 rw[hd]at p2 kP
 rw[hW]
 have e1:(okF w a.2.2).f=w.f:=by unfold okF;split<;>rfl
 obtain⟨w1,hw1⟩:∃w1,okF w a.2.2=w1:=⟨_,rfl⟩
 have q1:=lg w a.2.2
 rw[hw1]at q1 e1
 rw[<-e1]at p2
 have e2:(okF w1 d.2).f=w1.f:=by unfold okF;split<;>rfl
 obtain⟨w2,hw2⟩:∃w2,okF w1 d.2=w2:=⟨_,rfl⟩
 have q2:=lg w1 d.2
 rw[hw2]at q2 e2
 have eP:fg w a d=if w2.bad=0 then w2.placed a d.1 else w2:=by unfold fg;rw[hw1,hw2]
 refine zM func235 fun B=>?_
 refine zu1 ?_
 refine Ws<|V3.aY [0,0,0,0,0,1,0,0,0,0,0,1,0,0,0,0,0,2,3,0,0] [0,1,2,3,4,5,6,7,8,9,10,11,12,13,14,15,16,17,18,19,20] mG rfl (by kernel_rfl) ?_
 iterate 5 refine V3.aO ?_
 refine V3.iG ?_
 iterate 5 refine V3.aO ?_
 refine V3.iG ?_
 refine V3.cQ rfl rfl rfl rfl (fun _=>dC rfl func220 rfl rfl ((p1) _)) ?_
 iterate 4 refine V3.aO ?_
 refine V3.sw tG rfl rfl rfl rfl rfl trivial rfl ?_
 refine V3.ox tG rfl rfl rfl rfl rfl trivial ?_
 iterate 2 refine V3.aO ?_
 refine V3.bo ?_
 refine zp4 ?_
 refine zc rfl func93 (q1 _ 0 rfl) ?_
 refine Wn<|Ws<|V3.aY [0,0,0,0,0,1,0,0,0,0,0,0,0,0,0,1,0,0,0,0,0,0] [0,1,2,3,4,5,6,7,8,9,10,11,12,13,14,15,16,17,18,19,20,21] mG rfl (by kernel_rfl) ?_
 iterate 5 refine V3.aO ?_
 refine V3.iG ?_
 iterate 9 refine V3.aO ?_
 refine V3.iG ?_
 refine V3.cQ rfl rfl rfl rfl (fun _=>dC rfl func270 rfl rfl ((p2) _)) ?_
 iterate 5 refine V3.aO ?_
 refine V3.bo ?_
 refine Ws<|zp4 ?_
 refine zc rfl func93 (q2 _ 0 rfl) ?_
 refine Wn<|Wi rfl (fun hi1=>?_) (fun hi1=>?_)
 ·have q:w2.bad=0:=oT hi1
  rw[if_pos q]at eP
  refine aa rfl ?_
  refine zy5 ?_
  refine zy5 ?_
  refine zy5 ?_
  refine zy5 ?_
  refine zs1 ?_
  refine zp1 ?_
  (refine jx (H':=[.cells (cFw (fg w a d)) 106,.cells (Mu a.1) 28]) (by rw[eP];rfl) ?_)
  refine z1 ?_
  refine zc rfl func213 ((zn (fg w a d) l hl kP) _ _ rfl) ?_
  refine Wn<|zu2 ?_
  refine Wq<|aN rfl rfl ?_ ?_
  ·rfl
  rfl
 have q:¬w2.bad=0:=oF hi1
 rw[if_neg q]at eP
 refine Wj<|zp1 ?_
 (refine jx (H':=[.cells (cFw (fg w a d)) 106,.cells (Mu a.1) 28]) (by rw[eP];rfl) ?_)
 refine z1 ?_
 refine zc rfl func213 ((zn (fg w a d) l hl kP) _ _ rfl) ?_
 refine Wn<|zu2 ?_
 refine Wq<|aN rfl rfl ?_ ?_
 ·rfl
 rfl
def aJ(f:af):FW:=⟨f,if f.comp.xt=0 then 0 else -29⟩
theorem S8(f:af):HC prog 217 [bQ f] [] (.ptr 1 0) [.cells (jB f) 42,.cells (cFw (aJ f)) 106]:=by
 refine mi tG (rs:=[.tmp 2]) func217 rfl rfl rfl (fun B=>?_)
 refine zu2 ?_
 refine zu4 ?_
 refine Ws<|zp1 ?_
 refine zc rfl func51 ((ka f) _) ?_
 refine Wn<|Wi rfl (fun hi1=>?_) (fun hi1=>?_)
 ·have q:¬f.comp.xt=0:=by simpa using hi1
  refine aa rfl ?_
  refine zs5 ?_
  refine zu2 ?_
  refine Wq<|Af rfl ?_ ?_
  ·rfl
  (unfold aJ;rw[if_neg q];rfl)
 have q:f.comp.xt=0:=by simpa using hi1
 refine Wj<|zu2 ?_
 refine Wq<|Af rfl ?_ ?_
 ·rfl
 (unfold aJ;rw[if_pos q];rfl)
theorem nq(f:af):SO prog 217 [bQ f] (fun i=>.ptr i 0) (cFw (aJ f)) 106 :=
 xR 1 (by simp) (by simp) (.inr fun _=>rfl) rfl (S8 f)
def fI(f:af)(on:Bool)(fuel:Int):FW :=
 if on=false then aJ f else if fuel<0\/1048576<fuel then okF (aJ f) (-24)else if 64<=f.vm.hand.length then okF (aJ f) (-8)else aJ f
def vo(f:af)(w:FW)(name:Str)(on:Bool)(fuel:Int):FW :=
 {dR (ea w name 2 [256]).1 (-1)with f:={(dR (ea w name 2 [256]).1 (-1)).f with comp:=⟨(ea w name 2 [256]).2,[],f.vm.here,f.vm.dict.length,f.vm.last,on,fuel⟩}}
def gY(f:af)(name:Str)(on:Bool)(fuel:Int):af×Int :=
 if (fI f on fuel).bad≠0 then(f,(fI f on fuel).bad)else gz (vo f (fI f on fuel) name on (if on=true then fuel else 0)) f
@[simp] theorem Yj (r : af × Int) : aS (iE r) := by unfold iE; simp
def zFc:List PV:=[i64 0,i64 0,i64 0,i64 0,i64 0,.seq 0 [] .clip,.seq 0 [] .clip,i64 0,.seq 0 [] .clip,.seq 0 [] .clip,.seq 0 [] .clip,.seq 0 [] .clip,i64 0,.seq 0 [] .clip,.seq 0 [] .clip,boo false,.seq 0 [] .clip,i64 0,i64 0,i64 0,i64 0,i64 0,.seq 0 [] .clip,i64 0,.seq 0 [] .clip,i64 0,i64 0,i64 0,boo false,i64 0]
theorem yU{f:af}{on:Bool}{fuel:Int}(h:(fI f on fuel).bad=0):f.comp.xt=0/\fI f on fuel=aJ f/\(on=true->¬(fuel<0\/1048576<fuel)/\¬64<=f.vm.hand.length):=by
 unfold fI at h ⊢
 have hx:(aJ f).bad=0->f.comp.xt=0:=fun q=>by unfold aJ at q;split at q;assumption;cases q
 have hb:∀e:Int,e≠0->(okF (aJ f) e).bad≠0:=fun e he q=>by unfold okF at q;split at q;exact he q;rename_i z;exact z q
 by_cases c1:on=false
 ·rw[if_pos c1]at h ⊢;exact⟨hx h,rfl,fun k=>by rw[c1]at k;cases k⟩
 rw[if_neg c1]at h ⊢
 by_cases c2:fuel<0\/1048576<fuel
 ·rw[if_pos c2]at h;exact absurd h (hb _ (by decide))
 rw[if_neg c2]at h ⊢
 by_cases c3:64<=f.vm.hand.length
 ·rw[if_pos c3]at h;exact absurd h (hb _ (by decide))
 rw[if_neg c3]at h ⊢;exact⟨hx h,rfl,fun _=>⟨c2,c3⟩⟩
theorem Qn(f:af)(name:Str)(on:Bool)(fuel:Int)(hB:(fI f on fuel).bad≠0):ab prog 210 [bQ f,str name,boo on,i64 fuel] (iE (f,(fI f on fuel).bad)):=by
 refine zY func210 fun B=>?_
 refine zu3 ?_
 refine zp1 ?_
 refine zc rfl func217 (nq f _) ?_
 refine Wa 13 rfl ((show _=PV.ptr 2 0 from rfl)) ?_
 refine zs1 ?_
 refine Ws<|Wl<|zu3 ?_
 refine Wi rfl (fun hi1=>?_) (fun hi1=>?_)
 ·have eC:fI f on fuel=aJ f:=by unfold fI;rw[if_pos (by simpa using hi1)]
  refine aa rfl ?_
  refine zs1 ?_
  refine Ws<|zp5 ?_
  refine zs1 ?_
  refine Wt rfl (by rw[eC]at hB;(simpa using hB)) ?_
  refine zp2 ?_
  refine zc rfl func212 ((dO _ f) _ _ rfl) ?_
  refine zs4 ?_
  refine zR ?_
  rw[eC]at hB ⊢;unfold gz;rw[if_pos hB];rfl
 have q1:¬on=false:=by simpa using hi1
 refine zp3 ?_
 refine Wb 20 rfl (fun hg1=>?_) (fun hg1=>?_)
 ·have q2:fuel<0\/1048576<fuel:=.inl (oT hg1)
  have eC:fI f on fuel=okF (aJ f) (-24):=by unfold fI;rw[if_neg q1,if_pos q2]
  iterate 2 refine z6 ?_
  refine zs2 ?_
  refine Wt rfl rfl ?_
  refine aa rfl ?_
  refine zy3 ?_
  refine zc rfl func93 (lg (aJ f) (-24) _ 2 rfl) ?_
  refine Wn<|Ws<|zp5 ?_
  refine zs1 ?_
  refine Wt rfl (by rw[eC]at hB;(simpa using hB)) ?_
  refine zp2 ?_
  refine zc rfl func212 ((dO _ f) _ _ rfl) ?_
  refine zs4 ?_
  refine zR ?_
  rw[eC]at hB ⊢;unfold gz;rw[if_pos hB];rfl
 refine zs4 ?_
 refine Wi rfl (fun hi3=>?_) (fun hi3=>?_)
 ·have q2:fuel<0\/1048576<fuel:=by(try simp only[dnL]at *);omega
  have eC:fI f on fuel=okF (aJ f) (-24):=by unfold fI;rw[if_neg q1,if_pos q2]
  refine aa rfl ?_
  refine zy3 ?_
  refine zc rfl func93 (lg (aJ f) (-24) _ 2 rfl) ?_
  refine Wn<|Ws<|zp5 ?_
  refine zs1 ?_
  refine Wt rfl (by rw[eC]at hB;(simpa using hB)) ?_
  refine zp2 ?_
  refine zc rfl func212 ((dO _ f) _ _ rfl) ?_
  refine zs4 ?_
  refine zR ?_
  rw[eC]at hB ⊢;unfold gz;rw[if_pos hB];rfl
 have q2:¬(fuel<0\/1048576<fuel):=by(try simp only[dnL]at *);omega
 refine zp5 ?_
 refine zs1 ?_
 refine Wi rfl (fun hi4=>?_) (fun hi4=>?_)
 ·have q3:64<=f.vm.hand.length:=by have:=oT hi4;omega
  have eC:fI f on fuel=okF (aJ f) (-8):=by unfold fI;rw[if_neg q1,if_neg q2,if_pos q3]
  refine aa rfl ?_
  refine zy3 ?_
  refine zc rfl func93 (lg (aJ f) (-8) _ 2 rfl) ?_
  refine Wn<|Ws<|zp5 ?_
  refine zs1 ?_
  refine Wt rfl (by rw[eC]at hB;(simpa using hB)) ?_
  refine zp2 ?_
  refine zc rfl func212 ((dO _ f) _ _ rfl) ?_
  refine zs4 ?_
  refine zR ?_
  rw[eC]at hB ⊢;unfold gz;rw[if_pos hB];rfl
 have q3:¬64<=f.vm.hand.length:=by have:=oF hi4;omega
 have eC:fI f on fuel=aJ f:=by unfold fI;rw[if_neg q1,if_neg q2,if_neg q3]
 refine Wj<|Ws<|zp5 ?_
 refine zs1 ?_
 refine Wt rfl (by rw[eC]at hB;(simpa using hB)) ?_
 refine zp2 ?_
 refine zc rfl func212 ((dO _ f) _ _ rfl) ?_
 refine zs4 ?_
 refine zR ?_
 rw[eC]at hB ⊢;unfold gz;rw[if_pos hB];rfl
theorem Ng(f:af)(name:Str)(on:Bool)(fuel:Int)(hn:name.length<=1000000)(h:FK 3 f)(hB:(fI f on fuel).bad=0):ab prog 210 [bQ f,str name,boo on,i64 fuel] (iE (gz (vo f (aJ f) name on (if on=true then fuel else 0)) f)):=by
 obtain⟨hx,hc,ho⟩:=yU hB
 have kW:FK 3 (aJ f).f:=h
 have kS:FK 1 (ea (aJ f) name 2 [256]).1.f:=Xs (k:=1) kW (by decide) (by decide)
 have hb:(aJ f).bad=0:=by unfold aJ;rw[if_pos hx]
 refine zY func210 fun B=>?_
 refine zu3 ?_
 refine zp1 ?_
 refine zc rfl func217 (nq f _) ?_
 refine Wa 13 rfl ((show _=PV.ptr 2 0 from rfl)) ?_
 refine zs1 ?_
 refine Ws<|Wl<|zu3 ?_
 refine Wi rfl (fun hi1=>?_) (fun hi1=>?_)
 ·have q1:on=false:=by simpa using hi1
  have eF:(if on=true then fuel else 0)=0:=by rw[q1];rfl
  refine aa rfl ?_
  refine zs1 ?_
  refine Ws<|zp5 ?_
  refine zs1 ?_
  refine Wf rfl (by rw[hb];rfl) ?_
  refine Wj<|zp3 ?_
  refine Wa 51 rfl ((show _=PV.seq (List.length [(256:Int)]) (List.flatMap ap [(256:Int)]) .clip from rfl)) ?_
  refine zc rfl func235 ((DN (aJ f) name 2 [256] hn (by decide) (by decide) (by decide) (kW.down (by decide))) _ _ rfl) ?_
  refine zs1 ?_
  refine zp1 ?_
  refine zc rfl func52 ((vr _ (-1) (kS.down (by decide))) _ _ rfl) ?_
  refine Wn<|zp5 ?_
  refine zy5 ?_
  refine zy5 ?_
  refine zs4 ?_
  refine zp1 ?_
  refine u4 2 rfl rfl (ys:=cFw (vo f (aJ f) name on (if on=true then fuel else 0))) (by unfold vo;rw[eF];rfl) rfl ?_
  refine z1 ?_
  refine zc rfl func212 ((dO (vo f (aJ f) name on (if on=true then fuel else 0)) f) _ _ rfl) ?_
  refine zs4 ?_
  refine zR ?_
  rfl
 have q1:on=true:=by simpa using hi1
 have eF:(if on=true then fuel else 0)=fuel:=by rw[if_pos q1]
 have ho1:=ho q1
 refine zp3 ?_
 refine px 20 rfl (by exact decide_eq_false (fun q=>ho1.1 (.inl q))) ?_
 refine zs4 ?_
 refine Wf rfl (by exact decide_eq_false (fun q=>ho1.1 (.inr q))) ?_
 refine zp5 ?_
 refine zs1 ?_
 refine Wf rfl (by exact decide_eq_false (fun q=>ho1.2 (by omega))) ?_
 refine Wj<|Ws<|zp5 ?_
 refine zs1 ?_
 refine Wf rfl (by rw[hb];rfl) ?_
 refine Wj<|zp3 ?_
 refine Wa 51 rfl ((show _=PV.seq (List.length [(256:Int)]) (List.flatMap ap [(256:Int)]) .clip from rfl)) ?_
 refine zc rfl func235 ((DN (aJ f) name 2 [256] hn (by decide) (by decide) (by decide) (kW.down (by decide))) _ _ rfl) ?_
 refine zs1 ?_
 refine zp1 ?_
 refine zc rfl func52 ((vr _ (-1) (kS.down (by decide))) _ _ rfl) ?_
 refine Wn<|zp5 ?_
 refine zy5 ?_
 refine zy5 ?_
 refine zs4 ?_
 refine zp1 ?_
 refine u4 2 rfl rfl (ys:=cFw (vo f (aJ f) name on (if on=true then fuel else 0))) (by unfold vo;rw[eF];rfl) rfl ?_
 refine z1 ?_
 refine zc rfl func212 ((dO (vo f (aJ f) name on (if on=true then fuel else 0)) f) _ _ rfl) ?_
 refine zs4 ?_
 refine zR ?_
 rfl
theorem IX(f:af)(name:Str)(on:Bool)(fuel:Int)(hn:name.length<=1000000)(h:FK 3 f):ab prog 210 [bQ f,str name,boo on,i64 fuel] (iE (gY f name on fuel)):=by
 by_cases hB:(fI f on fuel).bad=0
 ·have:=Ng f name on fuel hn h hB
  unfold gY
  rw[if_neg (fun q=>q hB),(yU hB).2.1];exact this
 have:=Qn f name on fuel hB
 unfold gY
 rw[if_pos hB];exact this
def i4(r:FW×Int)(last:Bool):FW:=if last=true then {r.1 with f:={r.1.f with vm:={r.1.f.vm with last:=r.2}}} else r.1
def cI(f:af)(name:Str)(last:Bool)(l:List Int):af×Int:=if f.comp.xt≠0 then(f,-29)else gz (i4 (ea (aJ f) name 0 l) last) f
theorem mV(f:af)(name:Str)(last:Bool)(l:List Int)(hn:name.length<=1000000)(hl:l.length<=1000)(h:FK (l.length+1) f):ab prog 195 [bQ f,str name,boo last,sq ap l] (iE (cI f name last l)):=by
 refine zY func195 fun B=>?_
 refine zu3 ?_
 refine zp1 ?_
 refine zc rfl func217 (nq f _) ?_
 refine Wa 13 rfl ((show _=PV.ptr 2 0 from rfl)) ?_
 refine zs1 ?_
 refine Ws<|zp5 ?_
 refine zs1 ?_
 refine Wi rfl (fun hi1=>?_) (fun hi1=>?_)
 ·have q:¬(aJ f).bad=0:=by simpa using hi1
  have qx:f.comp.xt≠0:=fun z=>q (by unfold aJ;rw[if_pos z])
  refine zp2 ?_
  refine zc rfl func212 ((dO (aJ f) f) _ _ rfl) ?_
  refine zs4 ?_
  refine zR ?_
  (rw[cI,if_pos qx];unfold gz;rw[if_pos q];unfold aJ;rw[if_neg qx];rfl)
 have q:(aJ f).bad=0:=by simpa using hi1
 have qx:¬f.comp.xt≠0:=fun z=>by unfold aJ at q;rw[if_neg z]at q;cases q
 refine Wj<|zp3 ?_
 refine zc rfl func235 ((DN (aJ f) name 0 l hn (by decide) (by decide) hl h) _ _ rfl) ?_
 refine zs1 ?_
 refine Ws<|zu1 ?_
 refine Wi rfl (fun hi2=>?_) (fun hi2=>?_)
 ·refine aa rfl ?_
  refine zy5 ?_
  refine zs2 ?_
  refine zp2 ?_
  (refine jx (H':=[.cells (jB f) 42,.cells zFc 42,.cells (cFw (i4 (ea (aJ f) name 0 l) last)) 106]) (by unfold i4;((rw[if_pos hi2];rfl))) ?_)
  refine zc rfl func212 ((dO (i4 (ea (aJ f) name 0 l) last) f) _ _ rfl) ?_
  refine zs4 ?_
  refine zR ?_
  (rw[cI,if_neg qx];rfl)
 refine Wj<|zp2 ?_
 (refine jx (H':=[.cells (jB f) 42,.cells zFc 42,.cells (cFw (i4 (ea (aJ f) name 0 l) last)) 106]) (by unfold i4;((rw[if_neg (by rw[hi2];decide)];rfl))) ?_)
 refine zc rfl func212 ((dO (i4 (ea (aJ f) name 0 l) last) f) _ _ rfl) ?_
 refine zs4 ?_
 refine zR ?_
 (rw[cI,if_neg qx];rfl)
theorem Ia(f:af)(name:Str)(hn:name.length<=1000000)(h:FK 3 f):ab prog 159 [bQ f,str name] (iE (cI f name true [257,0])):=by
 refine zY func159 fun B=>?_
 refine zu3 ?_
 refine zp3 ?_
 refine Wa 8 rfl ((show _=PV.seq (List.length [(257:Int),0]) (List.flatMap ap [(257:Int),0]) .clip from rfl)) ?_
 refine zc rfl func195 ((mV f name true [257,0] hn (by decide) h) _) ?_
 refine zs4 ?_
 refine zR ?_
 rfl
theorem Bm(f:af)(name:Str)(n:Int)(hn:name.length<=1000000)(h:FK 4 f):ab prog 181 [bQ f,str name,i64 n] (iE (cI f name false [258,0,n])):=by
 refine zY func181 fun B=>?_
 refine zu3 ?_
 refine zp4 ?_
 refine Wa 11 rfl ((show _=PV.seq (List.length [(258:Int),0,n]) (List.flatMap ap [(258:Int),0,n]) .clip from rfl)) ?_
 refine zc rfl func195 ((mV f name false [258,0,n] hn (by simp) h) _) ?_
 refine zs4 ?_
 refine zR ?_
 rfl
def aD4(w:FW)(c:xC):FW:={w with f:={vm:={w.f.vm with dict:=(iH w.f.vm.dict c.dict).1,here:=c.here,last:=c.last},comp:=kj}}
def jP(f:af):af:=if f.comp.xt=0 then f else(aD4 (dR ⟨f,0⟩ 0) f.comp).f
theorem MJ(f:af)(h:FK 1 f):ab prog 26 [bQ f] (bQ (jP f)):=by
 have kS:FK 0 (dR ⟨f,0⟩ 0).f:=Id (w:=⟨f,0⟩) h 0
 refine zY func26 fun B=>?_
 refine zu2 ?_
 refine Ws<|zp1 ?_
 refine zc rfl func51 ((ka f) _) ?_
 refine zs1 ?_
 refine Wi rfl (fun hi1=>?_) (fun hi1=>?_)
 ·have q:f.comp.xt=0:=by simpa using hi1
  refine zu2 ?_
  refine zR ?_
  (rw[jP,if_pos q];rfl)
 have q:¬f.comp.xt=0:=by simpa using hi1
 refine Wj<|zu4 ?_
 refine zp1 ?_
 refine zc rfl func52 ((vr ⟨f,0⟩ 0 (h.down (by decide))) _ _ rfl) ?_
 refine Wn<|Ws<|V3.aY [0,0,0,0,0,0,8,0,0,4,0,0,0,0,0,0,0,0,9] [0,1,2,3,4,5,6,7,8,9,10,11,12,13,14,15,16,17,18] mG rfl (by kernel_rfl) ?_
 iterate 6 refine V3.aO ?_
 refine V3.zU 2 ?_
 iterate 2 refine V3.aO ?_
 refine V3.zU 0 ?_
 refine V3.cQ rfl rfl rfl rfl (fun _=>dC rfl func53 rfl rfl ((Ib (dR ⟨f,0⟩ 0).f.vm.dict f.comp.dict (by have:=kS.dict;omega)) _)) ?_
 iterate 7 refine V3.aO ?_
 refine V3.bT 2 tG rfl rfl rfl rfl rfl trivial rfl ?_
 refine V3.bo ?_
 refine Ws<|V3.aY [0,0,0,0,4,0,0,4,0,0,0,0,9,0,0,0,0,9] [0,1,2,3,4,5,6,7,8,9,10,11,12,13,14,15,16,17] mG rfl (by kernel_rfl) ?_
 iterate 4 refine V3.aO ?_
 refine V3.zU 0 ?_
 iterate 2 refine V3.aO ?_
 refine V3.zU 0 ?_
 iterate 4 refine V3.aO ?_
 refine V3.bT 2 tG rfl rfl rfl rfl rfl trivial rfl ?_
 iterate 4 refine V3.aO ?_
 refine V3.bT 2 tG rfl rfl rfl rfl rfl trivial rfl ?_
 refine V3.bo ?_
 refine zp5 ?_
 refine zs1 ?_
 refine zu5 ?_
 refine zR ?_
 (rw[jP,if_neg q];rfl)
def jD(n:Int):Int:=if n/2%2=1 then n-2 else n
theorem VD{f:Int}(h0:0<=f)(h7:f<=7):IntKind.i64.wrap ↑(BitVec.ofInt IntKind.i64.bits f &&& ~~~BitVec.ofInt IntKind.i64.bits 2).toNat=jD f:=by
 rcases qN h0 h7 with rfl|rfl|rfl|rfl|rfl|rfl|rfl|rfl<;>decide
theorem L0{f:Int}(h0:0<=f)(h7:f<=7):0<=jD f/\jD f<=7:=by
 rcases qN h0 h7 with rfl|rfl|rfl|rfl|rfl|rfl|rfl|rfl<;>decide
def mQ(w:FW)(d:List aR×Int):FW:={okF w d.2 with f:={(okF w d.2).f with vm:={(okF w d.2).f.vm with dict:=d.1}}}
def s5(w:FW)(c:xC):List aR×Int:=cE w.f.vm.dict c.dict (jD (w.f.vm.dict.getD c.dict.toNat default).flags)
def iJ(w:FW)(c:xC):FW:=if c.on=true then {w with f:={w.f with vm:={w.f.vm with hand:=w.f.vm.hand++[⟨c.xt,c.fuel,0,false⟩]}}} else w
def yg(f:af):FW:=iJ (dR (mQ (cd ⟨f,0⟩ 32) (s5 (cd ⟨f,0⟩ 32) f.comp)) 0) f.comp
def mX(f:af):Int:=if f.comp.xt=0 then -14 else if 0<f.comp.cf.length then -22 else if f.comp.on=true/\64<=f.vm.hand.length then -8 else 0
def mY(f:af):af×Int:=if mX f≠0 then(f,mX f)else gz {yg f with f:={(yg f).f with comp:=kj}} f
theorem Vk{l:List aR}(hl:l.length<=2000)(h:jX l){a n:Int}(h0:0<=n)(h7:n<=7):(cE l a n).1.length<=2000/\jX (cE l a n).1:=by
 unfold cE
 split
 ·exact⟨hl,h⟩
 rename_i q
 have hlt:a.toNat<l.length:=by omega
 refine⟨by show(l.set _ _).length<=_;rw[List.length_set];exact hl,by show(l.set _ _).length<=_;rw[List.length_set];exact h.1,fun x hx=>?_⟩
 rcases List.mem_or_eq_of_mem_set hx with hx|hx
 ·exact h.2 x hx
 subst hx;exact⟨(h.get hlt).1,h0,h7⟩
theorem WQ{k:Nat}{w:FW}(h:FK k w.f){d:List aR×Int}(hd:d.1.length<=2000/\jX d.1):FK k (mQ w d).f:=by
 have q:=Kx h d.2
 exact⟨q.b,q.old,q.h0,q.h1,hd.1,hd.2,q.hand⟩
theorem Z7(f:af)(hE:mX f≠0):ab prog 178 [bQ f] (iE (f,mX f)):=by
 refine zY func178 fun B=>?_
 refine zu3 ?_
 refine zu4 ?_
 refine zu4 ?_
 refine Ws<|Wl<|zp1 ?_
 refine zc rfl func51 ((ka f) _) ?_
 refine zs2 ?_
 refine Wi rfl (fun hi1=>?_) (fun hi1=>?_)
 ·have q:f.comp.xt=0:=by simpa using hi1
  have eE:mX f = -14:=by unfold mX;rw[if_pos q]
  refine aa rfl ?_
  refine zy3 ?_
  refine zc rfl func93 (lg ⟨f,0⟩ (-14) _ 2 rfl) ?_
  refine Wn<|Ws<|zp5 ?_
  refine zs1 ?_
  refine Wt rfl (by rfl) ?_
  refine zp2 ?_
  refine zc rfl func212 ((dO _ f) _ _ rfl) ?_
  refine zs4 ?_
  refine zR ?_
  rw[eE];rfl
 have q:¬f.comp.xt=0:=by simpa using hi1
 refine zu5 ?_
 refine Wi rfl (fun hi3=>?_) (fun hi3=>?_)
 ·have q3:0<f.comp.cf.length:=by have:=oT hi3;omega
  have eE:mX f = -22:=by unfold mX;rw[if_neg q,if_pos q3]
  refine aa rfl ?_
  refine zy3 ?_
  refine zc rfl func93 (lg ⟨f,0⟩ (-22) _ 2 rfl) ?_
  refine Wn<|Ws<|zp5 ?_
  refine zs1 ?_
  refine Wt rfl (by rfl) ?_
  refine zp2 ?_
  refine zc rfl func212 ((dO _ f) _ _ rfl) ?_
  refine zs4 ?_
  refine zR ?_
  rw[eE];rfl
 have q3:¬0<f.comp.cf.length:=by have:=oF hi3;omega
 refine zp3 ?_
 refine Wb 33 rfl (fun hg1=>?_) (fun hg1=>?_)
 ·refine zy5 ?_
  refine zs2 ?_
  refine Wi rfl (fun hi4=>?_) (fun hi4=>?_)
  ·have q4:f.comp.on=true/\64<=f.vm.hand.length:=⟨hg1,by have:=oT hi4;omega⟩
   have eE:mX f = -8:=by unfold mX;rw[if_neg q,if_neg q3,if_pos q4]
   refine aa rfl ?_
   refine zy3 ?_
   refine zc rfl func93 (lg ⟨f,0⟩ (-8) _ 2 rfl) ?_
   refine Wn<|Ws<|zp5 ?_
   refine zs1 ?_
   refine Wt rfl (by rfl) ?_
   refine zp2 ?_
   refine zc rfl func212 ((dO _ f) _ _ rfl) ?_
   refine zs4 ?_
   refine zR ?_
   rw[eE];rfl
  exact absurd (by unfold mX;rw[if_neg q,if_neg q3,if_neg (fun z=>by have:=oF hi4;have:=z.2;omega)]) hE
 exact absurd (by unfold mX;rw[if_neg q,if_neg q3,if_neg (fun z=>by rw[hg1]at z;cases z.1)]) hE
theorem UD(f:af)(h:FK 2 f)(hd:0<=f.comp.dict)(hd1:f.comp.dict<f.vm.dict.length)(hE:mX f=0):ab prog 178 [bQ f] (iE (gz {yg f with f:={(yg f).f with comp:=kj}} f)):=by
 have hx:¬f.comp.xt=0:=fun q=>by unfold mX at hE;rw[if_pos q]at hE;cases hE
 have hc:¬0<f.comp.cf.length:=fun q=>by unfold mX at hE;rw[if_neg hx,if_pos q]at hE;cases hE
 have ho:¬(f.comp.on=true/\64<=f.vm.hand.length):=fun q=>by unfold mX at hE;rw[if_neg hx,if_neg hc,if_pos q]at hE;cases hE
 have pC:=zn ⟨f,0⟩ [32] (by decide) (h.down (by decide))
 have k1:FK 1 (cd ⟨f,0⟩ 32).f:=KY (w:=⟨f,0⟩) h 32
 have e1:(cd ⟨f,0⟩ 32).f.vm.dict=f.vm.dict:=rfl
 unfold yg
 change ab prog 178 [bQ f] _ at *
 rw[show([32]:List Int).foldl cd ⟨f,0⟩=cd ⟨f,0⟩ 32 from rfl]at pC
 obtain⟨w1,hw1⟩:∃w1,cd ⟨f,0⟩ 32=w1:=⟨_,rfl⟩
 rw[hw1]at pC k1 e1 ⊢
 have hk1:f.comp.dict.toNat<w1.f.vm.dict.length:=by rw[e1];omega
 have fl:=k1.each.get hk1
 have u7:=L0 fl.2.1 fl.2.2
 have eN:=VD fl.2.1 fl.2.2
 have pF:=C8 w1.f.vm.dict f.comp.dict (jD (w1.f.vm.dict.getD f.comp.dict.toNat default).flags) (by have:=k1.dict;omega) u7.1 u7.2
 have kF:=WQ k1 (Vk k1.dict k1.each (a:=f.comp.dict) u7.1 u7.2)
 unfold s5
 obtain⟨d,hd'⟩:∃d,cE w1.f.vm.dict f.comp.dict (jD (w1.f.vm.dict.getD f.comp.dict.toNat default).flags)=d:=⟨_,rfl⟩
 rw[hd']at pF kF ⊢
 have pS:=vr (mQ w1 d) 0 (kF.down (by decide))
 have kS:=Id kF 0
 obtain⟨w3,hw3⟩:∃w3,dR (mQ w1 d) 0=w3:=⟨_,rfl⟩
 rw[hw3]at pS kS ⊢
 have lh:=kS.hand
 refine zY func178 fun B=>?_
 refine zu3 ?_
 refine zu4 ?_
 refine zu4 ?_
 refine Ws<|Wl<|zp1 ?_
 refine zc rfl func51 ((ka f) _) ?_
 refine zs2 ?_
 refine Wf rfl (by exact by simpa using hx) ?_
 refine zu5 ?_
 refine Wf rfl (by exact decide_eq_false (by omega)) ?_
 refine zp3 ?_
 refine Wb 33 rfl (fun hg1=>?_) (fun hg1=>?_)
 ·refine zy5 ?_
  refine zs2 ?_
  refine Wf rfl (by exact decide_eq_false (fun z=>ho ⟨hg1,by omega⟩)) ?_
  refine Wj<|Ws<|zp5 ?_
  refine zs1 ?_
  refine Wf rfl (by rfl) ?_
  refine Wj<|zp2 ?_
  refine Wa 56 rfl ((show _=PV.seq (List.length [(32:Int)]) (List.flatMap ap [(32:Int)]) .clip from rfl)) ?_
  refine zc rfl func213 ((pC) _ _ rfl) ?_
  refine Wn<|Ws<|V3.aY [0,0,0,0,0,1,0,1,0,0,0,0,0,1,0,1,0,0,1,0,0,0,0,0,0,0] [0,1,2,3,4,5,6,7,8,9,10,11,12,13,14,15,16,17,18,19,20,21,22,23,24,25] mG rfl (by kernel_rfl) ?_
  iterate 5 refine V3.aO ?_
  refine V3.iG ?_
  refine V3.aO ?_
  refine V3.iG ?_
  iterate 5 refine V3.aO ?_
  refine V3.iG ?_
  refine V3.aO ?_
  refine V3.iG ?_
  refine V3.tH tG rfl rfl rfl rfl (fun _=>rfl) (by omega) (iR cS 3 (fun _=>rfl) default (by omega)) ?_
  refine V3.aO ?_
  refine V3.iG ?_
  refine V3.aO ?_
  refine V3.jm 78 rfl (congrArg (fun z=>PV.val (Value.int .i64 z)) eN) ?_
  refine V3.cQ rfl rfl rfl rfl (fun _=>dC rfl func214 rfl rfl ((pF) _)) ?_
  iterate 5 refine V3.aO ?_
  refine V3.bo ?_
  refine zp4 ?_
  refine zc rfl func93 (lg w1 d.2 _ 2 rfl) ?_
  refine Wn<|zp5 ?_
  refine zs2 ?_
  refine zp1 ?_
  refine zc rfl func52 ((pS) _ _ rfl) ?_
  refine Wn<|Ws<|zu2 ?_
  refine Wi rfl (fun hi5=>?_) (fun hi5=>?_)
  ·refine V3.aY [0,0,0,0,0,0,8,0,0,10,0,10,0,0,0,0,0,0,0,9] [0,1,2,3,4,5,6,7,8,9,10,11,12,13,14,15,16,17,18,19] mG rfl (by kernel_rfl) ?_
   iterate 6 refine V3.aO ?_
   refine V3.zU 2 ?_
   refine V3.cQ rfl rfl rfl rfl (fun _=>dC rfl func215 rfl rfl ((AP w3.f.vm.hand (by have:=kS.hand;omega)) _)) ?_
   refine V3.aO ?_
   refine V3.zU 3 ?_
   refine V3.aO ?_
   refine V3.zU 3 ?_
   iterate 2 refine V3.aO ?_
   refine V3.jm 110 rfl ((show _=PV.seq (List.length [(⟨f.comp.xt,f.comp.fuel,0,false⟩:sd)]) (List.flatMap sS [(⟨f.comp.xt,f.comp.fuel,0,false⟩:sd)]) .clip from rfl)) ?_
   refine V3.jT rfl rfl rfl rfl (fun _=>cg (lO tG rfl) rfl (lO tG rfl) (lO tG rfl) rfl rfl (by exact⟨_,rfl⟩) (by exact⟨rfl,rfl,al _ 4 (fun _=>rfl) _,bD _ (fun _=>rfl) _⟩) (by exact al _ 4 (fun _=>rfl) _) (by((simp_all;omega))) (by((simp_all;omega))) (by exact fy (bt (fun x=>by simp) _) (bt (fun x=>by simp) _))) ?_
   refine V3.jm 111 rfl (cw sS) ?_
   iterate 4 refine V3.aO ?_
   refine V3.bT 2 tG rfl rfl rfl rfl rfl trivial rfl ?_
   refine V3.bo ?_
   refine zp5 ?_
   refine zs1 ?_
   refine zp2 ?_
   refine u4 2 rfl rfl (ys:=cFw {iJ w3 f.comp with f:={(iJ w3 f.comp).f with comp:=kj}}) (by unfold iJ;((rw[if_pos hi5];rfl))) rfl ?_
   refine zc rfl func212 ((dO {iJ w3 f.comp with f:={(iJ w3 f.comp).f with comp:=kj}} f) _ _ rfl) ?_
   refine zs4 ?_
   refine zR ?_
   rfl
  refine Wj<|zp5 ?_
  refine zs1 ?_
  refine zp2 ?_
  refine u4 2 rfl rfl (ys:=cFw {iJ w3 f.comp with f:={(iJ w3 f.comp).f with comp:=kj}}) (by unfold iJ;((rw[if_neg (by rw[hi5];decide)];rfl))) rfl ?_
  refine zc rfl func212 ((dO {iJ w3 f.comp with f:={(iJ w3 f.comp).f with comp:=kj}} f) _ _ rfl) ?_
  refine zs4 ?_
  refine zR ?_
  rfl
 have qo:True:=trivial
 iterate 5 refine z6 ?_
 refine zs2 ?_
 refine Wf rfl rfl ?_
 refine Wj<|Ws<|zp5 ?_
 refine zs1 ?_
 refine Wf rfl (by rfl) ?_
 refine Wj<|zp2 ?_
 refine Wa 56 rfl ((show _=PV.seq (List.length [(32:Int)]) (List.flatMap ap [(32:Int)]) .clip from rfl)) ?_
 refine zc rfl func213 ((pC) _ _ rfl) ?_
 refine Wn<|Ws<|V3.aY [0,0,0,0,0,1,0,1,0,0,0,0,0,1,0,1,0,0,1,0,0,0,0,0,0,0] [0,1,2,3,4,5,6,7,8,9,10,11,12,13,14,15,16,17,18,19,20,21,22,23,24,25] mG rfl (by kernel_rfl) ?_
 iterate 5 refine V3.aO ?_
 refine V3.iG ?_
 refine V3.aO ?_
 refine V3.iG ?_
 iterate 5 refine V3.aO ?_
 refine V3.iG ?_
 refine V3.aO ?_
 refine V3.iG ?_
 refine V3.tH tG rfl rfl rfl rfl (fun _=>rfl) (by omega) (iR cS 3 (fun _=>rfl) default (by omega)) ?_
 refine V3.aO ?_
 refine V3.iG ?_
 refine V3.aO ?_
 refine V3.jm 78 rfl (congrArg (fun z=>PV.val (Value.int .i64 z)) eN) ?_
 refine V3.cQ rfl rfl rfl rfl (fun _=>dC rfl func214 rfl rfl ((pF) _)) ?_
 iterate 5 refine V3.aO ?_
 refine V3.bo ?_
 refine zp4 ?_
 refine zc rfl func93 (lg w1 d.2 _ 2 rfl) ?_
 refine Wn<|zp5 ?_
 refine zs2 ?_
 refine zp1 ?_
 refine zc rfl func52 ((pS) _ _ rfl) ?_
 refine Wn<|Ws<|zu2 ?_
 refine Wi rfl (fun hi5=>?_) (fun hi5=>?_)
 ·refine V3.aY [0,0,0,0,0,0,8,0,0,10,0,10,0,0,0,0,0,0,0,9] [0,1,2,3,4,5,6,7,8,9,10,11,12,13,14,15,16,17,18,19] mG rfl (by kernel_rfl) ?_
  iterate 6 refine V3.aO ?_
  refine V3.zU 2 ?_
  refine V3.cQ rfl rfl rfl rfl (fun _=>dC rfl func215 rfl rfl ((AP w3.f.vm.hand (by have:=kS.hand;omega)) _)) ?_
  refine V3.aO ?_
  refine V3.zU 3 ?_
  refine V3.aO ?_
  refine V3.zU 3 ?_
  iterate 2 refine V3.aO ?_
  refine V3.jm 110 rfl ((show _=PV.seq (List.length [(⟨f.comp.xt,f.comp.fuel,0,false⟩:sd)]) (List.flatMap sS [(⟨f.comp.xt,f.comp.fuel,0,false⟩:sd)]) .clip from rfl)) ?_
  refine V3.jT rfl rfl rfl rfl (fun _=>cg (lO tG rfl) rfl (lO tG rfl) (lO tG rfl) rfl rfl (by exact⟨_,rfl⟩) (by exact⟨rfl,rfl,al _ 4 (fun _=>rfl) _,bD _ (fun _=>rfl) _⟩) (by exact al _ 4 (fun _=>rfl) _) (by((simp_all;done))) (by((simp_all;done))) (by exact fy (bt (fun x=>by simp) _) (bt (fun x=>by simp) _))) ?_
  refine V3.jm 111 rfl (cw sS) ?_
  iterate 4 refine V3.aO ?_
  refine V3.bT 2 tG rfl rfl rfl rfl rfl trivial rfl ?_
  refine V3.bo ?_
  refine zp5 ?_
  refine zs1 ?_
  refine zp2 ?_
  refine u4 2 rfl rfl (ys:=cFw {iJ w3 f.comp with f:={(iJ w3 f.comp).f with comp:=kj}}) (by unfold iJ;((rw[if_pos hi5];rfl))) rfl ?_
  refine zc rfl func212 ((dO {iJ w3 f.comp with f:={(iJ w3 f.comp).f with comp:=kj}} f) _ _ rfl) ?_
  refine zs4 ?_
  refine zR ?_
  rfl
 refine Wj<|zp5 ?_
 refine zs1 ?_
 refine zp2 ?_
 refine u4 2 rfl rfl (ys:=cFw {iJ w3 f.comp with f:={(iJ w3 f.comp).f with comp:=kj}}) (by unfold iJ;((rw[if_neg (by rw[hi5];decide)];rfl))) rfl ?_
 refine zc rfl func212 ((dO {iJ w3 f.comp with f:={(iJ w3 f.comp).f with comp:=kj}} f) _ _ rfl) ?_
 refine zs4 ?_
 refine zR ?_
 rfl
structure Yf (f:af):Prop where
 k:FK 2 f
 d:mX f=0->0<=f.comp.dict/\f.comp.dict<f.vm.dict.length
theorem RM(f:af)(h:Yf f):ab prog 178 [bQ f] (iE (mY f)):=by
 unfold mY
 by_cases hE:mX f=0
 ·rw[if_neg (fun q=>q hE)];exact UD f h.k (h.d hE).1 (h.d hE).2 hE
 rw[if_pos hE];exact Z7 f hE
open Go.Lib
section
variable {P : Program} {B : Nat -> Nat -> Prop} {o : Oper} {T : Nat -> PV} {H : List Ob}
theorem FO{z:Array Value}{v:Value}(h:z.toList=[v])(m:Nat):(Builtin.zeroCells z m).toList=List.replicate m v:=by
 have hz:z=#[v]:=by rw[<-Array.toList_inj];exact h
 subst hz
 unfold Builtin.zeroCells
 rw[Array.toList_map,Array.toList_range]
 apply List.ext_getElem
 ·simp
 intro i h1 h2
 simp[Nat.mod_one]
theorem oI{t tn e:TypeId}{d de:TD}{kn kq:IntKind}{x y:Operand}{n m:Nat}{xs:List PV}{p:PV}(f:an P t d)(hd:d.sh=.slice e)(fe:an P e de)(hn:P.underlying tn=some (.int kn))
  (ho:o.op=.call {callee:=.builtin .append,args:=#[x,y],argTypes:=#[t,tn]}) (hx:opv T x=.seq n xs .clip) (hy:opv T y=.val (.int kq m)) (h0:0<m) (h1:de.size=1) (hp:de.zero=[p]) (hl:xs.length=n)
  (hb:(n+m)*de.bytes<=140737488355328) (h63:n+m<=9223372036854775807) :
  bI P B o T H (.seq (n+m) (xs++List.replicate m p) (.own H.length 1)) (H++[.free ((n+m)*1)]):=by
 intro σ w a s h
 have k1:=h x (by simp[ho,Op.operands,Call.operands])
 have k2:=h y (by simp[ho,Op.operands,Call.operands])
 rw[hx]at k1
 rw[hy]at k2
 unfold Rep at k2
 obtain⟨ad,cap,vs,hv,hle,hnil,hrl,hlies,hk⟩:=gx k1
 have hcap:cap=n:=hk
 subst hcap
 obtain⟨i,z,hi,hsz,hby,hz,hzr⟩:=fe.info
 have h1':i.size=1:=hsz.trans h1
 have hvl:vs.length=cap*i.size:=by rw[au.length hrl,hl,h1',Nat.mul_one]
 have z1:=hzr (cx B H σ w)
 rw[hp]at z1
 obtain⟨v,hzv⟩:∃v,z.cells.toList=[v]:=by
  have:=au.length z1
  match hq:z.cells.toList,this with
  | [v],_=>exact⟨v,rfl⟩
  | [],q=>simp at q
  | _::_::_,q=>simp at q
 have hold:(Builtin.firstCells i.size cap (.slice ad cap cap)).run P w.drew=.ok vs.toArray w.drew:=by
  cases ad with
  | none =>
   have q:=hnil rfl
   obtain⟨q1,_,q3⟩:=q
   subst q3
   have q0:cap=0:=q1
   subst q0
   exact run_firstCells_none w.drew i.size 0 0 0
  | some b =>
   refine run_firstCells_some w.drew i.size cap b cap cap vs hvl fun j u hj=>?_
   have hl2:=(hlies b rfl).resolve_right (by rintro⟨_,h3⟩;rw[h3]at hj;simp at hj)
   rw[gI hl2,Addr.add_lit];exact(hl2.2 j u hj).1
 have hr:=run_append_grow_zeros (P:=P) w t tn o.type e i z kq kn (f.slice hd) hn hi hz ad cap cap vs hold m h0 (by omega) (by omega) (by omega) (by rw[hby];exact Nat.le_trans (Nat.mul_le_mul_right _ (by omega)) (Nat.le_trans hb (by decide))) (growslice_fits (by omega) (by rw[hby];exact hb))
 have hge:=grownCap_ge w (cap+m) cap e
 have hzs:z.cells.size=1:=by rw[<-Array.length_toList,hzv];rfl
 have hsize:(vs.toArray++Builtin.zeroCells z.cells m++Builtin.zeroCells z.cells (grownCap w (cap+m) cap e-(cap+m))).size=grownCap w (cap+m) cap e:=by
  rw[Array.size_append,Array.size_append,size_zeroCells,size_zeroCells,hzs,List.size_toArray,hvl,h1']
  omega
 have gr:aX w (w.drew.alloc (.cells (vs.toArray++Builtin.zeroCells z.cells m++Builtin.zeroCells z.cells (grownCap w (cap+m) cap e-(cap+m))) e)):=(aX.drew w).trans (aX.alloc _ _)
 have hheap:(w.drew.alloc (.cells (vs.toArray++Builtin.zeroCells z.cells m++Builtin.zeroCells z.cells (grownCap w (cap+m) cap e-(cap+m))) e)).heap[w.heap.size]?=some (Obj.cells (vs.toArray++Builtin.zeroCells z.cells m++Builtin.zeroCells z.cells (grownCap w (cap+m) cap e-(cap+m))) e (0,0)):=by
  show(w.heap.push _)[w.heap.size]?=_;simp
 obtain⟨s',st⟩:=eS s gr (.free ((cap+m)*1)) (some w.heap.size) (fun b hb=>by cases hb;exact Nat.le_refl _) (fun b hb=>by
  simp only[cx]at hb;rw[bx]at hb;cases hb
  exact⟨_,e,hheap,by rw[hsize];omega⟩)
 have hnr:au (cx B H σ w) (List.replicate m p) (List.replicate m v):=by
  rw[hzv]at z1
  have zp:=(aj.1 z1).1
  clear hr gr hheap s' st hsize hge hb h63 h0 hy k2
  induction m with
  | zero=>exact aG.2 rfl
  | succ m ih=>rw[List.replicate_succ,List.replicate_succ];exact aj.2 ⟨zp,ih⟩
 refine⟨_,_,_,.inl (nG ho hv (by rw[k2];exact hr)),?_,s',st⟩
 refine rT (vs:=vs++List.replicate m v) (au.append (au.mono st.le hrl) (au.mono st.le hnr)) (by simp) (bx _ _ _) hheap ?_ hge (by rw[hsize];omega) (fun j hj=>?_) (fun off hoff=>?_)
 ·rw[List.length_append,hl,List.length_replicate,Nat.mul_one]
 ·have e1:vs.toArray++Builtin.zeroCells z.cells m=(vs++List.replicate m v).toArray:=by
   rw[<-Array.toList_inj,Array.toList_append,FO hzv]
  rw[e1,Array.getElem?_append_left (by simpa using hj)]
  exact List.getElem?_toArray ..
 have hoff':off<(cap+m)*1:=by rw[List.length_append,hvl,h1',List.length_replicate]at hoff;omega
 rintro(h|⟨j,oj,h1,h2,h3⟩)
 ·exact absurd (s.base _ _ h) (by simp)
 rcases fb h1 with ⟨h4,h5⟩|⟨rfl,rfl⟩
 ·rw[bV h4]at h2
  have hlv:oj.live=true:=by cases oj<;>first|rfl|cases h3
  have:=(s.holds j oj h5).lt hlv h2
  simp[cx]at this
 simp only[Ob.wr]at h3;omega
end
open Go.RowKit
theorem Bq(f:af)(name:Str)(hn:name.length<=1000000)(h:FK 4 f):ab prog 179 [bQ f,str name] (iE (cI f name true [257,0,0])):=by
 refine zY func179 fun B=>?_
 refine zu3 ?_
 refine zp3 ?_
 refine Wa 8 rfl (bsL ap [_,_,_] rfl rfl) ?_
 refine zc rfl func195 ((mV f name true [257,0,0] hn (by decide) h) _) ?_
 refine zs4 ?_
 refine zR ?_
 rfl
def mP(f:af)(n:Int):List Int:=[260,0,0,n]++(if f.comp.xt=0 then List.replicate n.toNat 0 else [])
def vH(f:af)(name:Str)(n:Int):af×Int:=if f.comp.xt=0/\(n<1\/256<n)then(f,-24)else cI f name false (mP f n)
theorem Hz{f:af}{n:Int}(hx:f.comp.xt=0)(s:SK):PV.seq (List.length [(260:Int),0,0,n]+n.toNat) (List.flatMap ap [(260:Int),0,0,n]++List.replicate n.toNat (i64 0)) s=.seq (mP f n).length ((mP f n).flatMap ap) s:=by
 unfold mP
 rw[if_pos hx,List.length_append,List.length_replicate,List.flatMap_append]
 congr 2
 induction n.toNat with
 | zero=>rfl
 | succ k ih=>rw[List.replicate_succ,List.replicate_succ,List.flatMap_cons,<-ih];rfl
theorem Ct{f:af}{n:Int}(hx:¬f.comp.xt=0):mP f n=[260,0,0,n]:=by unfold mP;rw[if_neg hx];rfl
theorem RQ{f:af}{n:Int}(h:¬(f.comp.xt=0/\(n<1\/256<n))):(mP f n).length<=260:=by
 unfold mP
 rw[List.length_append]
 split
 ·rename_i q
  have:¬(n<1\/256<n):=fun z=>h ⟨q,z⟩
  rw[List.length_replicate];show 4+n.toNat<=260;omega
 show 4+0<=260;omega
theorem E4(f:af)(name:Str)(n:Int)(hn:name.length<=1000000)(h:FK 270 f):ab prog 182 [bQ f,str name,i64 n] (iE (vH f name n)):=by
 by_cases hB:f.comp.xt=0/\(n<1\/256<n)
 ·have e:vH f name n=(f,-24):=by unfold vH;rw[if_pos hB]
  rw[e]
  obtain⟨hB1,hB2⟩:=hB
  refine zY func182 fun B=>?_
  refine zu3 ?_
  refine Ws<|zp1 ?_
  refine zc rfl func51 ((ka f) _) ?_
  refine zy2 ?_
  refine gp 12 rfl (by rw[hB1];rfl) ?_
  refine zy3 ?_
  refine Wb 15 rfl (fun hg2=>?_) (fun hg2=>?_)
  ·refine z6 ?_
   refine z6 ?_
   refine zs2 ?_
   refine Wt rfl rfl ?_
   refine zu3 ?_
   refine zR ?_
   rfl
  refine zs4 ?_
  refine Wi rfl (fun hi1=>?_) (fun hi1=>?_)
  ·have q:=hi1
   refine zu3 ?_
   refine zR ?_
   rfl
  exact absurd hB2 (fun z=>z.elim (fun z=>by have:=oF hg2;omega) (fun z=>by have:=oF hi1;omega))
 have e:vH f name n=cI f name false (mP f n):=by unfold vH;rw[if_neg hB]
 rw[e]
 have hl:=RQ hB
 have pC:=mV f name false (mP f n) hn (by omega) (h.down (by omega))
 refine zY func182 fun B=>?_
 refine zu3 ?_
 refine Ws<|zp1 ?_
 refine zc rfl func51 ((ka f) _) ?_
 refine zy2 ?_
 refine Wb 12 rfl (fun hg1=>?_) (fun hg1=>?_)
 ·have qx:f.comp.xt=0:=by simpa using hg1
  refine zy3 ?_
  refine px 15 rfl (by exact decide_eq_false (fun z=>hB ⟨qx,.inl z⟩)) ?_
  refine zs4 ?_
  refine Wf rfl (by exact decide_eq_false (fun z=>hB ⟨qx,.inr z⟩)) ?_
  refine Wj<|zp2 ?_
  refine Wa 22 rfl (bsL ap [_,_,_,_] rfl rfl) ?_
  refine zs1 ?_
  refine Ws<|zp1 ?_
  refine zc rfl func51 ((ka f) _) ?_
  refine zs1 ?_
  refine Wi rfl (fun hi2=>?_) (fun hi2=>?_)
  ·have q2:f.comp.xt=0:=by simpa using hi2
   have hr:=Hz (n:=n) q2
   have h1:1<=n/\n<=256:=⟨by have:=fun z=>hB ⟨q2,.inl z⟩;omega,by have:=fun z=>hB ⟨q2,.inr z⟩;omega⟩
   refine aa rfl ?_
   refine zy2 ?_
   refine Wa 27 rfl ((show i64 n=PV.val (.int .i64 (n.toNat:Int)) from by rw[Int.toNat_of_nonneg (by omega)];rfl)) ?_
   refine Wd rfl rfl (oI (lO tG rfl) rfl (lO tG rfl) underlying3 rfl rfl rfl (by omega) rfl rfl rfl (by show(4+n.toNat)*8<=_;omega) (by show 4+n.toNat<=_;omega)) ?_
   refine Wa 28 rfl (hr _) ?_
   refine zs1 ?_
   refine zp3 ?_
   skip
   refine zc rfl func195 ((pC) _) ?_
   refine zs4 ?_
   refine zR ?_
   rfl
  have q2:¬f.comp.xt=0:=by simpa using hi2
  refine Wj<|zp3 ?_
  refine Wa 31 rfl (show PV.seq _ _ .clip=PV.seq (mP f n).length ((mP f n).flatMap ap) .clip from by rw[Ct q2]) ?_
  refine zc rfl func195 ((pC) _) ?_
  refine zs4 ?_
  refine zR ?_
  rfl
 have qx:¬f.comp.xt=0:=by simpa using hg1
 iterate 6 refine z6 ?_
 refine zs1 ?_
 refine Wf rfl rfl ?_
 refine Wj<|zp2 ?_
 refine Wa 22 rfl (bsL ap [_,_,_,_] rfl rfl) ?_
 refine zs1 ?_
 refine Ws<|zp1 ?_
 refine zc rfl func51 ((ka f) _) ?_
 refine zs1 ?_
 refine Wi rfl (fun hi2=>?_) (fun hi2=>?_)
 ·have q2:f.comp.xt=0:=by simpa using hi2
  have hr:=Hz (n:=n) q2
  have h1:1<=n/\n<=256:=⟨by have:=fun z=>hB ⟨q2,.inl z⟩;omega,by have:=fun z=>hB ⟨q2,.inr z⟩;omega⟩
  refine aa rfl ?_
  refine zy2 ?_
  refine Wa 27 rfl ((show i64 n=PV.val (.int .i64 (n.toNat:Int)) from by rw[Int.toNat_of_nonneg (by omega)];rfl)) ?_
  refine Wd rfl rfl (oI (lO tG rfl) rfl (lO tG rfl) underlying3 rfl rfl rfl (by omega) rfl rfl rfl (by show(4+n.toNat)*8<=_;omega) (by show 4+n.toNat<=_;omega)) ?_
  refine Wa 28 rfl (hr _) ?_
  refine zs1 ?_
  refine zp3 ?_
  skip
  refine zc rfl func195 ((pC) _) ?_
  refine zs4 ?_
  refine zR ?_
  rfl
 have q2:¬f.comp.xt=0:=by simpa using hi2
 refine Wj<|zp3 ?_
 refine Wa 31 rfl (show PV.seq _ _ .clip=PV.seq (mP f n).length ((mP f n).flatMap ap) .clip from by rw[Ct q2]) ?_
 refine zc rfl func195 ((pC) _) ?_
 refine zs4 ?_
 refine zR ?_
 rfl
def ES(n:Int):Int:=if n%2=1 then n else n+1
theorem or1{f:Int}(h0:0<=f)(h7:f<=7):IntKind.i64.wrap ↑(BitVec.ofInt IntKind.i64.bits f ||| BitVec.ofInt IntKind.i64.bits 1).toNat=ES f:=by
 rcases qN h0 h7 with rfl|rfl|rfl|rfl|rfl|rfl|rfl|rfl<;>decide
theorem ao2{f:Int}(h0:0<=f)(h7:f<=7):0<=ES f/\ES f<=7:=by
 rcases qN h0 h7 with rfl|rfl|rfl|rfl|rfl|rfl|rfl|rfl<;>decide
def qg(f:af):aR:=f.vm.dict.getD (f.vm.dict.length-1) default
def MO(f:af):af×Int :=
 if f.vm.dict.length=0\/(qg f).xt<1368 then gz (okF (aJ f) (-13)) f else gz (mQ (aJ f) (cE f.vm.dict ((f.vm.dict.length-1:Nat):Int) (ES (qg f).flags))) f
theorem zI(f:af)(h:FK 0 f):ab prog 183 [bQ f] (iE (MO f)):=by
 have hd:=h.dict
 have w1:IntKind.i64.wrap ((f.vm.dict.length:Int)-1)=(f.vm.dict.length:Int)-1:=by((rw[bS];unfold wrap64;(try simp only[dnL]at *);omega))
 have eI:MO f=if f.vm.dict.length=0\/(qg f).xt<1368 then gz (okF (aJ f) (-13)) f else gz (mQ (aJ f) (cE f.vm.dict ((f.vm.dict.length-1:Nat):Int) (ES (qg f).flags))) f:=rfl
 by_cases h0:f.vm.dict.length=0
 ·rw[eI,if_pos (.inl h0)]
  refine zY func183 fun B=>?_
  refine zu3 ?_
  refine zp1 ?_
  refine zc rfl func217 (nq f _) ?_
  refine Wa 9 rfl ((show _=PV.ptr 2 0 from rfl)) ?_
  refine zs1 ?_
  refine zp5 ?_
  refine Wa 14 rfl (congrArg (fun z=>PV.val (Value.int .i64 z)) w1) ?_
  refine zs1 ?_
  iterate 2 refine Ws ?_
  refine V3.aY [0,0,0,0,0,1,0,0,0,1,0,0,0] [0,1,2,3,4,5,6,7,8,9,10,11,12] mG rfl (by kernel_rfl) ?_
  iterate 3 refine V3.aO ?_
  refine V3.NZ 17 rfl (by exact decide_eq_true (by omega)) ?_
  iterate 9 refine V3.av3 ?_
  refine V3.aO ?_
  refine V3.bo ?_
  refine Wt rfl rfl ?_
  refine zp3 ?_
  refine zc rfl func93 (lg (aJ f) (-13) _ 2 rfl) ?_
  refine Wn<|zp2 ?_
  refine zc rfl func212 ((dO _ _) _ _ rfl) ?_
  refine zs4 ?_
  refine zR ?_
  rfl
 have w2:(f.vm.dict.length:Int)-1=((f.vm.dict.length-1:Nat):Int):=by omega
 have fl:=h.each.get (j:=f.vm.dict.length-1) (by omega)
 have i7:=ao2 fl.2.1 fl.2.2
 have eo:=or1 fl.2.1 fl.2.2
 have pF:=C8 f.vm.dict ((f.vm.dict.length-1:Nat):Int) (ES (qg f).flags) (by omega) i7.1 i7.2
 obtain⟨d,hd'⟩:∃d,cE f.vm.dict ((f.vm.dict.length-1:Nat):Int) (ES (qg f).flags)=d:=⟨_,rfl⟩
 rw[hd']at pF eI
 refine zY func183 fun B=>?_
 refine zu3 ?_
 refine zp1 ?_
 refine zc rfl func217 (nq f _) ?_
 refine Wa 9 rfl ((show _=PV.ptr 2 0 from rfl)) ?_
 refine zs1 ?_
 refine zp5 ?_
 refine Wa 14 rfl (congrArg (fun z=>PV.val (Value.int .i64 z)) (w1.trans w2)) ?_
 refine zs1 ?_
 iterate 2 refine Ws ?_
 refine V3.aY [0,0,0,0,0,1,0,0,0,1,0,0,0] [0,1,2,3,4,5,6,7,8,9,10,11,12] mG rfl (by kernel_rfl) ?_
 iterate 3 refine V3.aO ?_
 refine V3.Kh 17 rfl (by exact decide_eq_false (by omega)) ?_
 iterate 2 refine V3.aO ?_
 refine V3.iG ?_
 refine V3.aO ?_
 refine V3.tH tG rfl rfl rfl rfl (fun _=>rfl) (by omega) (iN cS 3 (fun _=>rfl) default (by omega)) ?_
 refine V3.aO ?_
 refine V3.iG ?_
 refine V3.cQ rfl rfl rfl rfl (fun _=>dC rfl func218 rfl rfl ((zP) _)) ?_
 iterate 2 refine V3.aO ?_
 refine V3.bo ?_
 refine Wi rfl (fun hi1=>?_) (fun hi1=>?_)
 ·have q:(qg f).xt<1368:=oT hi1
  refine zp3 ?_
  refine zc rfl func93 (lg (aJ f) (-13) _ 2 rfl) ?_
  refine Wn<|zp2 ?_
  refine zc rfl func212 ((dO _ _) _ _ rfl) ?_
  refine zs4 ?_
  refine zR ?_
  (rw[eI,if_pos (.inr q)];rfl)
 have q:¬(qg f).xt<1368:=oF hi1
 refine Wj<|Ws<|V3.aY [0,0,1,0,0,0,1,0,0,0,1,0,0,0,0,0,0,0] [0,1,2,3,4,5,6,7,8,9,10,11,12,13,14,15,16,17] mG rfl (by kernel_rfl) ?_
 iterate 2 refine V3.aO ?_
 refine V3.iG ?_
 iterate 3 refine V3.aO ?_
 refine V3.iG ?_
 refine V3.aO ?_
 refine V3.tH tG rfl rfl rfl rfl (fun _=>rfl) (by omega) (iN cS 3 (fun _=>rfl) default (by omega)) ?_
 refine V3.aO ?_
 refine V3.iG ?_
 refine V3.aO ?_
 refine V3.jm 49 rfl (congrArg (fun z=>PV.val (Value.int .i64 z)) eo) ?_
 refine V3.cQ rfl rfl rfl rfl (fun _=>dC rfl func214 rfl rfl ((pF) _)) ?_
 iterate 5 refine V3.aO ?_
 refine V3.bo ?_
 refine zp4 ?_
 refine zc rfl func93 (lg (aJ f) d.2 _ 2 rfl) ?_
 refine Wn<|zp5 ?_
 refine zs2 ?_
 refine zp2 ?_
 refine zc rfl func212 ((dO (mQ (aJ f) d) f) _ _ rfl) ?_
 refine zs4 ?_
 refine zR ?_
 (rw[eI,if_neg (fun z=>z.elim h0 q)];rfl)
def Ck(f:af)(r:aR×Int×Bool):FW:=if r.2.2=false then okF (aJ f) (-13)else if r.1.xt<1368\/f.vm.here<r.1.xt then okF (aJ f) (-32)else aJ f
def AK(w:FW)(l:List aR)(r:aR×Int×Bool):FW:={w with f:={w.f with vm:={w.f.vm with dict:=(iH l r.2.1).1,here:=r.1.xt,last:=0}}}
def Cv(f:af)(name:Str):af×Int:=gz (AK (Ck f (cN f.vm.dict name)) f.vm.dict (cN f.vm.dict name)) f
theorem GO(f:af)(name:Str)(hn:name.length<=1000000)(h:FK 0 f):ab prog 184 [bQ f,str name] (iE (Cv f name)):=by
 have hd:=h.dict
 have pD:=wZ f.vm.dict name h.each (by omega)
 unfold Cv
 obtain⟨r,hr⟩:∃r,cN f.vm.dict name=r:=⟨_,rfl⟩
 rw[hr]at pD ⊢
 have pC:=Ib f.vm.dict r.2.1 (by omega)
 have eB:Ck f r=if r.2.2=false then okF (aJ f) (-13)else if r.1.xt<1368\/f.vm.here<r.1.xt then okF (aJ f) (-32)else aJ f:=rfl
 refine zY func184 fun B=>?_
 refine zu3 ?_
 refine zp1 ?_
 refine zc rfl func217 (nq f _) ?_
 refine Wa 13 rfl ((show _=PV.ptr 2 0 from rfl)) ?_
 refine zs1 ?_
 refine zp4 ?_
 refine zc rfl func37 ((pD) _) ?_
 refine zy5 ?_
 refine zs3 ?_
 refine Ws<|Wl<|zu3 ?_
 refine Wi rfl (fun hi1=>?_) (fun hi1=>?_)
 ·have q1:r.2.2=false:=by simpa using hi1
  rw[if_pos q1]at eB
  let xx:FW:=okF (aJ f) (-13)
  refine aa rfl ?_
  refine zy3 ?_
  refine zc rfl func93 (lg (aJ f) (-13) _ 2 rfl) ?_
  refine Wn<|zp4 ?_
  refine zc rfl func53 ((pC) _) ?_
  refine zs5 ?_
  refine Ws<|V3.aY [0,0,0,0,0,10,0,0,0,0,9,0,0,0,0,9,0,0,0,0,9] [0,1,2,3,4,5,6,7,8,9,10,11,12,13,14,15,16,17,18,19,20] mG rfl (by kernel_rfl) ?_
  iterate 5 refine V3.aO ?_
  refine V3.zU 3 ?_
  iterate 4 refine V3.aO ?_
  refine V3.bT 2 tG rfl rfl rfl rfl rfl trivial rfl ?_
  iterate 4 refine V3.aO ?_
  refine V3.bT 2 tG rfl rfl rfl rfl rfl trivial rfl ?_
  iterate 4 refine V3.aO ?_
  refine V3.bT 2 tG rfl rfl rfl rfl rfl trivial rfl ?_
  refine V3.bo ?_
  refine zp2 ?_
  refine zc rfl func212 ((dO (AK xx f.vm.dict r) f) _ _ rfl) ?_
  refine zs4 ?_
  refine zR ?_
  rw[eB];rfl
 have q1:¬r.2.2=false:=by simpa using hi1
 rw[if_neg q1]at eB
 refine Ws<|V3.aY [0,1,0,0,0,0,1,0,0,1,0,0,0] [0,1,2,3,4,5,6,7,8,9,10,11,12] mG rfl (by kernel_rfl) ?_
 refine V3.aO ?_
 refine V3.iG ?_
 refine V3.cQ rfl rfl rfl rfl (fun _=>dC rfl func218 rfl rfl ((zP) _)) ?_
 iterate 2 refine V3.aO ?_
 refine V3.uo 35 rfl (fun hg1=>?_) (fun hg1=>?_)
 ·have q2:r.1.xt<1368\/f.vm.here<r.1.xt:=.inl (oT hg1)
  rw[if_pos q2]at eB
  let xx:FW:=okF (aJ f) (-32)
  iterate 6 refine V3.av3 ?_
  iterate 2 refine V3.aO ?_
  refine V3.bo ?_
  refine Wt rfl rfl ?_
  refine aa rfl ?_
  refine zy3 ?_
  refine zc rfl func93 (lg (aJ f) (-32) _ 2 rfl) ?_
  refine Wn<|zp4 ?_
  refine zc rfl func53 ((pC) _) ?_
  refine zs5 ?_
  refine Ws<|V3.aY [0,0,0,0,0,10,0,0,0,0,9,0,0,0,0,9,0,0,0,0,9] [0,1,2,3,4,5,6,7,8,9,10,11,12,13,14,15,16,17,18,19,20] mG rfl (by kernel_rfl) ?_
  iterate 5 refine V3.aO ?_
  refine V3.zU 3 ?_
  iterate 4 refine V3.aO ?_
  refine V3.bT 2 tG rfl rfl rfl rfl rfl trivial rfl ?_
  iterate 4 refine V3.aO ?_
  refine V3.bT 2 tG rfl rfl rfl rfl rfl trivial rfl ?_
  iterate 4 refine V3.aO ?_
  refine V3.bT 2 tG rfl rfl rfl rfl rfl trivial rfl ?_
  refine V3.bo ?_
  refine zp2 ?_
  refine zc rfl func212 ((dO (AK xx f.vm.dict r) f) _ _ rfl) ?_
  refine zs4 ?_
  refine zR ?_
  rw[eB];rfl
 refine V3.aO ?_
 refine V3.iG ?_
 iterate 2 refine V3.aO ?_
 refine V3.iG ?_
 iterate 3 refine V3.aO ?_
 refine V3.bo ?_
 refine Wi rfl (fun hi2=>?_) (fun hi2=>?_)
 ·have q2:r.1.xt<1368\/f.vm.here<r.1.xt:=.inr (by have:=oT hi2;omega)
  rw[if_pos q2]at eB
  let xx:FW:=okF (aJ f) (-32)
  refine aa rfl ?_
  refine zy3 ?_
  refine zc rfl func93 (lg (aJ f) (-32) _ 2 rfl) ?_
  refine Wn<|zp4 ?_
  refine zc rfl func53 ((pC) _) ?_
  refine zs5 ?_
  refine Ws<|V3.aY [0,0,0,0,0,10,0,0,0,0,9,0,0,0,0,9,0,0,0,0,9] [0,1,2,3,4,5,6,7,8,9,10,11,12,13,14,15,16,17,18,19,20] mG rfl (by kernel_rfl) ?_
  iterate 5 refine V3.aO ?_
  refine V3.zU 3 ?_
  iterate 4 refine V3.aO ?_
  refine V3.bT 2 tG rfl rfl rfl rfl rfl trivial rfl ?_
  iterate 4 refine V3.aO ?_
  refine V3.bT 2 tG rfl rfl rfl rfl rfl trivial rfl ?_
  iterate 4 refine V3.aO ?_
  refine V3.bT 2 tG rfl rfl rfl rfl rfl trivial rfl ?_
  refine V3.bo ?_
  refine zp2 ?_
  refine zc rfl func212 ((dO (AK xx f.vm.dict r) f) _ _ rfl) ?_
  refine zs4 ?_
  refine zR ?_
  rw[eB];rfl
 have q2:¬(r.1.xt<1368\/f.vm.here<r.1.xt):=by have:=oF hi2;have:=oF hg1;omega
 rw[if_neg q2]at eB
 let xx:FW:=aJ f
 refine Wj<|zp4 ?_
 refine zc rfl func53 ((pC) _) ?_
 refine zs5 ?_
 refine Ws<|V3.aY [0,0,0,0,0,10,0,0,0,0,9,0,0,0,0,9,0,0,0,0,9] [0,1,2,3,4,5,6,7,8,9,10,11,12,13,14,15,16,17,18,19,20] mG rfl (by kernel_rfl) ?_
 iterate 5 refine V3.aO ?_
 refine V3.zU 3 ?_
 iterate 4 refine V3.aO ?_
 refine V3.bT 2 tG rfl rfl rfl rfl rfl trivial rfl ?_
 iterate 4 refine V3.aO ?_
 refine V3.bT 2 tG rfl rfl rfl rfl rfl trivial rfl ?_
 iterate 4 refine V3.aO ?_
 refine V3.bT 2 tG rfl rfl rfl rfl rfl trivial rfl ?_
 refine V3.bo ?_
 refine zp2 ?_
 refine zc rfl func212 ((dO (AK xx f.vm.dict r) f) _ _ rfl) ?_
 refine zs4 ?_
 refine zR ?_
 rw[eB];rfl
theorem LB{P:Program}{B:Nat->Nat->Prop}{H:List Ob}{n:Nat}{T:Nat->PV}{c:Code}{Q:Exit->(Nat->PV)->List Ob->Prop}(j:Nat){zs ys:List PV}{t:TypeId}{H':List Ob}(hj:H[j]?=some (.cells zs t)){us:List PV}(hz:Ow zs=some us)(e:us=ys)(hH:nfH (H.set j (.cells ys t))=some H')(h1:W P B n c T H' Q):W P B n c T H Q:=by
 rw[sJ hH]at h1
 subst e
 intro σ w a g
 obtain⟨s',st⟩:=obW g.sim hj (vA hz)
 exact wp_mono (h1 σ w a ⟨s',fun i=>(g.rep i).mono st.le,g.size,g.defers⟩) fun _ _ _ k=>gQ st (fun _ _ _ h=>h) k
def kN(v:VVm):CW:=⟨v,[],0⟩
def zg(w:CW)(v:VVm):VVm×Int:=((oR w v []).1,(oR w v []).2.2)
def GK(v:VVm)(n:Int):VVm×Int:=zg (iq (cJ (kN v) [40,108,105,116,41]) n) v
theorem NJ(v:VVm)(n:Int)(h:CK 2 (kN v)):ab prog 81 [eVm v,i64 n] (tVm (GK v n)):=by
 have h1:=jn h [40,108,105,116,41]
 refine zY func81 fun B=>?_
 refine zu3 ?_
 refine zu4 ?_
 refine Ws<|LB 2 rfl rfl (ys:=cCw (kN v)) rfl rfl ?_
 refine aa rfl ?_
 refine zc rfl func104 ((m7 (kN v) [40,108,105,116,41] h.mem h.here) _ _ rfl) ?_
 refine Wn<|zp1 ?_
 refine zc rfl func105 ((rz (cJ (kN v) [40,108,105,116,41]) n h1.mem h1.here) _ _ rfl) ?_
 refine Wn<|zp1 ?_
 refine zc rfl func106 ((wq (iq (cJ (kN v) [40,108,105,116,41]) n) v []) _ _ rfl) ?_
 refine zy5 ?_
 refine zs3 ?_
 refine zu4 ?_
 refine zR ?_
 rfl
def C5(x:CW)(r a:bj×Int×Int):CW:=if r.2.2=0 then⟨{x.v with mem:=a.1,here:=a.2.1},x.l,r.2.2⟩else {x with bad:=r.2.2}
def Nj(v:VVm)(s:Str):CW:=iq (cJ (kN v) [40,115,116,114,41]) s.length
def wu(x:CW)(s:Str):CW:=if x.bad=0 then C5 x (da x.v.mem x.v.here s) (aM (da x.v.mem x.v.here s).1 (da x.v.mem x.v.here s).2.1)else x
def Kl(v:VVm)(s:Str):VVm×Int:=zg (wu (Nj v s) s) v
theorem Mk(v:VVm)(s:Str)(hs:s.length<=1000000)(h:CK 4 (kN v)):ab prog 189 [eVm v,str s] (tVm (Kl v s)):=by
 have h1:=jn h [40,115,116,114,41]
 have h2:CK 2 (Nj v s):=qE h1 s.length
 have pC:=rz (cJ (kN v) [40,115,116,114,41]) (s.length:Int) h1.mem h1.here
 rw[show iq (cJ (kN v) [40,115,116,114,41]) (s.length:Int)=Nj v s from rfl]at pC
 unfold Kl
 obtain⟨x,hx⟩:∃x,Nj v s=x:=⟨_,rfl⟩
 rw[hx]at pC h2 ⊢
 have pL:=yu x.v.mem x.v.here s h2.mem h2.here hs
 have mk:dH x.v.mem (da x.v.mem x.v.here s).1 1:=gS _
 have mh:=iu (m:=x.v.mem) s h2.h0 h2.h1
 unfold wu
 obtain⟨r,hr⟩:∃r,da x.v.mem x.v.here s=r:=⟨_,rfl⟩
 rw[hr]at pL mk mh ⊢
 have l1:=mk.len
 have l2:=mk.old
 have l3:=h2.b
 have l4:=h2.old
 have pA:=sg r.1 r.2.1 ⟨by omega,by omega⟩ ⟨by omega,by omega⟩
 obtain⟨a,ha⟩:∃a,aM r.1 r.2.1=a:=⟨_,rfl⟩
 rw[ha]at pA ⊢
 refine zY func189 fun B=>?_
 refine zu3 ?_
 refine zu4 ?_
 refine Ws<|LB 2 rfl rfl (ys:=cCw (kN v)) rfl rfl ?_
 refine aa rfl ?_
 refine zc rfl func104 ((m7 (kN v) [40,115,116,114,41] h.mem h.here) _ _ rfl) ?_
 refine Wn<|zp2 ?_
 refine Wa 17 rfl (gl _) ?_
 refine zc rfl func105 ((pC) _ _ rfl) ?_
 refine Wn<|Ws<|zu3 ?_
 refine Wi rfl (fun hi1=>?_) (fun hi1=>?_)
 ·have q1:x.bad=0:=by simpa using hi1
  have pF:=lQ x r.2.2
  rw[cf0 q1]at pF
  refine zp5 ?_
  refine zy3 ?_
  refine Wa 30 rfl (wH _) ?_
  refine zc rfl func174 ((pL) _) ?_
  refine zy5 ?_
  refine zs3 ?_
  refine zp1 ?_
  refine zc rfl func153 ((pF) _ _ rfl) ?_
  refine Wn<|zu2 ?_
  refine Wi rfl (fun hi2=>?_) (fun hi2=>?_)
  ·have q2:r.2.2=0:=by simpa using hi2
   refine aa rfl ?_
   refine zy2 ?_
   refine zc rfl func220 ((pA) _) ?_
   refine zy5 ?_
   refine zs5 ?_
   refine zp1 ?_
   (refine u4 2 rfl rfl (ys:=cCw (⟨{x.v with mem:=a.1,here:=a.2.1},x.l,r.2.2⟩:CW)) rfl rfl ?_)
   refine zc rfl func106 ((wq _ v []) _ _ rfl) ?_
   refine zy5 ?_
   refine zs3 ?_
   refine zu4 ?_
   refine zR ?_
   (rw[if_pos q1];unfold C5;rw[if_pos q2];rfl)
  have q2:¬r.2.2=0:=by simpa using hi2
  refine Wj<|zp1 ?_
  skip
  refine zc rfl func106 ((wq _ v []) _ _ rfl) ?_
  refine zy5 ?_
  refine zs3 ?_
  refine zu4 ?_
  refine zR ?_
  (rw[if_pos q1];unfold C5;rw[if_neg q2];rfl)
 have q1:¬x.bad=0:=by simpa using hi1
 refine Wj<|zp1 ?_
 skip
 refine zc rfl func106 ((wq _ v []) _ _ rfl) ?_
 refine zy5 ?_
 refine zs3 ?_
 refine zu4 ?_
 refine zR ?_
 (rw[if_neg q1];rfl)
end Go.Proofs.YtjcminooghmpeaaGreatDoor
namespace Go.Proofs.YtjcminooghmpeaaGreatDoor
open Go.RowKit Go.Extern.Stop Go.Stop Go.Extern
def atV(xt:Int)(v:Value):Value:=.iface 199 (.agg #[.int .i64 xt,v])
def Vt(c:Int):Value:=.iface 201 (.agg #[.int .i64 c])
def rtV(n:Nat):Value:=.agg #[.pointer (some ⟨5,n,none⟩)]
theorem CP(n:Nat)(v:Value)(w:World):(ReflectliteType.typeOf #[.iface 383 v]).run prog w=.ok (.iface 221 (rtV 383)) w:=by kernel_rfl
theorem O8(w:World):(callFunc 420 #[rtV 383]).run prog w=.ok (.value (.bool true)) w :=
 (@run_callFunc_extern prog 420 _ (ReflectliteType.method fun t => do Rtype.noPackHeld "Comparable" t; pure (.bool (← typeInfo t).comparable)) func420 (by kernel_rfl) (by kernel_rfl) (by kernel_rfl) (by kernel_rfl) _ w).trans (by kernel_rfl)
theorem sy (v : Value) (w : World) : (Go.method 513 221 v "Comparable").run prog w = .ok (420, v) w := by kernel_rfl
theorem Xz:(prog.info? 383).map (·.comparable)=some true:=by kernel_rfl
theorem VW:(prog.info? 401).map (·.size)=some 1:=by kernel_rfl
theorem F0(v:Value)(xT:TypeId)(w:World):(Instr.typeAssert (.iface 199 v) xT 272 true).run prog w=.ok (.tuple #[.nilIface,.bool false]) w:=run_typeAssert_lacksB (underlying272) (by kernel_rfl) (by kernel_rfl) v xT w
theorem SQ(v:Value)(xT:TypeId)(w:World):(Instr.typeAssert (.iface 201 v) xT 272 true).run prog w=.ok (.tuple #[.nilIface,.bool false]) w:=run_typeAssert_lacksB (underlying272) (by kernel_rfl) (by kernel_rfl) v xT w
theorem uH(v:Value)(xT:TypeId)(w:World):(Instr.typeAssert (.iface 199 v) xT 229 true).run prog w=.ok (.tuple #[.iface 199 v,.bool true]) w:=run_typeAssert_hasB (underlying229) (by kernel_rfl) v xT w
theorem R7(v:Value)(xT:TypeId)(w:World):(Instr.typeAssert (.iface 201 v) xT 229 true).run prog w=.ok (.tuple #[.nilIface,.bool false]) w:=run_typeAssert_lacksB (underlying229) (by kernel_rfl) (by kernel_rfl) v xT w
theorem Nz(v:Value)(xT:TypeId)(w:World):(Instr.typeAssert (.iface 201 v) xT 231 true).run prog w=.ok (.tuple #[.nilIface,.bool false]) w:=run_typeAssert_lacksB (underlying231) (by kernel_rfl) (by kernel_rfl) v xT w
theorem uI (v : Value) (w : World) : (Go.method 513 199 v "Unwrap").run prog w = .ok (416, v) w := by kernel_rfl
theorem QE(a:Addr)(xt:Int)(v:Value)(w:World):Calls prog 416 #[.agg #[.int .i64 xt,v]] w fun e w'=>e=.returned v/\w'=w.alloc (.cells #[.int .i64 xt,v] 199):=by
 go_enter func416,ntmps416
 go_wp2
 go_ret
 exact⟨rfl,rfl⟩
theorem af2(a:Addr)(xt:Int)(w:World):
  Calls prog 118 #[atV xt (haltV a),haltV a] w fun e w'=>e=.returned (.bool true)/\aX w w':=by
 obtain⟨i,hi,hcmp⟩:=Option.map_eq_some_iff.1 Xz
 obtain⟨j,hj,hjs⟩:=Option.map_eq_some_iff.1 VW
 have h8:=@run_callFunc_extern prog 155 _ ReflectliteType.typeOf func155 (by kernel_rfl) (by kernel_rfl) (by kernel_rfl) (by kernel_rfl)
 have h32:=O8
 have tT:=CP 0
 have mR:=sy
 have nA:=F0
 have uA:=uH
 have mU:=uI
 have heq:=run_eql_iface_ptr_same (P:=prog) (w.alloc (.cells #[.int .i64 xt,.iface 383 (.pointer (some a))] 199)) a underlying87 underlying383 hi hcmp hj
 have hty:=run_eql_iface_types (P:=prog) 199 383 (.agg #[.int .i64 xt,.iface 383 (.pointer (some a))]) (.pointer (some a)) underlying87 (by decide) w
 unfold atV haltV
 unfold rtV at *
 go_enter func118,ntmps118
 go_wp2
 refine wp_loop_rounds 2 ?_
 rw[rounds_succ]
 go_wp2_with (go_at_call 416;refine(QE a _ _ _).mono ?_;rintro e w' ⟨rfl,rfl⟩)
 rw[rounds_succ]
 go_wp2
 go_ret
 exact⟨rfl,aX.alloc _ _⟩
theorem Y7(a:Addr)(xt c:Int)(w:World):
  Calls prog 118 #[atV xt (Vt c),haltV a] w fun e w'=>e=.returned (.bool false)/\aX w w':=by
 have h8:=@run_callFunc_extern prog 155 _ ReflectliteType.typeOf func155 (by kernel_rfl) (by kernel_rfl) (by kernel_rfl) (by kernel_rfl)
 have h32:=O8
 have tT:=CP 0
 have mR:=sy
 have nA:=F0
 have nT:=SQ
 have uA:=uH
 have uT:=R7
 have vT:=Nz
 have mU:=uI
 have hty:=run_eql_iface_types (P:=prog) 199 383 (.agg #[.int .i64 xt,.iface 201 (.agg #[.int .i64 c])]) (.pointer (some a)) underlying87 (by decide) w
 have hty2:=run_eql_iface_types (P:=prog) 201 383 (.agg #[.int .i64 c]) (.pointer (some a)) underlying87 (by decide) (w.alloc (.cells #[.int .i64 xt,.iface 201 (.agg #[.int .i64 c])] 199))
 unfold atV Vt haltV
 unfold rtV at *
 go_enter func118,ntmps118
 go_wp2
 refine wp_loop_rounds 2 ?_
 rw[rounds_succ]
 go_wp2_with (go_at_call 416;refine(QE a _ _ _).mono ?_;rintro e w' ⟨rfl,rfl⟩)
 rw[rounds_succ]
 go_wp2
 go_ret
 exact⟨rfl,aX.alloc _ _⟩
end Go.Proofs.YtjcminooghmpeaaGreatDoor
namespace Go.Proofs.YtjcminooghmpeaaGreatDoor
open Go.RowKit Go.Extern.Stop Go.Stop Go.Extern
theorem JI(t:Addr)(w:World):(ReflectliteValue.unpack (.iface 203 (.pointer (some t)))).run prog w
  = .ok (.agg #[.pointer (some ⟨5,203,none⟩),.pointer (some ⟨w.heap.size,0,none⟩),.int .u64 150]) (w.alloc (.cells #[.pointer (some t)] 203)):=by kernel_rfl
theorem Xo (a : Addr) (w : World) : (ReflectliteValue.methodAny (ReflectliteValue.valueError "reflectlite.Value.Type" 0) (fun t _ _ _ => ReflectliteType.toType t) #[.agg #[.pointer (some ⟨5, 203, none⟩), .pointer (some a), .int .u64 150]]).run prog w
  = .ok (.iface 221 (.agg #[.pointer (some ⟨5,203,none⟩)])) w:=by kernel_rfl
theorem PP (h : Value) (w : World) : (Go.method 513 221 (.agg #[h]) "Kind").run prog w = .ok (408, h) w := by kernel_rfl
theorem TE(w:World):((ReflectliteType.abiMethod fun t=>(fun a:Nat=>Value.int IntKind.u8 (a:Int)) <$> Rtype.kind t) #[.pointer (some ⟨5,203,none⟩)]).run prog w=.ok (.int .u8 22) w:=by kernel_rfl
theorem S3(w:World):((ReflectliteType.abiMethod fun t=>(fun a:Nat=>Value.int IntKind.u8 (a:Int)) <$> Rtype.kind t) #[.pointer (some ⟨5,201,none⟩)]).run prog w=.ok (.int .u8 25) w:=by kernel_rfl
theorem Pu(z:Sem Value)(f:TypeId->Addr->Nat->Nat->Sem Value)(v:Value):
  ReflectliteValue.method z f #[v]=(do match <-ReflectliteValue.parts v with|none=>z|some (t,a,fl)=>f t a fl (fl%32)):=rfl
theorem CD(a:Addr)(w:World):(ReflectliteValue.parts (.agg #[.pointer (some ⟨5,203,none⟩),.pointer (some a),.int .u64 150])).run prog w=.ok (some (203,a,150)) w:=by kernel_rfl
theorem P1(a p:Addr)(W:World)(ha:W.cell? a=some (.pointer (some p))):
  (ReflectliteValue.method (ReflectliteValue.valueError "reflectlite.Value.IsNil" 0) ReflectliteValue.isNil #[.agg #[.pointer (some ⟨5, 203, none⟩), .pointer (some a), .int .u64 150]]).run prog W = .ok (.bool false) W := by
 rw[Pu]
 simp only[Sem.run_bind,CD,Result.andThen]
 simp[ReflectliteValue.isNil,loadVar,isAgg,underlying,underlying203,ha,Result.andThen]
theorem Sd (h : Value) (w : World) : (Go.method 513 221 (.agg #[h]) "Elem").run prog w = .ok (421, .agg #[h]) w := by kernel_rfl
theorem Pj (h : Value) (w : World) : (Go.method 513 221 (.agg #[h]) "Implements").run prog w = .ok (422, .agg #[h]) w := by kernel_rfl
theorem IV (h : Value) (w : World) : (Go.method 513 221 (.agg #[h]) "AssignableTo").run prog w = .ok (419, .agg #[h]) w := by kernel_rfl
theorem Xd(w:World):(ReflectliteType.method ReflectliteType.elem #[.agg #[.pointer (some ⟨5,203,none⟩)]]).run prog w=.ok (.iface 221 (.agg #[.pointer (some ⟨5,201,none⟩)])) w:=by kernel_rfl
theorem Vo (w : World) : (ReflectliteType.relation "Implements" ReflectliteType.implements_ #[.agg #[.pointer (some ⟨5, 201, none⟩)], .iface 221 (.agg #[.pointer (some ⟨5, 87, none⟩)])]).run prog w = .ok (.bool true) w := by kernel_rfl
theorem PT(v:Value)(w:World):(ReflectliteType.typeOf #[.iface 199 v]).run prog w=.ok (.iface 221 (.agg #[.pointer (some ⟨5,199,none⟩)])) w:=by kernel_rfl
theorem QU(v:Value)(w:World):(ReflectliteType.typeOf #[.iface 201 v]).run prog w=.ok (.iface 221 (.agg #[.pointer (some ⟨5,201,none⟩)])) w:=by kernel_rfl
theorem WN (w : World) : (ReflectliteType.relation "AssignableTo" ReflectliteType.assignableTo #[.agg #[.pointer (some ⟨5, 199, none⟩)], .iface 221 (.agg #[.pointer (some ⟨5, 201, none⟩)])]).run prog w = .ok (.bool false) w := by kernel_rfl
theorem V7 (w : World) : (ReflectliteType.relation "AssignableTo" ReflectliteType.assignableTo #[.agg #[.pointer (some ⟨5, 201, none⟩)], .iface 221 (.agg #[.pointer (some ⟨5, 201, none⟩)])]).run prog w = .ok (.bool true) w := by kernel_rfl
theorem Up(v:Value)(xT:TypeId)(w:World):(Instr.typeAssert (.iface 199 v) xT 226 true).run prog w=.ok (.tuple #[.nilIface,.bool false]) w:=run_typeAssert_lacksB (underlying226) (by kernel_rfl) (by kernel_rfl) v xT w
theorem MK(c:Int)(w:World):(ReflectliteValue.unpack (.iface 201 (.agg #[.int .i64 c]))).run prog w
  = .ok (.agg #[.pointer (some ⟨5,201,none⟩),.pointer (some ⟨w.heap.size,0,none⟩),.int .u64 153]) (w.alloc (.cells #[.int .i64 c] 201)):=by kernel_rfl
theorem N1(w:World):(Rtype.elem? 203).run prog w=.ok (some 201) w:=by kernel_rfl
theorem ap8(p:Addr)(w:World):(ReflectliteValue.mk 201 p ReflectliteValue.flagAddr).run prog w=.ok (.agg #[.pointer (some ⟨5,201,none⟩),.pointer (some p),.int .u64 409]) w:=by kernel_rfl
theorem RP(a p:Addr)(W:World)(ha:W.cell? a=some (.pointer (some p))):
  (ReflectliteValue.method (ReflectliteValue.valueError "reflectlite.Value.Elem" 0) ReflectliteValue.elem #[.agg #[.pointer (some ⟨5, 203, none⟩), .pointer (some a), .int .u64 150]]).run prog W
   = .ok (.agg #[.pointer (some ⟨5,201,none⟩),.pointer (some p),.int .u64 409]) W:=by
 rw[Pu]
 simp only[Sem.run_bind,CD,Result.andThen]
 simp[ReflectliteValue.elem,loadVar,isAgg,underlying,underlying203,ha,Result.andThen,N1,ap8]
theorem Nc(a:Addr)(w:World):(ReflectliteValue.parts (.agg #[.pointer (some ⟨5,201,none⟩),.pointer (some a),.int .u64 409])).run prog w=.ok (some (201,a,409)) w:=by kernel_rfl
theorem MR(a:Addr)(w:World):(ReflectliteValue.parts (.agg #[.pointer (some ⟨5,201,none⟩),.pointer (some a),.int .u64 153])).run prog w=.ok (some (201,a,153)) w:=by kernel_rfl
theorem Mp(w:World):(Rtype.directlyAssignable 201 201).run prog w=.ok true w:=by kernel_rfl
theorem YL(v x:Value):ReflectliteValue.set #[v,x]=(do
  let (some (dst,a,fl),some (src,b,_)):=(<-ReflectliteValue.parts v,<-ReflectliteValue.parts x)
   | unsupported (.noEntry "extern/(internal/reflectlite.Value).Set.zeroValue")
  if fl / ReflectliteValue.flagAddr % 2 == 0 then unsupported (.noEntry "extern/(internal/reflectlite.Value).Set.unaddressable")
  let val <-loadVar src b
  if <-Rtype.directlyAssignable dst src then storeVar dst a val
  else if <-Rtype.implements dst src then
   if (<-Rtype.kind src)==20 then
    match val with
    | .nilIface => unsupported (.noEntry "extern/reflectlite: a nil value of one interface type handed on as a value of another")
    | _=>storeVar dst a val
   else storeVar dst a (.iface src val)
  else panicString ("reflectlite.Set: value of type " ++ (← Rtype.spelt src) ++ " is not assignable to type " ++ (← Rtype.spelt dst))
  pure (.tuple #[])):=rfl
theorem K4(w:World):(sizeOf 201).run prog w=.ok 1 w:=by kernel_rfl
theorem ac4(ta b:Addr)(c:Int)(old:Value)(W:World)(hb:W.cell? b=some (.int .i64 c))(ht:W.cell? ta=some old)(hf:W.frozen? ta=false):
  (ReflectliteValue.set #[.agg #[.pointer (some ⟨5,201,none⟩),.pointer (some ta),.int .u64 409],.agg #[.pointer (some ⟨5,201,none⟩),.pointer (some b),.int .u64 153]]).run prog W
   = .ok (.tuple #[]) (W.setCell ta (.int .i64 c)):=by
 have hl:(loadVar 201 b).run prog W=.ok (.agg #[.int .i64 c]) W:=by
  have h1:=run_loadCells_list (P:=prog) W b [.int .i64 c] (fun j v hj=>by
   match j,hj with
   | 0,hj=>cases hj;rw[show b.add 0=b from by simp[Addr.add]];exact hb
   | j+1,hj=>simp at hj)
  unfold loadVar
  have h2:(loadCells b 1).run prog W=.ok #[.int .i64 c] W:=by simpa using h1
  simp[isAgg,underlying,underlying201,Result.andThen,K4,h2]
 have hs:(storeVar 201 ta (.agg #[.int .i64 c])).run prog W=.ok () (W.setCell ta (.int .i64 c)):=by
  simp[storeVar,Value.cells,storeCells,Addr.add,K4,Result.andThen]
  rw[run_store prog W ta _ _ (by rfl)]
  simp[ht,hf]
 rw[YL]
 simp only[Sem.run_bind,Nc,MR,Result.andThen]
 simp[ReflectliteValue.flagAddr,hl,hs,Result.andThen,Mp]
theorem aa5(xt c:Int)(t:Addr)(old:Value)(w:World)(hg:w.cell? ⟨0,0,none⟩=some (.iface 221 (.agg #[.pointer (some ⟨5,87,none⟩)])))(ht0:w.cell? t=some old)(hf0:w.frozen? t=false):
  Calls prog 83 #[.iface 199 (.agg #[.int .i64 xt,.iface 201 (.agg #[.int .i64 c])]),.iface 203 (.pointer (some t))] w fun ev w'=>ev=.returned (.bool true)/\∃w1,aX w w1/\w'=w1.setCell t (.int .i64 c):=by
 have h6:=@run_callFunc_extern prog 108 _ (fun args=>ReflectliteValue.unpack (args.getD 0 (.tuple #[]))) func108 (by kernel_rfl) (by kernel_rfl) (by kernel_rfl) (by kernel_rfl)
 have h7 := @run_callFunc_extern prog 109 _ (ReflectliteValue.methodAny (ReflectliteValue.valueError "reflectlite.Value.Type" 0) (fun t _ _ _ => ReflectliteType.toType t)) func109 (by kernel_rfl) (by kernel_rfl) (by kernel_rfl) (by kernel_rfl)
 have h8 := @run_callFunc_extern prog 110 _ (ReflectliteValue.method (ReflectliteValue.valueError "reflectlite.Value.IsNil" 0) ReflectliteValue.isNil) func110 (by kernel_rfl) (by kernel_rfl) (by kernel_rfl) (by kernel_rfl)
 have h27:=@run_callFunc_extern prog 408 _ (ReflectliteType.abiMethod fun t=>do pure (.int .u8 (<-Rtype.kind t))) func408 (by kernel_rfl) (by kernel_rfl) (by kernel_rfl) (by kernel_rfl)
 have h37:=@run_callFunc_extern prog 421 _ (ReflectliteType.method ReflectliteType.elem) func421 (by kernel_rfl) (by kernel_rfl) (by kernel_rfl) (by kernel_rfl)
 have h38 := @run_callFunc_extern prog 422 _ (ReflectliteType.relation "Implements" ReflectliteType.implements_) func422 (by kernel_rfl) (by kernel_rfl) (by kernel_rfl) (by kernel_rfl)
 have h10:=@run_callFunc_extern prog 155 _ ReflectliteType.typeOf func155 (by kernel_rfl) (by kernel_rfl) (by kernel_rfl) (by kernel_rfl)
 have h35 := @run_callFunc_extern prog 419 _ (ReflectliteType.relation "AssignableTo" ReflectliteType.assignableTo) func419 (by kernel_rfl) (by kernel_rfl) (by kernel_rfl) (by kernel_rfl)
 have h11 := @run_callFunc_extern prog 156 _ (ReflectliteValue.method (ReflectliteValue.valueError "reflectlite.Value.Elem" 0) ReflectliteValue.elem) func156 (by kernel_rfl) (by kernel_rfl) (by kernel_rfl) (by kernel_rfl)
 have h12:=@run_callFunc_extern prog 157 _ ReflectliteValue.set func157 (by kernel_rfl) (by kernel_rfl) (by kernel_rfl) (by kernel_rfl)
 have tA:=PT
 have tT:=QU
 have mA:=IV
 have aA:=WN
 have aT:=V7
 have vT:=MK
 have f6:=JI
 have f7:=Xo
 have mK:=PP
 have mE:=Sd
 have mI:=Pj
 have kP:=TE
 have kT:=S3
 have eP:=Xd
 have iT:=Vo
 have nA:=Up
 have uA:=uH
 have mU:=uI
 have hlt:0<w.heap.size:=by
  rcases Nat.lt_or_ge 0 w.heap.size with h|h
  ·exact h
  simp[World.cell?,Array.getElem?_eq_none h]at hg
 have htl:t.block<w.heap.size:=by
  rcases Nat.lt_or_ge t.block w.heap.size with h|h
  ·exact h
  simp[World.cell?,Array.getElem?_eq_none h]at ht0
 let A1:Obj:=.cells #[.pointer (some t)] 203
 let A2:Obj:=.cells #[.pointer (some ⟨5,203,none⟩),.pointer (some ⟨w.heap.size,0,none⟩),.int .u64 150] 184
 let A4:Obj:=.cells #[.int .i64 xt,.iface 201 (.agg #[.int .i64 c])] 199
 let A5:Obj:=.cells #[.int .i64 c] 201
 have n8:=P1 ⟨w.heap.size,0,none⟩ t ((w.alloc A1).alloc A2) (by simp[A1])
 have hg2:((w.alloc A1).alloc A2).cell? ⟨0,0,none⟩=some (.iface 221 (.agg #[.pointer (some ⟨5,87,none⟩)])):=by
  rw[World.cell?_alloc_lt _ _ ⟨0,0,none⟩ (by(simp;done)),World.cell?_alloc_lt _ _ ⟨0,0,none⟩ hlt];exact hg
 have el:=RP ⟨w.heap.size,0,none⟩ t ((((w.alloc A1).alloc A2).alloc A2).alloc A4) (by rw[World.cell?_alloc_lt _ _ ⟨w.heap.size,0,none⟩ (by(simp;omega)),World.cell?_alloc_lt _ _ ⟨w.heap.size,0,none⟩ (by(simp;omega))];simp[A1])
 have st:=ac4 t ⟨w.heap.size+1+1+1+1,0,none⟩ c old (((((w.alloc A1).alloc A2).alloc A2).alloc A4).alloc A5)
  (by rw[World.cell?_alloc_at _ _ _ _ (by simp)];rfl)
  (by rw[World.cell?_alloc_lt _ _ t (by(simp;omega)),World.cell?_alloc_lt _ _ t (by(simp;omega)),World.cell?_alloc_lt _ _ t (by(simp;omega)),World.cell?_alloc_lt _ _ t (by(simp;omega)),World.cell?_alloc_lt _ _ t htl];exact ht0)
  (by rw[World.frozen?_alloc_old _ _ t (by(simp;omega)),World.frozen?_alloc_old _ _ t (by(simp;omega)),World.frozen?_alloc_old _ _ t (by(simp;omega)),World.frozen?_alloc_old _ _ t (by(simp;omega)),World.frozen?_alloc_old _ _ t (Nat.ne_of_lt htl)];exact hf0)
 simp only[A1,A2,A4,A5]at n8 hg2 el st
 clear A1 A2 A4 A5
 go_enter func83,ntmps83
 go_wp2
 refine wp_loop_rounds 2 ?_
 rw[rounds_succ]
 go_wp2_with (go_at_call 416;refine(QE t xt _ _).mono ?_;rintro e w' ⟨rfl,rfl⟩)
 rw[rounds_succ]
 go_wp2
 go_ret
 exact⟨rfl,_,((((aX.alloc _ _).trans (aX.alloc _ _)).trans (aX.alloc _ _)).trans (aX.alloc _ _)).trans (aX.alloc _ _),rfl⟩
end Go.Proofs.YtjcminooghmpeaaGreatDoor
