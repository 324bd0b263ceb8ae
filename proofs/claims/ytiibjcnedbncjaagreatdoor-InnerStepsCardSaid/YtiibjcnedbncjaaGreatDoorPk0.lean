import Derived.Below
import Derived.Calls
import Derived.Deep.AppendSrc
import Derived.Laws.AppendOwn
import Derived.Laws.BytesArg
import Derived.Laws.CopyRow
import Derived.Laws.IdiomStrings
import Derived.Laws.MakeOwn
import Derived.Laws.StructEq
import Derived.Laws.Tables
import Derived.Orders
import Derived.WalkKit
import Derived.WalkLawsBesides
set_option linter.unusedVariables false
set_option linter.unusedSimpArgs false
set_option maxRecDepth 100000
set_option maxHeartbeats 40000000
namespace Go.Proofs.YtiibjcnedbncjaaGreatDoor
open Go.RowKit
inductive SK where
 | any
 | clip
 | own (t k:Nat)
inductive fg where
 | s (k:List UInt8)
 | n (i:Int)
deriving DecidableEq
inductive PV where
 | val (v:Value)
 | any
 | agg (cs:List PV)
 | tup (cs:List PV)
 | ptr (i off:Nat)
 | seq (n:Nat) (xs:List PV) (s:SK)
 | row (xs:List PV)
 | arr (i off n cap:Nat)
 | fn (f:Fn) (first cap:List PV)
 | mapv (i:Nat)
 | arw (i off n:Nat)
 | smap (ks:List fg) (xs:List PV)
 | ifc (t:TypeId) (x:PV)
structure Cx where
 w:World
 N:Nat
 σ:Nat→Option Nat
 Wr:Nat→Nat→Prop
def ou(c:Cx)(b:Addr)(vs:List Value):Prop :=
 b.spot=none∧∀(j:Nat) (u:Value),vs[j]?=some u→c.w.cell? ⟨b.block,b.off+j,none⟩=some u∧¬c.Wr b.block (b.off+j)
def uG(c:Cx)(s:SK)(a:Option Addr)(n cap len:Nat):Prop :=
 match s with
 | .any=>True
 | .clip=>cap=n
 | .own t k=>t<c.N∧len=n*k∧(cap=n∨∃b cs e,c.σ t=some b∧a=some ⟨b,0,none⟩∧c.w.heap[b]?=some (Obj.cells cs e (0,0))∧cap*k≤cs.size)
def kR:fg→Value
 | .s k=>.string ⟨k.toArray⟩
 | .n i=>.int .i64 i
mutual
def Rep(c:Cx):PV→Value→Prop
 | .val u,v=>v=u
 | .any,_=>True
 | .agg cs,v=>∃vs:List Value,v=.agg vs.toArray∧an c cs vs
 | .tup cs,v=>∃vs:List Value,v=.tuple vs.toArray∧an c cs vs
 | .ptr i off,v=>i<c.N∧∃b,c.σ i=some b∧v=.pointer (some ⟨b,off,none⟩)
 | .seq n xs s,v=>∃(a:Option Addr) (cap:Nat) (vs:List Value),v=.slice a n cap∧n≤cap∧(a=none→n=0∧cap=0∧vs=[])∧an c xs vs ∧
   (∀b,a=some b→ou c b vs∨(cap=0∧vs=[]))∧uG c s a n cap xs.length
 | .row xs,v=>∃(b:Addr) (vs:List Value),v=.pointer (some b)∧an c xs vs∧ou c b vs
 | .arr i off n cap,v=>i<c.N∧∃b,c.σ i=some b∧v=.slice (some ⟨b,off,none⟩) n cap
 | .fn f first cap,v=>∃fs cs:List Value,v=.func f fs.toArray cs.toArray∧an c first fs∧an c cap cs
 | .mapv i,v=>i<c.N∧∃b,c.σ i=some b∧v=.map (some b)
 | .arw i off n,v=>i<c.N∧∃b cap,c.σ i=some b∧n≤cap∧v=.slice (some ⟨b,off,none⟩) n cap
 | .smap ks xs,v=>∃(b:Nat) (es:Array MapEntry) (clk:Nat),v=.map (some b)∧c.w.heap[b]?=some (Obj.map es clk)∧¬c.Wr b 0∧es.toList.map (·.key)=ks.map kR∧an c xs (es.toList.map (·.val))
 | .ifc t x,v=>∃u,v=.iface t u∧Rep c x u
def an(c:Cx):List PV→List Value→Prop
 | [],vs=>vs=[]
 | x::xs,vs=>∃(u:Value) (us:List Value),vs=u::us∧Rep c x u∧an c xs us
end
structure Cx.Le (c c':Cx):Prop where
 N:c.N≤c'.N
 σ:∀i,i<c.N→c'.σ i=c.σ i
 cell:∀b off u,¬c.Wr b off→c.w.cell? ⟨b,off,none⟩=some u→c'.w.cell? ⟨b,off,none⟩=some u∧¬c'.Wr b off
 mapo:∀(b:Nat) (es:Array MapEntry) (clk:Nat),¬c.Wr b 0→c.w.heap[b]?=some (Obj.map es clk)→c'.w.heap[b]?=some (Obj.map es clk)∧¬c'.Wr b 0
 shape:∀(b:Nat) (cs:Array Value) (e:TypeId) (fr:Nat×Nat),c.w.heap[b]?=some (Obj.cells cs e fr)→∃cs':Array Value,c'.w.heap[b]?=some (Obj.cells cs' e fr)∧cs'.size=cs.size
theorem Cx.Le.refl(c:Cx):c.Le c:=⟨Nat.le_refl _,fun _ _=>rfl,fun _ _ _ h1 h2=>⟨h2,h1⟩,fun _ _ _ h1 h2=>⟨h2,h1⟩,fun _ cs _ _ h=>⟨cs,h,rfl⟩⟩
theorem Cx.Le.trans{a b c:Cx}(h:a.Le b)(k:b.Le c):a.Le c:=by
 refine⟨Nat.le_trans h.N k.N,fun i hi=>(k.σ i (Nat.lt_of_lt_of_le hi h.N)).trans (h.σ i hi),fun x off u h1 h2=>?_,fun x es clk h1 h2=>?_,fun x cs e fr h1=>?_⟩
 ·obtain⟨h3,h4⟩:=h.cell x off u h1 h2
  exact k.cell x off u h4 h3
 ·obtain⟨h3,h4⟩:=h.mapo x es clk h1 h2
  exact k.mapo x es clk h4 h3
 obtain⟨c1,h2,h3⟩:=h.shape x cs e fr h1
 obtain⟨c2,h4,h5⟩:=k.shape x c1 e fr h2
 exact⟨c2,h4,h5.trans h3⟩
theorem ou.mono{c c':Cx}(h:c.Le c'){b:Addr}{vs:List Value}(k:ou c b vs):ou c' b vs :=
 ⟨k.1,fun j u hj=>h.cell _ _ u (k.2 j u hj).2 (k.2 j u hj).1⟩
theorem uG.mono{c c':Cx}(h:c.Le c'){s:SK}{a:Option Addr}{n cap len:Nat}(k:uG c s a n cap len):uG c' s a n cap len:=by
 cases s with
 | any=>trivial
 | clip=>exact k
 | own t m =>
  obtain⟨h1,h2,h3⟩:=k
  refine⟨Nat.lt_of_lt_of_le h1 h.N,h2,?_⟩
  rcases h3 with h3|⟨b,cs,e,h3,h4,h5,h6⟩
  ·exact .inl h3
  obtain⟨cs',h7,h8⟩:=h.shape _ cs e _ h5
  exact .inr ⟨b,cs',e,by rw[h.σ t h1];exact h3,h4,h7,by omega⟩
mutual
theorem Rep.mono{c c':Cx}(h:c.Le c'):∀{x:PV} {v:Value},Rep c x v→Rep c' x v
 | .val u,v,k=>by unfold Rep at k ⊢;exact k
 | .any,_,_=>by unfold Rep;trivial
 | .agg cs,v,k=>by unfold Rep at k ⊢;obtain⟨vs,h1,h2⟩:=k;exact⟨vs,h1,an.mono h h2⟩
 | .tup cs,v,k=>by unfold Rep at k ⊢;obtain⟨vs,h1,h2⟩:=k;exact⟨vs,h1,an.mono h h2⟩
 | .ptr i off,v,k=>by unfold Rep at k ⊢;exact⟨Nat.lt_of_lt_of_le k.1 h.N,by rw[h.σ i k.1];exact k.2⟩
 | .seq n xs s,v,k=>by
  unfold Rep at k ⊢
  obtain⟨a,cap,vs,h1,h2,h3,h4,h5,h6⟩:=k
  exact⟨a,cap,vs,h1,h2,h3,an.mono h h4,fun b hb=>(h5 b hb).imp (·.mono h) id,h6.mono h⟩
 | .row xs,v,k=>by unfold Rep at k ⊢;obtain⟨b,vs,h1,h2,h3⟩:=k;exact⟨b,vs,h1,an.mono h h2,h3.mono h⟩
 | .arr i off n cap,v,k=>by unfold Rep at k ⊢;exact⟨Nat.lt_of_lt_of_le k.1 h.N,by rw[h.σ i k.1];exact k.2⟩
 | .fn f first cap,v,k=>by unfold Rep at k ⊢;obtain⟨fs,cs,h1,h2,h3⟩:=k;exact⟨fs,cs,h1,an.mono h h2,an.mono h h3⟩
 | .mapv i,v,k=>by unfold Rep at k ⊢;exact⟨Nat.lt_of_lt_of_le k.1 h.N,by rw[h.σ i k.1];exact k.2⟩
 | .arw i off n,v,k=>by unfold Rep at k ⊢;exact⟨Nat.lt_of_lt_of_le k.1 h.N,by rw[h.σ i k.1];exact k.2⟩
 | .smap ks xs,v,k=>by
  unfold Rep at k ⊢
  obtain⟨b,es,clk,h1,h2,h3,h4,h5⟩:=k
  obtain⟨h6,h7⟩:=h.mapo b es clk h3 h2
  exact⟨b,es,clk,h1,h6,h7,h4,an.mono h h5⟩
 | .ifc t x,v,k=>by unfold Rep at k ⊢;obtain⟨u,h1,h2⟩:=k;exact⟨u,h1,Rep.mono h h2⟩
theorem an.mono{c c':Cx}(h:c.Le c'):∀{xs:List PV} {vs:List Value},an c xs vs→an c' xs vs
 | [],vs,k=>by unfold an at k ⊢;exact k
 | x::xs,vs,k=>by unfold an at k ⊢;obtain⟨u,us,h1,h2,h3⟩:=k;exact⟨u,us,h1,Rep.mono h h2,an.mono h h3⟩
end
theorem ax{c:Cx}{vs:List Value}:an c [] vs↔vs=[]:=by unfold an;rfl
theorem am{c:Cx}{x:PV}{xs:List PV}{u:Value}{us:List Value}:an c (x::xs) (u::us)↔Rep c x u∧an c xs us:=by
 constructor
 ·intro h
  unfold an at h
  obtain⟨u',us',h1,h2,h3⟩:=h
  injection h1 with h4 h5
  subst h4 h5
  exact⟨h2,h3⟩
 intro h;unfold an;exact⟨u,us,rfl,h.1,h.2⟩
theorem an.length{c:Cx}:∀{xs:List PV} {vs:List Value},an c xs vs→vs.length=xs.length
 | [],vs,h=>by rw[ax]at h;simp[h]
 | x::xs,[],h=>by unfold an at h;obtain⟨u,us,h1,_⟩:=h;cases h1
 | x::xs,v::vs,h=>by rw[am]at h;simp[an.length h.2]
theorem an.get{c:Cx}:∀{xs:List PV} {vs:List Value} (_:an c xs vs) {j:Nat} {x:PV} (_:xs[j]?=some x),∃u,vs[j]?=some u∧Rep c x u
 | [],_,_,j,x,hj=>by simp at hj
 | y::xs,[],h,_,_,_=>by unfold an at h;obtain⟨u,us,h1,_⟩:=h;cases h1
 | y::xs,v::vs,h,0,x,hj=>by rw[am]at h;simp at hj;subst hj;exact⟨v,rfl,h.1⟩
 | y::xs,v::vs,h,j+1,x,hj=>by rw[am]at h;simpa using an.get h.2 (by simpa using hj)
theorem an.append{c:Cx}:∀{xs ys:List PV} {vs us:List Value},an c xs vs→an c ys us→an c (xs++ys) (vs++us)
 | [],ys,vs,us,h,k=>by rw[ax]at h;subst h;exact k
 | x::xs,ys,[],us,h,k=>by unfold an at h;obtain⟨u,_,h1,_⟩:=h;cases h1
 | x::xs,ys,v::vs,us,h,k=>by rw[am]at h;exact am.2 ⟨h.1,an.append h.2 k⟩
theorem an.drop{c:Cx}:∀{xs:List PV} {vs:List Value} (n:Nat),an c xs vs→an c (xs.drop n) (vs.drop n)
 | xs,vs,0,h=>by simpa using h
 | [],vs,n+1,h=>by rw[ax]at h;subst h;simpa using ax.2 rfl
 | x::xs,[],n+1,h=>by unfold an at h;obtain⟨u,_,h1,_⟩:=h;cases h1
 | x::xs,v::vs,n+1,h=>by rw[am]at h;simpa using an.drop n h.2
theorem an.take{c:Cx}:∀{xs:List PV} {vs:List Value} (n:Nat),an c xs vs→an c (xs.take n) (vs.take n)
 | xs,vs,0,h=>by simpa using ax.2 rfl
 | [],vs,n+1,h=>by rw[ax]at h;subst h;simpa using ax.2 rfl
 | x::xs,[],n+1,h=>by unfold an at h;obtain⟨u,_,h1,_⟩:=h;cases h1
 | x::xs,v::vs,n+1,h=>by rw[am]at h;simpa using am.2 ⟨h.1,an.take n h.2⟩
theorem an.set{c:Cx}:∀{xs:List PV} {vs:List Value} (n:Nat) {x:PV} {u:Value},an c xs vs→Rep c x u→an c (xs.set n x) (vs.set n u)
 | [],vs,n,x,u,h,k=>by rw[ax]at h;subst h;simpa using ax.2 rfl
 | y::xs,[],n,x,u,h,k=>by unfold an at h;obtain⟨u,_,h1,_⟩:=h;cases h1
 | y::xs,v::vs,0,x,u,h,k=>by rw[am]at h;simpa using am.2 ⟨k,h.2⟩
 | y::xs,v::vs,n+1,x,u,h,k=>by rw[am]at h;simpa using am.2 ⟨h.1,an.set n h.2 k⟩
theorem ou.drop{c:Cx}{b:Addr}{vs:List Value}(h:ou c b vs)(n:Nat):ou c ⟨b.block,b.off+n,none⟩ (vs.drop n) :=
 ⟨rfl,fun j u hj=>by rw[List.getElem?_drop]at hj;have:=h.2 (n+j) u hj;simpa[Nat.add_assoc]using this⟩
theorem ou.take{c:Cx}{b:Addr}{vs:List Value}(h:ou c b vs)(n:Nat):ou c b (vs.take n) :=
 ⟨h.1,fun j u hj=>by rw[List.getElem?_take]at hj;split at hj;exact h.2 j u hj;cases hj⟩
inductive Ob where
 | smap (ks:List fg) (xs:List PV)
 | iter (s:List UInt8) (pos:Nat)
 | cells (xs:List PV) (e:TypeId)
 | free (m:Nat)
 | dead
 | glob (g:Nat) (u:Value)
def Ob.live:Ob→Bool
 | .dead=>false
 | .glob _ _=>false
 | _=>true
def Ob.wr:Ob→Nat→Prop
 | .cells _ _,_=>True
 | .free m,off=>m≤off
 | .smap _ _,_=>True
 | .iter _ _,_=>True
 | .dead,_=>False
 | .glob _ _,_=>False
def iE(σ:Nat→Option Nat)(H:List Ob)(b off:Nat):Prop:=∃i ob,H[i]?=some ob∧σ i=some b∧ob.wr off
def cx(B:Nat→Nat→Prop)(H:List Ob)(σ:Nat→Option Nat)(w:World):Cx:=⟨w,H.length,σ,fun b off=>B b off∨iE σ H b off⟩
def qZ(c:Cx)(xs:List PV)(vs:List Value):Prop:=∃p q,vs=p++q∧an c xs p
theorem qZ.of{c:Cx}{xs:List PV}{vs:List Value}(h:an c xs vs):qZ c xs vs:=⟨vs,[],by simp,h⟩
theorem qZ.mono{c c':Cx}(h:c.Le c'){xs:List PV}{vs:List Value}(k:qZ c xs vs):qZ c' xs vs:=by
 obtain⟨p,q,h1,h2⟩:=k;exact⟨p,q,h1,an.mono h h2⟩
theorem qZ.le{c:Cx}{xs:List PV}{vs:List Value}(k:qZ c xs vs):xs.length≤vs.length:=by
 obtain⟨p,q,rfl,h2⟩:=k;rw[List.length_append,an.length h2];omega
theorem qZ.take{c:Cx}{xs:List PV}{vs:List Value}(k:qZ c xs vs){n:Nat}(hn:n≤xs.length):an c (xs.take n) (vs.take n):=by
 obtain⟨p,q,rfl,h2⟩:=k
 rw[List.take_append_of_le_length (by rw[an.length h2];exact hn)]
 exact an.take n h2
theorem qZ.drop{c:Cx}{xs:List PV}{vs:List Value}(k:qZ c xs vs)(n:Nat):qZ c (xs.drop n) (vs.drop n):=by
 obtain⟨p,q,rfl,h2⟩:=k
 rw[List.drop_append]
 exact⟨_,_,rfl,an.drop n h2⟩
def QK(fr:Nat×Nat)(n:Nat):Prop:=fr=(0,0)∨n≤fr.1
def zP(c:Cx)(i:Nat):Ob→Prop
 | .cells xs e=>∃(b:Nat) (vs:List Value) (fr:Nat×Nat),c.σ i=some b∧c.w.heap[b]?=some (Obj.cells vs.toArray e fr)∧QK fr vs.length∧qZ c xs vs
 | .smap ks xs=>∃(b:Nat) (es:Array MapEntry) (clk:Nat),c.σ i=some b∧c.w.heap[b]?=some (Obj.map es clk)∧es.toList.map (·.key)=ks.map kR∧an c xs (es.toList.map (·.val))
 | .iter s pos=>∃(b:Nat),c.σ i=some b∧c.w.heap[b]?=some (Obj.stringIter ⟨s.toArray⟩ pos)
 | .free m=>∀b,c.σ i=some b→∃cs e,c.w.heap[b]?=some (Obj.cells cs e (0,0))∧m≤cs.size
 | .dead=>True
 | .glob g u=>c.w.cell? ⟨g,0,none⟩=some u∧¬c.Wr g 0
structure Sim (B:Nat→Nat→Prop) (H:List Ob) (σ:Nat→Option Nat) (w:World):Prop where
 inj:∀i j b oi oj,H[i]?=some oi→H[j]?=some oj→oi.live=true→oj.live=true→σ i=some b→σ j=some b→i=j
 sep:∀i b oi,H[i]?=some oi→oi.live=true→σ i=some b→∀off,¬B b off
 base:∀b off,B b off→b<w.heap.size
 holds:∀i oi,H[i]?=some oi→zP (cx B H σ w) i oi
structure di (B:Nat→Nat→Prop) (H:List Ob) (σ:Nat→Option Nat) (w:World) (H':List Ob) (σ':Nat→Option Nat) (w':World):Prop where
 le:(cx B H σ w).Le (cx B H' σ' w')
 os:w'.os=w.os
 tape:w'.tape=w.tape
 output:w'.output=w.output
 size:w.heap.size≤w'.heap.size
 new:∀i oi b,H'[i]?=some oi→oi.live=true→σ' i=some b→w.heap.size≤b∨∃j oj,H[j]?=some oj∧oj.live=true∧σ j=some b
 block:∀b,b<w.heap.size→(∀i oi,H[i]?=some oi→oi.live=true→σ i≠some b)→w'.heap[b]?=w.heap[b]?
theorem di.refl(B:Nat→Nat→Prop)(H:List Ob)(σ:Nat→Option Nat)(w:World):di B H σ w H σ w :=
 ⟨Cx.Le.refl _,rfl,rfl,rfl,Nat.le_refl _,fun i oi b h1 h2 h3=>.inr ⟨i,oi,h1,h2,h3⟩,fun _ _ _=>rfl⟩
theorem di.trans{B:Nat→Nat→Prop}{H H1 H2:List Ob}{σ σ1 σ2:Nat→Option Nat}{w w1 w2:World}(h:di B H σ w H1 σ1 w1)(k:di B H1 σ1 w1 H2 σ2 w2):di B H σ w H2 σ2 w2:=by
 refine⟨h.le.trans k.le,k.os.trans h.os,k.tape.trans h.tape,k.output.trans h.output,Nat.le_trans h.size k.size,fun i oi b h1 h2 h0=>?_,fun b hb hn=>?_⟩
 ·rcases k.new i oi b h1 h2 h0 with h3|⟨j,oj,h3,h4,h5⟩
  ·exact .inl (Nat.le_trans h.size h3)
  rcases h.new j oj b h3 h4 h5 with h6|h6
  ·exact .inl h6
  exact .inr h6
 rw[k.block b (Nat.lt_of_lt_of_le hb h.size) (fun i oi h1 h2 e=>?_)]
 ·exact h.block b hb hn
 rcases h.new i oi b h1 h2 e with h3|⟨j,oj,h3,h4,h5⟩
 ·omega
 exact hn j oj h3 h4 h5
open Go.RowKit
def upd(i:Nat)(x:PV)(T:Nat→PV):Nat→PV:=fun j=>match Nat.beq j i with|true=>x|false=>T j
def al(d:Option Tmp)(x:PV)(T:Nat→PV):Nat→PV:=match d with|some i=>upd i x T|none=>T
theorem dt(i:Nat)(x:PV)(T:Nat→PV):upd i x T i=x:=by simp[upd]
theorem cp(i j:Nat)(x:PV)(T:Nat→PV)(h:j≠i):upd i x T j=T j:=by
 unfold upd
 have:Nat.beq j i=false:=by rw[←Bool.not_eq_true,Nat.beq_eq];exact h
 rw[this]
def LZ(c:Cx)(T:Nat→PV)(a:Act):Prop:=∀i,Rep c (T i) (a.tmps.getD i undef)
structure jz (B:Nat→Nat→Prop) (n:Nat) (T:Nat→PV) (H:List Ob) (σ:Nat→Option Nat) (w:World) (a:Act):Prop where
 sim:Sim B H σ w
 rep:LZ (cx B H σ w) T a
 size:a.tmps.size=n
 defers:a.defers=[]
def xo(B:Nat→Nat→Prop)(n:Nat)(H:List Ob)(σ:Nat→Option Nat)(w:World)(Q:Exit→(Nat→PV)→List Ob→Prop):Exit→Act→World→Prop :=
 fun e a' w'=>∃T' H' σ',Q e T' H'∧jz B n T' H' σ' w' a'∧di B H σ w H' σ' w'
def W(P:Program)(B:Nat→Nat→Prop)(n:Nat)(c:Code)(T:Nat→PV)(H:List Ob)(Q:Exit→(Nat→PV)→List Ob→Prop):Prop :=
 ∀σ w a,jz B n T H σ w a→c.wp P (xo B n H σ w Q) a w
def lG(K:(Nat→PV)→List Ob→Prop)(Q:Exit→(Nat→PV)→List Ob→Prop):Exit→(Nat→PV)→List Ob→Prop
 | .normal,T,H=>K T H
 | e,T,H=>Q e T H
def Kc(id:Nat)(Q:Exit→(Nat→PV)→List Ob→Prop):Exit→(Nat→PV)→List Ob→Prop
 | .exit i,T,H=>match Nat.beq i id with|true=>Q .normal T H|false=>Q (.exit i) T H
 | e,T,H=>Q e T H
section
variable {P : Program} {B : Nat → Nat → Prop} {n : Nat} {T : Nat → PV} {H : List Ob} {Q : Exit → (Nat → PV) → List Ob → Prop}
theorem gS{σ:Nat→Option Nat}{w w1:World}{H1:List Ob}{σ1:Nat→Option Nat}{Q':Exit→(Nat→PV)→List Ob→Prop}(h:di B H σ w H1 σ1 w1)(hq:∀e T H,Q e T H→Q' e T H){e:Exit}{a':Act}{w':World}
  (k:xo B n H1 σ1 w1 Q e a' w'):xo B n H σ w Q' e a' w':=by
 obtain⟨T',H',σ',h1,h2,h3⟩:=k
 exact⟨T',H',σ',hq _ _ _ h1,h2,h.trans h3⟩
theorem Wj(h:Q .normal T H):W P B n .skip T H Q:=fun σ w a g=>wp_skip ⟨T,H,σ,h,g,di.refl _ _ _ _⟩
theorem Wq(h:Q .ret T H):W P B n .ret T H Q:=fun σ w a g=>wp_ret ⟨T,H,σ,h,g,di.refl _ _ _ _⟩
theorem aN{id:Nat}(h:Q (.exit id) T H):W P B n (.exit id) T H Q:=fun σ w a g=>wp_exit ⟨T,H,σ,h,g,di.refl _ _ _ _⟩
theorem Ws{x y:Code}(h:W P B n x T H (lG (fun T' H'=>W P B n y T' H' Q) Q)):W P B n (x.seq y) T H Q:=by
 intro σ w a g
 refine wp_seq (wp_mono (h σ w a g) ?_)
 rintro e a' w' ⟨T',H',σ',h1,h2,h3⟩
 cases e with
 | normal=>exact wp_mono (h1 σ' w' a' h2) fun _ _ _ k=>gS h3 (fun _ _ _ h=>h) k
 | exit id=>exact⟨T',H',σ',h1,h2,h3⟩
 | goto l=>exact⟨T',H',σ',h1,h2,h3⟩
 | ret=>exact⟨T',H',σ',h1,h2,h3⟩
 | panic c=>exact⟨T',H',σ',h1,h2,h3⟩
 | outgrown=>exact⟨T',H',σ',h1,h2,h3⟩
theorem Wl{id:Nat}{c:Code}(h:W P B n c T H (Kc id Q)):W P B n (.block id c) T H Q:=by
 intro σ w a g
 refine wp_block (wp_mono (h σ w a g) ?_)
 rintro e a' w' ⟨T',H',σ',h1,h2,h3⟩
 cases e with
 | exit i =>
  simp only[Kc]at h1
  simp only[Exit.inBlock]
  by_cases hi:i=id
  ·subst hi
   rw[show Nat.beq i i=true from Nat.beq_refl i]at h1
   rw[if_pos rfl]
   exact⟨T',H',σ',h1,h2,h3⟩
  rw[show Nat.beq i id=false from by rw[←Bool.not_eq_true,Nat.beq_eq];exact hi]at h1
  rw[if_neg hi]
  exact⟨T',H',σ',h1,h2,h3⟩
 | normal=>exact⟨T',H',σ',h1,h2,h3⟩
 | goto l=>exact⟨T',H',σ',h1,h2,h3⟩
 | ret=>exact⟨T',H',σ',h1,h2,h3⟩
 | panic c=>exact⟨T',H',σ',h1,h2,h3⟩
 | outgrown=>exact⟨T',H',σ',h1,h2,h3⟩
def xv:Value→PV
 | .slice none 0 0=>.seq 0 [] .clip
 | .agg cs=>.agg (cs.toList.map fun|.slice none 0 0=>.seq 0 [] .clip|v=>.val v)
 | v=>.val v
def opv(T:Nat→PV):Operand→PV
 | .tmp t=>T t
 | .const v=>xv v
 | .global g=>.val (.pointer (some ⟨g,0,none⟩))
 | .func f=>.fn (.func f) [] []
theorem aD(c:Cx)(v:Value):Rep c (.val v) v:=by unfold Rep;rfl
theorem tj(c:Cx):Rep c (.seq 0 [] .clip) (.slice none 0 0):=by
 unfold Rep
 exact⟨none,0,[],rfl,Nat.le_refl _,fun _=>⟨rfl,rfl,rfl⟩,ax.2 rfl,(fun b h=>by cases h),rfl⟩
theorem GZ(c:Cx)(v:Value):Rep c (xv v) v:=by
 unfold xv
 split
 ·exact tj c
 ·rename_i cs
  unfold Rep
  refine⟨cs.toList,rfl,?_⟩
  generalize cs.toList=l
  induction l with
  | nil=>exact ax.2 rfl
  | cons x l ih =>
   refine am.2 ⟨?_,ih⟩
   dsimp only
   split
   ·exact tj c
   exact aD c _
 exact aD c _
theorem jG{c:Cx}{a:Act}(h:LZ c T a)(x:Operand):Rep c (opv T x) (a.eval x):=by
 cases x with
 | tmp t=>exact h t
 | const v=>exact GZ c v
 | global g=>exact aD c _
 | func f=>unfold opv Rep;exact⟨[],[],rfl,ax.2 rfl,ax.2 rfl⟩
theorem Wi{c:Operand}{x y:Code}{t:Bool}(hc:opv T c=.val (.bool t))(h1:t=true→W P B n x T H Q)(h2:t=false→W P B n y T H Q):W P B n (.cond c x y) T H Q:=by
 intro σ w a g
 have he:=jG g.rep c
 rw[hc]at he
 unfold Rep at he
 cases t with
 | true=>exact wp_cond he (h1 rfl σ w a g)
 | false=>exact wp_cond he (h2 rfl σ w a g)
theorem Wt{c:Operand}{x y:Code}{t:Bool}(hc:opv T c=.val (.bool t))(ht:t=true)(h1:W P B n x T H Q):W P B n (.cond c x y) T H Q:=Wi hc (fun _=>h1) (fun h=>by rw[ht]at h;cases h)
theorem Wf{c:Operand}{x y:Code}{t:Bool}(hc:opv T c=.val (.bool t))(ht:t=false)(h1:W P B n y T H Q):W P B n (.cond c x y) T H Q:=Wi hc (fun h=>by rw[ht]at h;cases h) (fun _=>h1)
end
theorem BD{P:Program}{Q:Exit→Act→World→Prop}{c:Code}(I:Nat→Act→World→Prop)
  (round:∀m a w,I m a w→c.wp P (Exit.then (fun a' w'=>∃m',m'<m∧I m' a' w') Q) a w):∀m a w,I m a w→(Code.loop c).wp P Q a w:=by
 have key:∀(m:Nat) (a:Act) (w:World),I m a w→∀(b:Frame) (k:List Item) (cs:List Frame),
   ∃e a' w',Q e a' w'∧Arrives P (lone (b.at a (.code c::.inLoop c::k)) cs w) b k cs e a' w':=by
  intro m
  induction m using Nat.strongRecOn with
  | _ m ih =>
   intro a w hI b k cs
   obtain⟨e,a1,w1,hq,harr⟩:=round m a w hI b (.inLoop c::k) cs
   cases e with
   | normal =>
    obtain⟨m',hlt,hI'⟩:=hq
    obtain⟨e2,a2,w2,hq2,harr2⟩:=ih m' hlt a1 w1 hI' b k cs
    exact⟨e2,a2,w2,hq2,.of_steps (Steps.trans harr (.one step_inLoop)) harr2⟩
   | exit id=>exact⟨_,a1,w1,hq,.pass (x:=.inLoop c) rfl (fun _ _=>.inl (by simp)) harr⟩
   | goto l=>exact⟨_,a1,w1,hq,.pass (x:=.inLoop c) rfl (fun _ _=>.inl (by simp)) harr⟩
   | ret=>exact⟨_,a1,w1,hq,.pass (x:=.inLoop c) rfl (fun _ _=>.inl (by simp)) harr⟩
   | panic ch=>exact⟨_,a1,w1,hq,.pass (x:=.inLoop c) rfl (fun _ _=>.inl (by simp)) harr⟩
   | outgrown=>exact⟨_,a1,w1,hq,.pass (x:=.inLoop c) rfl (fun _ _=>.inl (by simp)) harr⟩
 intro m a w hI b k cs
 obtain⟨e,a',w',hq,harr⟩:=key m a w hI b k cs
 exact⟨e,a',w',hq,.of_steps (.one step_loop) harr⟩
section
variable {P : Program} {B : Nat → Nat → Prop} {n : Nat} {T : Nat → PV} {H : List Ob} {Q : Exit → (Nat → PV) → List Ob → Prop}
end
def wpL(P:Program)(all:Array Oper)(Q:Exit→Act→World→Prop):List Oper→Act→World→Prop
 | [],a,w=>Q .normal a w
 | o::rest,a,w=>if Region.wanted o (yielded all a.tmps)then o.wp P a w (wpL P all Q rest) Q else wpL P all Q rest (a.put o.dst undef) w
theorem m3{P:Program}{all:Array Oper}{Q:Exit→Act→World→Prop}:∀(l:List Oper) (k:Nat) (a:Act) (w:World),(∀j,l[j]?=all[k+j]?)→wpL P all Q l a w→wpOps P all Q (List.range' k l.length) a w
 | [],k,a,w,_,h=>by simpa[wpOps,wpL]using h
 | o::l,k,a,w,hl,h=>by
  have h0:all[k]?=some o:=by simpa using (hl 0).symm
  have hr:List.range' k (o::l).length=k::List.range' (k+1) l.length:=by simp[List.range'_succ]
  have hn:∀j,l[j]?=all[k+1+j]?:=fun j=>by have:=hl (j+1);simpa[Nat.add_assoc,Nat.add_comm 1 j]using this
  rw[hr]
  simp only[wpOps,h0]
  simp only[wpL]at h
  split
  ·rename_i hw
   rw[if_pos hw]at h
   exact .inl (Oper.wp_mono (fun a w h=>m3 l (k+1) a w hn h) h)
  rename_i hw
  rw[if_neg hw]at h
  exact m3 l (k+1) _ w hn h
theorem zO{P:Program}{id:Nat}{l:List Oper}{Q:Exit→Act→World→Prop}{a:Act}{w:World}(h:wpL P l.toArray Q l a w):(Code.region id l.toArray false).wp P Q a w:=by
 refine wp_region ?_
 have:=m3 (all:=l.toArray) l 0 a w (fun j=>by simp) h
 rwa [List.range_eq_range',List.size_toArray]
def ei(n:Nat)(all:Array Oper):Bool:=all.toList.all fun o=>match o.dst with|some d=>Nat.blt d n|none=>true
theorem dW{n:Nat}{all:Array Oper}(h:ei n all=true):∀(i d:Nat),(all[i]?).bind (·.dst)=some d→Nat.blt d n=true:=by
 intro i d hd
 unfold ei at h
 rw[List.all_eq_true]at h
 cases ho:all[i]? with
 | none=>rw[ho]at hd;cases hd
 | some o =>
  rw[ho]at hd
  simp only[Option.bind_some]at hd
  have hm:o∈all.toList:=by rw[Array.mem_toList_iff];exact Array.mem_of_getElem? ho
  have:=h o hm
  rw[hd]at this
  exact this
def dOk(n:Nat):Option Tmp→Bool
 | some d=>Nat.blt d n
 | none=>true
def nfD(n:Nat):Option Tmp→Option (Option Tmp)
 | some d=>match Nat.blt d n with
  | true=>some (some d)
  | false=>none
 | none=>some none
theorem cm{n:Nat}{x d:Option Tmp}(h:nfD n x=some d):d=x∧dOk n x=true:=by
 cases x with
 | none=>injection h with h;exact⟨h.symm,rfl⟩
 | some i =>
  simp only[nfD]at h
  split at h
  ·rename_i hi;injection h with h;exact⟨h.symm,hi⟩
  cases h
theorem qT{n:Nat}{d:Option Tmp}(h:dOk n d=true):∀i,d=some i→Nat.blt i n=true:=by rintro i rfl;exact h
def WO(P:Program)(B:Nat→Nat→Prop)(n:Nat)(all:Array Oper)(l:List Oper)(T:Nat→PV)(H:List Ob)(K:(Nat→PV)→List Ob→Prop):Prop :=
 ei n all=true→∀σ w a,jz B n T H σ w a→wpL P all (xo B n H σ w (lG K fun _ _ _=>False)) l a w
theorem eR{P:Program}{all:Array Oper}{Q Q':Exit→Act→World→Prop}(hq:∀e a w,Q e a w→Q' e a w):∀(l:List Oper) (a:Act) (w:World),wpL P all Q l a w→wpL P all Q' l a w
 | [],a,w,h=>hq _ _ _ h
 | o::l,a,w,h=>by
  simp only[wpL]at h ⊢
  split
  ·rename_i hw
   rw[if_pos hw]at h
   unfold Oper.wp at h ⊢
   generalize (execOp a.eval o).run P w=r at h ⊢
   cases r with
   | ok x w' =>
    cases x<;>simp only[Oper.upon]at h ⊢
    case value v=>exact eR hq l _ _ h
    case skip=>exact eR hq l _ _ h
    case defer d=>exact eR hq l _ _ h
    case enter f args =>
     refine Calls.mono h fun e w' k=>?_
     cases e with
     | returned v=>exact eR hq l _ _ k
     | panicked c=>exact hq _ _ _ k
     | outgrown=>obtain⟨a0,w0,k⟩:=k;exact⟨a0,w0,hq _ _ _ k⟩
    case row r args=>exact Rows.mono h fun v w' k=>eR hq l _ _ k
   | halt x w'=>cases x<;>simp only[Oper.upon]at h ⊢;exact hq _ _ _ h
  rename_i hw
  rw[if_neg hw]at h
  exact eR hq l _ _ h
section
variable {P : Program} {B : Nat → Nat → Prop} {n : Nat} {T : Nat → PV} {H : List Ob} {Q : Exit → (Nat → PV) → List Ob → Prop}
theorem aa{id:Nat}{l:List Oper}(hall:ei n l.toArray=true)(h:WO P B n l.toArray l T H (fun T' H'=>Q .normal T' H')):W P B n (.region id l.toArray false) T H Q:=by
 intro σ w a g
 refine zO (eR ?_ _ _ _ (h hall σ w a g))
 rintro e a' w' ⟨T',H',σ',h1,h2,h3⟩
 cases e<;>first|exact⟨T',H',σ',h1,h2,h3⟩|exact False.elim h1
variable {all : Array Oper} {K : (Nat → PV) → List Ob → Prop}
theorem Wn(h:K T H):WO P B n all [] T H K:=fun _ σ w a g=>⟨T,H,σ,h,g,di.refl _ _ _ _⟩
def aj(all:Array Oper)(T:Nat→PV)(o:Oper):Option Bool :=
 match o.guard with
 | none=>some true
 | some (g,b)=>match (all[g]?).bind (·.dst)with
  | some d=>match T d with
   | .val (.bool x)=>match x,b with
    | true,true=>some true
    | false,false=>some true
    | true,false=>some false
    | false,true=>some false
   | .val (.tuple _)=>some false
   | _=>none
  | none=>none
theorem yp{c:Cx}{a:Act}{o:Oper}{q:Bool}(h:∀(g:Nat) (b:Bool) (d:Nat),o.guard=some (g,b)→(all[g]?).bind (·.dst)=some d→d<a.tmps.size∧Rep c (T d) (a.tmps.getD d undef))(k:aj all T o=some q):
  Region.wanted o (yielded all a.tmps)=q:=by
 unfold aj at k
 unfold Region.wanted
 split at k
 ·rename_i hg;rw[hg];injection k
 rename_i g b hg
 rw[hg]
 simp only
 split at k
 ·rename_i d hd
  obtain⟨h0,h1⟩:=h g b d hg hd
  have h2:a.tmps[d]?=some (a.tmps.getD d undef):=by simp[Array.getElem?_eq_getElem h0,Array.getD,h0]
  split at k
  ·rename_i x hx
   rw[hx]at h1
   unfold Rep at h1
   have hy:yielded all a.tmps g=some x:=by unfold yielded;rw[hd];simp only[Option.bind_some];rw[h2,h1]
   rw[hy]
   cases x<;>cases b<;>simp at k<;>subst k<;>rfl
  ·rename_i x hx
   rw[hx]at h1
   unfold Rep at h1
   have hy:yielded all a.tmps g=none:=by unfold yielded;rw[hd];simp only[Option.bind_some];rw[h2,h1]
   rw[hy]
   cases k
   rfl
  cases k
 cases k
def br(P:Program)(B:Nat→Nat→Prop)(o:Oper)(T:Nat→PV)(H:List Ob)(x:PV)(H':List Ob):Prop :=
 ∀(σ:Nat→Option Nat) (w:World) (a:Act),Sim B H σ w→(∀y∈o.op.operands.toList,Rep (cx B H σ w) (opv T y) (a.eval y)) →
  ∃(v:Value) (w':World) (σ':Nat→Option Nat),((execOp a.eval o).run P w=.ok (.value v) w'∨(execOp a.eval o).run P w=.ok .skip w'∧v=undef)∧Rep (cx B H' σ' w') x v∧Sim B H' σ' w'∧di B H σ w H' σ' w'
def gA(P:Program)(B:Nat→Nat→Prop)(o:Oper)(T:Nat→PV)(H:List Ob)(x:PV)(H':List Ob):Prop :=
 ∀(σ:Nat→Option Nat) (w:World) (a:Act),Sim B H σ w→(∀y∈o.op.operands.toList,Rep (cx B H σ w) (opv T y) (a.eval y)) →
  ∃(f:FuncId) (args:Array Value),(execOp a.eval o).run P w=.ok (.enter f args) w∧Calls P f args w fun e w'=>∃v σ',e=.returned v∧Rep (cx B H' σ' w') x v∧Sim B H' σ' w'∧di B H σ w H' σ' w'
theorem fE{σ:Nat→Option Nat}{w:World}{a:Act}{H':List Ob}{σ':Nat→Option Nat}{w':World}{x:PV}{v:Value}{d:Option Tmp}(hd:∀i,d=some i→Nat.blt i n=true)(g:jz B n T H σ w a)(h1:Rep (cx B H' σ' w') x v)(h2:Sim B H' σ' w')(h3:di B H σ w H' σ' w'):
  jz B n (al d x T) H' σ' w' (a.put d v):=by
 cases d with
 | none=>exact⟨h2,fun i=>(g.rep i).mono h3.le,g.size,g.defers⟩
 | some d =>
  have hlt:d<n:=by have:=hd d rfl;simpa[Nat.blt_eq]using this
  refine⟨h2,fun i=>?_,by simp[Act.put,g.size],g.defers⟩
  by_cases hi:i=d
  ·subst hi
   show Rep _ (upd i x T i) _
   rw[dt]
   have:(a.put (some i) v).tmps.getD i undef=v:=by simp[Act.put,Array.getD,g.size,hlt]
   rw[this];exact h1
  show Rep _ (upd d x T i) _
  rw[cp _ _ _ _ hi]
  have:(a.put (some d) v).tmps.getD i undef=a.tmps.getD i undef:=by simp[Act.put,Array.getD_eq_getD_getElem?,Array.getElem?_setIfInBounds_ne (Ne.symm hi)]
  rw[this];exact(g.rep i).mono h3.le
theorem ku(hall:∀(i d:Nat),(all[i]?).bind (·.dst)=some d→Nat.blt d n=true){σ:Nat→Option Nat}{w:World}{a:Act}(g:jz B n T H σ w a){o:Oper}{q:Bool}(k:aj all T o=some q):Region.wanted o (yielded all a.tmps)=q :=
 yp (c:=cx B H σ w) (fun i b d _ hd=>⟨by have:=hall i d hd;rw[g.size];simpa[Nat.blt_eq]using this,g.rep d⟩) k
theorem Wd{o:Oper}{l:List Oper}{x:PV}{H':List Ob}{d:Option Tmp}(hd:nfD n o.dst=some d)(hw:aj all T o=some true)(h:br P B o T H x H')(k:WO P B n all l (al d x T) H' K):WO P B n all (o::l) T H K:=by
 obtain⟨rfl,hd0⟩:=cm hd
 intro hall σ w a g
 obtain⟨v,w',σ',h1,h2,h3,h4⟩:=h σ w a g.sim (fun y _=>jG g.rep y)
 have g':=fE (qT hd0) g h2 h3 h4
 have k':=eR (fun _ _ _ h=>gS h4 (fun _ _ _ h=>h) h) _ _ _ (k hall σ' w' _ g')
 simp only[wpL]
 rw[if_pos (ku (dW hall) g hw)]
 unfold Oper.wp
 rcases h1 with h1|⟨h1,rfl⟩
 ·rw[h1];exact k'
 rw[h1];exact k'
theorem Wc{o:Oper}{l:List Oper}{x:PV}{H':List Ob}{d:Option Tmp}(hd:nfD n o.dst=some d)(hw:aj all T o=some true)(h:gA P B o T H x H')(k:WO P B n all l (al d x T) H' K):WO P B n all (o::l) T H K:=by
 obtain⟨rfl,hd0⟩:=cm hd
 intro hall σ w a g
 obtain⟨f,args,h1,hc⟩:=h σ w a g.sim (fun y _=>jG g.rep y)
 simp only[wpL]
 rw[if_pos (ku (dW hall) g hw)]
 unfold Oper.wp
 rw[h1]
 refine Calls.mono hc ?_
 rintro e w' ⟨v,σ',rfl,h2,h3,h4⟩
 exact eR (fun _ _ _ h=>gS h4 (fun _ _ _ h=>h) h) _ _ _ (k hall σ' w' _ (fE (qT hd0) g h2 h3 h4))
theorem Wk{o:Oper}{l:List Oper}{d:Option Tmp}(hd:nfD n o.dst=some d)(hw:aj all T o=some false)(k:WO P B n all l (al d (.val undef) T) H K):WO P B n all (o::l) T H K:=by
 obtain⟨rfl,hd0⟩:=cm hd
 intro hall σ w a g
 simp only[wpL]
 rw[if_neg (by rw[ku (dW hall) g hw];simp)]
 exact k hall σ w _ (fE (qT hd0) g (aD _ _) g.sim (di.refl _ _ _ _))
theorem Wb{l:List Oper}(d:Nat){b:Bool}(hT:T d=.val (.bool b))(h1:b=true→WO P B n all l (upd d (.val (.bool true)) T) H K)(h2:b=false→WO P B n all l (upd d (.val (.bool false)) T) H K):WO P B n all l T H K:=by
 have e:∀q,b=q→upd d (.val (.bool q)) T=T:=by
  rintro q rfl
  funext i
  by_cases hi:i=d
  ·subst hi;rw[dt,hT]
  rw[cp _ _ _ _ hi]
 cases hb:b with
 | true=>have:=h1 hb;rwa [e true hb]at this
 | false=>have:=h2 hb;rwa [e false hb]at this
theorem cX{l:List Oper}(d:Nat){b:Bool}(hT:T d=.val (.bool b))(hb:b=true)(h1:WO P B n all l (upd d (.val (.bool true)) T) H K):WO P B n all l T H K :=
 Wb d hT (fun _=>h1) (fun h=>by rw[hb]at h;cases h)
theorem gD{l:List Oper}(d:Nat){b:Bool}(hT:T d=.val (.bool b))(hb:b=false)(h1:WO P B n all l (upd d (.val (.bool false)) T) H K):WO P B n all l T H K :=
 Wb d hT (fun h=>by rw[hb]at h;cases h) (fun _=>h1)
theorem Wa{l:List Oper}(d:Nat){x y:PV}(hT:T d=x)(hxy:x=y)(h1:WO P B n all l (upd d y T) H K):WO P B n all l T H K:=by
 have e:upd d y T=T:=by
  funext i
  by_cases hi:i=d
  ·subst hi;rw[dt,hT,hxy]
  rw[cp _ _ _ _ hi]
 rwa [e]at h1
end
open Go.RowKit
def ext(σ:Nat→Option Nat)(n:Nat)(b:Option Nat):Nat→Option Nat:=fun i=>if i=n then b else σ i
theorem bU{σ:Nat→Option Nat}{n i:Nat}{b:Option Nat}(h:i<n):ext σ n b i=σ i:=by unfold ext;rw[if_neg (by omega)]
theorem bF(σ:Nat→Option Nat)(n:Nat)(b:Option Nat):ext σ n b n=b:=by unfold ext;rw[if_pos rfl]
theorem eS{α:Type}{H:List α}{o x:α}{i:Nat}(h:(H++[o])[i]?=some x):(i<H.length∧H[i]?=some x)∨(i=H.length∧x=o):=by
 rcases Nat.lt_trichotomy i H.length with h1|h1|h1
 ·rw[List.getElem?_append_left h1]at h;exact .inl ⟨h1,h⟩
 ·subst h1;rw[List.getElem?_append_right (Nat.le_refl _)]at h;simp at h;exact .inr ⟨rfl,h.symm⟩
 rw[List.getElem?_append_right (by omega)]at h;rw[List.getElem?_eq_none (by simp;omega)]at h;cases h
theorem cn{α:Type}{H:List α}{i:Nat}{x:α}(h:H[i]?=some x):i<H.length:=by
 rcases Nat.lt_or_ge i H.length with h1|h1
 ·exact h1
 rw[List.getElem?_eq_none h1]at h;cases h
theorem zP.lt{c:Cx}{i b:Nat}{oi:Ob}(h:zP c i oi)(hl:oi.live=true)(hb:c.σ i=some b):b<c.w.heap.size:=by
 cases oi with
 | cells xs e=>obtain⟨b',vs,fr,h1,h2,_⟩:=h;rw[hb]at h1;cases h1;exact(Array.getElem?_eq_some_iff.1 h2).1
 | free m=>obtain⟨cs,e,h1,_⟩:=h b hb;exact(Array.getElem?_eq_some_iff.1 h1).1
 | dead=>cases hl
 | glob g u=>cases hl
 | smap ks xs=>obtain⟨b',es,clk,h1,h2,_⟩:=h;rw[hb]at h1;cases h1;exact(Array.getElem?_eq_some_iff.1 h2).1
 | iter s pos=>obtain⟨b',h1,h2⟩:=h;rw[hb]at h1;cases h1;exact(Array.getElem?_eq_some_iff.1 h2).1
section
variable {B : Nat → Nat → Prop} {H : List Ob} {σ : Nat → Option Nat} {w w' : World}
structure bg (w w':World):Prop where
 os:w'.os=w.os
 tape:w'.tape=w.tape
 output:w'.output=w.output
 size:w.heap.size≤w'.heap.size
 block:∀b,b<w.heap.size→w'.heap[b]?=w.heap[b]?
theorem bg.refl(w:World):bg w w:=⟨rfl,rfl,rfl,Nat.le_refl _,fun _ _=>rfl⟩
theorem bg.alloc(w:World)(o:Obj):bg w (w.alloc o):=⟨rfl,rfl,rfl,by simp,fun b hb=>Below.heap_alloc w o b hb⟩
theorem bg.drew(w:World):bg w w.drew:=⟨rfl,rfl,rfl,Nat.le_refl _,fun _ _=>rfl⟩
theorem bg.trans{a b c:World}(h:bg a b)(k:bg b c):bg a c :=
 ⟨k.os.trans h.os,k.tape.trans h.tape,k.output.trans h.output,Nat.le_trans h.size k.size,fun i hi=>(k.block i (Nat.lt_of_lt_of_le hi h.size)).trans (h.block i hi)⟩
theorem bg.of_below(h:Below w.heap.size w w'):bg w w':=⟨h.os,h.tape,h.output,h.size,h.block⟩
theorem bg.cell(h:bg w w'){b off:Nat}{u:Value}(hc:w.cell? ⟨b,off,none⟩=some u):w'.cell? ⟨b,off,none⟩=some u:=by
 have hlt:=World.block_lt_of_cell? w ⟨b,off,none⟩ hc
 rw[World.cell?_of_block (w:=w) (a:=⟨b,off,none⟩) (h.block b hlt)]
 exact hc
theorem eM(s:Sim B H σ w)(g:bg w w'):Sim B H σ w'∧di B H σ w H σ w':=by
 have le:(cx B H σ w).Le (cx B H σ w'):=⟨Nat.le_refl _,fun _ _=>rfl,fun b off u h1 h2=>⟨g.cell h2,h1⟩,fun b es clk h1 h2=>⟨(g.block b (Array.getElem?_eq_some_iff.1 h2).1).trans h2,h1⟩,fun b cs e fr h1=>⟨cs,(g.block b (Array.getElem?_eq_some_iff.1 h1).1).trans h1,rfl⟩⟩
 refine⟨⟨s.inj,s.sep,fun b off h=>Nat.lt_of_lt_of_le (s.base b off h) g.size,fun i oi h=>?_⟩,⟨le,g.os,g.tape,g.output,g.size,fun i oi b h1 h2 h3=>.inr ⟨i,oi,h1,h2,h3⟩,fun b hb _=>g.block b hb⟩⟩
 have k:=s.holds i oi h
 cases oi with
 | cells xs e=>obtain⟨b,vs,fr,h1,h2,hf,h3⟩:=k;exact⟨b,vs,fr,h1,(g.block b (Array.getElem?_eq_some_iff.1 h2).1).trans h2,hf,h3.mono le⟩
 | free m=>intro b hb;obtain⟨cs,e,h1,h2⟩:=k b hb;exact⟨cs,e,(g.block b (Array.getElem?_eq_some_iff.1 h1).1).trans h1,h2⟩
 | dead=>trivial
 | glob g u=>obtain⟨q1,q2⟩:=k;exact le.cell g 0 u q2 q1
 | smap ks xs=>obtain⟨b,es,clk,h1,h2,h3,h4⟩:=k;exact⟨b,es,clk,h1,(g.block b (Array.getElem?_eq_some_iff.1 h2).1).trans h2,h3,an.mono le h4⟩
 | iter s pos=>obtain⟨b,h1,h2⟩:=k;exact⟨b,h1,(g.block b (Array.getElem?_eq_some_iff.1 h2).1).trans h2⟩
theorem fp(s:Sim B H σ w)(g:bg w w')(o:Ob)(nb:Option Nat)(hnew:∀b,nb=some b→w.heap.size≤b)(ho:zP (cx B (H++[o]) (ext σ H.length nb) w') H.length o):
  Sim B (H++[o]) (ext σ H.length nb) w'∧di B H σ w (H++[o]) (ext σ H.length nb) w':=by
 have own:∀b off,b<w.heap.size→iE (ext σ H.length nb) (H++[o]) b off→iE σ H b off:=by
  rintro b off hb ⟨i,oi,h1,h2,h3⟩
  rcases eS h1 with ⟨h4,h5⟩|⟨rfl,rfl⟩
  ·rw[bU h4]at h2;exact⟨i,oi,h5,h2,h3⟩
  rw[bF]at h2;have:=hnew b h2;omega
 have le:(cx B H σ w).Le (cx B (H++[o]) (ext σ H.length nb) w'):=by
  refine⟨by simp[cx],fun i hi=>bU hi,fun b off u h1 h2=>⟨g.cell h2,fun h=>?_⟩,fun b es clk h1 h2=>⟨(g.block b (Array.getElem?_eq_some_iff.1 h2).1).trans h2,fun h=>h.elim (fun h=>h1 (.inl h)) (fun h=>h1 (.inr (own b 0 (Array.getElem?_eq_some_iff.1 h2).1 h)))⟩,fun b cs e fr h1=>⟨cs,(g.block b (Array.getElem?_eq_some_iff.1 h1).1).trans h1,rfl⟩⟩
  rcases h with h|h
  ·exact h1 (.inl h)
  exact h1 (.inr (own b off (World.block_lt_of_cell? w ⟨b,off,none⟩ h2) h))
 refine⟨⟨?_,?_,fun b off h=>Nat.lt_of_lt_of_le (s.base b off h) g.size,?_⟩,⟨le,g.os,g.tape,g.output,g.size,?_,fun b hb _=>g.block b hb⟩⟩
 ·intro i j b oi oj h1 h2 l1 l2 e1 e2
  rcases eS h1 with ⟨h3,h4⟩|⟨rfl,rfl⟩<;>rcases eS h2 with ⟨h5,h6⟩|⟨rfl,rfl⟩
  ·rw[bU h3]at e1;rw[bU h5]at e2;exact s.inj i j b oi oj h4 h6 l1 l2 e1 e2
  ·rw[bU h3]at e1;rw[bF]at e2
   have:=(s.holds i oi h4).lt l1 e1
   have:=hnew b e2
   simp only[cx]at *;omega
  ·rw[bF]at e1;rw[bU h5]at e2
   have:=(s.holds j oj h6).lt l2 e2
   have:=hnew b e1
   simp only[cx]at *;omega
  rfl
 ·intro i b oi h1 l1 e1 off hB
  rcases eS h1 with ⟨h3,h4⟩|⟨rfl,rfl⟩
  ·rw[bU h3]at e1;exact s.sep i b oi h4 l1 e1 off hB
  rw[bF]at e1
  have:=hnew b e1
  have:=s.base b off hB
  omega
 ·intro i oi h1
  rcases eS h1 with ⟨h3,h4⟩|⟨rfl,rfl⟩
  ·have k:=s.holds i oi h4
   cases oi with
   | cells xs e=>obtain⟨b,vs,fr,h5,h6,hf,h7⟩:=k;exact⟨b,vs,fr,(bU h3).trans h5,(g.block b (Array.getElem?_eq_some_iff.1 h6).1).trans h6,hf,h7.mono le⟩
   | free m=>intro b hb;obtain⟨cs,e,h5,h6⟩:=k b ((bU h3).symm.trans hb);exact⟨cs,e,(g.block b (Array.getElem?_eq_some_iff.1 h5).1).trans h5,h6⟩
   | dead=>trivial
   | glob g u=>obtain⟨q1,q2⟩:=k;exact le.cell g 0 u q2 q1
   | iter s pos=>obtain⟨b,h5,h6⟩:=k;exact⟨b,(bU h3).trans h5,(g.block b (Array.getElem?_eq_some_iff.1 h6).1).trans h6⟩
   | smap ks xs=>obtain⟨b,es,clk,h5,h6,h7,h8⟩:=k;exact⟨b,es,clk,(bU h3).trans h5,(g.block b (Array.getElem?_eq_some_iff.1 h6).1).trans h6,h7,an.mono le h8⟩
  exact ho
 intro i oi b h1 h2 h3
 rcases eS h1 with ⟨h4,h5⟩|⟨rfl,rfl⟩
 ·rw[bU h4]at h3;exact .inr ⟨i,oi,h5,h2,h3⟩
 rw[bF]at h3;exact .inl (hnew b h3)
theorem pZ(s:Sim B H σ w)(xs:List PV)(vs:List Value)(e:TypeId)(h:an (cx B H σ w) xs vs):
  Sim B (H++[.cells xs e]) (ext σ H.length (some w.heap.size)) (w.alloc (.cells vs.toArray e))∧di B H σ w (H++[.cells xs e]) (ext σ H.length (some w.heap.size)) (w.alloc (.cells vs.toArray e)):=by
 have k:=fun ho=>fp s (bg.alloc w (.cells vs.toArray e)) (.cells xs e) (some w.heap.size) (fun b hb=>by cases hb;exact Nat.le_refl _) ho
 refine k ⟨w.heap.size,vs,(0,0),bF _ _ _,(by show(w.heap.push (Obj.cells vs.toArray e))[w.heap.size]?=_;simp),.inl rfl,.of (an.mono ?_ h)⟩
 have g:=bg.alloc w (Obj.cells vs.toArray e)
 refine⟨by simp[cx],fun i hi=>bU hi,fun b off u h1 h2=>⟨g.cell h2,fun h=>?_⟩,fun b es clk h1 h2=>⟨(g.block b (Array.getElem?_eq_some_iff.1 h2).1).trans h2,fun h=>h.elim (fun h=>h1 (.inl h)) (fun⟨i,oi,h3,h4,h5⟩=>(eS h3).elim (fun⟨h6,h7⟩=>h1 (.inr ⟨i,oi,h7,by rw[bU h6]at h4;exact h4,h5⟩)) (fun⟨h6,_⟩=>by subst h6;rw[bF]at h4;cases h4;have:=(Array.getElem?_eq_some_iff.1 h2).1;simp[cx]at this))⟩,fun b cs e' fr h1=>⟨cs,(g.block b (Array.getElem?_eq_some_iff.1 h1).1).trans h1,rfl⟩⟩
 rcases h with h|⟨i,oi,h3,h4,h5⟩
 ·exact h1 (.inl h)
 rcases eS h3 with ⟨h6,h7⟩|⟨rfl,rfl⟩
 ·rw[bU h6]at h4;exact h1 (.inr ⟨i,oi,h7,h4,h5⟩)
 rw[bF]at h4;cases h4
 have:=World.block_lt_of_cell? w ⟨w.heap.size,off,none⟩ h2
 simp at this
theorem cv(w:World)(g:Nat)(cs:Array Value)(b:Nat)(h:b≠g):(w.setRow g cs).heap[b]?=w.heap[b]?:=by
 simp only[World.setRow,Array.getElem?_modify]
 rw[if_neg (by omega)]
theorem dY{w:World}{g:Nat}{cs cs':Array Value}{e:TypeId}{fr:Nat×Nat}(h:w.heap[g]?=some (Obj.cells cs e fr)):(w.setRow g cs').heap[g]?=some (Obj.cells cs' e fr):=by
 simp only[World.setRow,Array.getElem?_modify,if_true,h,Option.map_some]
theorem lc(w:World)(g:Nat)(cs:Array Value):(w.setRow g cs).heap.size=w.heap.size:=by simp[World.setRow]
theorem kZ(w:World)(g:Nat)(cs:Array Value)(b off:Nat)(h:b≠g):(w.setRow g cs).cell? ⟨b,off,none⟩=w.cell? ⟨b,off,none⟩ :=
 World.cell?_of_block (w:=w) (a:=⟨b,off,none⟩) (cv w g cs b h)
theorem oz(s:Sim B H σ w){i b:Nat}{xs ys:List PV}{e:TypeId}(hi:H[i]?=some (.cells xs e))(hb:σ i=some b){vs us:List Value}{fr:Nat×Nat}(hv:w.heap[b]?=some (Obj.cells vs.toArray e fr))(hfr:QK fr vs.length)(hl:us.length=vs.length)
  (hr:qZ (cx B H σ w) ys us):Sim B (H.set i (.cells ys e)) σ (w.setRow b us.toArray)∧di B H σ w (H.set i (.cells ys e)) σ (w.setRow b us.toArray):=by
 have hlen:=cn hi
 have get:∀j o,(H.set i (.cells ys e))[j]?=some o→(j=i∧o=.cells ys e)∨(j≠i∧H[j]?=some o):=by
  intro j o h
  by_cases hj:j=i
  ·subst hj;rw[List.getElem?_set_self hlen]at h;cases h;exact .inl ⟨rfl,rfl⟩
  rw[List.getElem?_set_ne (Ne.symm hj)]at h;exact .inr ⟨hj,h⟩
 have own:∀x off,iE σ (H.set i (.cells ys e)) x off→iE σ H x off:=by
  rintro x off ⟨j,o,h1,h2,h3⟩
  rcases get j o h1 with ⟨rfl,rfl⟩|⟨_,h4⟩
  ·exact⟨j,_,hi,h2,trivial⟩
  exact⟨j,o,h4,h2,h3⟩
 have wr:∀off,iE σ H b off:=fun off=>⟨i,_,hi,hb,trivial⟩
 have le:(cx B H σ w).Le (cx B (H.set i (.cells ys e)) σ (w.setRow b us.toArray)):=by
  refine⟨by simp[cx],fun _ _=>rfl,fun x off u h1 h2=>⟨?_,fun h=>h1 (h.imp id (own x off))⟩,fun x es clk h1 h2=>⟨?_,fun h=>h1 (h.imp id (own x 0))⟩,fun x cs t fr h1=>?_⟩
  ·have hx:x≠b:=fun hx=>h1 (.inr (hx▸wr off))
   exact(kZ w b _ x off hx).trans h2
  ·have hx:x≠b:=fun hx=>h1 (.inr (hx▸wr 0))
   exact(cv w b _ x hx).trans h2
  by_cases hx:x=b
  ·subst hx
   simp only[cx]at h1
   rw[hv]at h1;cases h1
   exact⟨_,dY hv,by simpa using hl⟩
  exact⟨cs,(cv w b _ x hx).trans h1,rfl⟩
 refine⟨⟨?_,?_,fun x off h=>by rw[lc];exact s.base x off h,?_⟩,⟨le,rfl,rfl,rfl,by rw[lc];exact Nat.le_refl _,?_,?_⟩⟩
 ·intro j k x oj ok h1 h2 l1 l2 e1 e2
  rcases get j oj h1 with ⟨rfl,rfl⟩|⟨_,h3⟩<;>rcases get k ok h2 with ⟨rfl,rfl⟩|⟨_,h4⟩
  ·rfl
  ·exact s.inj _ _ x _ _ hi h4 rfl l2 e1 e2
  ·exact s.inj _ _ x _ _ h3 hi l1 rfl e1 e2
  exact s.inj _ _ x _ _ h3 h4 l1 l2 e1 e2
 ·intro j x oj h1 l1 e1 off
  rcases get j oj h1 with ⟨rfl,rfl⟩|⟨_,h3⟩
  ·exact s.sep _ x _ hi rfl e1 off
  exact s.sep _ x _ h3 l1 e1 off
 ·intro j oj h1
  rcases get j oj h1 with ⟨rfl,rfl⟩|⟨hj,h3⟩
  ·exact⟨b,us,fr,hb,dY hv,by rw[hl];exact hfr,hr.mono le⟩
  have k:=s.holds j oj h3
  cases oj with
  | cells zs t =>
   obtain⟨x,ws,fr',h5,h6,hf,h7⟩:=k
   have hx:x≠b:=fun hx=>hj (s.inj j i b _ _ h3 hi rfl rfl (hx▸h5) hb)
   exact⟨x,ws,fr',h5,(cv w b _ x hx).trans h6,hf,h7.mono le⟩
  | free m =>
   intro x hx
   obtain⟨cs,t,h5,h6⟩:=k x hx
   have hne:x≠b:=fun h=>hj (s.inj j i b _ _ h3 hi rfl rfl (h▸hx) hb)
   exact⟨cs,t,(cv w b _ x hne).trans h5,h6⟩
  | iter s2 pos =>
   obtain⟨x,h5,h6⟩:=k
   have hx:x≠b:=fun hx=>hj (s.inj j i b _ _ h3 hi rfl rfl (hx▸h5) hb)
   exact⟨x,h5,(cv w b _ x hx).trans h6⟩
  | smap ks ms =>
   obtain⟨x,es,clk,h5,h6,h7,h8⟩:=k
   have hx:x≠b:=fun hx=>hj (s.inj j i b _ _ h3 hi rfl rfl (hx▸h5) hb)
   exact⟨x,es,clk,h5,(cv w b _ x hx).trans h6,h7,an.mono le h8⟩
  | dead=>trivial
  | glob g u=>obtain⟨q1,q2⟩:=k;exact le.cell g 0 u q2 q1
 ·intro j oj x h1 h2 h3
  rcases get j oj h1 with ⟨rfl,rfl⟩|⟨_,h4⟩
  ·exact .inr ⟨_,_,hi,rfl,h3⟩
  exact .inr ⟨j,oj,h4,h2,h3⟩
 intro x hx hn
 exact cv w b _ x (fun h=>hn i _ hi rfl (h▸hb))
end
open Go.RowKit
inductive Sh where
 | other
 | bool
 | int (k:IntKind)
 | str
 | struct (fs:List (Nat×Nat×Bool))
 | slice (e:Nat)
 | array (n e:Nat)
structure TD where
 size:Nat
 bytes:Nat
 zero:List PV
 sh:Sh
def TD.agg(d:TD):Bool:=match d.sh with
 | .struct _=>true
 | .array _ _=>true
 | _=>false
def KQ:PV→Value→Bool
 | .val (.int k n),.int k' n'=>decide (k=k')&&decide (n=n')
 | .val (.bool b),.bool b'=>b==b'
 | .val (.string s),.string s'=>decide (s.data.toList=s'.data.toList)
 | .val (.pointer none),.pointer none=>true
 | .val (.map none),.map none=>true
 | .val .nilFunc,.nilFunc=>true
 | .val .nilIface,.nilIface=>true
 | .seq 0 [] .clip,.slice none 0 0=>true
 | _,_=>false
def yv:List PV→List Value→Bool
 | [],[]=>true
 | x::xs,v::vs=>KQ x v&&yv xs vs
 | _,_=>false
theorem FA(c:Cx){x:PV}{v:Value}(h:KQ x v=true):Rep c x v:=by
 unfold KQ at h
 split at h
 ·simp at h;obtain⟨rfl,rfl⟩:=h;exact aD c _
 ·simp at h;subst h;exact aD c _
 ·rename_i s s'
  have e:s.data.toList=s'.data.toList:=of_decide_eq_true h
  have e':s=s':=by
   obtain⟨⟨l⟩⟩:=s
   obtain⟨⟨l'⟩⟩:=s'
   simp at e
   rw[e]
  subst e';exact aD c _
 ·exact aD c _
 ·exact aD c _
 ·exact aD c _
 ·exact aD c _
 ·exact tj c
 cases h
theorem vo(c:Cx):∀{xs:List PV} {vs:List Value},yv xs vs=true→an c xs vs
 | [],[],_=>ax.2 rfl
 | x::xs,v::vs,h=>by simp only[yv,Bool.and_eq_true]at h;exact am.2 ⟨FA c h.1,vo c h.2⟩
 | [],v::vs,h=>by cases h
 | x::xs,[],h=>by cases h
def R5(P:Program)(t:TypeId):Option Bool:=match P.underlying t with
 | some (.struct _)=>some true
 | some (.array _ _)=>some true
 | some _=>some false
 | none=>none
def ti(P:Program):Field×(Nat×Nat×Bool)→Bool
 | (f,(o,s,g))=>decide (f.offset=o)&&decide (s≠0)&&(match P.info? f.type with|some i=>decide (i.size=s)|none=>false)&&(match R5 P f.type with|some b=>b==g|none=>false)
def CH(P:Program):TypeDesc→Sh→Bool
 | .struct F,.struct fs=>decide (F.size=fs.length)&&(F.toList.zip fs).all (ti P)
 | .slice e,.slice e'=>decide (e=e')
 | .array n e,.array n' e'=>decide (n=n')&&decide (e=e')
 | .int k,.int k'=>decide (k=k')
 | .string,.str=>true
 | .bool,.bool=>true
 | .struct _,_=>false
 | .array _ _,_=>false
 | _,.other=>true
 | _,_=>false
def OS(P:Program)(t:TypeId)(d:TD):Bool :=
 (match P.info? t with
  | some i=>decide (i.size=d.size)&&decide (i.bytes=d.bytes∧d.zero.length=d.size)&&(match i.zero with|some z=>yv d.zero z.cells.toList|none=>false)
  | none=>false) &&
 (match P.underlying t with
  | some u=>CH P u d.sh
  | none=>false)
structure ap (P:Program) (t:TypeId) (d:TD):Prop where
 info:∃i z,P.info? t=some i∧i.size=d.size∧i.bytes=d.bytes∧i.zero=some z∧∀c,an c d.zero z.cells.toList
 zlen:d.zero.length=d.size
 under:∃u,P.underlying t=some u∧CH P u d.sh=true
theorem G2{P:Program}{t:TypeId}{d:TD}(h:OS P t d=true):ap P t d:=by
 unfold OS at h
 simp only[Bool.and_eq_true]at h
 obtain⟨h1,h2⟩:=h
 cases hi:P.info? t with
 | none=>rw[hi]at h1;cases h1
 | some i =>
 rw[hi]at h1
 simp only[Bool.and_eq_true,decide_eq_true_eq]at h1
 obtain⟨⟨h3,h4,h4'⟩,h5⟩:=h1
 refine⟨?_,h4',?_⟩
 ·cases hz:i.zero with
  | none=>rw[hz]at h5;cases h5
  | some z=>rw[hz]at h5;exact⟨i,z,hi,h3,h4,hz,fun c=>vo c h5⟩
 cases hu:P.underlying t with
 | none=>rw[hu]at h2;cases h2
 | some u=>rw[hu]at h2;exact⟨u,rfl,h2⟩
section
variable {P : Program} {t : TypeId} {d : TD}
theorem ap.sizeOf(f:ap P t d)(w:World):(sizeOf t).run P w=.ok d.size w:=by
 obtain⟨i,z,h1,h2,_⟩:=f.info
 simp[Go.sizeOf,typeInfo,h1,h2]
theorem ap.isAgg(f:ap P t d)(w:World):(isAgg t).run P w=.ok d.agg w:=by
 obtain⟨u,h1,h2⟩:=f.under
 unfold Go.isAgg
 simp only[Sem.run_bind,run_underlying h1,Result.andThen_ok]
 unfold TD.agg
 cases u<;>cases hs:d.sh<;>rw[hs]at h2<;>first|(cases h2;done)|rfl
theorem ap.struct(f:ap P t d){fs:List (Nat×Nat×Bool)}(h:d.sh=.struct fs):∃F:Array Field,P.underlying t=some (.struct F)∧∀(i o s:Nat) (g:Bool),fs[i]?=some (o,s,g)→∃x:Field,F[i]?=some x∧x.offset=o∧s≠0∧(∀w,(Go.sizeOf x.type).run P w=.ok s w)∧∀w,(Go.isAgg x.type).run P w=.ok g w:=by
 obtain⟨u,h1,h2⟩:=f.under
 rw[h]at h2
 cases u with
 | struct F =>
  refine⟨F,h1,fun i o s g hi=>?_⟩
  simp only[CH,Bool.and_eq_true,decide_eq_true_eq]at h2
  obtain⟨h3,h4⟩:=h2
  have hlt:i<F.size:=by rw[h3];exact cn hi
  refine⟨F[i],by rw[Array.getElem?_eq_getElem hlt],?_⟩
  rw[List.all_eq_true]at h4
  have h5:=h4 (F[i],(o,s,g)) (by
   rw[List.mem_iff_getElem?]
   refine⟨i,?_⟩
   rw[List.getElem?_zip_eq_some]
   exact⟨by simp[hlt],hi⟩)
  simp only[ti,Bool.and_eq_true,decide_eq_true_eq]at h5
  obtain⟨⟨⟨h6,h7⟩,h8⟩,h9⟩:=h5
  refine⟨h6,h7,fun w=>?_,fun w=>?_⟩
  ·cases hi:P.info? F[i].type with
   | none=>rw[hi]at h8;cases h8
   | some x=>rw[hi]at h8;simp at h8;simp[Go.sizeOf,typeInfo,hi,h8]
  unfold R5 at h9
  unfold Go.isAgg
  cases hu:P.underlying F[i].type with
  | none=>rw[hu]at h9;cases h9
  | some u =>
   rw[hu]at h9
   simp only[Sem.run_bind,run_underlying hu,Result.andThen_ok]
   cases u<;>simp at h9<;>subst h9<;>rfl
 | _=>cases h2
theorem ap.slice(f:ap P t d){e:Nat}(h:d.sh=.slice e):P.underlying t=some (.slice e):=by
 obtain⟨u,h1,h2⟩:=f.under
 rw[h]at h2
 cases u<;>first|(cases h2;done)|(simp[CH]at h2;subst h2;exact h1)
theorem ap.array(f:ap P t d){n e:Nat}(h:d.sh=.array n e):P.underlying t=some (.array n e):=by
 obtain⟨u,h1,h2⟩:=f.under
 rw[h]at h2
 cases u<;>first|(cases h2;done)|(simp[CH]at h2;obtain⟨rfl,rfl⟩:=h2;exact h1)
theorem ap.int(f:ap P t d){k:IntKind}(h:d.sh=.int k):P.underlying t=some (.int k):=by
 obtain⟨u,h1,h2⟩:=f.under
 rw[h]at h2
 cases u<;>first|(cases h2;done)|(simp[CH]at h2;subst h2;exact h1)
theorem ap.bool(f:ap P t d)(h:d.sh=.bool):P.underlying t=some .bool:=by
 obtain⟨u,h1,h2⟩:=f.under
 rw[h]at h2
 cases u<;>first|(cases h2;done)|exact h1
theorem ap.str(f:ap P t d)(h:d.sh=.str):P.underlying t=some .string:=by
 obtain⟨u,h1,h2⟩:=f.under
 rw[h]at h2
 cases u<;>first|(cases h2;done)|exact h1
end
def lu{α:Type}:Sem α→Option α
 | .pure a=>some a
 | _=>none
theorem kv{α:Type}{s:Sem α}{x:α}(h:lu s=some x)(P:Program)(w:World):s.run P w=.ok x w:=by
 cases s<;>simp[lu]at h
 subst h;rfl
def uw(op:BinOp)(t:TypeId)(x y:Operand)(u v:Value):Option Value:=match lu (eqGuard op t x y u v)with
 | some _=>lu (binOp op t u v)
 | none=>none
def mu(d:TD)(xs:List PV)(off:Nat):Option PV:=match d.agg with
 | true=>match Nat.ble (off+d.size) xs.length with
  | true=>some (.agg ((xs.drop off).take d.size))
  | false=>none
 | false=>xs[off]?
def mr:PV→Option (List PV)
 | .agg cs=>some cs
 | .any=>none
 | .tup _=>none
 | .val (.agg _)=>none
 | .val (.tuple _)=>none
 | x=>some [x]
def okC:PV→Bool
 | .val v=>v.oneCell'
 | .any=>false
 | .agg _=>false
 | .tup _=>false
 | _=>true
theorem ny{c:Cx}{x:PV}{xs:List PV}{v:Value}(h:mr x=some xs)(k:Rep c x v):an c xs v.cells.toList:=by
 have one:∀{x:PV},Rep c x v→v.cells=#[v]→an c [x] v.cells.toList:=fun hx e=>by rw[e];exact am.2 ⟨hx,ax.2 rfl⟩
 cases x with
 | agg cs=>injection h with h;subst h;unfold Rep at k;obtain⟨vs,rfl,k⟩:=k;simpa[Value.cells]using k
 | any=>cases h
 | tup cs=>cases h
 | val u =>
  have k':=k
  unfold Rep at k
  subst k
  cases v<;>first|(cases h;done)|(injection h with h;subst h;exact one k' rfl)
 | ptr i off=>injection h with h;subst h;have k':=k;unfold Rep at k;obtain⟨_,b,_,rfl⟩:=k;exact one k' rfl
 | seq n ys s=>injection h with h;subst h;have k':=k;unfold Rep at k;obtain⟨a,cap,vs,rfl,_⟩:=k;exact one k' rfl
 | row ys=>injection h with h;subst h;have k':=k;unfold Rep at k;obtain⟨b,vs,rfl,_⟩:=k;exact one k' rfl
 | arr i off n cap=>injection h with h;subst h;have k':=k;unfold Rep at k;obtain⟨_,b,_,rfl⟩:=k;exact one k' rfl
 | fn f a b=>injection h with h;subst h;have k':=k;unfold Rep at k;obtain⟨_,_,rfl,_⟩:=k;exact one k' rfl
 | mapv i=>injection h with h;subst h;have k':=k;unfold Rep at k;obtain⟨_,b,_,rfl⟩:=k;exact one k' rfl
 | arw i off n=>injection h with h;subst h;have k':=k;unfold Rep at k;obtain⟨_,b,cap,_,_,rfl⟩:=k;exact one k' rfl
 | smap ks ms=>injection h with h;subst h;have k':=k;unfold Rep at k;obtain⟨b,es,clk,rfl,_⟩:=k;exact one k' rfl
 | ifc t y=>injection h with h;subst h;have k':=k;unfold Rep at k;obtain⟨u,rfl,_⟩:=k;exact one k' rfl
theorem Db{c:Cx}{x:PV}{v:Value}(h:okC x=true)(k:Rep c x v):v.oneCell'=true:=by
 cases x with
 | val u=>unfold Rep at k;subst k;exact h
 | any=>cases h
 | agg cs=>cases h
 | tup cs=>cases h
 | ptr i off=>unfold Rep at k;obtain⟨_,b,_,rfl⟩:=k;rfl
 | seq n ys s=>unfold Rep at k;obtain⟨a,cap,vs,rfl,_⟩:=k;rfl
 | row ys=>unfold Rep at k;obtain⟨b,vs,rfl,_⟩:=k;rfl
 | arr i off n cap=>unfold Rep at k;obtain⟨_,b,_,rfl⟩:=k;rfl
 | fn f a b=>unfold Rep at k;obtain⟨_,_,rfl,_⟩:=k;rfl
 | mapv i=>unfold Rep at k;obtain⟨_,b,_,rfl⟩:=k;rfl
 | arw i off n=>unfold Rep at k;obtain⟨_,b,cap,_,_,rfl⟩:=k;rfl
 | smap ks ms=>unfold Rep at k;obtain⟨b,es,clk,rfl,_⟩:=k;rfl
 | ifc t y=>unfold Rep at k;obtain⟨u,rfl,_⟩:=k;rfl
theorem yZ{c:Cx}:∀{xs:List PV} {vs:List Value},xs.all okC=true→an c xs vs→∀v∈vs,v.oneCell'=true
 | [],vs,_,h,v,hv=>by rw[ax]at h;subst h;cases hv
 | x::xs,[],_,h,v,hv=>by cases hv
 | x::xs,u::us,ho,h,v,hv=>by
  rw[am]at h
  simp only[List.all_cons,Bool.and_eq_true]at ho
  cases hv with
  | head=>exact Db ho.1 h.1
  | tail _ hv=>exact yZ ho.2 h.2 v hv
theorem fL{w:World}{b:Nat}{vs:List Value}{e:TypeId}{fr:Nat×Nat}(h:w.heap[b]?=some (Obj.cells vs.toArray e fr))(j:Nat):w.cell? ⟨b,j,none⟩=vs[j]?:=by
 simp[World.cell?,h]
section
variable {P : Program} {B : Nat → Nat → Prop} {o : Oper} {T : Nat → PV} {H : List Ob}
theorem aI{x:PV}(h:∀(σ:Nat→Option Nat) (w:World) (a:Act),Sim B H σ w→(∀y∈o.op.operands.toList,Rep (cx B H σ w) (opv T y) (a.eval y))→∃v,(execOp a.eval o).run P w=.ok (.value v) w∧Rep (cx B H σ w) x v):br P B o T H x H:=by
 intro σ w a s ho
 obtain⟨v,h1,h2⟩:=h σ w a s ho
 exact⟨v,w,σ,.inl h1,h2,s,di.refl _ _ _ _⟩
theorem il{w:World}{b off:Nat}{t:TypeId}{d:TD}(f:ap P t d){c:Cx}{xs:List PV}{vs:List Value}(hr:an c xs vs)(hc:∀(j:Nat) u,vs[j]?=some u→w.cell? ⟨b,off+j,none⟩=some u){k:Nat}{x:PV}(hx:mu d xs k=some x):
  ∃v,(loadVar t ⟨b,off+k,none⟩).run P w=.ok v w∧Rep c x v:=by
 unfold mu at hx
 unfold loadVar
 simp only[Sem.run_bind,f.isAgg,Result.andThen_ok]
 cases ha:d.agg with
 | true =>
  rw[ha]at hx
  simp only at hx
  split at hx
  ·rename_i hle
   rw[Nat.ble_eq]at hle
   injection hx with hx;subst hx
   have hlen:((vs.drop k).take d.size).length=d.size:=by rw[List.length_take,List.length_drop,an.length hr];omega
   have hl:=run_loadCells_list (P:=P) w ⟨b,off+k,none⟩ ((vs.drop k).take d.size) (fun j v hj=>by
    rw[List.getElem?_take]at hj
    split at hj
    ·rw[List.getElem?_drop]at hj
     rw[Addr.add_lit,Nat.add_assoc];exact hc _ _ hj
    cases hj)
   rw[hlen]at hl
   refine⟨.agg ((vs.drop k).take d.size).toArray,?_,?_⟩
   ·simp[f.sizeOf,hl]
   unfold Rep;exact⟨_,rfl,(hr.drop k).take d.size⟩
  cases hx
 | false =>
  rw[ha]at hx
  obtain⟨u,hu,hru⟩:=hr.get hx
  refine⟨u,?_,hru⟩
  have:=hc k u hu
  simp[this]
theorem FO{x:Operand}(ho:o.op=.move x):br P B o T H (opv T x) H :=
 aI fun σ w a s h=>⟨a.eval x,by simp[execOp,ho],h x (by simp[ho,Op.operands])⟩
theorem yT{x:Operand}(ho:o.op=.assign x):br P B o T H (opv T x) H :=
 aI fun σ w a s h=>⟨a.eval x,by simp[execOp,ho],h x (by simp[ho,Op.operands])⟩
theorem wj{c x y:Operand}{b:Bool}(ho:o.op=.pick c x y)(hc:opv T c=.val (.bool b)):br P B o T H (if b then opv T x else opv T y) H :=
 aI fun σ w a s h=>by
  have h1:=h c (by simp[ho,Op.operands])
  have h2:=h x (by simp[ho,Op.operands])
  have h3:=h y (by simp[ho,Op.operands])
  rw[hc]at h1
  unfold Rep at h1
  cases b with
  | true=>exact⟨a.eval x,by simp[execOp,ho,h1,asBool],h2⟩
  | false=>exact⟨a.eval y,by simp[execOp,ho,h1,asBool],h3⟩
theorem oo{op:BinOp}{t yt:TypeId}{x y:Operand}{u v r:Value}(ho:o.op=.binOp op t x y yt)(hx:opv T x=.val u)(hy:opv T y=.val v)(hr:uw op t x y u v=some r):br P B o T H (.val r) H :=
 aI fun σ w a s h=>by
  have h1:=h x (by simp[ho,Op.operands])
  have h2:=h y (by simp[ho,Op.operands])
  rw[hx]at h1
  rw[hy]at h2
  unfold Rep at h1 h2
  unfold uw at hr
  split at hr
  ·rename_i z hz
   refine⟨r,?_,aD _ _⟩
   have e1:=kv hz P w
   have e2:=kv hr P w
   simp[execOp,ho,h1,h2,e1,e2]
  cases hr
theorem MJ{op:UnOp}{t:TypeId}{x:Operand}{u r:Value}(ho:o.op=.unOp op t x)(hx:opv T x=.val u)(hr:lu (Op.unary op u)=some r):br P B o T H (.val r) H :=
 aI fun σ w a s h=>by
  have h1:=h x (by simp[ho,Op.operands])
  rw[hx]at h1
  unfold Rep at h1
  exact⟨r,by simp[execOp,ho,h1,kv hr P w],aD _ _⟩
theorem yh{x:Operand}{i:Nat}{cs:List PV}{r:PV}(ho:o.op=.extract x i)(hx:opv T x=.tup cs)(hr:cs[i]?=some r):br P B o T H r H :=
 aI fun σ w a s h=>by
  have h1:=h x (by simp[ho,Op.operands])
  rw[hx]at h1
  unfold Rep at h1
  obtain⟨vs,h1,h2⟩:=h1
  obtain⟨u,hu,hru⟩:=h2.get hr
  exact⟨u,by simp[execOp,ho,h1,Instr.extract,hu],hru⟩
theorem qv{x:Operand}{i off:Nat}(ho:o.op=.nilCheck x)(hx:opv T x=.ptr i off):br P B o T H (.ptr i off) H :=
 aI fun σ w a s h=>by
  have h1:=h x (by simp[ho,Op.operands])
  rw[hx]at h1
  have h1':=h1
  unfold Rep at h1
  obtain⟨_,b,_,h1⟩:=h1
  exact⟨a.eval x,by simp[execOp,ho,h1],h1'⟩
theorem qh{x:Operand}{xs:List PV}(ho:o.op=.nilCheck x)(hx:opv T x=.row xs):br P B o T H (.row xs) H :=
 aI fun σ w a s h=>by
  have h1:=h x (by simp[ho,Op.operands])
  rw[hx]at h1
  have h1':=h1
  unfold Rep at h1
  obtain⟨b,vs,h1,_⟩:=h1
  exact⟨a.eval x,by simp[execOp,ho,h1],h1'⟩
theorem vi{α:Type}{p q:List α}{j:Nat}{u:α}(h:p[j]?=some u):(p++q)[j]?=some u:=by
 have:j<p.length:=by rcases Nat.lt_or_ge j p.length with h1|h1;exact h1;rw[List.getElem?_eq_none h1]at h;cases h
 rw[List.getElem?_append_left this];exact h
theorem ak{t:TypeId}{d:TD}{x:Operand}{i off:Nat}{xs:List PV}{e:TypeId}{r:PV}(f:ap P t d)(ho:o.op=.load t x)(hx:opv T x=.ptr i off)(hi:H[i]?=some (.cells xs e))(hr:mu d xs off=some r):br P B o T H r H :=
 aI fun σ w a s h=>by
  have h1:=h x (by simp[ho,Op.operands])
  rw[hx]at h1
  unfold Rep at h1
  obtain⟨_,b,hb,h1⟩:=h1
  obtain⟨b',vs,fr,hb',hv,_,p,q,rfl,hrl⟩:=s.holds i _ hi
  simp only[cx]at hb hb' hv
  rw[hb]at hb'
  cases hb'
  obtain⟨v,h2,h3⟩:=il (P:=P) (w:=w) (b:=b) (off:=0) f hrl (fun j u hj=>by rw[Nat.zero_add,fL hv];exact vi hj) hr
  rw[Nat.zero_add]at h2
  exact⟨v,by simp[execOp,ho,h1,Instr.loadAt,Instr.sureAddr,h2],h3⟩
theorem vI{t:TypeId}{d:TD}{x:Operand}{xs:List PV}{r:PV}(f:ap P t d)(ho:o.op=.load t x)(hx:opv T x=.row xs)(hr:mu d xs 0=some r):br P B o T H r H :=
 aI fun σ w a s h=>by
  have h1:=h x (by simp[ho,Op.operands])
  rw[hx]at h1
  unfold Rep at h1
  obtain⟨b,vs,h1,hrl,hs,hl⟩:=h1
  obtain⟨v,h2,h3⟩:=il (P:=P) (w:=w) (b:=b.block) (off:=b.off) f hrl (fun j u hj=>(hl j u hj).1) hr
  have hb:b=⟨b.block,b.off+0,none⟩:=by cases b;simp only at hs;subst hs;rfl
  rw[←hb]at h2
  exact⟨v,by simp[execOp,ho,h1,Instr.loadAt,Instr.sureAddr,h2],h3⟩
theorem nX{s:TypeId}{d:TD}(f:ap P s d){fs:List (Nat×Nat×Bool)}(hs:d.sh=.struct fs){k off z:Nat}{g:Bool}(hk:fs[k]?=some (off,z,g))(b i:Nat)(w:World):
  (Instr.fieldAt s (.pointer (some ⟨b,i,none⟩)) k).run P w=.ok (.pointer (some ⟨b,i+off,none⟩)) w:=by
 obtain⟨F,h1,h2⟩:=f.struct hs
 obtain⟨x,h3,h4,h5,h6,_⟩:=h2 k off z g hk
 unfold Instr.fieldAt
 simp[run_underlying h1,h3,Instr.sureAddr,fieldPlace,h6,h5,h4,Addr.add_lit]
theorem pT{s:TypeId}{d:TD}{x:Operand}{k i off fo z:Nat}{g:Bool}{fs:List (Nat×Nat×Bool)}(f:ap P s d)(ho:o.op=.fieldAddr s x k)(hs:d.sh=.struct fs)(hk:fs[k]?=some (fo,z,g))(hx:opv T x=.ptr i off):br P B o T H (.ptr i (off+fo)) H :=
 aI fun σ w a s' h=>by
  have h1:=h x (by simp[ho,Op.operands])
  rw[hx]at h1
  unfold Rep at h1
  obtain⟨hi,b,hb,h1⟩:=h1
  refine⟨.pointer (some ⟨b,off+fo,none⟩),?_,?_⟩
  ·simp[execOp,ho,h1,nX f hs hk]
  unfold Rep;exact⟨hi,b,hb,rfl⟩
theorem pI{s:TypeId}{d:TD}{x:Operand}{k fo z:Nat}{g:Bool}{xs:List PV}{fs:List (Nat×Nat×Bool)}(f:ap P s d)(ho:o.op=.fieldAddr s x k)(hs:d.sh=.struct fs)(hk:fs[k]?=some (fo,z,g))(hx:opv T x=.row xs):br P B o T H (.row (xs.drop fo)) H :=
 aI fun σ w a s' h=>by
  have h1:=h x (by simp[ho,Op.operands])
  rw[hx]at h1
  unfold Rep at h1
  obtain⟨b,vs,h1,hrl,hl⟩:=h1
  have hb:b=⟨b.block,b.off,none⟩:=by cases b;simp only[ou]at hl;cases hl.1;rfl
  refine⟨.pointer (some ⟨b.block,b.off+fo,none⟩),?_,?_⟩
  ·rw[hb]at h1
   simp[execOp,ho,h1,nX f hs hk]
  unfold Rep;exact⟨_,vs.drop fo,rfl,hrl.drop fo,hl.drop fo⟩
def tq(cs:List PV)(fo z:Nat):Bool→Option PV
 | true=>match Nat.ble (fo+z) cs.length with
  | true=>some (.agg ((cs.drop fo).take z))
  | false=>none
 | false=>cs[fo]?
theorem CZ{s:TypeId}{d:TD}{x:Operand}{k fo z:Nat}{g:Bool}{cs:List PV}{r:PV}{fs:List (Nat×Nat×Bool)}(f:ap P s d)(ho:o.op=.field s x k)(hs:d.sh=.struct fs)(hk:fs[k]?=some (fo,z,g))(hx:opv T x=.agg cs)(hr:tq cs fo z g=some r):br P B o T H r H :=
 aI fun σ w a s' h=>by
  have h1:=h x (by simp[ho,Op.operands])
  rw[hx]at h1
  unfold Rep at h1
  obtain⟨vs,h1,hrl⟩:=h1
  obtain⟨F,h3,h4⟩:=f.struct hs
  obtain⟨y,h5,h6,h7,h8,h9⟩:=h4 k fo z g hk
  cases g with
  | true =>
   simp only[tq]at hr
   split at hr
   ·rename_i hle
    injection hr with hr;subst hr
    refine⟨.agg ((vs.drop fo).take z).toArray,?_,by unfold Rep;exact⟨_,rfl,(hrl.drop fo).take z⟩⟩
    simp[execOp,ho,h1,Instr.field,run_underlying h3,h5,asAgg,part,h9,h8,h6]
   cases hr
  | false =>
   simp only[tq]at hr
   obtain⟨u,hu,hru⟩:=hrl.get hr
   refine⟨u,?_,hru⟩
   simp[execOp,ho,h1,Instr.field,run_underlying h3,h5,asAgg,part,h9,h6,hu]
def cK(xs:List PV)(off:Nat)(ys:List PV):List PV:=xs.take off++ys++xs.drop (off+ys.length)
theorem jE(P:Program)(g o:Nat)(t:TypeId)(fz:Nat×Nat):∀(vs:List Value) (i:Nat) (cur:Array Value) (w:World),w.heap[g]?=some (.cells cur t fz)→QK fz cur.size→o+i+vs.length≤cur.size→(∀v∈vs,v.oneCell'=true) →
  (storeCells ⟨g,o,none⟩ vs i).run P w=.ok () (w.setRow g (cur.toList.take (o+i)++vs++cur.toList.drop (o+i+vs.length)).toArray)
 | [],i,cur,w,hg,_,_,_=>by
  simp only[storeCells,List.append_nil,List.length_nil,Nat.add_zero,List.take_append_drop,Array.toArray_toList]
  rw[setRow_self w g cur t fz hg]
  rfl
 | v::rest,i,cur,w,hg,hz,hl,h1=>by
  have hi:o+i<cur.size:=by simp at hl;omega
  have hadd:(⟨g,o,none⟩:Addr).add i=⟨g,o+i,none⟩:=by unfold Addr.add;split<;>simp_all
  have hcell:w.cell? ⟨g,o+i,none⟩=some cur[o+i]:=by simp[World.cell?,hg,hi]
  have hfro:w.frozen? ⟨g,o+i,none⟩=false:=by
   rcases hz with rfl|hz
   ·simp[World.frozen?,hg]
   obtain⟨lo,hi'⟩:=fz
   simp only[World.frozen?,hg,Bool.and_eq_false_iff,decide_eq_false_iff_not]
   simp only at hz
   exact .inl (by omega)
  have hst:(store ((⟨g,o,none⟩:Addr).add i) v).run P w=.ok () (w.setRow g (cur.setIfInBounds (o+i) v)):=by
   rw[hadd,run_store P w _ v _ (h1 v (by simp)),hcell]
   simp[hfro,setCell_eq_setRow w g (o+i) cur t fz v hg]
  have ih:=jE P g o t fz rest (i+1) (cur.setIfInBounds (o+i) v) (w.setRow g (cur.setIfInBounds (o+i) v)) (setRow_heap w g cur _ t _ hg) (by simpa using hz) (by simp at hl ⊢;omega) (fun x hx=>h1 x (by simp[hx]))
  simp only[storeCells,Sem.run_bind,hst,Result.andThen_ok,ih,setRow_setRow]
  congr 3
  have e:=list_seg_step cur.toList (o+i) v rest (by simp at hl ⊢;omega)
  simpa[Array.toList_setIfInBounds,Nat.add_assoc]using e
theorem bH{t:TypeId}{d:TD}{x y:Operand}{i off:Nat}{xs ys:List PV}{e:TypeId}(f:ap P t d)(ho:o.op=.store t x y)(hx:opv T x=.ptr i off)(hi:H[i]?=some (.cells xs e))(hy:mr (opv T y)=some ys)(hl:Nat.beq ys.length d.size=true)(hok:ys.all okC=true)
  (hle:Nat.ble (off+ys.length) xs.length=true):br P B o T H (.val undef) (H.set i (.cells (cK xs off ys) e)):=by
 intro σ w a s h
 have h1:=h x (by simp[ho,Op.operands])
 have h2:=h y (by simp[ho,Op.operands])
 rw[hx]at h1
 unfold Rep at h1
 obtain⟨_,b,hb,h1⟩:=h1
 obtain⟨b',vs,fr,hb',hv,hfr,hrp⟩:=s.holds i _ hi
 simp only[cx]at hb hb' hv
 rw[hb]at hb'
 cases hb'
 have h3:=ny hy h2
 have h4:=yZ hok h3
 rw[Nat.beq_eq]at hl
 rw[Nat.ble_eq]at hle
 have hlen:(a.eval y).cells.toList.length=d.size:=by rw[an.length h3];exact hl
 have hvl:=hrp.le
 have hst:=jE P b off e fr (a.eval y).cells.toList 0 vs.toArray w hv (by simpa using hfr) (by rw[Nat.add_zero,hlen,List.size_toArray];omega) h4
 simp only[Nat.add_zero]at hst
 obtain⟨s',st⟩:=oz s (ys:=cK xs off ys) hi hb hv hfr (us:=vs.take off++(a.eval y).cells.toList++vs.drop (off+(a.eval y).cells.toList.length)) (by
  simp only[List.length_append,List.length_take,List.length_drop];rw[hlen];omega) (by
  unfold cK
  have e1:(a.eval y).cells.toList.length=ys.length:=an.length h3
  rw[e1]
  obtain⟨p,q,hpq,hd⟩:=hrp.drop (off+ys.length)
  exact⟨vs.take off++(a.eval y).cells.toList++p,q,by rw[hpq];simp,((hrp.take (by omega)).append h3).append hd⟩)
 refine⟨undef,_,σ,.inr ⟨?_,rfl⟩,aD _ _,s',st⟩
 have hsz:(a.eval y).cells.size=d.size:=by rw[←hlen,Array.length_toList]
 simp[execOp,ho,h1,Instr.storeAt,Instr.sureAddr,storeVar,f.sizeOf,hsz,hst]
theorem Ip{t:TypeId}{x:Operand}{xs:List PV}(ho:o.op=.box t x)(hx:mr (opv T x)=some xs):br P B o T H (.ptr H.length 0) (H++[.cells xs t]):=by
 intro σ w a s h
 have h1:=ny hx (h x (by simp[ho,Op.operands]))
 obtain⟨s',st⟩:=pZ s xs _ t h1
 refine⟨.pointer (some ⟨w.heap.size,0,none⟩),_,_,.inl ?_,?_,s',st⟩
 ·simp[execOp,ho,Instr.box,newVar,newRow]
 unfold Rep;exact⟨by simp[cx],w.heap.size,by simp[cx,bF],rfl⟩
theorem Cp{t:TypeId}{d:TD}(f:ap P t d)(ho:o.op=.alloc t):br P B o T H (.ptr H.length 0) (H++[.cells d.zero t]):=by
 intro σ w a s h
 obtain⟨i,z,h1,h2,h3,h4,h5⟩:=f.info
 obtain⟨s',st⟩:=pZ s d.zero _ t (h5 _)
 refine⟨.pointer (some ⟨w.heap.size,0,none⟩),_,_,.inl ?_,?_,s',st⟩
 ·simp[execOp,ho,Instr.alloc,newVar,newRow,zeroValue,typeInfo,h1,h4]
 unfold Rep;exact⟨by simp[cx],w.heap.size,by simp[cx,bF],rfl⟩
theorem vR{fn:Fn}{first cap:Array Operand}(ho:o.op=.makeFunc fn first cap):br P B o T H (.fn fn (first.toList.map (opv T)) (cap.toList.map (opv T))) H :=
 aI fun σ w a s h=>by
  have key:∀l:List Operand,(∀y∈l,y∈o.op.operands.toList)→an (cx B H σ w) (l.map (opv T)) (l.map a.eval):=by
   intro l
   induction l with
   | nil=>intro _;exact ax.2 rfl
   | cons y l ih=>intro hl;exact am.2 ⟨h y (hl y (by simp)),ih (fun z hz=>hl z (by simp[hz]))⟩
  refine⟨.func fn (first.map a.eval) (cap.map a.eval),by simp[execOp,ho,Instr.makeFunc],?_⟩
  unfold Rep
  refine⟨first.toList.map a.eval,cap.toList.map a.eval,(by rw[←Array.toList_map,←Array.toList_map]),key _ (fun y hy=>?_),key _ (fun y hy=>?_)⟩
  ·rw[ho];simp[Op.operands];exact .inl (by simpa using hy)
  rw[ho];simp[Op.operands];exact .inr (by simpa using hy)
end
open Go.RowKit
theorem kq(w:World)(cs:Array Value)(e:TypeId)(fr:Nat×Nat)(b j:Nat)(hb:b=w.heap.size):(w.alloc (.cells cs e fr)).cell? ⟨b,j,none⟩=cs[j]?:=by
 subst hb
 have h:(w.alloc (.cells cs e fr)).heap[w.heap.size]?=some (Obj.cells cs e fr):=by show(w.heap.push _)[w.heap.size]?=_;simp
 unfold World.cell?
 simp only[h]
 rfl
section
variable {P : Program} {B : Nat → Nat → Prop} {o : Oper} {T : Nat → PV} {H : List Ob}
theorem fa{c:Cx}{n:Nat}{xs:List PV}{s:SK}{v:Value}(h:Rep c (.seq n xs s) v):∃(a:Option Addr) (cap:Nat) (vs:List Value),v=.slice a n cap∧n≤cap∧(a=none→n=0∧cap=0∧vs=[])∧an c xs vs∧(∀b,a=some b→ou c b vs∨(cap=0∧vs=[]))∧uG c s a n cap xs.length:=by
 unfold Rep at h;exact h
theorem gj{c:Cx}{b:Addr}{vs:List Value}(h:ou c b vs):b=⟨b.block,b.off,none⟩:=by cases b;simp only[ou]at h;cases h.1;rfl
theorem pQ{t e:TypeId}{d de:TD}{x ix:Operand}{n:Nat}{xs:List PV}{s:SK}{k:IntKind}{i:Int}(f:ap P t d)(hd:d.sh=.slice e)(fe:ap P e de)(ho:o.op=.indexAddr t x ix)(hx:opv T x=.seq n xs s)(hi:opv T ix=.val (.int k i))(h0:0≤i∧i<n):
  br P B o T H (.row (xs.drop (i.toNat*de.size))) H :=
 aI fun σ w a s' h=>by
  have h1:=h x (by simp[ho,Op.operands])
  have h2:=h ix (by simp[ho,Op.operands])
  rw[hx]at h1
  rw[hi]at h2
  unfold Rep at h2
  obtain⟨ad,cap,vs,hv,hle,hnil,hrl,hlies,_⟩:=fa h1
  match ad,hnil,hlies,hv with
  | none,hnil,_,_=>obtain⟨rfl,_⟩:=hnil rfl;omega
  | some b,_,hlies,hv =>
   have hl:=(hlies b rfl).resolve_right (by rintro⟨h3,_⟩;omega)
   have hb:=gj hl
   refine⟨.pointer (some ⟨b.block,b.off+i.toNat*de.size,none⟩),?_,?_⟩
   ·rw[hb]at hv
    simp[execOp,ho,hv,h2,Instr.indexAt,run_underlying (f.slice hd),asIntOf,h0,fe.sizeOf,Addr.add_lit]
   unfold Rep;exact⟨_,vs.drop (i.toNat*de.size),rfl,hrl.drop _,hl.drop _⟩
theorem pK{t e:TypeId}{d de:TD}{x ix:Operand}{id off n cap:Nat}{k:IntKind}{i:Int}(f:ap P t d)(hd:d.sh=.slice e)(fe:ap P e de)(ho:o.op=.indexAddr t x ix)(hx:opv T x=.arr id off n cap)(hi:opv T ix=.val (.int k i))(h0:0≤i∧i<n):
  br P B o T H (.ptr id (off+i.toNat*de.size)) H :=
 aI fun σ w a s' h=>by
  have h1:=h x (by simp[ho,Op.operands])
  have h2:=h ix (by simp[ho,Op.operands])
  rw[hx]at h1
  rw[hi]at h2
  unfold Rep at h1 h2
  obtain⟨hN,b,hb,hv⟩:=h1
  refine⟨.pointer (some ⟨b,off+i.toNat*de.size,none⟩),?_,?_⟩
  ·simp[execOp,ho,hv,h2,Instr.indexAt,run_underlying (f.slice hd),asIntOf,h0,fe.sizeOf,Addr.add_lit]
  unfold Rep;exact⟨hN,b,hb,rfl⟩
theorem pi{t e:TypeId}{d de:TD}{x ix:Operand}{id off n:Nat}{k:IntKind}{i:Int}(f:ap P t d)(hd:d.sh=.slice e)(fe:ap P e de)(ho:o.op=.indexAddr t x ix)(hx:opv T x=.arw id off n)(hi:opv T ix=.val (.int k i))(h0:0≤i∧i<n):
  br P B o T H (.ptr id (off+i.toNat*de.size)) H :=
 aI fun σ w a s' h=>by
  have h1:=h x (by simp[ho,Op.operands])
  have h2:=h ix (by simp[ho,Op.operands])
  rw[hx]at h1
  rw[hi]at h2
  unfold Rep at h1 h2
  obtain⟨hN,b,cap,hb,_,hv⟩:=h1
  refine⟨.pointer (some ⟨b,off+i.toNat*de.size,none⟩),?_,?_⟩
  ·simp[execOp,ho,hv,h2,Instr.indexAt,run_underlying (f.slice hd),asIntOf,h0,fe.sizeOf,Addr.add_lit]
  unfold Rep;exact⟨hN,b,hb,rfl⟩
theorem pw{t e:TypeId}{d de:TD}{x ix:Operand}{id off n:Nat}{k:IntKind}{i:Int}(f:ap P t d)(hd:d.sh=.array n e)(fe:ap P e de)(ho:o.op=.indexAddr t x ix)(hx:opv T x=.ptr id off)(hi:opv T ix=.val (.int k i))(h0:0≤i∧i<n):
  br P B o T H (.ptr id (off+i.toNat*de.size)) H :=
 aI fun σ w a s' h=>by
  have h1:=h x (by simp[ho,Op.operands])
  have h2:=h ix (by simp[ho,Op.operands])
  rw[hx]at h1
  rw[hi]at h2
  unfold Rep at h1 h2
  obtain⟨hN,b,hb,hv⟩:=h1
  refine⟨.pointer (some ⟨b,off+i.toNat*de.size,none⟩),?_,?_⟩
  ·simp[execOp,ho,hv,h2,Instr.indexAt,run_underlying (f.array hd),asIntOf,h0,fe.sizeOf,Addr.add_lit,Instr.sureAddr]
  unfold Rep;exact⟨hN,b,hb,rfl⟩
theorem py{t e:TypeId}{d de:TD}{x ix:Operand}{xs:List PV}{n:Nat}{k:IntKind}{i:Int}(f:ap P t d)(hd:d.sh=.array n e)(fe:ap P e de)(ho:o.op=.indexAddr t x ix)(hx:opv T x=.row xs)(hi:opv T ix=.val (.int k i))(h0:0≤i∧i<n):
  br P B o T H (.row (xs.drop (i.toNat*de.size))) H :=
 aI fun σ w a s' h=>by
  have h1:=h x (by simp[ho,Op.operands])
  have h2:=h ix (by simp[ho,Op.operands])
  rw[hx]at h1
  rw[hi]at h2
  unfold Rep at h1 h2
  obtain⟨b,vs,hv,hrl,hl⟩:=h1
  have hb:=gj hl
  refine⟨.pointer (some ⟨b.block,b.off+i.toNat*de.size,none⟩),?_,?_⟩
  ·rw[hb]at hv
   simp[execOp,ho,hv,h2,Instr.indexAt,run_underlying (f.array hd),asIntOf,h0,fe.sizeOf,Addr.add_lit,Instr.sureAddr]
  unfold Rep;exact⟨_,vs.drop (i.toNat*de.size),rfl,hrl.drop _,hl.drop _⟩
def sEq:List UInt8→List UInt8→Bool
 | [],[]=>true
 | x::xs,y::ys=>match Nat.beq x.toNat y.toNat with
  | true=>sEq xs ys
  | false=>false
 | _,_=>false
theorem yB:∀xs ys:List UInt8,sEq xs ys=true↔xs=ys
 | [],[]=>by simp[sEq]
 | [],_::_=>by simp[sEq]
 | _::_,[]=>by simp[sEq]
 | x::xs,y::ys=>by
  simp only[sEq]
  split
  ·rename_i h
   rw[Nat.beq_eq]at h
   have h':x=y:=UInt8.toNat_inj.1 h
   subst h'
   simp[yB xs ys]
  rename_i h
  have h':x≠y:=fun e=>by subst e;rw[Nat.beq_refl]at h;cases h
  simp[h']
def kN(a b:ByteArray):Bool:=sEq a.data.toList b.data.toList
theorem oM(a b:ByteArray):kN a b=true↔a=b:=by
 unfold kN
 rw[yB]
 obtain⟨⟨l⟩⟩:=a
 obtain⟨⟨m⟩⟩:=b
 simp
theorem HO(a b:ByteArray):kN a b=decide (a=b):=by
 by_cases h:a=b
 ·rw[(oM a b).2 h];simp[h]
 have:kN a b=false:=Bool.eq_false_iff.2 (fun k=>h ((oM a b).1 k))
 simp[h,this]
theorem qd(a b:ByteArray):(a.toList==b.toList)=kN a b:=by
 rw[ByteArray.toList_eq,ByteArray.toList_eq,Bool.eq_iff_iff,beq_iff_eq]
 unfold kN
 rw[yB]
theorem xK{t yt:TypeId}{x y:Operand}{a b:ByteArray}(ho:o.op=.binOp .eql t x y yt)(hx:opv T x=.val (.string a))(hy:opv T y=.val (.string b)):br P B o T H (.val (.bool (kN a b))) H :=
 aI fun σ w ac s h=>by
  have h1:=h x (by simp[ho,Op.operands])
  have h2:=h y (by simp[ho,Op.operands])
  rw[hx]at h1
  rw[hy]at h2
  unfold Rep at h1 h2
  refine⟨_,?_,aD _ _⟩
  rw[←qd]
  simp[execOp,ho,h1,h2,eqGuard_at_string,binOp,Op.stringOp]
theorem yo{t yt:TypeId}{x y:Operand}{a b:ByteArray}(ho:o.op=.binOp .neq t x y yt)(hx:opv T x=.val (.string a))(hy:opv T y=.val (.string b)):br P B o T H (.val (.bool (!kN a b))) H :=
 aI fun σ w ac s h=>by
  have h1:=h x (by simp[ho,Op.operands])
  have h2:=h y (by simp[ho,Op.operands])
  rw[hx]at h1
  rw[hy]at h2
  unfold Rep at h1 h2
  refine⟨_,?_,aD _ _⟩
  rw[←qd]
  simp[execOp,ho,h1,h2,eqGuard_at_string,binOp,Op.stringOp]
theorem vE{t yt:TypeId}{d:TD}{x y:Operand}{a b:Bool}(f:ap P t d)(hd:d.sh=.bool)(ho:o.op=.binOp .eql t x y yt)(hx:opv T x=.val (.bool a))(hy:opv T y=.val (.bool b)):br P B o T H (.val (.bool (a==b))) H :=
 aI fun σ w ac s h=>by
  have h1:=h x (by simp[ho,Op.operands])
  have h2:=h y (by simp[ho,Op.operands])
  rw[hx]at h1
  rw[hy]at h2
  unfold Rep at h1 h2
  refine⟨_,?_,aD _ _⟩
  have:=run_equalIn_bool' (P:=P) (w:=w) (Op.maxDepth-1) t a b (f.bool hd)
  simp[execOp,ho,h1,h2,eqGuard_at_bool,binOp,Op.equal]
  rw[show Op.maxDepth=Op.maxDepth-1+1 from rfl,this]
  rfl
theorem vL{t yt:TypeId}{d:TD}{x y:Operand}{a b:Bool}(f:ap P t d)(hd:d.sh=.bool)(ho:o.op=.binOp .neq t x y yt)(hx:opv T x=.val (.bool a))(hy:opv T y=.val (.bool b)):br P B o T H (.val (.bool (!(a==b)))) H :=
 aI fun σ w ac s h=>by
  have h1:=h x (by simp[ho,Op.operands])
  have h2:=h y (by simp[ho,Op.operands])
  rw[hx]at h1
  rw[hy]at h2
  unfold Rep at h1 h2
  refine⟨_,?_,aD _ _⟩
  have:=run_equalIn_bool' (P:=P) (w:=w) (Op.maxDepth-1) t a b (f.bool hd)
  simp[execOp,ho,h1,h2,eqGuard_at_bool,binOp,Op.equal]
  rw[show Op.maxDepth=Op.maxDepth-1+1 from rfl,this]
  rfl
theorem yJ{t yt:TypeId}{x y:Operand}{a b:ByteArray}(ho:o.op=.binOp .add t x y yt)(hx:opv T x=.val (.string a))(hy:opv T y=.val (.string b))(hb:a.size+b.size≤9223372036854775807):br P B o T H (.val (.string (a++b))) H :=
 aI fun σ w ac s h=>by
  have h1:=h x (by simp[ho,Op.operands])
  have h2:=h y (by simp[ho,Op.operands])
  rw[hx]at h1
  rw[hy]at h2
  unfold Rep at h1 h2
  refine⟨_,?_,aD _ _⟩
  have hb':¬(9223372036854775807<(a.size:Int)+(b.size:Int)):=by omega
  simp[execOp,ho,h1,h2,eqGuard_at_string,binOp,Op.stringOp,hb']
def qc(s:ByteArray)(j:Nat):Int:=((s.data.toList.getD j 0).toNat:Int)
theorem uO{t:TypeId}{d:TD}{x ix:Operand}{s:ByteArray}{k:IntKind}{i:Int}(f:ap P t d)(hd:d.sh=.str)(ho:o.op=.index t x ix)(hx:opv T x=.val (.string s))(hi:opv T ix=.val (.int k i))(h0:0≤i∧i<s.size):
  br P B o T H (.val (.int .u8 (qc s i.toNat))) H :=
 aI fun σ w a s' h=>by
  have h1:=h x (by simp[ho,Op.operands])
  have h2:=h ix (by simp[ho,Op.operands])
  rw[hx]at h1
  rw[hi]at h2
  unfold Rep at h1 h2
  have hlt:i.toNat<s.size:=by omega
  have hg:s[i.toNat]?=some s[i.toNat]:=by rw[getElem?_pos s i.toNat hlt]
  refine⟨_,?_,aD _ _⟩
  simp only[execOp,ho,h1,h2,Instr.index,run_underlying (f.str hd),asIntOf,h0,Sem.run_bind,Sem.run_pure,Result.andThen_ok,if_true,hg]
  have e:qc s i.toNat=((s[i.toNat]).toNat:Int):=by
   unfold qc
   have:s.data.toList.getD i.toNat 0=s[i.toNat]:=by
    have hl:i.toNat<s.data.toList.length:=by rw[Array.length_toList];exact hlt
    rw[List.getD_eq_getElem?_getD,List.getElem?_eq_getElem hl];rfl
   rw[this]
  rw[e]
theorem tX{t e:TypeId}{d de:TD}{x ix:Operand}{cs:List PV}{n:Nat}{k:IntKind}{i:Int}{r:PV}(f:ap P t d)(hd:d.sh=.array n e)(fe:ap P e de)(ha:de.agg=false)(ho:o.op=.index t x ix)(hx:opv T x=.agg cs)(hi:opv T ix=.val (.int k i))(h0:0≤i∧i<n)(hr:cs[i.toNat*de.size]?=some r):
  br P B o T H r H :=
 aI fun σ w a s' h=>by
  have h1:=h x (by simp[ho,Op.operands])
  have h2:=h ix (by simp[ho,Op.operands])
  rw[hx]at h1
  rw[hi]at h2
  unfold Rep at h1 h2
  obtain⟨vs,hv,hrl⟩:=h1
  obtain⟨u,hu,hru⟩:=hrl.get hr
  refine⟨u,?_,hru⟩
  simp[execOp,ho,hv,h2,Instr.index,run_underlying (f.array hd),asIntOf,h0,fe.sizeOf,part,fe.isAgg,ha,hu]
def jn(T:Nat→PV)(y:Option Operand)(dflt v:Nat):Prop:=match y with
 | none=>v=dflt
 | some z=>∃k i,opv T z=.val (.int k i)∧0≤i∧v=i.toNat
theorem oK{c:Cx}{a:Act}{z:Operand}{dflt v y:Nat}{code:BoundsCode}(h:jn T (some z) dflt v)(hr:Rep c (opv T z) (a.eval z))(hy:v≤y)(P:Program)(w:World):(Instr.sliceBound (a.eval z) y code).run P w=.ok v w:=by
 obtain⟨k,i,h1,h2,rfl⟩:=h
 rw[h1]at hr
 unfold Rep at hr
 rw[hr]
 have:0≤i∧i≤y:=by omega
 simp[Instr.sliceBound,asIntOf,this]
theorem kL{c:Cx}{a:Act}{lo hi mx:Option Operand}{n cap l hh:Nat}{m:Nat}{b:Bool}(hr:∀z,(lo=some z∨hi=some z∨mx=some z)→Rep c (opv T z) (a.eval z))(h1:jn T lo 0 l)(h2:jn T hi n hh)(h3:jn T mx cap m)(hmx:mx.isSome=true→hi.isSome=true)(e1:l≤hh)(e2:hh≤m)(e3:m≤cap)(hn:n≤cap)(P:Program)(w:World):
  (Instr.sliceBounds b n cap (lo.map a.eval) (hi.map a.eval) (mx.map a.eval)).run P w=.ok (l,hh,m) w:=by
 unfold Instr.sliceBounds
 cases mx with
 | none =>
  have h3':m=cap:=h3
  subst h3'
  cases hi with
  | none =>
   have h2':hh=n:=h2
   subst h2'
   cases lo with
   | none=>have h1':l=0:=h1;subst h1';simp
   | some z=>simp[oK (code:=.sliceB) h1 (hr z (by simp)) e1]
  | some y =>
   have k2:=fun code=>oK (code:=code) h2 (hr y (by simp)) e2 P w
   cases lo with
   | none=>have h1':l=0:=h1;subst h1';simp[k2]
   | some z=>simp[k2,oK (code:=.sliceB) h1 (hr z (by simp)) e1]
 | some x =>
  have k3:=fun code=>oK (code:=code) h3 (hr x (by simp)) e3 P w
  cases hi with
  | none=>simp at hmx
  | some y =>
   have k2:=fun code=>oK (code:=code) h2 (hr y (by simp)) e2 P w
   cases lo with
   | none=>have h1':l=0:=h1;subst h1';simp[k3,k2]
   | some z=>simp[k3,k2,oK (code:=.slice3C) h1 (hr z (by simp)) e1]
theorem ve{t e:TypeId}{d de:TD}{x:Operand}{lo hi mx:Option Operand}{n l hh:Nat}{xs:List PV}{s:SK}(f:ap P t d)(hd:d.sh=.slice e)(fe:ap P e de)(ho:o.op=.slice t x lo hi mx)(hx:opv T x=.seq n xs s)
  (h1:jn T lo 0 l) (h2:jn T hi n hh) (hm:mx=none) (e1:l≤hh) (e2:hh≤n) :
  br P B o T H (.seq (hh-l) ((xs.drop (l*de.size)).take ((hh-l)*de.size)) .any) H :=
 aI fun σ w a s' h=>by
  have k1:=h x (by simp[ho,Op.operands])
  rw[hx]at k1
  obtain⟨ad,cap,vs,hv,hle,hnil,hrl,hlies,_⟩:=fa k1
  subst hm
  have kb:=kL (P:=P) (w:=w) (a:=a) (cap:=cap) (b:=true) (m:=cap) (mx:=none) (c:=cx B H σ w) (fun z hz=>h z (by
   rcases hz with rfl|rfl|hz
   ·simp[ho,Op.operands]
   ·simp[ho,Op.operands]
   cases hz)) h1 h2 rfl (by simp) e1 (by omega) (Nat.le_refl _) hle
  refine⟨.slice (if cap=l then ad else ad.map (·.add (l*de.size))) (hh-l) (cap-l),?_,?_⟩
  ·simp only[Option.map_none]at kb
   simp[execOp,ho,hv,Instr.sliceAt,run_underlying (f.slice hd),Instr.slice,kb,fe.sizeOf]
  unfold Rep
  refine⟨_,_,(vs.drop (l*de.size)).take ((hh-l)*de.size),rfl,by omega,?_,(hrl.drop _).take _,?_,trivial⟩
  ·intro hn
   split at hn
   ·rename_i hcl
    have:=hnil hn
    rw[this.2.2];simp;omega
   cases ad with
   | none=>have:=hnil rfl;rw[this.2.2];simp;omega
   | some b=>cases hn
  intro b hb
  split at hb
  ·rename_i hcl
   have h0:hh-l=0:=by omega
   rw[h0]
   simp only[Nat.zero_mul,List.take_zero]
   exact .inr (by simp<;>omega)
  cases ad with
  | none=>cases hb
  | some b' =>
   have hl:=(hlies b' rfl).resolve_right (by rintro⟨h3,_⟩;omega)
   have hb':=gj hl
   simp only[Option.map_some,Option.some.injEq]at hb
   subst hb
   rw[hb',Addr.add_lit]
   exact .inl ((hl.drop (l*de.size)).take _)
theorem sX{t e:TypeId}{d de:TD}{x y z:Operand}{lo:Option Operand}{n l hh:Nat}{xs:List PV}{s:SK}(f:ap P t d)(hd:d.sh=.slice e)(fe:ap P e de)(ho:o.op=.slice t x lo (some y) (some z))(hx:opv T x=.seq n xs s)
  (h1:jn T lo 0 l) (h2:jn T (some y) n hh) (h3:jn T (some z) n hh) (e1:l≤hh) (e2:hh≤n) :
  br P B o T H (.seq (hh-l) ((xs.drop (l*de.size)).take ((hh-l)*de.size)) .clip) H :=
 aI fun σ w a s' h=>by
  have k1:=h x (by simp[ho,Op.operands])
  rw[hx]at k1
  obtain⟨ad,cap,vs,hv,hle,hnil,hrl,hlies,_⟩:=fa k1
  have h3':jn T (some z) cap hh:=h3
  have kb:=kL (P:=P) (w:=w) (a:=a) (n:=n) (cap:=cap) (b:=true) (m:=hh) (mx:=some z) (hi:=some y) (lo:=lo) (c:=cx B H σ w) (fun q hq=>h q (by
   rcases hq with rfl|hq|hq
   ·simp[ho,Op.operands]
   ·cases hq;simp[ho,Op.operands]
   cases hq;simp[ho,Op.operands])) h1 h2 h3' (by simp) e1 (Nat.le_refl _) (by omega) hle
  refine⟨.slice (if hh=l then ad else ad.map (·.add (l*de.size))) (hh-l) (hh-l),?_,?_⟩
  ·simp only[Option.map_some]at kb
   simp[execOp,ho,hv,Instr.sliceAt,run_underlying (f.slice hd),Instr.slice,kb,fe.sizeOf]
  unfold Rep
  refine⟨_,_,(vs.drop (l*de.size)).take ((hh-l)*de.size),rfl,by omega,?_,(hrl.drop _).take _,?_,rfl⟩
  ·intro hn
   split at hn
   ·rename_i hcl
    have:=hnil hn
    rw[this.2.2];simp;omega
   cases ad with
   | none=>have:=hnil rfl;rw[this.2.2];simp;omega
   | some b=>cases hn
  intro b hb
  split at hb
  ·rename_i hcl
   have h0:hh-l=0:=by omega
   rw[h0]
   simp only[Nat.zero_mul,List.take_zero]
   exact .inr (by simp<;>omega)
  cases ad with
  | none=>cases hb
  | some b' =>
   have hl:=(hlies b' rfl).resolve_right (by rintro⟨h3,_⟩;omega)
   have hb':=gj hl
   simp only[Option.map_some,Option.some.injEq]at hb
   subst hb
   rw[hb',Addr.add_lit]
   exact .inl ((hl.drop (l*de.size)).take _)
theorem tE{t:TypeId}{d:TD}{x:Operand}{lo hi:Option Operand}{l hh:Nat}{s:ByteArray}(f:ap P t d)(hd:d.sh=.str)(ho:o.op=.slice t x lo hi none)(hx:opv T x=.val (.string s))
  (h1:jn T lo 0 l) (h2:jn T hi s.size hh) (e1:l≤hh) (e2:hh≤s.size) :
  br P B o T H (.val (.string (s.extract l hh))) H :=
 aI fun σ w a s' h=>by
  have k1:=h x (by simp[ho,Op.operands])
  rw[hx]at k1
  unfold Rep at k1
  have kb:=kL (P:=P) (w:=w) (a:=a) (n:=s.size) (cap:=s.size) (b:=false) (m:=s.size) (mx:=none) (c:=cx B H σ w) (fun z hz=>h z (by
   rcases hz with rfl|rfl|hz
   ·simp[ho,Op.operands]
   ·simp[ho,Op.operands]
   cases hz)) h1 h2 rfl (by simp) e1 e2 (Nat.le_refl _) (Nat.le_refl _)
  refine⟨_,?_,aD _ _⟩
  simp only[Option.map_none]at kb
  simp[execOp,ho,k1,Instr.sliceAt,run_underlying (f.str hd),Instr.slice,kb]
theorem vl{t e:TypeId}{d de:TD}{x:Operand}{id off n:Nat}(f:ap P t d)(hd:d.sh=.array n e)(fe:ap P e de)(ho:o.op=.slice t x none none none)(hx:opv T x=.ptr id off):
  br P B o T H (.arr id off n n) H :=
 aI fun σ w a s' h=>by
  have k1:=h x (by simp[ho,Op.operands])
  rw[hx]at k1
  unfold Rep at k1
  obtain⟨hN,b,hb,hv⟩:=k1
  refine⟨.slice (some ⟨b,off,none⟩) n n,?_,by unfold Rep;exact⟨hN,b,hb,rfl⟩⟩
  simp[execOp,ho,hv,Instr.sliceAt,run_underlying (f.array hd),Instr.sliceBounds,Instr.sureAddr,fe.sizeOf,Addr.add_lit]
theorem uy{t e:TypeId}{d de:TD}{x:Operand}{lo hi:Option Operand}{id off n cap l hh:Nat}(f:ap P t d)(hd:d.sh=.slice e)(fe:ap P e de)(ho:o.op=.slice t x lo hi none)(hx:opv T x=.arr id off n cap)
  (h1:jn T lo 0 l) (h2:jn T hi n hh) (e1:l≤hh) (e2:hh≤n) (e3:n≤cap) :
  br P B o T H (.arr id (if cap=l then off else off+l*de.size) (hh-l) (cap-l)) H :=
 aI fun σ w a s' h=>by
  have k1:=h x (by simp[ho,Op.operands])
  rw[hx]at k1
  unfold Rep at k1
  obtain⟨hN,b,hb,hv⟩:=k1
  have kb:=kL (P:=P) (w:=w) (a:=a) (n:=n) (cap:=cap) (b:=true) (m:=cap) (mx:=none) (c:=cx B H σ w) (fun z hz=>h z (by
   rcases hz with rfl|rfl|hz
   ·simp[ho,Op.operands]
   ·simp[ho,Op.operands]
   cases hz)) h1 h2 rfl (by simp) e1 (by omega) (Nat.le_refl _) e3
  simp only[Option.map_none]at kb
  refine⟨.slice (some ⟨b,if cap=l then off else off+l*de.size,none⟩) (hh-l) (cap-l),?_,by unfold Rep;exact⟨hN,b,hb,rfl⟩⟩
  simp[execOp,ho,hv,Instr.sliceAt,run_underlying (f.slice hd),Instr.slice,kb,fe.sizeOf,Addr.add_lit]
  split<;>rfl
theorem rD{src dst:TypeId}{ds dd:TD}{x:Operand}{k k':IntKind}{i:Int}(f:ap P src ds)(g:ap P dst dd)(hd:dd.sh=.int k)(ho:o.op=.convert src dst x)(hx:opv T x=.val (.int k' i)):br P B o T H (.val (.int k (k.wrap i))) H :=
 aI fun σ w a s' h=>by
  have k1:=h x (by simp[ho,Op.operands])
  rw[hx]at k1
  unfold Rep at k1
  obtain⟨u,hu,_⟩:=f.under
  refine⟨_,?_,aD _ _⟩
  simp[execOp,ho,k1,convert,run_underlying hu,run_underlying (g.int hd),Conv.intToInt]
theorem rx{src dst:TypeId}{ds dd:TD}{x:Operand}{s:ByteArray}(f:ap P src ds)(g:ap P dst dd)(hd:dd.sh=.str)(ho:o.op=.convert src dst x)(hx:opv T x=.val (.string s)):br P B o T H (.val (.string s)) H :=
 aI fun σ w a s' h=>by
  have k1:=h x (by simp[ho,Op.operands])
  rw[hx]at k1
  unfold Rep at k1
  obtain⟨u,hu,_⟩:=f.under
  refine⟨_,?_,aD _ _⟩
  simp[execOp,ho,k1,convert,run_underlying hu,run_underlying (g.str hd)]
def j4(z:Int):PV:=.val (.int .u8 z)
theorem po{c:Cx}:∀{zs:List Int} {vs:List Value},an c (zs.map j4) vs→vs=zs.map (Value.int .u8)
 | [],vs,h=>by rw[List.map_nil,ax]at h;exact h
 | z::zs,[],h=>by rw[List.map_cons]at h;unfold an at h;obtain⟨u,us,h1,_⟩:=h;cases h1
 | z::zs,v::vs,h=>by
  rw[List.map_cons,am]at h
  have h1:=h.1
  unfold j4 Rep at h1
  rw[h1,po h.2];rfl
theorem m1{w:World}(src e:TypeId)(hs:P.underlying src=some (.slice e))(he:P.underlying e=some (.int .u8))(b:Addr)(c:Nat)(dst:TypeId)(hd:P.underlying dst=some .string):
  (convert src dst (.slice (some b) 0 c)).run P w=.ok (.string (strOfNums [])) w:=by
 have hl:(loadCells b 0).run P w=.ok (([]:List Int).map (Value.int .u8)).toArray w:=by
  simpa using run_loadCells_list (P:=P) w b [] (fun j v hj=>by simp at hj)
 rw[run_convert_bytes_string w src dst e _ 0 c hs he hd,run_bytesToString w _ 0 c [] hl]
 rfl
theorem vN{src dst e:TypeId}(hs:P.underlying src=some (.slice e))(he:P.underlying e=some (.int .u8))(hd:P.underlying dst=some .string)(a:Option Addr)(zs:List Int)(cap:Nat)(w:World)(hc:∀b,a=some b→(b.spot=none∧∀j,j<zs.length→w.cell? ⟨b.block,b.off+j,none⟩=some (.int .u8 (zs.getD j 0)))∨zs=[])(hn:a=none→zs=[]∧cap=0):
  (convert src dst (.slice a zs.length cap)).run P w=.ok (.string (strOfNums zs)) w:=by
 cases a with
 | none =>
  obtain⟨rfl,rfl⟩:=hn rfl
  exact run_convert_bytes_nil (w:=w) src e hs he 0 0 dst hd
 | some b =>
  rcases hc b rfl with ⟨h1,h2⟩|rfl
  case inr=>exact m1 (w:=w) src e hs he b cap dst hd
  have hb:b=⟨b.block,b.off,none⟩:=by cases b;simp only at h1;subst h1;rfl
  rw[hb]
  exact run_convert_bytes_arg w src e hs he b.block b.off zs.length cap zs rfl h2 dst hd
theorem pG{src dst e:TypeId}{ds dd de:TD}{x:Operand}{n:Nat}{zs:List Int}{s:SK}(f:ap P src ds)(hs:ds.sh=.slice e)(fe:ap P e de)(he:de.sh=.int .u8)(g:ap P dst dd)(hd:dd.sh=.str)(ho:o.op=.convert src dst x)(hx:opv T x=.seq n (zs.map j4) s)(hn:zs.length=n):
  br P B o T H (.val (.string (strOfNums zs))) H :=
 aI fun σ w a s' h=>by
  have k1:=h x (by simp[ho,Op.operands])
  rw[hx]at k1
  obtain⟨ad,cap,vs,hv,hle,hnil,hrl,hlies,_⟩:=fa k1
  have hvs:=po hrl
  subst hn
  refine⟨_,?_,aD _ _⟩
  have:=vN (P:=P) (f.slice hs) (fe.int he) (g.str hd) ad zs cap w (fun b hb=>(hlies b hb).imp (fun hl=>⟨hl.1,fun j hj=>(hl.2 j _ (by rw[hvs,List.getElem?_map,List.getElem?_eq_getElem hj];simp[List.getD,hj])).1⟩) (fun⟨_,h3⟩=>by rw[hvs]at h3;simpa using h3)) (fun h0=>by
   obtain⟨h1,h2,h3⟩:=hnil h0
   exact⟨List.eq_nil_of_length_eq_zero h1,h2⟩)
  simp[execOp,ho,hv,this]
theorem nx{src dst e:TypeId}{ds dd de:TD}{x:Operand}{s:ByteArray}(f:ap P src ds)(hs:ds.sh=.str)(g:ap P dst dd)(hd:dd.sh=.slice e)(fe:ap P e de)(he:de.sh=.int .u8)(ho:o.op=.convert src dst x)(hx:opv T x=.val (.string s)):
  br P B o T H (.seq s.size (s.data.toList.map fun b=>j4 b.toNat) .any) H:=by
 intro σ w a s' h
 have k1:=h x (by simp[ho,Op.operands])
 rw[hx]at k1
 unfold Rep at k1
 have hr:=run_bytes_of_string w src dst e s (f.str hs) (g.slice hd) (fe.int he)
 have gr:bg w (w.drew.alloc (.cells (bytesRow s (grownCap w s.size 0 e)) e ((bytesRow s (grownCap w s.size 0 e)).size,(bytesRow s (grownCap w s.size 0 e)).size+1))):=(bg.drew w).trans (bg.alloc _ _)
 obtain⟨s2,st⟩:=eM s' gr
 refine⟨_,_,σ,.inl (by simp[execOp,ho,k1,hr];rfl),?_,s2,st⟩
 unfold Rep
 have hlen:(s.data.toList.map fun b=>Value.int .u8 b.toNat).length=s.size:=by rw[List.length_map,Array.length_toList];rfl
 refine⟨_,_,s.data.toList.map (fun b=>Value.int .u8 b.toNat),rfl,grownCap_ge _ _ _ _,(fun h=>by cases h),?_,?_,trivial⟩
 ·generalize s.data.toList=l
  induction l with
  | nil=>exact ax.2 rfl
  | cons x l ih=>exact am.2 ⟨aD _ _,ih⟩
 intro b hb
 cases hb
 refine .inl ⟨rfl,fun j u hj=>⟨?_,?_⟩⟩
 ·have hjl:j<s.size:=by rw[←hlen];exact cn hj
  show(World.alloc w.drew _).cell? ⟨w.heap.size,0+j,none⟩=_
  rw[kq _ _ _ _ _ _ (by simp),Nat.zero_add]
  simp only[bytesRow]
  rw[Array.getElem?_append_left (by simpa using hjl)]
  simpa using hj
 rintro(h|⟨i,oi,h1,h2,h3⟩)
 ·exact absurd (s'.base _ _ h) (by simp)
 have hl:oi.live=true:=by cases oi<;>first|rfl|cases h3
 have:=(s'.holds i oi h1).lt hl h2
 simp[cx]at this
end
open Go.RowKit
section
variable {P : Program} {B : Nat → Nat → Prop} {o : Oper} {T : Nat → PV} {H : List Ob}
def wG(k:Nat):PV→Nat→List PV→Prop
 | .seq m ys _,n,zs=>n=m∧zs=ys∧ys.length=m*k∧∀y∈ys,okC y=true
 | .val (.string s),n,zs=>n=s.size∧k=1∧zs=s.data.toList.map fun b=>j4 b.toNat
 | _,_,_=>False
theorem oC{c:Cx}:∀{xs:List PV} {vs:List Value},(∀x∈xs,okC x=true)→an c xs vs→∀v∈vs,v.oneCell'=true
 | [],vs,_,h,v,hv=>by rw[ax]at h;subst h;cases hv
 | x::xs,[],_,h,v,hv=>by cases hv
 | x::xs,u::us,ho,h,v,hv=>by
  rw[am]at h
  cases hv with
  | head=>exact Db (ho x (by simp)) h.1
  | tail _ hv=>exact oC (fun y hy=>ho y (by simp[hy])) h.2 v hv
theorem Ak{c:Cx}(l:List UInt8):an c (l.map fun b=>j4 b.toNat) (l.map fun b=>Value.int .u8 b.toNat):=by
 induction l with
 | nil=>exact ax.2 rfl
 | cons x l ih=>exact am.2 ⟨aD _ _,ih⟩
theorem OH{c:Cx}{k m:Nat}{x:PV}{v:Value}{ys:List PV}{tx:TypeId}(h:wG k x m ys)(hr:Rep c x v)(hk:(∃e',P.underlying tx=some (.slice e'))∨P.underlying tx=some .string)(hs:∀s,x=.val (.string s)→P.underlying tx=some .string)(hq:∀n zs s,x=.seq n zs s→∃e',P.underlying tx=some (.slice e')):
  ∃news:List Value,an c ys news∧Src P k tx v m news c.w:=by
 cases x with
 | seq m' ys' s =>
  obtain⟨rfl,rfl,hl,hok⟩:=h
  obtain⟨a,cap,vs,rfl,hle,hnil,hrl,hlies,_⟩:=fa hr
  obtain⟨e',he⟩:=hq _ _ _ rfl
  cases a with
  | none =>
   obtain⟨rfl,rfl,rfl⟩:=hnil rfl
   exact⟨[],hrl,Src.ofNil c.w he 0⟩
  | some b =>
   refine⟨vs,hrl,Src.ofSlice c.w he b m cap vs (by rw[an.length hrl];exact hl) (fun j u hj=>?_) (oC hok hrl)⟩
   have hl2:=(hlies b rfl).resolve_right (by rintro⟨_,h3⟩;rw[h3]at hj;simp at hj)
   rw[gj hl2,Addr.add_lit];exact(hl2.2 j u hj).1
 | val u =>
  cases u<;>first|exact h.elim|skip
  obtain⟨rfl,rfl,rfl⟩:=h
  unfold Rep at hr
  subst hr
  exact⟨_,Ak _,Src.ofString c.w (hs _ rfl) _⟩
 | _=>exact h.elim
theorem Cs{w:World}(t tx ty e:TypeId)(i:TypeInfo)(ht:P.underlying t=some (.slice e))(hi:P.info? e=some i)(a:Option Addr)(sLen sCap:Nat)(x:Value)(hs:Src P i.size tx x 0 [] w)(hroom:sLen≤sCap):
  (Builtin.append_ #[t,tx] ty #[.slice a sLen sCap,x]).run P w=.ok (.slice a sLen sCap) w:=by
 rcases hs.kind with ⟨e',hk⟩|hk<;>cases a<;>simp[Builtin.append_,run_underlying ht,run_underlying hk,sizeOf,typeInfo,hi,hs.len,hroom,hs.cells,storeCells]
theorem uk{w:World}(t tx ty e:TypeId)(i:TypeInfo)(z:Value)(ht:P.underlying t=some (.slice e))(hi:P.info? e=some i)(hz:i.zero=some z)(a:Option Addr)(sLen sCap:Nat)(olds:List Value)(hlo:olds.length=sLen*i.size)(hnil:a=none→sLen=0)
  (hold:∀b,a=some b→∀j v,olds[j]?=some v→w.cell? (b.add j)=some v) (x:Value) (m:Nat) (news:List Value) (hs:Src P i.size tx x m news w) (hg:sCap<sLen+m) (hb:(sLen+m)*i.bytes≤140737488355328) (h63:sLen+m≤9223372036854775807) :
  (Builtin.append_ #[t,tx] ty #[.slice a sLen sCap,x]).run P w=.ok (.slice (some ⟨w.heap.size,0,none⟩) (sLen+m) (grownCap w (sLen+m) sCap e))
   (w.drew.alloc (.cells ((olds++news).toArray++Builtin.zeroCells z.cells (grownCap w (sLen+m) sCap e-(sLen+m))) e)):=by
 refine run_append_grow_src w t tx ty e i z ht hi hz a sLen sCap olds ?_ x m news hs hg (by omega) (growslice_fits (by omega) hb)
 cases a with
 | none =>
  have:=hnil rfl
  subst this
  have:olds=[]:=List.eq_nil_of_length_eq_zero (by simpa using hlo)
  subst this
  exact run_firstCells_none w.drew i.size 0 0 sCap
 | some b=>exact run_firstCells_some w.drew i.size sLen b sLen sCap olds hlo (by simpa using hold b rfl)
theorem HG{σ:Nat→Option Nat}{w:World}(s:Sim B H σ w){t b m m':Nat}(ht:H[t]?=some (.free m))(hb:σ t=some b){cur:Array Value}{e:TypeId}(hg:w.heap[b]?=some (Obj.cells cur e (0,0))){us:List Value}(hl:us.length=cur.size)(hkeep:∀j,j<m→us[j]?=cur[j]?)(hm:m≤m')(hm':m'≤cur.size):
  Sim B (H.set t .dead++[.free m']) (ext σ H.length (some b)) (w.setRow b us.toArray)∧di B H σ w (H.set t .dead++[.free m']) (ext σ H.length (some b)) (w.setRow b us.toArray):=by
 have hlen:=cn ht
 have get:∀j o,(H.set t .dead++[.free m'])[j]?=some o→(j=H.length∧o=.free m')∨(j=t∧o=.dead)∨(j<H.length∧j≠t∧H[j]?=some o):=by
  intro j o h
  rcases eS h with ⟨h1,h2⟩|⟨rfl,rfl⟩
  ·rw[List.length_set]at h1
   by_cases hj:j=t
   ·subst hj;rw[List.getElem?_set_self hlen]at h2;cases h2;exact .inr (.inl ⟨rfl,rfl⟩)
   rw[List.getElem?_set_ne (Ne.symm hj)]at h2;exact .inr (.inr ⟨h1,hj,h2⟩)
  rw[List.length_set];exact .inl ⟨rfl,rfl⟩
 have own:∀x off,iE (ext σ H.length (some b)) (H.set t .dead++[.free m']) x off→iE σ H x off:=by
  rintro x off ⟨j,oj,h1,h2,h3⟩
  rcases get j oj h1 with ⟨rfl,rfl⟩|⟨rfl,rfl⟩|⟨h4,h5,h6⟩
  ·rw[bF]at h2;cases h2
   exact⟨t,_,ht,hb,Nat.le_trans hm h3⟩
  ·cases h3
  rw[bU h4]at h2;exact⟨j,oj,h6,h2,h3⟩
 have le:(cx B H σ w).Le (cx B (H.set t .dead++[.free m']) (ext σ H.length (some b)) (w.setRow b us.toArray)):=by
  refine⟨by simp[cx],fun i hi=>bU hi,fun x off u h1 h2=>⟨?_,fun h=>h1 (h.imp id (own x off))⟩,fun x es clk h1 h2=>⟨?_,fun h=>h1 (h.imp id (own x 0))⟩,fun x cs t' fr h1=>?_⟩
  ·by_cases hx:x=b
   ·subst hx
    have hoff:off<m:=by
     rcases Nat.lt_or_ge off m with h3|h3
     ·exact h3
     exact absurd (.inr ⟨t,_,ht,hb,h3⟩) h1
    have h3:w.cell? ⟨x,off,none⟩=cur[off]?:=by simp[World.cell?,hg]
    have h4:(w.setRow x us.toArray).cell? ⟨x,off,none⟩=us[off]?:=by simp[World.cell?,dY hg]
    show(w.setRow x us.toArray).cell? ⟨x,off,none⟩=some u
    rw[h4,hkeep off hoff,←h3];exact h2
   exact(kZ w b _ x off hx).trans h2
  ·have hx:x≠b:=by rintro rfl;simp only[cx]at h2;rw[hg]at h2;cases h2
   exact(cv w b _ x hx).trans h2
  by_cases hx:x=b
  ·subst hx
   simp only[cx]at h1
   rw[hg]at h1;cases h1
   exact⟨_,dY hg,by simpa using hl⟩
  exact⟨cs,(cv w b _ x hx).trans h1,rfl⟩
 refine⟨⟨?_,?_,fun x off h=>by rw[lc];exact s.base x off h,?_⟩,⟨le,rfl,rfl,rfl,by rw[lc];exact Nat.le_refl _,?_,?_⟩⟩
 ·intro j k x oj ok h1 h2 l1 l2 e1 e2
  rcases get j oj h1 with ⟨rfl,rfl⟩|⟨rfl,rfl⟩|⟨a4,a5,a6⟩<;>rcases get k ok h2 with ⟨rfl,rfl⟩|⟨rfl,rfl⟩|⟨b4,b5,b6⟩<;>first|rfl|(cases l1;done)|(cases l2;done)|skip
  ·rw[bF]at e1;cases e1
   rw[bU b4]at e2
   exact absurd (s.inj k t b ok _ b6 ht l2 rfl e2 hb) b5
  ·rw[bF]at e2;cases e2
   rw[bU a4]at e1
   exact absurd (s.inj j t b oj _ a6 ht l1 rfl e1 hb) a5
  rw[bU a4]at e1
  rw[bU b4]at e2
  exact s.inj j k x oj ok a6 b6 l1 l2 e1 e2
 ·intro j x oj h1 l1 e1 off
  rcases get j oj h1 with ⟨rfl,rfl⟩|⟨rfl,rfl⟩|⟨a4,a5,a6⟩
  ·rw[bF]at e1;cases e1;exact s.sep t b _ ht rfl hb off
  ·cases l1
  rw[bU a4]at e1;exact s.sep j x oj a6 l1 e1 off
 ·intro j oj h1
  rcases get j oj h1 with ⟨rfl,rfl⟩|⟨rfl,rfl⟩|⟨a4,a5,a6⟩
  ·intro x hx
   simp only[cx]at hx
   rw[bF]at hx;cases hx
   exact⟨_,e,dY hg,by simpa[hl]using hm'⟩
  ·trivial
  have k:=s.holds j oj a6
  cases oj with
  | cells zs t' =>
   obtain⟨x,ws,fr,h5,h6,hf,h7⟩:=k
   have hx:x≠b:=fun hx=>a5 (s.inj j t b _ _ a6 ht rfl rfl (hx▸h5) hb)
   exact⟨x,ws,fr,(bU a4).trans h5,(cv w b _ x hx).trans h6,hf,h7.mono le⟩
  | free m2 =>
   intro x hx
   obtain⟨cs,t',h5,h6⟩:=k x ((bU a4).symm.trans hx)
   have hne:x≠b:=fun h=>a5 (s.inj j t b _ _ a6 ht rfl rfl (h▸((bU a4).symm.trans hx)) hb)
   exact⟨cs,t',(cv w b _ x hne).trans h5,h6⟩
  | dead=>trivial
  | glob g u=>obtain⟨q1,q2⟩:=k;exact le.cell g 0 u q2 q1
  | iter s2 pos =>
   obtain⟨x,h5,h6⟩:=k
   have hx:x≠b:=fun hx=>a5 (s.inj j t b _ _ a6 ht rfl rfl (hx▸h5) hb)
   exact⟨x,(bU a4).trans h5,(cv w b _ x hx).trans h6⟩
  | smap ks ms =>
   obtain⟨x,es,clk,h5,h6,h7,h8⟩:=k
   have hx:x≠b:=fun hx=>a5 (s.inj j t b _ _ a6 ht rfl rfl (hx▸h5) hb)
   exact⟨x,es,clk,(bU a4).trans h5,(cv w b _ x hx).trans h6,h7,an.mono le h8⟩
 ·intro j oj x h1 h2 h3
  rcases get j oj h1 with ⟨rfl,rfl⟩|⟨rfl,rfl⟩|⟨a4,a5,a6⟩
  ·rw[bF]at h3;cases h3;exact .inr ⟨t,_,ht,rfl,hb⟩
  ·cases h2
  rw[bU a4]at h3;exact .inr ⟨j,oj,a6,h2,h3⟩
 intro x hx hn
 exact cv w b _ x (fun h=>hn t _ ht rfl (h▸hb))
theorem l9{σ:Nat→Option Nat}{w:World}(s:Sim B H σ w){t:Nat}{ob:Ob}(ht:H[t]?=some ob):Sim B (H.set t .dead) σ w∧di B H σ w (H.set t .dead) σ w:=by
 have hlen:=cn ht
 have get:∀j o,(H.set t .dead)[j]?=some o→(j=t∧o=.dead)∨(j≠t∧H[j]?=some o):=by
  intro j o h
  by_cases hj:j=t
  ·subst hj;rw[List.getElem?_set_self hlen]at h;cases h;exact .inl ⟨rfl,rfl⟩
  rw[List.getElem?_set_ne (Ne.symm hj)]at h;exact .inr ⟨hj,h⟩
 have own:∀x off,iE σ (H.set t .dead) x off→iE σ H x off:=by
  rintro x off ⟨j,o,h1,h2,h3⟩
  rcases get j o h1 with ⟨rfl,rfl⟩|⟨_,h4⟩
  ·cases h3
  exact⟨j,o,h4,h2,h3⟩
 have le:(cx B H σ w).Le (cx B (H.set t .dead) σ w):=⟨by simp[cx],fun _ _=>rfl,fun x off u h1 h2=>⟨h2,fun h=>h1 (h.imp id (own x off))⟩,fun x es clk h1 h2=>⟨h2,fun h=>h1 (h.imp id (own x 0))⟩,fun x cs e fr h1=>⟨cs,h1,rfl⟩⟩
 refine⟨⟨?_,?_,s.base,?_⟩,⟨le,rfl,rfl,rfl,Nat.le_refl _,?_,fun _ _ _=>rfl⟩⟩
 ·intro j k x oj ok h1 h2 l1 l2 e1 e2
  rcases get j oj h1 with ⟨rfl,rfl⟩|⟨_,h3⟩
  ·cases l1
  rcases get k ok h2 with ⟨rfl,rfl⟩|⟨_,h4⟩
  ·cases l2
  exact s.inj j k x oj ok h3 h4 l1 l2 e1 e2
 ·intro j x oj h1 l1 e1
  rcases get j oj h1 with ⟨rfl,rfl⟩|⟨_,h3⟩
  ·cases l1
  exact s.sep j x oj h3 l1 e1
 ·intro j oj h1
  rcases get j oj h1 with ⟨rfl,rfl⟩|⟨_,h3⟩
  ·trivial
  have k:=s.holds j oj h3
  cases oj with
  | cells zs t'=>obtain⟨x,ws,fr,h5,h6,hf,h7⟩:=k;exact⟨x,ws,fr,h5,h6,hf,h7.mono le⟩
  | free m2=>exact k
  | dead=>trivial
  | glob g u=>obtain⟨q1,q2⟩:=k;exact le.cell g 0 u q2 q1
  | iter s2 pos=>exact k
  | smap ks ms=>obtain⟨x,es,clk,h5,h6,h7,h8⟩:=k;exact⟨x,es,clk,h5,h6,h7,an.mono le h8⟩
 intro j oj x h1 h2 h3
 rcases get j oj h1 with ⟨rfl,rfl⟩|⟨_,h4⟩
 ·cases h2
 exact .inr ⟨j,oj,h4,h2,h3⟩
theorem sk{w w':World}{H':List Ob}{σ':Nat→Option Nat}{n k cap:Nat}{xs:List PV}{vs:List Value}{cs:Array Value}{e:TypeId}{t:Nat}(hr:an (cx B H' σ' w') xs vs)(ht:t<H'.length)(hσ:σ' t=some w.heap.size)(hg:w'.heap[w.heap.size]?=some (Obj.cells cs e (0,0)))(hl:xs.length=n*k)(hn:n≤cap)(hc:cap*k≤cs.size)
  (hcs:∀j,j<vs.length→cs[j]?=vs[j]?) (hw:∀off,off<vs.length→¬(cx B H' σ' w').Wr w.heap.size off):Rep (cx B H' σ' w') (.seq n xs (.own t k)) (.slice (some ⟨w.heap.size,0,none⟩) n cap):=by
 unfold Rep
 refine⟨_,cap,vs,rfl,hn,(fun h=>by cases h),hr,fun b hb=>?_,ht,hl,.inr ⟨_,cs,e,hσ,rfl,hg,hc⟩⟩
 cases hb
 refine .inl ⟨rfl,fun j u hj=>?_⟩
 have hjl:=cn hj
 refine⟨?_,by rw[Nat.zero_add];exact hw j hjl⟩
 show w'.cell? ⟨w.heap.size,0+j,none⟩=some u
 rw[Nat.zero_add]
 simp only[World.cell?,hg,Option.isSome_none,Bool.false_eq_true,if_false]
 rw[hcs j hjl];exact hj
theorem nQ{σ:Nat→Option Nat}{w:World}(s:Sim B H σ w){t tx ty e:TypeId}{d de:TD}(f:ap P t d)(hd:d.sh=.slice e)(fe:ap P e de){n m cap:Nat}{xs ys:List PV}{ad:Option Addr}{vs news:List Value}{x:Value}
  (hle:n≤cap) (hnil:ad=none→n=0∧cap=0∧vs=[]) (hrl:an (cx B H σ w) xs vs) (hlies:∀b,ad=some b→ou (cx B H σ w) b vs∨(cap=0∧vs=[])) (hl:xs.length=n*de.size) (hnr:an (cx B H σ w) ys news) (hsrc:Src P de.size tx x m news w)
  (hb:(n+m)*de.bytes≤140737488355328) (h63:n+m≤9223372036854775807) (hc:(m=0∧cap=n)∨cap<n+m) :
  ∃v' w' σ',(Builtin.append_ #[t,tx] ty #[.slice ad n cap,x]).run P w=.ok v' w'∧Rep (cx B (H++[.free ((n+m)*de.size)]) σ' w') (.seq (n+m) (xs++ys) (.own H.length de.size)) v'∧Sim B (H++[.free ((n+m)*de.size)]) σ' w'∧di B H σ w (H++[.free ((n+m)*de.size)]) σ' w'∧bg w w':=by
 obtain⟨i,z,hi,hsz,hby,hz,hzr⟩:=fe.info
 rw[←hsz]at hsrc
 have hnl:news.length=m*i.size:=hsrc.newsLen
 rcases hc with ⟨rfl,rfl⟩|hc
 ·have hn0:news=[]:=List.eq_nil_of_length_eq_zero (by simpa using hnl)
  subst hn0
  have hr:=Cs (P:=P) (w:=w) t tx ty e i (f.slice hd) hi ad cap cap _ hsrc (Nat.le_refl _)
  obtain⟨s',st⟩:=fp s (bg.refl w) (.free ((cap+0)*de.size)) none (fun b hb=>by cases hb) (fun b hb=>by simp only[cx]at hb;rw[bF]at hb;cases hb)
  have hy0:ys=[]:=List.eq_nil_of_length_eq_zero (by have:=an.length hnr;simpa using this.symm)
  subst hy0
  refine⟨_,w,_,hr,?_,s',st,bg.refl w⟩
  unfold Rep
  exact⟨ad,cap,vs,rfl,by omega,(fun h0=>by have:=hnil h0;exact⟨by omega,this.2⟩),by rw[List.append_nil];exact an.mono st.le hrl,fun b hb=>(hlies b hb).imp (·.mono st.le) id,by simp[cx],by simpa using hl,.inl (by omega)⟩
 have hvl:vs.length=n*i.size:=by rw[an.length hrl,hsz];exact hl
 have hr:=uk (P:=P) (w:=w) t tx ty e i z (f.slice hd) hi hz ad n cap vs hvl (fun h0=>(hnil h0).1) (fun b hb j v hj=>by
  have hl2:=(hlies b hb).resolve_right (by rintro⟨_,h3⟩;rw[h3]at hj;simp at hj)
  rw[gj hl2,Addr.add_lit];exact(hl2.2 j v hj).1) _ m news hsrc hc (by rw[hby];exact hb) h63
 have hzl:z.cells.size=de.size:=by have:=an.length (hzr (cx B H σ w));rw[Array.length_toList]at this;rw[this];exact fe.zlen
 have hge:=grownCap_ge w (n+m) cap e
 have hsize:((vs++news).toArray++Builtin.zeroCells z.cells (grownCap w (n+m) cap e-(n+m))).size=grownCap w (n+m) cap e*de.size:=by
  rw[Array.size_append,size_zeroCells,hzl,List.size_toArray,List.length_append,hvl,hnl,hsz,←Nat.add_mul,←Nat.add_mul]
  congr 1;omega
 have gr:bg w (w.drew.alloc (.cells ((vs++news).toArray++Builtin.zeroCells z.cells (grownCap w (n+m) cap e-(n+m))) e)):=(bg.drew w).trans (bg.alloc _ _)
 have hheap:(w.drew.alloc (.cells ((vs++news).toArray++Builtin.zeroCells z.cells (grownCap w (n+m) cap e-(n+m))) e)).heap[w.heap.size]?=some (Obj.cells ((vs++news).toArray++Builtin.zeroCells z.cells (grownCap w (n+m) cap e-(n+m))) e (0,0)):=by
  show(w.heap.push _)[w.heap.size]?=_;simp
 obtain⟨s',st⟩:=fp s gr (.free ((n+m)*de.size)) (some w.heap.size) (fun b hb=>by cases hb;exact Nat.le_refl _) (fun b hb=>by
  simp only[cx]at hb;rw[bF]at hb;cases hb
  exact⟨_,e,hheap,by rw[hsize];exact Nat.mul_le_mul_right _ hge⟩)
 refine⟨_,_,_,hr,?_,s',st,gr⟩
 refine sk (vs:=vs++news) ((an.mono st.le hrl).append (an.mono st.le hnr)) (by simp) (bF _ _ _) hheap ?_ hge (by rw[hsize];exact Nat.le_refl _) (fun j hj=>?_) (fun off hoff=>?_)
 ·rw[List.length_append,hl,←an.length hnr,hnl,hsz,←Nat.add_mul]
 ·rw[Array.getElem?_append_left (by simpa using hj)];simp
 have hoff':off<(n+m)*de.size:=by rw[List.length_append,hvl,hnl,hsz,←Nat.add_mul]at hoff;exact hoff
 rintro(h|⟨j,oj,h1,h2,h3⟩)
 ·exact absurd (s.base _ _ h) (by simp)
 rcases eS h1 with ⟨h4,h5⟩|⟨rfl,rfl⟩
 ·rw[bU h4]at h2
  have hlv:oj.live=true:=by cases oj<;>first|rfl|cases h3
  have:=(s.holds j oj h5).lt hlv h2
  simp[cx]at this
 simp only[Ob.wr]at h3;omega
theorem lI{w:World}{a:Act}{x y:Operand}{t tx:TypeId}{v v':Value}{w':World}(ho:o.op=.call {callee:=.builtin .append,args:=#[x,y],argTypes:=#[t,tx]})(hv:a.eval x=v)(hr:(Builtin.append_ #[t,tx] o.type #[v,a.eval y]).run P w=.ok v' w'):(execOp a.eval o).run P w=.ok (.value v') w':=by
 unfold execOp
 simp only[ho,resolve,invoke,builtin,Sem.run_bind,Sem.run_pure,Result.andThen_ok,List.map_toArray,List.map_cons,List.map_nil,hv,hr]
def zf(dx:TD):PV→Prop
 | .seq _ _ _=>∃e',dx.sh=.slice e'
 | .val (.string _)=>dx.sh=.str
 | _=>False
theorem yc{tx:TypeId}{dx:TD}{c:Cx}{k m:Nat}{x:PV}{v:Value}{ys:List PV}(fx:ap P tx dx)(ht:zf dx x)(h:wG k x m ys)(hr:Rep c x v):∃news:List Value,an c ys news∧Src P k tx v m news c.w:=by
 refine OH h hr ?_ (fun s hs=>?_) (fun n zs s hs=>?_)
 ·cases x with
  | seq n zs s=>obtain⟨e',h1⟩:=ht;exact .inl ⟨e',fx.slice h1⟩
  | val u=>cases u<;>first|exact ht.elim|exact .inr (fx.str ht)
  | _=>exact ht.elim
 ·subst hs;exact fx.str ht
 subst hs;obtain⟨e',h1⟩:=ht;exact⟨e',fx.slice h1⟩
theorem aC{t tx e:TypeId}{d de dx:TD}{x y:Operand}{n m:Nat}{xs ys:List PV}(f:ap P t d)(hd:d.sh=.slice e)(fe:ap P e de)(fx:ap P tx dx)
  (ho:o.op=.call {callee:=.builtin .append,args:=#[x,y],argTypes:=#[t,tx]}) (hx:opv T x=.seq n xs .clip) (ht:zf dx (opv T y)) (hy:wG de.size (opv T y) m ys) (hl:xs.length=n*de.size)
  (hb:(n+m)*de.bytes≤140737488355328) (h63:n+m≤9223372036854775807) :
  br P B o T H (.seq (n+m) (xs++ys) (.own H.length de.size)) (H++[.free ((n+m)*de.size)]):=by
 intro σ w a s h
 have k1:=h x (by simp[ho,Op.operands,Call.operands])
 have k2:=h y (by simp[ho,Op.operands,Call.operands])
 rw[hx]at k1
 obtain⟨ad,cap,vs,hv,hle,hnil,hrl,hlies,hk⟩:=fa k1
 have hcap:cap=n:=hk
 subst hcap
 obtain⟨news,hnr,hsrc⟩:=yc fx ht hy k2
 obtain⟨v',w',σ',h1,h2,h3,h4,_⟩:=nQ (ty:=o.type) s f hd fe hle hnil hrl hlies hl hnr hsrc hb h63 (by omega)
 exact⟨v',w',σ',.inl (lI ho hv h1),h2,h3,h4⟩
theorem aF{t tx e:TypeId}{d de dx:TD}{x y:Operand}{n m k q mt:Nat}{xs ys:List PV}(f:ap P t d)(hd:d.sh=.slice e)(fe:ap P e de)(fx:ap P tx dx)
  (ho:o.op=.call {callee:=.builtin .append,args:=#[x,y],argTypes:=#[t,tx]}) (hx:opv T x=.seq n xs (.own q k)) (hq:H[q]?=some (.free mt)) (hk:k=de.size) (hmt:mt≤n*k) (ht:zf dx (opv T y)) (hy:wG de.size (opv T y) m ys)
  (hb:(n+m)*de.bytes≤140737488355328) (h63:n+m≤9223372036854775807) :
  br P B o T H (.seq (n+m) (xs++ys) (.own H.length de.size)) (H.set q .dead++[.free ((n+m)*de.size)]):=by
 intro σ w a s h
 subst hk
 have k1:=h x (by simp[ho,Op.operands,Call.operands])
 have k2:=h y (by simp[ho,Op.operands,Call.operands])
 rw[hx]at k1
 obtain⟨ad,cap,vs,hv,hle,hnil,hrl,hlies,hqN,hl,hown⟩:=fa k1
 obtain⟨news,hnr,hsrc0⟩:=yc fx ht hy k2
 have hsrc:Src P de.size tx (a.eval y) m news w:=hsrc0
 clear hsrc0
 have viaNew:((m=0∧cap=n)∨cap<n+m)→∃v' w' σ',((execOp a.eval o).run P w=.ok (.value v') w'∨(execOp a.eval o).run P w=.ok .skip w'∧v'=undef)∧Rep (cx B (H.set q .dead++[.free ((n+m)*de.size)]) σ' w') (.seq (n+m) (xs++ys) (.own H.length de.size)) v'∧Sim B (H.set q .dead++[.free ((n+m)*de.size)]) σ' w'∧di B H σ w (H.set q .dead++[.free ((n+m)*de.size)]) σ' w':=by
  intro hc
  obtain⟨s1,st1⟩:=l9 s hq
  obtain⟨v',w',σ',h1,h2,h3,h4,_⟩:=nQ (ty:=o.type) s1 f hd fe hle hnil (an.mono st1.le hrl) (fun b hb=>(hlies b hb).imp (·.mono st1.le) id) hl (an.mono st1.le hnr) hsrc hb h63 hc
  rw[List.length_set]at h2
  exact⟨v',w',σ',.inl (lI ho hv h1),h2,h3,st1.trans h4⟩
 rcases hown with hcap|⟨b,cs,e',hσ,rfl,hg,hcs⟩
 ·exact viaNew (by omega)
 simp only[cx]at hσ hg
 by_cases hroom:n+m≤cap
 ·obtain⟨i,z,hi,hsz,hby,hz,hzr⟩:=fe.info
  rw[←hsz]at hsrc
  have hnl:news.length=m*de.size:=by rw[hsrc.newsLen,hsz]
  have hvl:vs.length=n*de.size:=by rw[an.length hrl];exact hl
  have hfit:(n+m)*de.size≤cs.size:=Nat.le_trans (Nat.mul_le_mul_right _ hroom) hcs
  have hfit':n*de.size+news.length≤cs.size:=by rw[hnl,←Nat.add_mul];exact hfit
  have hst:=run_storeCells_at P b (n*de.size) e' news 0 cs w hg (by simpa using hfit') hsrc.one
  simp only[Nat.add_zero]at hst
  have hr:(Builtin.append_ #[t,tx] o.type #[.slice (some ⟨b,0,none⟩) n cap,a.eval y]).run P w=.ok (.slice (some ⟨b,0,none⟩) (n+m) cap) (w.setRow b (cs.toList.take (n*de.size)++news++cs.toList.drop (n*de.size+news.length)).toArray):=by
   have hcl:=hsrc.cells
   rw[hsz]at hcl
   rw[List.append_assoc]at hst ⊢
   rcases hsrc.kind with ⟨e2,hk⟩|hk<;>simp[Builtin.append_,run_underlying (f.slice hd),run_underlying hk,sizeOf,typeInfo,hi,hsrc.len,hroom,hcl,Addr.add_lit,hsz,hst]
  have hul:(cs.toList.take (n*de.size)++news++cs.toList.drop (n*de.size+news.length)).length=cs.size:=by
   simp only[List.length_append,List.length_take,List.length_drop,Array.length_toList];omega
  obtain⟨s',st⟩:=HG s (m':=(n+m)*de.size) hq hσ hg hul (fun j hj=>by
   rw[List.append_assoc,List.getElem?_append_left (by simp only[List.length_take,Array.length_toList];omega),List.getElem?_take,if_pos (by omega)];simp) (Nat.le_trans hmt (Nat.mul_le_mul_right _ (by omega))) hfit
  refine⟨_,_,_,.inl (lI ho hv hr),?_,s',st⟩
  have hl2:∀j u,vs[j]?=some u→(cx B H σ w).w.cell? ⟨b,0+j,none⟩=some u∧¬(cx B H σ w).Wr b (0+j):=fun j u hj=>((hlies _ rfl).resolve_right (by rintro⟨_,h3⟩;rw[h3]at hj;simp at hj)).2 j u hj
  have hheap:=dY (cs':=(cs.toList.take (n*de.size)++news++cs.toList.drop (n*de.size+news.length)).toArray) hg
  have hvs:∀j,j<vs.length→cs[j]?=vs[j]?:=fun j hj=>by
   have h1:=(hl2 j vs[j] (List.getElem?_eq_getElem hj)).1
   simp only[cx,World.cell?,Nat.zero_add,hg,Option.isSome_none,Bool.false_eq_true,if_false]at h1
   rw[h1,List.getElem?_eq_getElem hj]
  unfold Rep
  refine⟨_,cap,vs++news,rfl,hroom,(fun h=>by cases h),(an.mono st.le hrl).append (an.mono st.le hnr),fun b1 hb1=>?_,by simp[cx],?_,.inr ⟨b,_,e',by simp only[cx];exact bF _ _ _,rfl,hheap,by rw[List.size_toArray,hul];exact hcs⟩⟩
  ·cases hb1
   refine .inl ⟨rfl,fun j u hj=>?_⟩
   have hjl:=cn hj
   rw[List.length_append,hvl,hnl,←Nat.add_mul]at hjl
   refine⟨?_,?_⟩
   ·show(w.setRow b _).cell? ⟨b,0+j,none⟩=some u
    rw[Nat.zero_add]
    simp only[World.cell?,hheap,Option.isSome_none,Bool.false_eq_true,if_false]
    rw[List.getElem?_toArray,List.append_assoc]
    by_cases hjn:j<n*de.size
    ·rw[List.getElem?_append_left (by simp only[List.length_take,Array.length_toList];omega),List.getElem?_take,if_pos hjn]
     rw[List.getElem?_append_left (by omega)]at hj
     rw[Array.getElem?_toList,hvs j (by omega)];exact hj
    rw[List.getElem?_append_right (by omega)]at hj
    rw[List.getElem?_append_right (by simp only[List.length_take,Array.length_toList];omega)]
    have e1:j-(cs.toList.take (n*de.size)).length=j-vs.length:=by simp only[List.length_take,Array.length_toList];omega
    have hjl':j<n*de.size+m*de.size:=by rw[←Nat.add_mul];exact hjl
    rw[e1,List.getElem?_append_left (by rw[hnl,hvl];omega)]
    exact hj
   rintro(h'|⟨j',oj,h1,h2,h3⟩)
   ·exact s.sep q b _ hq rfl hσ _ h'
   rcases eS h1 with ⟨h4,h5⟩|⟨rfl,rfl⟩
   ·rw[List.length_set]at h4
    by_cases hj':j'=q
    ·subst hj'
     rw[List.getElem?_set_self h4]at h5;cases h5;cases h3
    rw[List.getElem?_set_ne (Ne.symm hj')]at h5
    rw[bU h4]at h2
    have hlv:oj.live=true:=by cases oj<;>first|rfl|cases h3
    exact hj' (s.inj j' q b oj _ h5 hq hlv rfl h2 hσ)
   simp only[Ob.wr,Nat.zero_add]at h3;omega
  rw[List.length_append,hl,←an.length hnr,hnl,←Nat.add_mul]
 exact viaNew (by omega)
end
open Go.RowKit
theorem sg{c:Cx}:∀{xs:List PV} {vs:List Value} (_:vs.length=xs.length) (_:∀(j:Nat) (x:PV),xs[j]?=some x→∃u,vs[j]?=some u∧Rep c x u),an c xs vs
 | [],[],_,_=>ax.2 rfl
 | x::xs,v::vs,hl,h=>by
  refine am.2 ⟨?_,sg (by simpa using hl) (fun j y hj=>by have:=h (j+1) y (by simpa using hj);simpa using this)⟩
  obtain⟨u,h1,h2⟩:=h 0 x rfl
  cases h1;exact h2
 | [],v::vs,hl,_=>by simp at hl
 | x::xs,[],hl,_=>by simp at hl
def dD(n:Nat)(d:TD):List PV:=(List.replicate n d.zero).flatten
theorem sn{α:Type}(z:List α):∀(n j:Nat),(List.replicate n z).flatten[j]?=if j<n*z.length then z[j%z.length]? else none
 | 0,j=>by simp
 | n+1,j=>by
  rw[List.replicate_succ,List.flatten_cons]
  by_cases h:j<z.length
  ·rw[List.getElem?_append_left h,if_pos (by rw[Nat.add_mul];omega),Nat.mod_eq_of_lt h]
  rw[List.getElem?_append_right (by omega),sn z n (j-z.length)]
  have e:(n+1)*z.length=n*z.length+z.length:=by rw[Nat.add_mul,Nat.one_mul]
  by_cases h2:j<(n+1)*z.length
  ·rw[if_pos h2,if_pos (by omega)]
   congr 1
   rw[Nat.mod_eq_sub_mod (a:=j) (by omega)]
  rw[if_neg h2,if_neg (by omega)]
theorem kU(n:Nat)(d:TD)(h:d.zero.length=d.size):(dD n d).length=n*d.size:=by
 unfold dD;rw[List.length_flatten];simp[h]
theorem rJ{P:Program}{e:TypeId}{de:TD}(fe:ap P e de)(n:Nat)(z:Value)(hz:∀c,an c de.zero z.cells.toList)(c:Cx):an c (dD n de) (madeCells z.cells (n*de.size)).toList:=by
 have hzl:z.cells.size=de.size:=by have:=an.length (hz c);rw[Array.length_toList]at this;rw[this];exact fe.zlen
 refine sg (by rw[Array.length_toList,size_madeCells,kU _ _ fe.zlen]) (fun j x hj=>?_)
 unfold dD at hj
 rw[sn]at hj
 rw[fe.zlen]at hj
 split at hj
 ·rename_i hlt
  obtain⟨u,hu,hr⟩:=(hz c).get hj
  refine⟨u,?_,hr⟩
  unfold madeCells
  rw[hzl]
  rw[Array.getElem?_toList]at hu
  obtain⟨h1,h2⟩:=Array.getElem?_eq_some_iff.1 hu
  simp[hlt]
  rw[getElem!_pos z.cells (j%de.size) h1,h2]
 cases hj
section
variable {P : Program} {B : Nat → Nat → Prop} {o : Oper} {T : Nat → PV} {H : List Ob}
theorem gG{b:Builtin}{w:World}{a:Act}{args:Array Operand}{ats:Array TypeId}{r:Result Next}(ho:o.op=.call {callee:=.builtin b,args:=args,argTypes:=ats})(hr:(builtin b ats o.type (args.map fun|.const _=>true|_=>false) (args.map a.eval)).run P w=r):(execOp a.eval o).run P w=r:=by
 unfold execOp
 simp only[ho,resolve,invoke,Sem.run_bind,Sem.run_pure,Result.andThen_ok]
 exact hr
theorem xE{t:TypeId}{d:TD}{e:Nat}{x:Operand}{n:Nat}{xs:List PV}{s:SK}(f:ap P t d)(hd:d.sh=.slice e)(ho:o.op=.call {callee:=.builtin .len,args:=#[x],argTypes:=#[t]})(hx:opv T x=.seq n xs s):br P B o T H (.val (.int .i64 n)) H :=
 aI fun σ w a s' h=>by
  have k1:=h x (by simp[ho,Op.operands,Call.operands])
  rw[hx]at k1
  obtain⟨ad,cap,vs,hv,_⟩:=fa k1
  refine⟨.int .i64 n,gG ho ?_,aD _ _⟩
  simp[builtin,Builtin.len_,run_underlying (f.slice hd),hv,goInt]
theorem xp{t:TypeId}{d:TD}{e:Nat}{x:Operand}{id off n cap:Nat}(f:ap P t d)(hd:d.sh=.slice e)(ho:o.op=.call {callee:=.builtin .len,args:=#[x],argTypes:=#[t]})(hx:opv T x=.arr id off n cap):br P B o T H (.val (.int .i64 n)) H :=
 aI fun σ w a s' h=>by
  have k1:=h x (by simp[ho,Op.operands,Call.operands])
  rw[hx]at k1
  unfold Rep at k1
  obtain⟨_,b,_,hv⟩:=k1
  refine⟨.int .i64 n,gG ho ?_,aD _ _⟩
  simp[builtin,Builtin.len_,run_underlying (f.slice hd),hv,goInt]
theorem xI{t:TypeId}{d:TD}{e:Nat}{x:Operand}{id off n:Nat}(f:ap P t d)(hd:d.sh=.slice e)(ho:o.op=.call {callee:=.builtin .len,args:=#[x],argTypes:=#[t]})(hx:opv T x=.arw id off n):br P B o T H (.val (.int .i64 n)) H :=
 aI fun σ w a s' h=>by
  have k1:=h x (by simp[ho,Op.operands,Call.operands])
  rw[hx]at k1
  unfold Rep at k1
  obtain⟨_,b,cap,_,_,hv⟩:=k1
  refine⟨.int .i64 n,gG ho ?_,aD _ _⟩
  simp[builtin,Builtin.len_,run_underlying (f.slice hd),hv,goInt]
theorem yl{t:TypeId}{d:TD}{x:Operand}{s:ByteArray}(f:ap P t d)(hd:d.sh=.str)(ho:o.op=.call {callee:=.builtin .len,args:=#[x],argTypes:=#[t]})(hx:opv T x=.val (.string s)):br P B o T H (.val (.int .i64 s.size)) H :=
 aI fun σ w a s' h=>by
  have k1:=h x (by simp[ho,Op.operands,Call.operands])
  rw[hx]at k1
  unfold Rep at k1
  refine⟨.int .i64 s.size,gG ho ?_,aD _ _⟩
  simp[builtin,Builtin.len_,run_underlying (f.str hd),k1,goInt]
theorem K5{ats:Array TypeId}{x y:Operand}{u v r:Value}(ho:o.op=.call {callee:=.builtin .min,args:=#[x,y],argTypes:=ats})(hx:opv T x=.val u)(hy:opv T y=.val v)(hr:lu (Builtin.min_ ats o.type #[u,v])=some r):br P B o T H (.val r) H :=
 aI fun σ w a s' h=>by
  have k1:=h x (by simp[ho,Op.operands,Call.operands])
  have k2:=h y (by simp[ho,Op.operands,Call.operands])
  rw[hx]at k1
  rw[hy]at k2
  unfold Rep at k1 k2
  refine⟨r,gG ho ?_,aD _ _⟩
  simp[builtin,k1,k2,kv hr P w]
theorem I6{ats:Array TypeId}{x y:Operand}{u v r:Value}(ho:o.op=.call {callee:=.builtin .max,args:=#[x,y],argTypes:=ats})(hx:opv T x=.val u)(hy:opv T y=.val v)(hr:lu (Builtin.max_ ats o.type #[u,v])=some r):br P B o T H (.val r) H :=
 aI fun σ w a s' h=>by
  have k1:=h x (by simp[ho,Op.operands,Call.operands])
  have k2:=h y (by simp[ho,Op.operands,Call.operands])
  rw[hx]at k1
  rw[hy]at k2
  unfold Rep at k1 k2
  refine⟨r,gG ho ?_,aD _ _⟩
  simp[builtin,k1,k2,kv hr P w]
theorem wN(off:Nat):∀(l:List Value) (k:Nat) (cs:Array Value),off+k+l.length≤cs.size→((l.zipIdx k).foldl (fun cs (p:Value×Nat)=>cs.setIfInBounds (off+p.2) p.1) cs).toList=cs.toList.take (off+k)++l++cs.toList.drop (off+k+l.length)
 | [],k,cs,_=>by simp
 | v::l,k,cs,h=>by
  simp only[List.zipIdx_cons,List.foldl_cons]
  rw[wN off l (k+1) (cs.setIfInBounds (off+k) v) (by simp at h ⊢;omega)]
  simp only[Array.toList_setIfInBounds]
  have hk:off+k<cs.toList.length:=by simp at h ⊢;omega
  have e1:(cs.toList.set (off+k) v).take (off+(k+1))=cs.toList.take (off+k)++[v]:=by
   rw[←Nat.add_assoc,List.take_succ_eq_append_getElem (by simpa using hk),List.take_set_of_le (Nat.le_refl _)]
   simp
  have e2:(cs.toList.set (off+k) v).drop (off+(k+1)+l.length)=cs.toList.drop (off+k+(v::l).length):=by
   rw[List.drop_set_of_lt (by omega)]
   congr 1
   simp only[List.length_cons];omega
  rw[e1,e2];simp
def m5(pl:Nat→Option (Nat×Nat))(T:Nat→PV):List (Nat×Operand)→List PV→Option (List PV)
 | [],cells=>some cells
 | (i,x)::rest,cells=>match pl i with
  | some (of,z)=>match mr (opv T x)with
   | some ys=>match Nat.beq ys.length z with
    | true=>match Nat.ble (of+z) cells.length with
     | true=>m5 pl T rest (cK cells of ys)
     | false=>none
    | false=>none
   | none=>none
  | none=>none
theorem qI{c:Cx}{ρ:Operand→Value}(pl:Nat→Option (Nat×Nat)):∀(parts:List (Nat×Operand)) (cells out:List PV) (cs:Array Value),an c cells cs.toList→m5 pl T parts cells=some out→(∀p∈parts,Rep c (opv T p.2) (ρ p.2)) →
  ∃cs',Instr.fill pl cs (parts.map fun p=>(p.1,ρ p.2))=some cs'∧an c out cs'.toList
 | [],cells,out,cs,h,hf,_=>by injection hf with hf;subst hf;exact⟨cs,rfl,h⟩
 | (i,x)::rest,cells,out,cs,h,hf,hp=>by
  simp only[m5]at hf
  split at hf
  ·rename_i of z hpl
   split at hf
   ·rename_i ys hys
    split at hf
    ·rename_i hz
     split at hf
     ·rename_i hle
      rw[Nat.beq_eq]at hz
      rw[Nat.ble_eq]at hle
      have hx:=ny hys (hp (i,x) (by simp))
      have hl:(ρ x).cells.size=ys.length:=by have:=an.length hx;rwa [Array.length_toList]at this
      have hcl:=an.length h
      rw[Array.length_toList]at hcl
      have hfit:of+0+(ρ x).cells.toList.length≤cs.size:=by rw[Array.length_toList];omega
      have hs:=wN of (ρ x).cells.toList 0 cs hfit
      simp only[Nat.add_zero,Array.length_toList]at hs
      have hr:an c (cK cells of ys) ((ρ x).cells.zipIdx.foldl (fun cs (p:Value×Nat)=>cs.setIfInBounds (of+p.2) p.1) cs).toList:=by
       rw[←Array.foldl_toList,Array.toList_zipIdx,hs]
       unfold cK
       rw[hl]
       exact((h.take of).append hx).append (h.drop _)
      obtain⟨cs',h1,h2⟩:=qI pl rest _ out _ hr hf (fun p hp'=>hp p (by simp[hp']))
      refine⟨cs',?_,h2⟩
      simp only[List.map_cons,Instr.fill,hpl]
      rw[if_neg (by simp;omega)]
      exact h1
     cases hf
    cases hf
   cases hf
  cases hf
theorem Fo{F:List Field}:∀{fs:List (Nat×Nat×Bool)},F.length=fs.length→(F.zip fs).all (ti P)=true→F.mapM (fun f=>(P.info? f.type).map fun i=>(f.offset,i.size))=some (fs.map fun q=>(q.1,q.2.1)):=by
 induction F with
 | nil=>intro fs hl _;cases fs with|nil=>rfl|cons _ _=>simp at hl
 | cons f F ih =>
  intro fs hl h
  cases fs with
  | nil=>simp at hl
  | cons q fs =>
   obtain⟨of,z,g⟩:=q
   simp only[List.zip_cons_cons,List.all_cons,Bool.and_eq_true]at h
   obtain⟨h1,h2⟩:=h
   have h3:=ih (by simpa using hl) h2
   simp only[ti,Bool.and_eq_true,decide_eq_true_eq]at h1
   obtain⟨⟨⟨h6,h7⟩,h8⟩,h9⟩:=h1
   cases hi:P.info? f.type with
   | none=>rw[hi]at h8;cases h8
   | some i=>rw[hi]at h8;simp at h8;simp[List.mapM_cons,hi,h3,h6,h8]
theorem lb{t:TypeId}{d:TD}{fs:List (Nat×Nat×Bool)}{parts:Array (Nat×Operand)}{out:List PV}(f:ap P t d)(hd:d.sh=.struct fs)(ho:o.op=.build t parts)(hf:m5 (fun i=>match fs[i]? with|some (of,z,_)=>some (of,z)|none=>none) T parts.toList d.zero=some out):br P B o T H (.agg out) H :=
 aI fun σ w a s h=>by
  obtain⟨i,z,hi,hsz,hby,hz,hzr⟩:=f.info
  obtain⟨u,hu,hsh⟩:=f.under
  rw[hd]at hsh
  cases u with
  | struct F =>
   simp only[CH,Bool.and_eq_true,decide_eq_true_eq]at hsh
   have hpl:=Fo (P:=P) (F:=F.toList) (fs:=fs) (by simpa using hsh.1) hsh.2
   obtain⟨cs',h1,h2⟩:=qI (c:=cx B H σ w) (ρ:=a.eval) _ parts.toList d.zero out z.cells (hzr _) hf (fun p hp=>h p.2 (by
    simp only[ho,Op.operands]
    exact List.mem_map.2 ⟨p,hp,rfl⟩))
   refine⟨.agg cs',?_,by unfold Rep;exact⟨cs'.toList,by simp,h2⟩⟩
   have hb:P.built t (parts.map fun p=>(p.1,a.eval p.2)).toList=some cs':=by
    unfold Program.built
    rw[hi,hu]
    simp only[hz,hpl]
    rw[Array.toList_map]
    rw[←h1]
    congr 1
    funext j
    simp only[List.getElem?_toArray,List.getElem?_map]
    cases fs[j]? with
    | none=>rfl
    | some q=>rfl
   have:=run_build (P:=P) w t (parts.map fun p=>(p.1,a.eval p.2)) cs' hb
   simp[execOp,ho,this]
  | _=>cases hsh
theorem rg{t e:TypeId}{d de:TD}{n:Nat}{parts:Array (Nat×Operand)}{out:List PV}(f:ap P t d)(hd:d.sh=.array n e)(fe:ap P e de)(ho:o.op=.build t parts)(hf:m5 (fun i=>some (i*de.size,de.size)) T parts.toList d.zero=some out):br P B o T H (.agg out) H :=
 aI fun σ w a s h=>by
  obtain⟨i,z,hi,hsz,hby,hz,hzr⟩:=f.info
  obtain⟨ie,ze,hie,hsze,_⟩:=fe.info
  obtain⟨cs',h1,h2⟩:=qI (c:=cx B H σ w) (ρ:=a.eval) _ parts.toList d.zero out z.cells (hzr _) hf (fun p hp=>h p.2 (by
   simp only[ho,Op.operands]
   exact List.mem_map.2 ⟨p,hp,rfl⟩))
  refine⟨.agg cs',?_,by unfold Rep;exact⟨cs'.toList,by simp,h2⟩⟩
  have hb:P.built t (parts.map fun p=>(p.1,a.eval p.2)).toList=some cs':=by
   unfold Program.built
   rw[hi,f.array hd]
   simp only[hz,hie]
   rw[Array.toList_map,←h1,hsze]
  have:=run_build (P:=P) w t (parts.map fun p=>(p.1,a.eval p.2)) cs' hb
  simp[execOp,ho,this]
theorem sS{t e:TypeId}{d de:TD}{n:Nat}{parts:Array (Nat×Operand)}{out:List PV}(f:ap P t d)(hd:d.sh=.slice e)(fe:ap P e de)(ho:o.op=.buildSlice t n parts)(hn:Nat.ble (n*de.size) 16777216=true)(hf:m5 (fun i=>some (i*de.size,de.size)) T parts.toList (dD n de)=some out):br P B o T H (.seq n out .clip) H:=by
 intro σ w a s h
 obtain⟨i,z,hi,hsz,hby,hz,hzr⟩:=fe.info
 rw[Nat.ble_eq]at hn
 obtain⟨cs',h1,h2⟩:=qI (c:=cx B H σ w) (ρ:=a.eval) _ parts.toList _ out (madeCells z.cells (n*de.size)) (rJ fe n z hzr _) hf (fun p hp=>h p.2 (by
  simp only[ho,Op.operands]
  exact List.mem_map.2 ⟨p,hp,rfl⟩))
 obtain⟨s',st⟩:=eM s (bg.alloc w (.cells cs' e))
 refine⟨.slice (some ⟨w.heap.size,0,none⟩) n n,w.alloc (.cells cs' e),σ,.inl ?_,?_,s',st⟩
 ·have hg:¬(16777216<n*de.size):=by omega
  have hmk:madeCells z.cells (n*de.size)=Array.map (fun x=>z.cells[x%z.cells.size]!) (Array.range (n*de.size)):=rfl
  by_cases h0:n*de.size=0
  ·have hm0:madeCells z.cells (n*de.size)=#[]:=by rw[h0];simp[madeCells]
   rw[hm0]at h1
   simp[execOp,ho,Instr.buildSlice,run_underlying (f.slice hd),fe.sizeOf,h0,newRow]
   rw[Array.range_zero',Array.map_empty,h1]
   simp
  rw[hmk]at h1
  simp[execOp,ho,Instr.buildSlice,run_underlying (f.slice hd),fe.sizeOf,hg,h0,zeroValue,typeInfo,hi,hz,newRow]
  rw[h1]
  simp
 unfold Rep
 refine⟨_,n,cs'.toList,rfl,Nat.le_refl _,(fun h=>by cases h),an.mono st.le h2,fun b hb=>?_,rfl⟩
 cases hb
 refine .inl ⟨rfl,fun j u hj=>⟨?_,?_⟩⟩
 ·show(w.alloc (.cells cs' e)).cell? ⟨w.heap.size,0+j,none⟩=_
  rw[kq _ _ _ _ _ _ rfl,Nat.zero_add]
  rw[←Array.getElem?_toList];exact hj
 rintro(h'|⟨i',oi,h3,h4,h5⟩)
 ·exact absurd (s.base _ _ h') (by simp)
 have hl:oi.live=true:=by cases oi<;>first|rfl|cases h5
 have:=(s.holds i' oi h3).lt hl h4
 simp[cx]at this
theorem uQ{t e:TypeId}{d de:TD}{x y:Operand}{k k':IntKind}{n:Int}(f:ap P t d)(hd:d.sh=.slice e)(fe:ap P e de)(ho:o.op=.makeSlice t x y)(hx:opv T x=.val (.int k n))(hy:opv T y=.val (.int k' n))(h0:0≤n)(hb:(de.bytes:Int)*n≤281474976710656)(h63:n≤9223372036854775807):
  br P B o T H (.arr H.length 0 n.toNat n.toNat) (H++[.cells (dD n.toNat de) e]):=by
 intro σ w a s h
 have k1:=h x (by simp[ho,Op.operands])
 have k2:=h y (by simp[ho,Op.operands])
 rw[hx]at k1
 rw[hy]at k2
 unfold Rep at k1 k2
 obtain⟨i,z,hi,hsz,hby,hz,hzr⟩:=fe.info
 have hr:=run_make (P:=P) w t e i z (f.slice hd) hi hz k k' n n h0 (Int.le_refl _) (by rw[hby];exact hb) h63
 obtain⟨s',st⟩:=pZ s (dD n.toNat de) (madeCells z.cells (n.toNat*de.size)).toList e (rJ fe n.toNat z hzr _)
 rw[Array.toArray_toList]at s' st
 rw[hsz]at hr
 refine⟨_,_,_,.inl (by simp[execOp,ho,k1,k2,hr];rfl),?_,s',st⟩
 unfold Rep
 exact⟨by simp[cx],w.heap.size,by simp only[cx];exact bF _ _ _,rfl⟩
theorem ma{t tx e:TypeId}{d de:TD}{x y:Operand}{id off n cap m:Nat}{xs ys:List PV}{et:TypeId}{s:SK}(f:ap P t d)(hd:d.sh=.slice e)(fe:ap P e de)(ho:o.op=.call {callee:=.builtin .copy,args:=#[x,y],argTypes:=#[t,tx]})
  (hx:opv T x=.arr id off n cap) (hi:H[id]?=some (.cells xs et)) (hy:opv T y=.seq m ys s) (hl:ys.length=m*de.size) (hok:∀z∈ys,okC z=true) (hfit:off+n*de.size≤xs.length) :
  br P B o T H (.val (.int .i64 (min m n:Nat))) (H.set id (.cells (cK xs off (ys.take (min m n*de.size))) et)):=by
 intro σ w a s' h
 have k1:=h x (by simp[ho,Op.operands,Call.operands])
 have k2:=h y (by simp[ho,Op.operands,Call.operands])
 rw[hx]at k1
 rw[hy]at k2
 unfold Rep at k1
 obtain⟨hN,b,hb,hv⟩:=k1
 obtain⟨ad,cap',vs,hv2,hle,hnil,hrl,hlies,_⟩:=fa k2
 obtain⟨b',ws,fr,hb',hg,hfr,hwp⟩:=s'.holds id _ hi
 simp only[cx]at hb hb' hg
 rw[hb]at hb'
 cases hb'
 have hvl:vs.length=m*de.size:=by rw[an.length hrl];exact hl
 have hmn:min m n*de.size≤m*de.size:=Nat.mul_le_mul_right _ (Nat.min_le_left _ _)
 have hmn2:min m n*de.size≤n*de.size:=Nat.mul_le_mul_right _ (Nat.min_le_right _ _)
 have htl:(vs.take (min m n*de.size)).length=min m n*de.size:=by rw[List.length_take];omega
 have hytl:(ys.take (min m n*de.size)).length=min m n*de.size:=by rw[List.length_take];omega
 have hfc:(Builtin.firstCells de.size (min m n) (a.eval y)).run P w=.ok (vs.take (min m n*de.size)).toArray w:=by
  rw[hv2]
  cases ad with
  | none =>
   obtain⟨rfl,_,rfl⟩:=hnil rfl
   simpa using run_firstCells_none w de.size (min 0 n) 0 cap'
  | some bd =>
   refine run_firstCells_some w de.size (min m n) bd m cap' _ htl (fun j u hj=>?_)
   rw[List.getElem?_take]at hj
   have hl2:=(hlies bd rfl).resolve_right (by rintro⟨_,h3⟩;rw[h3]at hj;simp at hj)
   rw[gj hl2,Addr.add_lit]
   split at hj
   ·exact(hl2.2 j u hj).1
   cases hj
 have hwsl:=hwp.le
 have hst:=jE P b off et fr (vs.take (min m n*de.size)) 0 ws.toArray w hg (by simpa using hfr) (by rw[Nat.add_zero,htl,List.size_toArray];omega) (oC (fun z hz=>hok z (List.mem_of_mem_take hz)) (hrl.take _))
 simp only[Nat.add_zero]at hst
 obtain⟨s2,st⟩:=oz s' (ys:=cK xs off (ys.take (min m n*de.size))) hi hb hg hfr (us:=ws.take off++vs.take (min m n*de.size)++ws.drop (off+(vs.take (min m n*de.size)).length)) (by
  simp only[List.length_append,List.length_drop,htl]
  rw[List.length_take];omega) (by
  unfold cK
  rw[hytl,htl]
  obtain⟨p,q,hpq,hd⟩:=hwp.drop (off+min m n*de.size)
  exact⟨ws.take off++vs.take (min m n*de.size)++p,q,by rw[hpq];simp,((hwp.take (by omega)).append (hrl.take _)).append hd⟩)
 refine⟨.int .i64 (min m n:Nat),_,σ,.inl (gG ho ?_),aD _ _,s2,st⟩
 have hlen:(Builtin.lenOf (a.eval y)).run P w=.ok m w:=by rw[hv2];rfl
 have hcp:(Builtin.copy_ #[t,tx] o.type #[a.eval x,a.eval y]).run P w=.ok (.int .i64 (min m n:Nat)) (w.setRow b (ws.take off++vs.take (min m n*de.size)++ws.drop (off+(vs.take (min m n*de.size)).length)).toArray):=by
  have e1:Nat.min m n=min m n:=rfl
  simp only[Builtin.copy_,hv,List.getElem?_toArray,List.getElem?_cons_zero,List.getElem?_cons_succ,Sem.run_bind,run_underlying (f.slice hd),Result.andThen_ok,hlen,fe.sizeOf,e1,hfc,hst,goInt,Sem.run_pure]
 simp only[builtin,List.map_toArray,List.map_cons,List.map_nil,Sem.run_bind,hcp,Result.andThen_ok,Sem.run_pure]
end
end Go.Proofs.YtiibjcnedbncjaaGreatDoor
