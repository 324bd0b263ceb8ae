import Derived.Carry
import Derived.Laws.Externs
import Derived.Lib.MakeNoZero
import Derived.LoopN
import Derived.Still
import Derived.Test.YtiibjcnedbncjaaGreatDoorPk0
set_option linter.unusedVariables false
set_option linter.unusedSimpArgs false
set_option maxRecDepth 100000
set_option maxHeartbeats 40000000
namespace Go.Proofs.YtiibjcnedbncjaaGreatDoor
open Go.RowKit
def HC(P:Program)(f:FuncId)(args:List PV)(H:List Ob)(res:PV)(H':List Ob):Prop :=
 ∀(B:Nat→Nat→Prop) (σ:Nat→Option Nat) (w:World) (vs:List Value),Sim B H σ w→an (cx B H σ w) args vs →
  Calls P f vs.toArray w fun e w'=>∃v σ',e=.returned v∧Rep (cx B H' σ' w') res v∧Sim B H' σ' w'∧di B H σ w H' σ' w'
def ab(P:Program)(f:FuncId)(args:List PV)(res:PV):Prop:=∀H,HC P f args H res H
section
variable {P : Program} {B : Nat → Nat → Prop} {o : Oper} {T : Nat → PV} {H : List Ob}
theorem vc{c:Cx}{ρ:Operand→Value}:∀(l:List Operand),(∀y∈l,Rep c (opv T y) (ρ y))→an c (l.map (opv T)) (l.map ρ)
 | [],_=>ax.2 rfl
 | y::l,h=>am.2 ⟨h y (by simp),vc l (fun z hz=>h z (by simp[hz]))⟩
theorem jW {f : FuncId} {fn : Func} (hf : P.funcs[f]? = some fn) (hb : fn.body.isNone = false) (hn : (fn.name == "runtime.NumGoroutine") = false) (args : Array Value) (w : World) : (callFunc f args).run P w = .ok (.enter f args) w := by
 unfold callFunc
 simp only[Sem.run_bind,run_program,Result.andThen_ok,hf,hn,hb]
 rfl
theorem BC {f : FuncId} {fn : Func} {args : Array Operand} {ats : Array TypeId} {res : PV} {H' : List Ob} (ho : o.op = .call { callee := .value (.func f), args := args, argTypes := ats }) (hf : P.funcs[f]? = some fn) (hb : fn.body.isNone = false) (hn : (fn.name == "runtime.NumGoroutine") = false)
  (h:HC P f (args.toList.map (opv T)) H res H'):gA P B o T H res H':=by
 intro σ w a s ha
 refine⟨f,(args.toList.map a.eval).toArray,?_,h B σ w _ s (vc _ (fun y hy=>ha y ?_))⟩
 ·unfold execOp
  simp only[ho,resolve,Act.eval,Deferred.ofValue,invoke,Sem.run_bind,Sem.run_pure,Result.andThen_ok]
  rw[jW hf hb hn]
  simp
  rw[←Array.toList_map]
 rw[ho];simp[Op.operands,Call.operands];exact .inr (by simpa using hy)
theorem Ai {f : FuncId} {fn : Func} {x : Operand} {first cap : List PV} {args : Array Operand} {ats : Array TypeId} {res : PV} {H' : List Ob} (ho : o.op = .call { callee := .value x, args := args, argTypes := ats }) (hx : opv T x = .fn (.func f) first cap) (hf : P.funcs[f]? = some fn) (hb : fn.body.isNone = false) (hn : (fn.name == "runtime.NumGoroutine") = false)
  (h:HC P f (first++args.toList.map (opv T)++cap) H res H'):gA P B o T H res H':=by
 intro σ w a s ha
 have k1:=ha x (by rw[ho];simp[Op.operands,Call.operands])
 rw[hx]at k1
 unfold Rep at k1
 obtain⟨fs,cs,hv,h1,h2⟩:=k1
 refine⟨f,(fs++args.toList.map a.eval++cs).toArray,?_,h B σ w _ s ((h1.append (vc _ (fun y hy=>ha y ?_))).append h2)⟩
 ·unfold execOp
  simp only[ho,resolve,hv,Deferred.ofValue,invoke,Sem.run_bind,Sem.run_pure,Result.andThen_ok]
  rw[jW hf hb hn]
  simp
 rw[ho];simp[Op.operands,Call.operands];exact .inr (by simpa using hy)
def Imp(x y:PV):Prop:=∀c v,Rep c x v→Rep c y v
theorem aH{x y:PV}(h:x=y):Imp x y:=fun _ _ k=>h▸k
theorem Imp.refl(x:PV):Imp x x:=fun _ _ h=>h
theorem jB(n:Nat)(xs:List PV)(s:SK):Imp (.seq n xs s) (.seq n xs .any):=fun c v h=>by
 unfold Rep at h ⊢
 obtain⟨a,cap,vs,h1,h2,h3,h4,h5,_⟩:=h
 exact⟨a,cap,vs,h1,h2,h3,h4,h5,trivial⟩
def pN:List PV→List PV→Prop
 | [],[]=>True
 | x::xs,y::ys=>Imp x y∧pN xs ys
 | _,_=>False
theorem nP{c:Cx}:∀{xs ys:List PV} {vs:List Value},pN xs ys→an c xs vs→an c ys vs
 | [],[],vs,_,h=>h
 | x::xs,y::ys,[],_,h=>by unfold an at h;obtain⟨u,us,h1,_⟩:=h;cases h1
 | x::xs,y::ys,v::vs,hi,h=>by rw[am]at h ⊢;exact⟨hi.1 c v h.1,nP hi.2 h.2⟩
 | [],y::ys,_,hi,_=>hi.elim
 | x::xs,[],_,hi,_=>hi.elim
theorem M4{xs ys:List PV}(h:pN xs ys):Imp (.tup xs) (.tup ys):=fun c v k=>by
 unfold Rep at k ⊢;obtain⟨vs,h1,h2⟩:=k;exact⟨vs,h1,nP h h2⟩
theorem Dq{xs ys:List PV}(h:pN xs ys):Imp (.agg xs) (.agg ys):=fun c v k=>by
 unfold Rep at k ⊢;obtain⟨vs,h1,h2⟩:=k;exact⟨vs,h1,nP h h2⟩
theorem mj:∀xs:List PV,pN xs xs
 | []=>trivial
 | x::xs=>⟨Imp.refl x,mj xs⟩
def AH(args:List PV):Nat→PV:=fun i=>(args[i]?).getD (.val undef)
theorem oO{c:Cx}:∀{args:List PV} {vs:List Value} (_:an c args vs) (n:Nat) (i:Nat),Rep c (AH args i) ((vs.toArray++Array.replicate (n-vs.toArray.size) undef).getD i undef):=by
 intro args vs h n i
 unfold AH
 have hl:=an.length h
 cases ha:args[i]? with
 | none =>
  have hge:args.length≤i:=by rcases Nat.lt_or_ge i args.length with h1|h1;rw[List.getElem?_eq_getElem h1]at ha;cases ha;exact h1
  have:(vs.toArray++Array.replicate (n-vs.toArray.size) undef).getD i undef=undef:=by
   rw[Array.getD_eq_getD_getElem?,Array.getElem?_append_right (by simp;omega),Array.getElem?_replicate]
   split<;>rfl
  rw[this];exact aD _ _
 | some x =>
  obtain⟨u,hu,hr⟩:=h.get ha
  have:(vs.toArray++Array.replicate (n-vs.toArray.size) undef).getD i undef=u:=by
   rw[Array.getD_eq_getD_getElem?,Array.getElem?_append_left (by simpa using cn hu)]
   simp[hu]
  rw[this];exact hr
mutual
def aQ:PV→Prop
 | .val _=>True
 | .any=>True
 | .agg cs=>aL cs
 | .tup cs=>aL cs
 | .seq _ xs s=>aL xs∧(s=.any∨s=.clip)
 | .row xs=>aL xs
 | .fn _ a b=>aL a∧aL b
 | .ptr _ _=>False
 | .arr _ _ _ _=>False
 | .mapv _=>False
 | .arw _ _ _=>False
 | .smap _ xs=>aL xs
 | .ifc _ x=>aQ x
def aL:List PV→Prop
 | []=>True
 | x::xs=>aQ x∧aL xs
end
mutual
theorem kx{c c':Cx}(hw:c'.w=c.w)(hr:∀b off,c'.Wr b off→c.Wr b off):∀{x:PV} {v:Value},aQ x→Rep c x v→Rep c' x v
 | .val u,v,_,k=>by unfold Rep at k ⊢;exact k
 | .any,_,_,_=>by unfold Rep;trivial
 | .agg cs,v,f,k=>by unfold Rep at k ⊢;unfold aQ at f;obtain⟨vs,h1,h2⟩:=k;exact⟨vs,h1,dj hw hr f h2⟩
 | .tup cs,v,f,k=>by unfold Rep at k ⊢;unfold aQ at f;obtain⟨vs,h1,h2⟩:=k;exact⟨vs,h1,dj hw hr f h2⟩
 | .seq n xs s,v,f,k=>by
  unfold Rep at k ⊢;unfold aQ at f
  obtain⟨a,cap,vs,h1,h2,h3,h4,h5,h6⟩:=k
  refine⟨a,cap,vs,h1,h2,h3,dj hw hr f.1 h4,fun b hb=>(h5 b hb).imp (fun hl=>⟨hl.1,fun j u hj=>⟨by rw[hw];exact(hl.2 j u hj).1,fun h=>(hl.2 j u hj).2 (hr _ _ h)⟩⟩) id,?_⟩
  rcases f.2 with rfl|rfl
  ·trivial
  exact h6
 | .row xs,v,f,k=>by
  unfold Rep at k ⊢;unfold aQ at f
  obtain⟨b,vs,h1,h2,h3⟩:=k
  exact⟨b,vs,h1,dj hw hr f h2,h3.1,fun j u hj=>⟨by rw[hw];exact(h3.2 j u hj).1,fun h=>(h3.2 j u hj).2 (hr _ _ h)⟩⟩
 | .fn g a b,v,f,k=>by unfold Rep at k ⊢;unfold aQ at f;obtain⟨fs,cs,h1,h2,h3⟩:=k;exact⟨fs,cs,h1,dj hw hr f.1 h2,dj hw hr f.2 h3⟩
 | .ptr _ _,_,f,_=>by unfold aQ at f;exact f.elim
 | .arr _ _ _ _,_,f,_=>by unfold aQ at f;exact f.elim
 | .mapv _,_,f,_=>by unfold aQ at f;exact f.elim
 | .arw _ _ _,_,f,_=>by unfold aQ at f;exact f.elim
 | .smap ks xs,v,f,k=>by
  unfold Rep at k ⊢;unfold aQ at f
  obtain⟨b,es,clk,h1,h2,h3,h4,h5⟩:=k
  exact⟨b,es,clk,h1,by rw[hw];exact h2,fun h=>h3 (hr _ _ h),h4,dj hw hr f h5⟩
 | .ifc t x,v,f,k=>by unfold Rep at k ⊢;unfold aQ at f;obtain⟨u,h1,h2⟩:=k;exact⟨u,h1,kx hw hr f h2⟩
theorem dj{c c':Cx}(hw:c'.w=c.w)(hr:∀b off,c'.Wr b off→c.Wr b off):∀{xs:List PV} {vs:List Value},aL xs→an c xs vs→an c' xs vs
 | [],vs,_,k=>by unfold an at k ⊢;exact k
 | x::xs,vs,f,k=>by unfold an at k ⊢;unfold aL at f;obtain⟨u,us,h1,h2,h3⟩:=k;exact⟨u,us,h1,kx hw hr f.1 h2,dj hw hr f.2 h3⟩
end
theorem wD{α:Type}(g:α→PV)(h:∀x,aQ (g x)):∀l:List α,aL (l.map g)
 | []=>by rw[List.map_nil];unfold aL;trivial
 | x::l=>by rw[List.map_cons];unfold aL;exact⟨h x,wD g h l⟩
def BoW(B:Nat→Nat→Prop)(σ:Nat→Option Nat)(H:List Ob):Nat→Nat→Prop:=fun b off=>B b off∨iE σ H b off
theorem ww{σ:Nat→Option Nat}{w:World}{R:List Ob}(hRg:∀o∈R,∃g u,o=.glob g u)(hRH:∀o∈R,∃k:Nat,H[k]?=some o)(s:Sim B H σ w):Sim (BoW B σ H) R σ w:=by
 have dull:∀{j:Nat} {oj:Ob},R[j]?=some oj→oj.live=true→False:=fun h1 h2=>by
  obtain⟨g,u,rfl⟩:=hRg _ (List.mem_of_getElem? h1);cases h2
 refine⟨fun i j b oi oj h _ l=>(dull h l).elim,fun i b oi h l=>(dull h l).elim,fun b off h=>?_,fun i oi h=>?_⟩
 ·rcases h with h|⟨i,oi,h1,h2,h3⟩
  ·exact s.base b off h
  have hl:oi.live=true:=by cases oi<;>first|rfl|cases h3
  exact(s.holds i oi h1).lt hl h2
 have hm:=List.mem_of_getElem? h
 obtain⟨g,u,rfl⟩:=hRg _ hm
 obtain⟨k,hk⟩:=hRH _ hm
 obtain⟨q1,q2⟩:=s.holds k _ hk
 refine⟨q1,fun q=>?_⟩
 rcases q with q|⟨i,oi,h1,_,h3⟩
 ·exact q2 q
 obtain⟨g,u,rfl⟩:=hRg _ (List.mem_of_getElem? h1);cases h3
theorem My{σ:Nat→Option Nat}{w:World}(s:Sim B H σ w):Sim (BoW B σ H) [] σ w:=ww (R:=[]) (by simp) (by simp) s
theorem sF{R:List Ob}(hRg:∀o∈R,∃g u,o=.glob g u){f:FuncId}{args:List PV}{res:PV}(ha:aL args)(hres:aQ res)(h:∀B σ w vs,Sim B R σ w→an (cx B R σ w) args vs→Calls P f vs.toArray w fun e w'=>∃v H' σ',e=.returned v∧Rep (cx B H' σ' w') res v∧di B R σ w H' σ' w')
  (H:List Ob) (hRH:∀o∈R,∃k:Nat,H[k]?=some o):HC P f args H res H:=by
 intro B σ w vs s hr
 have s0:=ww hRg hRH s
 have hr0:an (cx (BoW B σ H) R σ w) args vs:=dj (c:=cx B H σ w) (c':=cx (BoW B σ H) R σ w) rfl (fun b off h=>by
  rcases h with h|⟨i,oi,h1,_,h3⟩
  ·exact h
  obtain⟨g,u,rfl⟩:=hRg _ (List.mem_of_getElem? h1);cases h3) ha hr
 refine Calls.mono (h (BoW B σ H) σ w vs s0 hr0) ?_
 rintro e w' ⟨v,H',σ',rfl,h1,h2⟩
 have g:bg w w':=⟨h2.os,h2.tape,h2.output,h2.size,fun b hb=>h2.block b hb (fun i oi h hl=>by obtain⟨g,u,rfl⟩:=hRg _ (List.mem_of_getElem? h);cases hl)⟩
 obtain⟨s',st⟩:=eM s g
 exact⟨v,σ,rfl,kx (c:=cx (BoW B σ H) H' σ' w') (c':=cx B H σ w') rfl (fun b off h=>.inl h) hres h1,s',st⟩
theorem Ci{f:FuncId}{args:List PV}{res:PV}(ha:aL args)(hres:aQ res)(h:∀B σ w vs,Sim B [] σ w→an (cx B [] σ w) args vs→Calls P f vs.toArray w fun e w'=>∃v H' σ',e=.returned v∧Rep (cx B H' σ' w') res v∧di B [] σ w H' σ' w'):ab P f args res :=
 fun H=>sF (R:=[]) (by simp) ha hres h H (by simp)
theorem oS{c:Cx}:∀{l vs:List Value},an c (l.map .val) vs→vs=l
 | [],vs,h=>by rw[List.map_nil,ax]at h;exact h
 | x::l,[],h=>by rw[List.map_cons]at h;unfold an at h;obtain⟨u,us,h1,_⟩:=h;cases h1
 | x::l,v::vs,h=>by
  rw[List.map_cons,am]at h
  have h1:=h.1
  unfold Rep at h1
  rw[h1,oS h.2]
theorem dA{f:FuncId}{args:List Value}{r:PV}{v:Value}(hr:∀c,Rep c r v)(h:∀w,Calls P f args.toArray w fun e w'=>e=.returned v∧bg w w'):ab P f (args.map .val) r:=by
 intro H B σ w vs s hv
 have hvs:=oS hv
 subst hvs
 refine Calls.mono (h w) ?_
 rintro e w' ⟨rfl,g⟩
 obtain⟨s',st⟩:=eM s g
 exact⟨v,σ,rfl,hr _,s',st⟩
end
open Go.RowKit
def jk(G:List (Nat×TD))(t:Nat):Option TD:=match G with
 | []=>none
 | (u,d)::r=>match Nat.beq u t with
  | true=>some d
  | false=>jk r t
def cP(P:Program)(G:List (Nat×TD)):Bool:=G.all fun q=>OS P q.1 q.2
theorem lO{P:Program}:∀{G:List (Nat×TD)} (_:cP P G=true) {t:Nat} {d:TD} (_:jk G t=some d),ap P t d
 | [],_,t,d,h=>by cases h
 | (u,d')::r,hG,t,d,h=>by
  unfold cP at hG
  simp only[List.all_cons,Bool.and_eq_true]at hG
  unfold jk at h
  split at h
  ·rename_i hu
   rw[Nat.beq_eq]at hu
   injection h with h;subst h;subst hu
   exact G2 hG.1
  exact lO (G:=r) hG.2 h
def nf1:PV→Option PV
 | .val v=>some (.val v)
 | .any=>some .any
 | .agg cs=>some (.agg cs)
 | .tup cs=>some (.tup cs)
 | .ptr i off=>some (.ptr i off)
 | .seq n xs s=>some (.seq n xs s)
 | .row xs=>some (.row xs)
 | .arr i off n cap=>some (.arr i off n cap)
 | .fn f a b=>some (.fn f a b)
 | .mapv i=>some (.mapv i)
 | .arw i off n=>some (.arw i off n)
 | .smap ks xs=>some (.smap ks xs)
 | .ifc t x=>some (.ifc t x)
theorem Pk{x y:PV}(h:nf1 x=some y):y=x:=by cases x<;>(injection h with h;exact h.symm)
def nfl:List PV→Option (List PV)
 | []=>some []
 | x::xs=>match nf1 x with
  | some y=>match nfl xs with
   | some ys=>some (y::ys)
   | none=>none
  | none=>none
theorem rz:∀{xs ys:List PV},nfl xs=some ys→ys=xs
 | [],ys,h=>by injection h with h;exact h.symm
 | x::xs,ys,h=>by
  simp only[nfl]at h
  split at h
  ·rename_i y hy
   split at h
   ·rename_i zs hz
    injection h with h
    rw[←h,Pk hy,rz hz]
   cases h
  cases h
def nf:PV→Option PV
 | .val v=>some (.val v)
 | .any=>some .any
 | .agg cs=>match nfl cs with
  | some ds=>some (.agg ds)
  | none=>none
 | .tup cs=>match nfl cs with
  | some ds=>some (.tup ds)
  | none=>none
 | .ptr i off=>some (.ptr i off)
 | .seq n xs s=>some (.seq n xs s)
 | .row xs=>some (.row xs)
 | .arr i off n cap=>some (.arr i off n cap)
 | .fn f a b=>some (.fn f a b)
 | .mapv i=>some (.mapv i)
 | .arw i off n=>some (.arw i off n)
 | .smap ks xs=>some (.smap ks xs)
 | .ifc t x=>some (.ifc t x)
theorem NY{x y:PV}(h:nf x=some y):y=x:=by
  cases x<;>simp only[nf]at h<;>first
    | (injection h with h;exact h.symm)
    | (split at h
       · rename_i ds hd
         injection h with h
         rw[←h,rz hd]
       cases h)
abbrev Ev:=Option (PV×List Ob×Prop)
section
variable (G : List (Nat × TD)) (T : Nat → PV) (H : List Ob)
def B5:PV→PV→PV→Ev
 | .val (.bool true),x,_=>some (x,H,True)
 | .val (.bool false),_,y=>some (y,H,True)
 | _,_,_=>none
def N8(op:BinOp)(a b:ByteArray):Ev:=match op with
 | .eql=>some (.val (.bool (kN a b)),H,True)
 | .neq=>some (.val (.bool (!kN a b)),H,True)
 | .add=>some (.val (.string (a++b)),H,a.size+b.size≤9223372036854775807)
 | _=>none
def I7(op:BinOp)(t:TypeId)(x y:Operand):Ev:=match opv T x,opv T y with
 | .val (.string a),.val (.string b)=>N8 H op a b
 | .val (.bool a),.val (.bool b)=>match jk G t with
  | some d=>match d.sh with
   | .bool=>match op with
    | .eql=>some (.val (.bool (a==b)),H,True)
    | .neq=>some (.val (.bool (!(a==b))),H,True)
    | _=>none
   | _=>none
  | none=>none
 | .val u,.val v=>match uw op t x y u v with
  | some r=>some (.val r,H,True)
  | none=>none
 | _,_=>none
def Qj(op:UnOp)(x:Operand):Ev:=match opv T x with
 | .val u=>match lu (Op.unary op u)with
  | some r=>some (.val r,H,True)
  | none=>none
 | _=>none
def rM(x:Operand)(i:Nat):Ev:=match opv T x with
 | .tup cs=>match cs[i]? with
  | some r=>some (r,H,True)
  | none=>none
 | _=>none
def Jh(x:Operand):Ev:=match opv T x with
 | .ptr i off=>some (.ptr i off,H,True)
 | .row xs=>some (.row xs,H,True)
 | _=>none
def B4(t:TypeId)(x:Operand):Ev:=match jk G t with
 | some d=>match opv T x with
  | .ptr i off=>match H[i]? with
   | some (.cells xs _)=>match mu d xs off with
    | some r=>some (r,H,True)
    | none=>none
   | _=>none
  | .row xs=>match mu d xs 0 with
   | some r=>some (r,H,True)
   | none=>none
  | _=>none
 | none=>none
def xC(t:TypeId)(x y:Operand):Ev:=match jk G t with
 | some d=>match opv T x with
  | .ptr i off=>match H[i]? with
   | some (.cells xs e)=>match mr (opv T y)with
    | some ys=>match Nat.beq ys.length d.size with
     | true=>match ys.all okC with
      | true=>match Nat.ble (off+ys.length) xs.length with
       | true=>match nfl (cK xs off ys)with
        | some zs=>some (.val undef,H.set i (.cells zs e),True)
        | none=>none
       | false=>none
      | false=>none
     | false=>none
    | none=>none
   | _=>none
  | _=>none
 | none=>none
def nR(s:TypeId)(x:Operand)(k:Nat):Ev:=match jk G s with
 | some d=>match d.sh with
  | .struct fs=>match fs[k]? with
   | some (fo,_,_)=>match opv T x with
    | .ptr i off=>some (.ptr i (off+fo),H,True)
    | .row xs=>some (.row (xs.drop fo),H,True)
    | _=>none
   | none=>none
  | _=>none
 | none=>none
def xN(s:TypeId)(x:Operand)(k:Nat):Ev:=match jk G s with
 | some d=>match d.sh with
  | .struct fs=>match fs[k]? with
   | some (fo,z,g)=>match opv T x with
    | .agg cs=>match tq cs fo z g with
     | some r=>some (r,H,True)
     | none=>none
    | _=>none
   | none=>none
  | _=>none
 | none=>none
def od(t:TypeId)(x ix:Operand):Ev:=match jk G t with
 | some d=>match d.sh with
  | .slice e=>match jk G e with
   | some de=>match opv T x,opv T ix with
    | .seq n xs _,.val (.int _ i)=>some (.row (xs.drop (i.toNat*de.size)),H,0≤i∧i<n)
    | .arr id off n _,.val (.int _ i)=>some (.ptr id (off+i.toNat*de.size),H,0≤i∧i<n)
    | .arw id off n,.val (.int _ i)=>some (.ptr id (off+i.toNat*de.size),H,0≤i∧i<n)
    | _,_=>none
   | none=>none
  | .array n e=>match jk G e with
   | some de=>match opv T x,opv T ix with
    | .ptr id off,.val (.int _ i)=>some (.ptr id (off+i.toNat*de.size),H,0≤i∧i<n)
    | .row xs,.val (.int _ i)=>some (.row (xs.drop (i.toNat*de.size)),H,0≤i∧i<n)
    | _,_=>none
   | none=>none
  | _=>none
 | none=>none
def yA(t:TypeId)(x ix:Operand):Ev:=match jk G t with
 | some d=>match d.sh with
  | .str=>match opv T x,opv T ix with
   | .val (.string s),.val (.int _ i)=>some (.val (.int .u8 (qc s i.toNat)),H,0≤i∧i<s.size)
   | _,_=>none
  | .array n e=>match jk G e with
   | some de=>match de.agg with
    | false=>match opv T x,opv T ix with
     | .agg cs,.val (.int _ i)=>match cs[i.toNat*de.size]? with
      | some r=>some (r,H,0≤i∧i<n)
      | none=>none
     | _,_=>none
    | true=>none
   | none=>none
  | _=>none
 | none=>none
def HW(t:TypeId)(x:Operand):Ev:=match mr (opv T x)with
 | some xs=>match nfl xs with
  | some zs=>some (.ptr H.length 0,H++[.cells zs t],True)
  | none=>none
 | none=>none
def yD(t:TypeId):Ev:=match jk G t with
 | some d=>some (.ptr H.length 0,H++[.cells d.zero t],True)
 | none=>none
def xm(t:TypeId)(parts:Array (Nat×Operand)):Ev:=match jk G t with
 | some d=>match d.sh with
  | .struct fs=>match m5 (fun i=>match fs[i]? with|some (of,z,_)=>some (of,z)|none=>none) T parts.toList d.zero with
   | some out=>some (.agg out,H,True)
   | none=>none
  | .array _ e=>match jk G e with
   | some de=>match m5 (fun i=>some (i*de.size,de.size)) T parts.toList d.zero with
    | some out=>some (.agg out,H,True)
    | none=>none
   | none=>none
  | _=>none
 | none=>none
def mT(t:TypeId)(n:Nat)(parts:Array (Nat×Operand)):Ev:=match jk G t with
 | some d=>match d.sh with
  | .slice e=>match jk G e with
   | some de=>match Nat.ble (n*de.size) 16777216 with
    | true=>match m5 (fun i=>some (i*de.size,de.size)) T parts.toList (dD n de)with
     | some out=>some (.seq n out .clip,H,True)
     | none=>none
    | false=>none
   | none=>none
  | _=>none
 | none=>none
def bnd(dflt:Nat):Option Operand→Option (Nat×Prop)
 | none=>some (dflt,True)
 | some z=>match opv T z with
  | .val (.int _ i)=>some (i.toNat,0≤i)
  | _=>none
theorem mv{T:Nat→PV}{dflt v:Nat}{y:Option Operand}{p:Prop}(h:bnd T dflt y=some (v,p))(hp:p):jn T y dflt v:=by
 unfold bnd at h
 split at h
 ·cases h;rfl
 split at h
 ·rename_i k i hz
  cases h
  exact⟨_,_,hz,hp,rfl⟩
 cases h
def yn(t:TypeId)(x:Operand)(lo hi mx:Option Operand):Ev:=match jk G t with
 | some d=>match d.sh with
  | .slice e=>match jk G e with
   | some de=>match opv T x with
    | .seq n xs _=>match bnd T 0 lo,bnd T n hi,mx with
     | some (l,p),some (h,q),none=>some (.seq (h-l) ((xs.drop (l*de.size)).take ((h-l)*de.size)) .any,H,p∧q∧l≤h∧h≤n)
     | some (l,p),some (h,q),some z=>match hi,bnd T n (some z)with
      | some _,some (m,r)=>some (.seq (h-l) ((xs.drop (l*de.size)).take ((h-l)*de.size)) .clip,H,p∧q∧r∧m=h∧l≤h∧h≤n)
      | _,_=>none
     | _,_,_=>none
    | .arr id off n cap=>match bnd T 0 lo,bnd T n hi,mx with
     | some (l,p),some (h,q),none=>some (.arr id (if cap=l then off else off+l*de.size) (h-l) (cap-l),H,p∧q∧l≤h∧h≤n∧n≤cap)
     | _,_,_=>none
    | _=>none
   | none=>none
  | .str=>match opv T x with
   | .val (.string s)=>match bnd T 0 lo,bnd T s.size hi,mx with
    | some (l,p),some (h,q),none=>some (.val (.string (s.extract l h)),H,p∧q∧l≤h∧h≤s.size)
    | _,_,_=>none
   | _=>none
  | .array n e=>match jk G e with
   | some de=>match opv T x,lo,hi,mx with
    | .ptr id off,none,none,none=>some (.arr id off n n,H,True)
    | _,_,_,_=>none
   | none=>none
  | _=>none
 | none=>none
def ro(src dst:TypeId)(x:Operand):Ev:=match jk G src,jk G dst with
 | some ds,some dd=>match dd.sh,opv T x with
  | .int k,.val (.int _ i)=>some (.val (.int k (k.wrap i)),H,True)
  | .str,.val (.string s)=>some (.val (.string s),H,True)
  | .slice e,.val (.string s)=>match jk G e with
   | some de=>match ds.sh,de.sh with
    | .str,.int .u8=>some (.seq s.size (s.data.toList.map fun b=>j4 b.toNat) .any,H,True)
    | _,_=>none
   | none=>none
  | _,_=>none
 | _,_=>none
def BQ(t:TypeId)(x y:Operand):Ev:=match jk G t with
 | some d=>match d.sh with
  | .slice e=>match jk G e with
   | some de=>match opv T x,opv T y with
    | .val (.int _ n),.val (.int _ m)=>some (.arr H.length 0 n.toNat n.toNat,H++[.cells (dD n.toNat de) e],m=n∧0≤n∧(de.bytes:Int)*n≤281474976710656∧n≤9223372036854775807)
    | _,_=>none
   | none=>none
  | _=>none
 | none=>none
def Ku(ts:List TypeId)(xs:List Operand):Ev:=match ts,xs with
 | [t],[x]=>match jk G t with
  | some d=>match d.sh,opv T x with
   | .slice _,.seq n _ _=>some (.val (.int .i64 n),H,True)
   | .slice _,.arr _ _ n _=>some (.val (.int .i64 n),H,True)
   | .slice _,.arw _ _ n=>some (.val (.int .i64 n),H,True)
   | .str,.val (.string s)=>some (.val (.int .i64 s.size),H,True)
   | _,_=>none
  | none=>none
 | _,_=>none
def qR(mx:Bool)(ats:Array TypeId)(ty:TypeId)(xs:List Operand):Ev:=match xs with
 | [x,y]=>match opv T x,opv T y with
  | .val u,.val v=>match (match mx with|true=>lu (Builtin.max_ ats ty #[u,v])|false=>lu (Builtin.min_ ats ty #[u,v]))with
   | some r=>some (.val r,H,True)
   | none=>none
  | _,_=>none
 | _=>none
end
section
variable {P : Program} {B : Nat → Nat → Prop} {o : Oper} {G : List (Nat × TD)} {T : Nat → PV} {H : List Ob} {x : PV} {H' : List Ob} {p : Prop}
theorem FR{c a b:Operand}(ho:o.op=.pick c a b)(h:B5 H (opv T c) (opv T a) (opv T b)=some (x,H',p)):br P B o T H x H':=by
 unfold B5 at h
 split at h
 ·rename_i hc;cases h;exact wj (b:=true) ho hc
 ·rename_i hc;cases h;exact wj (b:=false) ho hc
 cases h
theorem IL(hG:cP P G=true){op:BinOp}{t yt:TypeId}{a b:Operand}(ho:o.op=.binOp op t a b yt)(h:I7 G T H op t a b=some (x,H',p))(hp:p):br P B o T H x H':=by
 unfold I7 at h
 split at h
 ·rename_i u v hu hv
  unfold N8 at h
  split at h
  ·cases h;exact xK ho hu hv
  ·cases h;exact yo ho hu hv
  ·cases h;exact yJ ho hu hv hp
  cases h
 ·rename_i u v hu hv
  split at h
  ·rename_i d hd
   split at h
   ·rename_i hs
    split at h
    ·cases h;exact vE (lO hG hd) hs ho hu hv
    ·cases h;exact vL (lO hG hd) hs ho hu hv
    cases h
   cases h
  cases h
 ·rename_i u v _ _ hu hv
  split at h
  ·rename_i r hr;cases h;exact oo ho hu hv hr
  cases h
 cases h
theorem Nn{op:UnOp}{t:TypeId}{a:Operand}(ho:o.op=.unOp op t a)(h:Qj T H op a=some (x,H',p)):br P B o T H x H':=by
 unfold Qj at h
 split at h
 ·rename_i u hu
  split at h
  ·rename_i r hr;cases h;exact MJ ho hu hr
  cases h
 cases h
theorem yP{a:Operand}{i:Nat}(ho:o.op=.extract a i)(h:rM T H a i=some (x,H',p)):br P B o T H x H':=by
 unfold rM at h
 split at h
 ·rename_i cs hc
  split at h
  ·rename_i r hr;cases h;exact yh ho hc hr
  cases h
 cases h
theorem Iw{a:Operand}(ho:o.op=.nilCheck a)(h:Jh T H a=some (x,H',p)):br P B o T H x H':=by
 unfold Jh at h
 split at h
 ·rename_i i off hc;cases h;exact qv ho hc
 ·rename_i xs hc;cases h;exact qh ho hc
 cases h
theorem Fy(hG:cP P G=true){t:TypeId}{a:Operand}(ho:o.op=.load t a)(h:B4 G T H t a=some (x,H',p)):br P B o T H x H':=by
 unfold B4 at h
 split at h
 ·rename_i d hd
  split at h
  ·rename_i i off hx
   split at h
   ·rename_i xs e hi
    split at h
    ·rename_i r hr;cases h;exact ak (lO hG hd) ho hx hi hr
    cases h
   cases h
  ·rename_i xs hx
   split at h
   ·rename_i r hr;cases h;exact vI (lO hG hd) ho hx hr
   cases h
  cases h
 cases h
theorem BI(hG:cP P G=true){t:TypeId}{a b:Operand}(ho:o.op=.store t a b)(h:xC G T H t a b=some (x,H',p)):br P B o T H x H':=by
 unfold xC at h
 split at h
 ·rename_i d hd
  split at h
  ·rename_i i off hx
   split at h
   ·rename_i xs e hi
    split at h
    ·rename_i ys hy
     split at h
     ·rename_i hl
      split at h
      ·rename_i hok
       split at h
       ·rename_i hle
        split at h
        ·rename_i zs hz
         cases h
         rw[rz hz]
         exact bH (lO hG hd) ho hx hi hy hl hok hle
        cases h
       cases h
      cases h
     cases h
    cases h
   cases h
  cases h
 cases h
theorem uL(hG:cP P G=true){s:TypeId}{a:Operand}{k:Nat}(ho:o.op=.fieldAddr s a k)(h:nR G T H s a k=some (x,H',p)):br P B o T H x H':=by
 unfold nR at h
 split at h
 ·rename_i d hd
  split at h
  ·rename_i fs hs
   split at h
   ·rename_i fo z g hk
    split at h
    ·rename_i i off hx;cases h;exact pT (lO hG hd) ho hs hk hx
    ·rename_i xs hx;cases h;exact pI (lO hG hd) ho hs hk hx
    cases h
   cases h
  cases h
 cases h
theorem BO(hG:cP P G=true){s:TypeId}{a:Operand}{k:Nat}(ho:o.op=.field s a k)(h:xN G T H s a k=some (x,H',p)):br P B o T H x H':=by
 unfold xN at h
 split at h
 ·rename_i d hd
  split at h
  ·rename_i fs hs
   split at h
   ·rename_i fo z g hk
    split at h
    ·rename_i cs hx
     split at h
     ·rename_i r hr;cases h;exact CZ (lO hG hd) ho hs hk hx hr
     cases h
    cases h
   cases h
  cases h
 cases h
theorem ua(hG:cP P G=true){t:TypeId}{a b:Operand}(ho:o.op=.indexAddr t a b)(h:od G T H t a b=some (x,H',p))(hp:p):br P B o T H x H':=by
 unfold od at h
 split at h
 ·rename_i d hd
  split at h
  ·rename_i e hs
   split at h
   ·rename_i de he
    split at h
    ·rename_i hx hi;cases h;exact pQ (lO hG hd) hs (lO hG he) ho hx hi hp
    ·rename_i hx hi;cases h;exact pK (lO hG hd) hs (lO hG he) ho hx hi hp
    ·rename_i hx hi;cases h;exact pi (lO hG hd) hs (lO hG he) ho hx hi hp
    cases h
   cases h
  ·rename_i n e hs
   split at h
   ·rename_i de he
    split at h
    ·rename_i hx hi;cases h;exact pw (lO hG hd) hs (lO hG he) ho hx hi hp
    ·rename_i hx hi;cases h;exact py (lO hG hd) hs (lO hG he) ho hx hi hp
    cases h
   cases h
  cases h
 cases h
theorem Bq(hG:cP P G=true){t:TypeId}{a b:Operand}(ho:o.op=.index t a b)(h:yA G T H t a b=some (x,H',p))(hp:p):br P B o T H x H':=by
 unfold yA at h
 split at h
 ·rename_i d hd
  split at h
  ·rename_i hs
   split at h
   ·rename_i hx hi;cases h;exact uO (lO hG hd) hs ho hx hi hp
   cases h
  ·rename_i n e hs
   split at h
   ·rename_i de he
    split at h
    ·rename_i ha
     split at h
     ·rename_i hx hi
      split at h
      ·rename_i r hr;cases h;exact tX (lO hG hd) hs (lO hG he) ha ho hx hi hp hr
      cases h
     cases h
    cases h
   cases h
  cases h
 cases h
theorem Lf{t:TypeId}{a:Operand}(ho:o.op=.box t a)(h:HW T H t a=some (x,H',p)):br P B o T H x H':=by
 unfold HW at h
 split at h
 ·rename_i xs hx
  split at h
  ·rename_i zs hz
   cases h
   rw[rz hz]
   exact Ip ho hx
  cases h
 cases h
theorem Cr(hG:cP P G=true){t:TypeId}(ho:o.op=.alloc t)(h:yD G H t=some (x,H',p)):br P B o T H x H':=by
 unfold yD at h
 split at h
 ·rename_i d hd;cases h;exact Cp (lO hG hd) ho
 cases h
theorem B9(hG:cP P G=true){t:TypeId}{parts:Array (Nat×Operand)}(ho:o.op=.build t parts)(h:xm G T H t parts=some (x,H',p)):br P B o T H x H':=by
 unfold xm at h
 split at h
 ·rename_i d hd
  split at h
  ·rename_i fs hs
   split at h
   ·rename_i out hf;cases h;exact lb (lO hG hd) hs ho hf
   cases h
  ·rename_i n e hs
   split at h
   ·rename_i de he
    split at h
    ·rename_i out hf;cases h;exact rg (lO hG hd) hs (lO hG he) ho hf
    cases h
   cases h
  cases h
 cases h
theorem sY(hG:cP P G=true){t:TypeId}{n:Nat}{parts:Array (Nat×Operand)}(ho:o.op=.buildSlice t n parts)(h:mT G T H t n parts=some (x,H',p)):br P B o T H x H':=by
 unfold mT at h
 split at h
 ·rename_i d hd
  split at h
  ·rename_i e hs
   split at h
   ·rename_i de he
    split at h
    ·rename_i hn
     split at h
     ·rename_i out hf;cases h;exact sS (lO hG hd) hs (lO hG he) ho hn hf
     cases h
    cases h
   cases h
  cases h
 cases h
theorem BS(hG:cP P G=true){t:TypeId}{a:Operand}{lo hi mx:Option Operand}(ho:o.op=.slice t a lo hi mx)(h:yn G T H t a lo hi mx=some (x,H',p))(hp:p):br P B o T H x H':=by
 unfold yn at h
 split at h
 ·rename_i d hd
  split at h
  ·rename_i e hs
   split at h
   ·rename_i de he
    split at h
    ·rename_i n xs s hx
     split at h
     ·rename_i l p1 h1 q1 e1 e2
      cases h
      obtain⟨p1,q1,p2,p3⟩:=hp
      exact ve (lO hG hd) hs (lO hG he) ho hx (mv e1 p1) (mv e2 q1) rfl p2 p3
     ·rename_i l p1 h1 q1 z e1 e2
      split at h
      ·rename_i y m r1 e3
       cases h
       obtain⟨p1,q1,r1,p0,p2,p3⟩:=hp
       subst p0
       exact sX (lO hG hd) hs (lO hG he) ho hx (mv e1 p1) (mv e2 q1) (mv e3 r1) p2 p3
      cases h
     cases h
    ·rename_i id off n cap hx
     split at h
     ·rename_i l p1 h1 q1 e1 e2
      cases h
      obtain⟨p1,q1,p2,p3,p4⟩:=hp
      exact uy (lO hG hd) hs (lO hG he) ho hx (mv e1 p1) (mv e2 q1) p2 p3 p4
     cases h
    cases h
   cases h
  ·rename_i hs
   split at h
   ·rename_i s hx
    split at h
    ·rename_i l p1 h1 q1 e1 e2
     cases h
     obtain⟨p1,q1,p2,p3⟩:=hp
     exact tE (lO hG hd) hs ho hx (mv e1 p1) (mv e2 q1) p2 p3
    cases h
   cases h
  ·rename_i n e hs
   split at h
   ·rename_i de he
    split at h
    ·rename_i id off hx
     cases h
     exact vl (lO hG hd) hs (lO hG he) ho hx
    cases h
   cases h
  cases h
 cases h
theorem xV(hG:cP P G=true){src dst:TypeId}{a:Operand}(ho:o.op=.convert src dst a)(h:ro G T H src dst a=some (x,H',p)):br P B o T H x H':=by
 unfold ro at h
 split at h
 ·rename_i ds dd hs hd
  split at h
  ·rename_i hk hx;cases h;exact rD (lO hG hs) (lO hG hd) hk ho hx
  ·rename_i hk hx;cases h;exact rx (lO hG hs) (lO hG hd) hk ho hx
  ·rename_i e s hk hx
   split at h
   ·rename_i de he
    split at h
    ·rename_i h1 h2;cases h;exact nx (lO hG hs) h1 (lO hG hd) hk (lO hG he) h2 ho hx
    cases h
   cases h
  cases h
 cases h
theorem GH(hG:cP P G=true){t:TypeId}{a b:Operand}(ho:o.op=.makeSlice t a b)(h:BQ G T H t a b=some (x,H',p))(hp:p):br P B o T H x H':=by
 unfold BQ at h
 split at h
 ·rename_i d hd
  split at h
  ·rename_i e hs
   split at h
   ·rename_i de he
    split at h
    ·rename_i hx hy
     cases h
     obtain⟨rfl,p1,p2,p3⟩:=hp
     exact uQ (lO hG hd) hs (lO hG he) ho hx hy p1 p2 p3
    cases h
   cases h
  cases h
 cases h
theorem Il(hG:cP P G=true){args:Array Operand}{ats:Array TypeId}(ho:o.op=.call {callee:=.builtin .len,args:=args,argTypes:=ats})(h:Ku G T H ats.toList args.toList=some (x,H',p)):br P B o T H x H':=by
 unfold Ku at h
 split at h
 ·rename_i t a ht ha
  obtain rfl:ats=#[t]:=by rw[←Array.toArray_toList (xs:=ats),ht]
  obtain rfl:args=#[a]:=by rw[←Array.toArray_toList (xs:=args),ha]
  split at h
  ·rename_i d hd
   split at h
   ·rename_i hs hx;cases h;exact xE (lO hG hd) hs ho hx
   ·rename_i hs hx;cases h;exact xp (lO hG hd) hs ho hx
   ·rename_i hs hx;cases h;exact xI (lO hG hd) hs ho hx
   ·rename_i hs hx;cases h;exact yl (lO hG hd) hs ho hx
   cases h
  cases h
 cases h
theorem sz{mx:Bool}{args:Array Operand}{ats:Array TypeId}(ho:o.op=.call {callee:=.builtin (match mx with|true=>.max|false=>.min),args:=args,argTypes:=ats})(h:qR T H mx ats o.type args.toList=some (x,H',p)):br P B o T H x H':=by
 unfold qR at h
 split at h
 ·rename_i a b ha
  obtain rfl:args=#[a,b]:=by rw[←Array.toArray_toList (xs:=args),ha]
  split at h
  ·rename_i u v hx hy
   split at h
   ·rename_i r hr
    cases h
    cases mx with
    | true=>exact I6 ho hx hy hr
    | false=>exact K5 ho hx hy hr
   cases h
  cases h
 cases h
def Kq(G:List (Nat×TD))(T:Nat→PV)(H:List Ob)(ty:TypeId)(c:Call):Ev:=match c.callee with
 | .builtin .len=>Ku G T H c.argTypes.toList c.args.toList
 | .builtin .max=>qR T H true c.argTypes ty c.args.toList
 | .builtin .min=>qR T H false c.argTypes ty c.args.toList
 | _=>none
def FF(G:List (Nat×TD))(T:Nat→PV)(H:List Ob)(ty:TypeId):Op→Ev
 | .move x=>some (opv T x,H,True)
 | .assign x=>some (opv T x,H,True)
 | .pick c a b=>B5 H (opv T c) (opv T a) (opv T b)
 | .binOp op t x y _=>I7 G T H op t x y
 | .unOp op _ x=>Qj T H op x
 | .extract x i=>rM T H x i
 | .nilCheck x=>Jh T H x
 | .load t x=>B4 G T H t x
 | .store t x y=>xC G T H t x y
 | .fieldAddr s x k=>nR G T H s x k
 | .field s x k=>xN G T H s x k
 | .indexAddr t x y=>od G T H t x y
 | .index t x y=>yA G T H t x y
 | .box t x=>HW T H t x
 | .alloc t=>yD G H t
 | .build t ps=>xm G T H t ps
 | .buildSlice t n ps=>mT G T H t n ps
 | .makeFunc f a b=>some (.fn f (a.toList.map (opv T)) (b.toList.map (opv T)),H,True)
 | .slice t x l h m=>yn G T H t x l h m
 | .convert s d x=>ro G T H s d x
 | .makeSlice t x y=>BQ G T H t x y
 | .call c=>Kq G T H ty c
 | _=>none
theorem ek(hG:cP P G=true){op:Op}(ho:o.op=op)(h:FF G T H o.type op=some (x,H',p))(hp:p):br P B o T H x H':=by
 cases op<;>simp only[FF]at h
 case move a=>cases h;exact FO ho
 case assign a=>cases h;exact yT ho
 case pick c a b=>exact FR ho h
 case binOp op t a b yt=>exact IL hG ho h hp
 case unOp op t a=>exact Nn ho h
 case extract a i=>exact yP ho h
 case nilCheck a=>exact Iw ho h
 case load t a=>exact Fy hG ho h
 case store t a b=>exact BI hG ho h
 case fieldAddr s a k=>exact uL hG ho h
 case field s a k=>exact BO hG ho h
 case indexAddr t a b=>exact ua hG ho h hp
 case index t a b=>exact Bq hG ho h hp
 case box t a=>exact Lf ho h
 case alloc t=>exact Cr hG ho h
 case build t ps=>exact B9 hG ho h
 case buildSlice t n ps=>exact sY hG ho h
 case makeFunc f a b=>cases h;exact vR ho
 case slice t a l hh m=>exact BS hG ho h hp
 case convert s d a=>exact xV hG ho h
 case makeSlice t a b=>exact GH hG ho h hp
 case call c =>
  obtain⟨callee,args,ats⟩:=c
  unfold Kq at h
  split at h
  ·rename_i hc;simp only at hc;subst hc;exact Il hG ho h
  ·rename_i hc;simp only at hc;subst hc;exact sz (mx:=true) ho h
  ·rename_i hc;simp only at hc;subst hc;exact sz (mx:=false) ho h
  cases h
 all_goals cases h
end
def nfH:List Ob→Option (List Ob)
 | []=>some []
 | x::xs=>match nfH xs with
  | some ys=>some (x::ys)
  | none=>none
theorem ry:∀{xs ys:List Ob},nfH xs=some ys→ys=xs
 | [],ys,h=>by injection h with h;exact h.symm
 | x::xs,ys,h=>by
  simp only[nfH]at h
  split at h
  ·rename_i zs hz
   injection h with h
   rw[←h,ry hz]
  cases h
def evN(G:List (Nat×TD))(T:Nat→PV)(H:List Ob)(ty:TypeId)(op:Op):Ev:=match FF G T H ty op with
 | some (x,H',p)=>match nf x with
  | some y=>match nfH H' with
   | some H2=>some (y,H2,p)
   | none=>none
  | none=>none
 | none=>none
def evS(G:List (Nat×TD))(T:Nat→PV)(H:List Ob)(ty:TypeId)(op:Op):Ev:=match FF G T H ty op with
 | some (x,H',p)=>match nf x with
  | some y=>some (y,H',p)
  | none=>none
 | none=>none
section
variable {P : Program} {B : Nat → Nat → Prop} {o : Oper} {G : List (Nat × TD)} {T : Nat → PV} {H : List Ob} {x : PV} {H' : List Ob} {p : Prop}
theorem nd{ty:TypeId}{op:Op}(h:evN G T H ty op=some (x,H',p)):FF G T H ty op=some (x,H',p):=by
 unfold evN at h
 split at h
 ·rename_i y H1 q he
  split at h
  ·rename_i z hz
   split at h
   ·rename_i H2 hH
    cases h
    rw[he,NY hz,ry hH]
   cases h
  cases h
 cases h
theorem mX{ty:TypeId}{op:Op}(h:evS G T H ty op=some (x,H',p)):FF G T H ty op=some (x,H',p):=by
 unfold evS at h
 split at h
 ·rename_i y H1 q he
  split at h
  ·rename_i z hz
   cases h
   rw[he,NY hz]
  cases h
 cases h
variable {n : Nat} {all : Array Oper} {l : List Oper} {K : (Nat → PV) → List Ob → Prop}
theorem We(hG:cP P G=true)(hw:aj all T o=some true){d:Option Tmp}(hd:nfD n o.dst=some d)(h:evN G T H o.type o.op=some (x,H',p))(hp:p)(k:WO P B n all l (al d x T) H' K):WO P B n all (o::l) T H K :=
 Wd hd hw (ek hG rfl (nd h) hp) k
end
open Go.RowKit
section
variable {P : Program} {B : Nat → Nat → Prop} {n : Nat} {H : List Ob} {md : Region.Mode} {ops : Array Oper}
theorem Ic(i j:Nat)(x y:PV)(T:Nat→PV)(h:i≠j):upd i x (upd j y T)=upd j y (upd i x T):=by
 funext k
 by_cases h1:k=i
 ·subst h1;rw[dt,cp _ _ _ _ h,dt]
 rw[cp _ _ _ _ h1]
 by_cases h2:k=j
 ·subst h2;rw[dt,dt]
 rw[cp _ _ _ _ h2,cp _ _ _ _ h2,cp _ _ _ _ h1]
theorem oZ{a b:Option Tmp}(x y:PV)(T:Nat→PV)(h:∀d,a=some d→b≠some d):al a x (al b y T)=al b y (al a x T):=by
 cases a with
 | none=>rfl
 | some i =>
  cases b with
  | none=>rfl
  | some j=>exact Ic i j x y T (fun e=>h i rfl (by rw[e]))
theorem iD{d:Option Tmp}{x:PV}{T:Nat→PV}{t:Nat}(h:∀i,d=some i→t≠i):al d x T t=T t:=by
 cases d with
 | none=>rfl
 | some i=>exact cp _ _ _ _ (h i rfl)
def Yld(P:Program)(B:Nat→Nat→Prop)(ops:Array Oper)(H:List Ob)(o:Oper)(T:Nat→PV)(x:PV):Prop :=
 (aj ops T o=some true∧(br P B o T H x H∨gA P B o T H x H))∨(aj ops T o=some false∧x=.val undef)
theorem oG{T T':Nat→PV}{y:Operand}(h:∀t,y=.tmp t→T' t=T t):opv T' y=opv T y:=by
 cases y with
 | tmp t=>exact h t rfl
 | const v=>rfl
 | global g=>rfl
 | func f=>rfl
theorem qn{o:Oper}{t:Nat}(h:Operand.tmp t∈o.op.operands.toList):t∈o.looksAt ops:=by
 unfold Oper.looksAt
 rw[List.mem_append]
 exact .inl (List.mem_filterMap.2 ⟨_,h,rfl⟩)
theorem ll{o:Oper}{g d:Nat}{b:Bool}(h:o.guard=some (g,b))(hd:(ops[g]?).bind (·.dst)=some d):d∈o.looksAt ops:=by
 unfold Oper.looksAt
 rw[List.mem_append]
 refine .inr ?_
 rw[h]
 simp[hd]
theorem Yld.congr{o:Oper}{T T':Nat→PV}{x:PV}(h:∀t∈o.looksAt ops,T' t=T t)(y:Yld P B ops H o T x):Yld P B ops H o T' x:=by
 have hw:aj ops T' o=aj ops T o:=by
  unfold aj
  cases hg:o.guard with
  | none=>rfl
  | some q =>
   obtain⟨g,b⟩:=q
   simp only
   cases hd:(ops[g]?).bind (·.dst)with
   | none=>rfl
   | some d=>simp only;rw[h d (ll hg hd)]
 have ho:∀z∈o.op.operands.toList,opv T' z=opv T z:=fun z hz=>oG fun t ht=>h t (qn (by rw[←ht];exact hz))
 rcases y with ⟨h1,h2|h2⟩|⟨h1,h2⟩
 ·exact .inl ⟨by rw[hw];exact h1,.inl fun σ w a s k=>h2 σ w a s (fun z hz=>by rw[←ho z hz];exact k z hz)⟩
 ·exact .inl ⟨by rw[hw];exact h1,.inr fun σ w a s k=>h2 σ w a s (fun z hz=>by rw[←ho z hz];exact k z hz)⟩
 exact .inr ⟨by rw[hw];exact h1,h2⟩
theorem kX{x y:Oper}(h:x.apart ops y=true):(∀t∈y.looksAt ops,∀i,x.dst=some i→t≠i)∧(∀t∈x.looksAt ops,∀i,y.dst=some i→t≠i)∧(∀d,x.dst=some d→y.dst≠some d):=by
 obtain⟨h1,h2,h3⟩:=Oper.apart_spec h
 exact⟨fun t ht i hi e=>h1 i hi (e▸ht),fun t ht i hi e=>h3 i hi (e▸ht),h2⟩
variable {T : Nat → PV} {Q : Exit → (Nat → PV) → List Ob → Prop}
variable {o : Oper} {l : List Oper} {K : (Nat → PV) → Prop} {x : PV} {G : List (Nat × TD)} {p : Prop}
theorem db{t tx e:TypeId}{d de dx:TD}{a b:Operand}{k m:Nat}{xs ys:List PV}(f:ap P t d)(hd:d.sh=.slice e)(fe:ap P e de)(fx:ap P tx dx)
  (ho:o.op=.call {callee:=.builtin .append,args:=#[a,b],argTypes:=#[t,tx]}) (hx:opv T a=.seq k xs .clip) (ht:zf dx (opv T b)) (hy:wG de.size (opv T b) m ys) (hl:xs.length=k*de.size)
  (hb:(k+m)*de.bytes≤140737488355328) (h63:k+m≤9223372036854775807) (hf:aL (xs++ys)) :
  br P B o T H (.seq (k+m) (xs++ys) .any) H:=by
 intro σ w ac s h
 have k1:=h a (by simp[ho,Op.operands,Call.operands])
 have k2:=h b (by simp[ho,Op.operands,Call.operands])
 rw[hx]at k1
 obtain⟨ad,cap,vs,hv,hle,hnil,hrl,hlies,hk⟩:=fa k1
 have hcap:cap=k:=hk
 subst hcap
 obtain⟨news,hnr,hsrc⟩:=yc fx ht hy k2
 obtain⟨v',w',σ',h1,h2,h3,h4,h5⟩:=nQ (ty:=o.type) s f hd fe hle hnil hrl hlies hl hnr hsrc hb h63 (by omega)
 obtain⟨s',st⟩:=eM s h5
 refine⟨v',w',σ,.inl (lI ho hv h1),?_,s',st⟩
 refine kx (c:=cx B (H++[.free ((cap+m)*de.size)]) σ' w') (c':=cx B H σ w') rfl (fun b off hw=>?_) (by unfold aQ;exact⟨hf,.inl rfl⟩) (jB _ _ _ _ _ h2)
 rcases hw with hw|⟨i,oi,h6,h7,h8⟩
 ·exact .inl hw
 have hlt:=cn h6
 exact .inr ⟨i,oi,by rw[List.getElem?_append_left hlt];exact h6,(h4.le.σ i hlt).trans h7,h8⟩
end
open Go.RowKit
def wk1:PV→PV
 | .seq n xs _=>.seq n xs .any
 | x=>x
def wk:PV→PV
 | .seq n xs _=>.seq n xs .any
 | .agg cs=>.agg (cs.map wk1)
 | x=>x
theorem yL(x:PV):Imp x (wk1 x):=by cases x<;>first|exact jB _ _ _|exact Imp.refl _
theorem lQ{g:PV→PV}(h:∀x,Imp x (g x)):∀l:List PV,pN l (l.map g)
 | []=>trivial
 | x::l=>⟨h x,lQ h l⟩
theorem HY(x:PV):Imp x (wk x):=by
 cases x<;>first|exact jB _ _ _|exact Dq (lQ yL _)|exact Imp.refl _
section
variable {P : Program} {B : Nat → Nat → Prop} {o : Oper} {T : Nat → PV} {H : List Ob} {n : Nat} {all : Array Oper} {K : (Nat → PV) → List Ob → Prop} {Q : Exit → (Nat → PV) → List Ob → Prop}
theorem Ht{f:FuncId}{args args':List PV}{res:PV}{H':List Ob}(h:pN args args')(k:HC P f args' H res H'):HC P f args H res H' :=
 fun B σ w vs s hr=>k B σ w vs s (nP h hr)
theorem dC {f : FuncId} {fn : Func} {args : Array Operand} {ats : Array TypeId} {res : PV} {H' : List Ob} (ho : o.op = .call { callee := .value (.func f), args := args, argTypes := ats }) (hf : P.funcs[f]? = some fn) (hb : fn.body.isNone = false) (hn : (fn.name == "runtime.NumGoroutine") = false)
  (h:HC P f (args.toList.map fun y=>wk (opv T y)) H res H'):gA P B o T H res H' :=
 BC ho hf hb hn (Ht (by
  have:=lQ HY (args.toList.map (opv T))
  rw[List.map_map]at this
  exact this) h)
theorem dq {f : FuncId} {fn : Func} {x : Operand} {first cap : List PV} {args : Array Operand} {ats : Array TypeId} {res : PV} {H' : List Ob} (ho : o.op = .call { callee := .value x, args := args, argTypes := ats }) (hx : opv T x = .fn (.func f) first cap) (hf : P.funcs[f]? = some fn) (hb : fn.body.isNone = false) (hn : (fn.name == "runtime.NumGoroutine") = false)
  (h:HC P f (first++(args.toList.map fun y=>wk (opv T y))++cap) H res H'):gA P B o T H res H' :=
 Ai ho hx hf hb hn (Ht (by
  have h1:=lQ HY (args.toList.map (opv T))
  rw[List.map_map]at h1
  have app:∀(a b c d:List PV),pN a b→pN c d→pN (a++c) (b++d):=by
   intro a
   induction a with
   | nil=>intro b c d h1 h2;cases b with
    | nil=>exact h2
    | cons y b=>exact h1.elim
   | cons x a ih=>intro b c d h1 h2;cases b with
    | nil=>exact h1.elim
    | cons y b=>exact⟨h1.1,ih b c d h1.2 h2⟩
  exact app _ _ _ _ (app _ _ _ _ (mj first) h1) (mj cap)) h)
theorem Wm{l:List Oper}(d:Nat){x y:PV}(hT:T d=x)(hxy:Imp x y)(h1:WO P B n all l (upd d y T) H K):WO P B n all l T H K:=by
 intro hall σ w a g
 refine h1 hall σ w a ⟨g.sim,fun i=>?_,g.size,g.defers⟩
 by_cases hi:i=d
 ·subst hi;rw[dt];have:=g.rep i;rw[hT]at this;exact hxy _ _ this
 rw[cp _ _ _ _ hi];exact g.rep i
theorem lA{l:List Oper}{H':List Ob}(hH:H'=H)(h1:WO P B n all l T H' K):WO P B n all l T H K:=by subst hH;exact h1
theorem Gm{c:Code}{H':List Ob}(hH:H'=H)(h1:W P B n c T H' Q):W P B n c T H Q:=by subst hH;exact h1
theorem AX{σ:Nat→Option Nat}{w:World}{a:Act}(g:jz B n T H σ w a){d i m q:Nat}{xs:List PV}{e:TypeId}(hT:T d=.arw i 0 m)(hi:H[i]?=some (.cells xs e))(hq:q≤xs.length):
  jz B n (upd d (.seq m (xs.take q) .any) T) (H.set i .dead) σ w a∧di B H σ w (H.set i .dead) σ w:=by
 obtain⟨s',st⟩:=l9 g.sim hi
 refine⟨⟨s',fun j=>?_,g.size,g.defers⟩,st⟩
 by_cases hj:j=d
 ·subst hj
  rw[dt]
  have h1:=g.rep j
  rw[hT]at h1
  unfold Rep at h1
  obtain⟨_,b,cap,hb,hmc,hv⟩:=h1
  obtain⟨b',vs,fr,hb',hg,_,hp⟩:=g.sim.holds i _ hi
  simp only[cx]at hb hb' hg
  rw[hb]at hb'
  cases hb'
  rw[hv]
  unfold Rep
  refine⟨_,cap,vs.take q,rfl,hmc,(fun h=>by cases h),an.mono st.le (hp.take hq),fun b1 hb1=>.inl ?_,trivial⟩
  cases hb1
  refine⟨rfl,fun j' u hu=>⟨?_,?_⟩⟩
  ·rw[List.getElem?_take]at hu
   split at hu
   ·show w.cell? ⟨b,0+j',none⟩=some u
    rw[Nat.zero_add,fL hg];exact hu
   cases hu
  rintro(h2|⟨k,ok,h2,h3,h4⟩)
  ·exact g.sim.sep i b _ hi rfl hb _ h2
  have hlk:ok.live=true:=by cases ok<;>first|rfl|cases h4
  by_cases hki:k=i
  ·subst hki
   rw[List.getElem?_set_self (cn hi)]at h2;cases h2;cases h4
  rw[List.getElem?_set_ne (Ne.symm hki)]at h2
  exact hki (g.sim.inj k i b _ _ h2 hi hlk rfl h3 hb)
 rw[cp _ _ _ _ hj];exact(g.rep j).mono st.le
theorem kf{l:List Oper}(d i m q:Nat){xs:List PV}{e:TypeId}(hT:T d=.arw i 0 m)(hi:H[i]?=some (.cells xs e))(hq:q≤xs.length)(h1:WO P B n all l (upd d (.seq m (xs.take q) .any) T) (H.set i .dead) K):WO P B n all l T H K:=by
 intro hall σ w a g
 obtain⟨g',st⟩:=AX g hT hi hq
 exact eR (fun _ _ _ h=>gS st (fun _ _ _ h=>h) h) _ _ _ (h1 hall σ w a g')
def JB(G:List (Nat×TD))(T:Nat→PV)(H:List Ob):ResultVar→Option PV
 | .tmp t=>some (T t)
 | .cell ad ty=>match jk G ty with
  | some d=>match T ad with
   | .ptr i off=>match H[i]? with
    | some (.cells xs _)=>mu d xs off
    | _=>none
   | _=>none
  | none=>none
def m6(G:List (Nat×TD))(T:Nat→PV)(H:List Ob):List ResultVar→Option (List PV)
 | []=>some []
 | r::rs=>match JB G T H r with
  | some x=>match m6 G T H rs with
   | some xs=>some (x::xs)
   | none=>none
  | none=>none
def mi(G:List (Nat×TD))(T:Nat→PV)(H:List Ob):List ResultVar→Option PV
 | [r]=>JB G T H r
 | rs=>match m6 G T H rs with
  | some xs=>some (.tup xs)
  | none=>none
theorem Pt{G:List (Nat×TD)}(hG:cP P G=true){σ:Nat→Option Nat}{w:World}{a:Act}{n:Nat}(g:jz B n T H σ w a){r:ResultVar}{x:PV}(h:JB G T H r=some x):
  ∃v,((match r with|.tmp t=>pure (a.tmps.getD t undef)|.cell ad t=>do loadVar t (←asAddr (a.tmps.getD ad undef)):Sem Value)).run P w=.ok v w∧Rep (cx B H σ w) x v:=by
 cases r with
 | tmp t=>simp only[JB,Option.some.injEq]at h;subst h;exact⟨_,rfl,g.rep t⟩
 | cell ad t =>
  unfold JB at h
  split at h
  ·rename_i hd h0
   cases h0
  rename_i ad' ty' h0
  cases h0
  split at h
  ·rename_i d hd
   split at h
   ·rename_i i off hx
    split at h
    ·rename_i xs e hi
     have h1:=g.rep ad
     rw[hx]at h1
     unfold Rep at h1
     obtain⟨_,b,hb,h1⟩:=h1
     obtain⟨b',vs0,fr,hb',hv,_,vs,q,rfl,hrl⟩:=g.sim.holds i _ hi
     simp only[cx]at hb hb' hv
     rw[hb]at hb'
     cases hb'
     obtain⟨v,h2,h3⟩:=il (P:=P) (w:=w) (b:=b) (off:=0) (lO hG hd) hrl (fun j u hj=>by rw[Nat.zero_add,fL hv];exact vi hj) h
     rw[Nat.zero_add]at h2
     exact⟨v,by simp[h1,asAddr,h2],h3⟩
    cases h
   cases h
  cases h
theorem tR{G:List (Nat×TD)}(hG:cP P G=true){σ:Nat→Option Nat}{w:World}{a:Act}{n:Nat}(g:jz B n T H σ w a):∀{rs:List ResultVar} {xs:List PV},m6 G T H rs=some xs →
  ∃vs,(rs.mapM fun r=>(match r with|.tmp t=>pure (a.tmps.getD t undef)|.cell ad t=>do loadVar t (←asAddr (a.tmps.getD ad undef)):Sem Value)).run P w=.ok vs w∧an (cx B H σ w) xs vs
 | [],xs,h=>by simp only[m6,Option.some.injEq]at h;subst h;exact⟨[],rfl,ax.2 rfl⟩
 | r::rs,xs,h=>by
  simp only[m6]at h
  split at h
  ·rename_i x hx
   split at h
   ·rename_i ys hy
    cases h
    obtain⟨v,h1,h2⟩:=Pt hG g hx
    obtain⟨vs,h3,h4⟩:=tR hG g hy
    refine⟨v::vs,?_,am.2 ⟨h2,h4⟩⟩
    rw[List.mapM_cons]
    simp only[Sem.run_bind,h1,Result.andThen_ok,h3,Sem.run_pure]
   cases h
  cases h
theorem qs{G:List (Nat×TD)}(hG:cP P G=true){fn:Func}{rs:List ResultVar}(hr:fn.results=rs.toArray){σ:Nat→Option Nat}{w:World}{a:Act}{n:Nat}(g:jz B n T H σ w a){x:PV}(h:mi G T H rs=some x):
  ∃v,(results fn a.tmps).run P w=.ok v w∧Rep (cx B H σ w) x v:=by
 have gen:∀xs,m6 G T H rs=some xs→∃vs,(fn.results.mapM fun|.tmp t=>pure (a.tmps.getD t undef)|.cell ad t=>do loadVar t (←asAddr (a.tmps.getD ad undef)):Sem (Array Value)).run P w=.ok vs.toArray w∧an (cx B H σ w) xs vs:=by
  intro xs hx
  obtain⟨vs,h1,h2⟩:=tR hG g hx
  refine⟨vs,?_,h2⟩
  rw[hr,List.mapM_toArray,←bind_pure_comp]
  simp only[Sem.run_bind]
  erw [h1]
  rfl
 unfold results
 match rs,h,gen with
 | [r],h,gen =>
  simp only[mi]at h
  obtain⟨vs,h1,h2⟩:=gen [x] (by simp only[m6,h])
  match vs,h2 with
  | [v],h2 =>
   refine⟨v,?_,(am.1 h2).1⟩
   simp only[Sem.run_bind]
   erw [h1]
   simp
  | [],h2=>exact absurd (an.length h2) (by simp)
  | v::v'::vs,h2=>exact absurd (an.length h2) (by simp)
 | [],h,gen =>
  simp only[mi,m6,Option.some.injEq]at h
  subst h
  obtain⟨vs,h1,h2⟩:=gen [] rfl
  rw[ax]at h2
  subst h2
  refine⟨.tuple #[],?_,?_⟩
  ·simp only[Sem.run_bind]
   erw [h1]
   simp
  unfold Rep;exact⟨[],rfl,ax.2 rfl⟩
 | r::r'::rs,h,gen =>
  simp only[mi]at h
  split at h
  ·rename_i xs hx
   cases h
   obtain⟨vs,h1,h2⟩:=gen xs hx
   have hl:2≤xs.length:=by
    simp only[m6]at hx
    split at hx
    ·split at hx
     ·rename_i h8
      split at h8
      ·split at h8
       ·cases h8;cases hx;simp
       cases h8
      cases h8
     cases hx
    cases hx
   refine⟨.tuple vs.toArray,?_,?_⟩
   ·simp only[Sem.run_bind]
    erw [h1]
    have:=an.length h2
    simp only[Result.andThen_ok]
    rw[dif_neg (by simp;omega)]
    rfl
   unfold Rep;exact⟨vs,rfl,h2⟩
  cases h
def Sy(G:List (Nat×TD))(rs:List ResultVar)(res:PV)(H':List Ob):Exit→(Nat→PV)→List Ob→Prop
 | .normal,T,H=>∃x,mi G T H rs=some x∧Imp x res∧H=H'
 | .ret,T,H=>∃x,mi G T H rs=some x∧Imp x res∧H=H'
 | _,_,_=>False
def At(G:List (Nat×TD))(rs:List ResultVar)(res:PV):Exit→(Nat→PV)→List Ob→Prop
 | .normal,T,H=>∃x,mi G T H rs=some x∧Imp x res
 | .ret,T,H=>∃x,mi G T H rs=some x∧Imp x res
 | _,_,_=>False
def F8(G:List (Nat×TD))(rs:List ResultVar)(res:PV)(ys:List PV)(e:TypeId):Exit→(Nat→PV)→List Ob→Prop
 | .normal,T,H=>∃x,mi G T H rs=some x∧Imp x res∧∃zs,H[0]?=some (.cells zs e)∧pN zs ys
 | .ret,T,H=>∃x,mi G T H rs=some x∧Imp x res∧∃zs,H[0]?=some (.cells zs e)∧pN zs ys
 | _,_,_=>False
theorem Ii{G:List (Nat×TD)}(hG:cP P G=true){f:FuncId}{fn:Func}{c:Code}{args:List PV}{res:PV}{H':List Ob}{rs:List ResultVar}(hf:P.funcs[f]?=some fn)(hb:fn.body=some c)(hr:fn.results=rs.toArray)(hn0:Nat.ble args.length fn.ntmps=true)
  (h:∀B,W P B fn.ntmps c (AH args) H (Sy G rs res H')):HC P f args H res H':=by
 intro B σ w vs s ha
 have hn:=Nat.le_of_ble_eq_true hn0
 have hl:=an.length ha
 refine calls_of_wp hf hb (wp_mono (h B σ w {tmps:=vs.toArray++Array.replicate (fn.ntmps-vs.toArray.size) undef,defers:=[]} ⟨s,oO ha _,by simp;omega,rfl⟩) ?_)
 rintro e a' w' ⟨T',H1,σ',h1,h2,h3⟩
 have fin:∀(h4:∃x,mi G T' H1 rs=some x∧Imp x res∧H1=H'),a'.defers=[]∧∃v,(results fn a'.tmps).run P w'=.ok v w'∧∃v' σ',Ending.returned v=Ending.returned v'∧Rep (cx B H' σ' w') res v'∧Sim B H' σ' w'∧di B H σ w H' σ' w':=by
  rintro⟨x,hx,h4,rfl⟩
  obtain⟨v,h5,h6⟩:=qs hG hr h2 hx
  exact⟨h2.defers,v,h5,v,σ',rfl,h4 _ _ h6,h2.sim,h3⟩
 cases e<;>first|exact fin h1|exact False.elim h1
theorem iO{R:List Ob}(hRg:∀o∈R,∃g u,o=.glob g u){G:List (Nat×TD)}(hG:cP P G=true){f:FuncId}{fn:Func}{c:Code}{args:List PV}{res:PV}{rs:List ResultVar}(hf:P.funcs[f]?=some fn)(hb:fn.body=some c)(hr:fn.results=rs.toArray)(hn0:Nat.ble args.length fn.ntmps=true)(ha:aL args)(hres:aQ res)
  (h:∀B,W P B fn.ntmps c (AH args) R (At G rs res)) (H:List Ob) (hRH:∀o∈R,∃k:Nat,H[k]?=some o):HC P f args H res H:=by
 have hn:=Nat.le_of_ble_eq_true hn0
 refine sF hRg ha hres (fun B σ w vs s hv=>?_) H hRH
 have hl:=an.length hv
 refine calls_of_wp hf hb (wp_mono (h B σ w {tmps:=vs.toArray++Array.replicate (fn.ntmps-vs.toArray.size) undef,defers:=[]} ⟨s,oO hv _,by simp;omega,rfl⟩) ?_)
 rintro e a' w' ⟨T',H1,σ',h1,h2,h3⟩
 have fin:∀(h4:∃x,mi G T' H1 rs=some x∧Imp x res),a'.defers=[]∧∃v,(results fn a'.tmps).run P w'=.ok v w'∧∃v' H' σ',Ending.returned v=Ending.returned v'∧Rep (cx B H' σ' w') res v'∧di B R σ w H' σ' w':=by
  rintro⟨x,hx,h4⟩
  obtain⟨v,h5,h6⟩:=qs hG hr h2 hx
  exact⟨h2.defers,v,h5,v,H1,σ',rfl,h4 _ _ h6,h3⟩
 cases e<;>first|exact fin h1|exact False.elim h1
theorem pW{G:List (Nat×TD)}(hG:cP P G=true){f:FuncId}{fn:Func}{c:Code}{args:List PV}{res:PV}{rs:List ResultVar}(hf:P.funcs[f]?=some fn)(hb:fn.body=some c)(hr:fn.results=rs.toArray)(hn0:Nat.ble args.length fn.ntmps=true)(ha:aL args)(hres:aQ res)
  (h:∀B,W P B fn.ntmps c (AH args) [] (At G rs res)):ab P f args res :=
 fun H=>iO (R:=[]) (by simp) hG hf hb hr hn0 ha hres h H (by simp)
def nf2:PV→Option PV
 | .seq n xs _=>some (.seq n xs .any)
 | .agg cs=>match nfl (cs.map wk1)with
  | some ds=>some (.agg ds)
  | none=>none
 | .val v=>some (.val v)
 | .any=>some .any
 | .tup cs=>some (.tup cs)
 | .ptr i off=>some (.ptr i off)
 | .row xs=>some (.row xs)
 | .arr i off n cap=>some (.arr i off n cap)
 | .fn f a b=>some (.fn f a b)
 | .mapv i=>some (.mapv i)
 | .arw i off n=>some (.arw i off n)
 | .smap ks xs=>some (.smap ks xs)
 | .ifc t x=>some (.ifc t x)
def Nf:List PV→Option (List PV)
 | []=>some []
 | x::xs=>match nf2 x with
  | some y=>match Nf xs with
   | some ys=>some (y::ys)
   | none=>none
  | none=>none
def nfR(x:PV):Option PV:=match x with
 | .tup cs=>match Nf cs with
  | some ds=>some (.tup ds)
  | none=>none
 | x=>nf2 x
theorem C6{x y:PV}(h:nf2 x=some y):Imp x y:=by
  cases x<;>simp only[nf2]at h<;>first
    | (injection h with h;subst h;first|exact jB _ _ _|exact Imp.refl _)
    | (split at h
       · rename_i ds hd
         injection h with h
         subst h
         rw[rz hd]
         exact Dq (lQ yL _)
       cases h)
theorem A6:∀{xs ys:List PV},Nf xs=some ys→pN xs ys
 | [],ys,h=>by injection h with h;subst h;trivial
 | x::xs,ys,h=>by
  simp only[Nf]at h
  split at h
  ·rename_i y hy
   split at h
   ·rename_i zs hz
    injection h with h
    subst h
    exact⟨C6 hy,A6 hz⟩
   cases h
  cases h
theorem Ly{x y:PV}(h:nfR x=some y):Imp x y:=by
 unfold nfR at h
 split at h
 ·split at h
  ·rename_i ds hd
   injection h with h
   subst h
   exact M4 (A6 hd)
  cases h
 exact C6 h
def xO(G:List (Nat×TD))(T:Nat→PV)(H:List Ob)(rs:List ResultVar):Option PV:=match mi G T H rs with
 | some x=>nfR x
 | none=>none
theorem oJ{G:List (Nat×TD)}{rs:List ResultVar}{y:PV}(h:xO G T H rs=some y):∃x,mi G T H rs=some x∧Imp x y:=by
 unfold xO at h
 split at h
 ·rename_i x hx;exact⟨x,hx,Ly h⟩
 cases h
theorem lP{G:List (Nat×TD)}{rs:List ResultVar}{x res:PV}(h:xO G T H rs=some x)(h2:x=res):At G rs res .ret T H:=by
 subst h2;exact oJ h
theorem RU{G:List (Nat×TD)}{rs:List ResultVar}{x res:PV}{H':List Ob}(h:xO G T H rs=some x)(h2:x=res)(h3:H=H'):Sy G rs res H' .ret T H:=by
 subst h2;obtain⟨y,h4,h5⟩:=oJ h;exact⟨y,h4,h5,h3⟩
def DZ(H:List Ob)(e:TypeId):Option (List PV):=match (H[0]?:Option Ob)with
 | some (.cells zs e')=>match Nat.beq e' e with
  | true=>nfl (zs.map wk1)
  | false=>none
 | _=>none
theorem Aa{e:TypeId}{ys:List PV}(h:DZ H e=some ys):∃zs,H[0]?=some (.cells zs e)∧pN zs ys:=by
 unfold DZ at h
 split at h
 ·rename_i zs e' h0
  split at h
  ·rename_i he
   rw[Nat.beq_eq]at he
   subst he
   exact⟨zs,h0,by rw[rz h];exact lQ yL _⟩
  cases h
 cases h
theorem bj{G:List (Nat×TD)}{rs:List ResultVar}{x res:PV}{e:TypeId}{zs ys:List PV}(h:xO G T H rs=some x)(h1:DZ H e=some zs)(h2:x=res)(h3:zs=ys):F8 G rs res ys e .ret T H:=by
 subst h2 h3;obtain⟨y,h4,h5⟩:=oJ h;exact⟨y,h4,h5,Aa h1⟩
theorem cd{G:List (Nat×TD)}{rs:List ResultVar}{x res:PV}{e:TypeId}{zs ys:List PV}(h:xO G T H rs=some x)(h1:DZ H e=some zs)(h2:x=res)(h3:zs=ys):F8 G rs res ys e .normal T H:=by
 subst h2 h3;obtain⟨y,h4,h5⟩:=oJ h;exact⟨y,h4,h5,Aa h1⟩
theorem iw{G:List (Nat×TD)}{rs:List ResultVar}{x res:PV}{e:TypeId}{zs ys:List PV}(h:xO G T H rs=some x)(h1:H[0]?=some (.cells zs e))(h2:x=res)(h3:zs=ys):F8 G rs res ys e .ret T H:=by
 subst h2 h3;obtain⟨y,h4,h5⟩:=oJ h;exact⟨y,h4,h5,zs,h1,mj _⟩
theorem bc{G:List (Nat×TD)}{rs:List ResultVar}{x res:PV}{e:TypeId}{zs ys:List PV}(h:xO G T H rs=some x)(h1:H[0]?=some (.cells zs e))(h2:x=res)(h3:zs=ys):F8 G rs res ys e .normal T H:=by
 subst h2 h3;obtain⟨y,h4,h5⟩:=oJ h;exact⟨y,h4,h5,zs,h1,mj _⟩
theorem s5{α:Type}{H:List α}{i j:Nat}{x y:α}(hi:i<H.length)(h:(H.set i x)[j]?=some y):(j=i∧y=x)∨(j≠i∧H[j]?=some y):=by
 by_cases hj:j=i
 ·subst hj;rw[List.getElem?_set_self hi]at h;cases h;exact .inl ⟨rfl,rfl⟩
 rw[List.getElem?_set_ne (Ne.symm hj)]at h;exact .inr ⟨hj,h⟩
theorem rZ{G:List (Nat×TD)}{f:FuncId}{fn:Func}{c:Code}{rest:List PV}{res:PV}{rs:List ResultVar}{off:Nat}{xs ys:List PV}{e:TypeId}{R:List Ob}(hRg:∀o∈R,∃g u,o=.glob g u)(hG:cP P G=true)(hf:P.funcs[f]?=some fn)(hb:fn.body=some c)(hr:fn.results=rs.toArray)(hn0:Nat.ble (rest.length+1) fn.ntmps=true)
  (ha:aL rest) (hres:aQ res) (hxs:aL xs) (hys:aL ys)
  (h:∀B,W P B fn.ntmps c (AH (.ptr 0 off::rest)) (.cells xs e::R) (F8 G rs res ys e)) (H:List Ob) (i:Nat) (hi:H[i]?=some (.cells xs e)) (hRH:∀o∈R,∃k:Nat,H[k]?=some o):HC P f (.ptr i off::rest) H res (H.set i (.cells ys e)):=by
 intro B σ w vs s hv
 have hilt:=cn hi
 match vs,hv with
 | [],hv=>unfold an at hv;obtain⟨u,us,h1,_⟩:=hv;cases h1
 | v0::vs,hv =>
 rw[am]at hv
 obtain⟨hv0,hvr⟩:=hv
 unfold Rep at hv0
 obtain⟨_,b,hσ,rfl⟩:=hv0
 simp only[cx]at hσ
 have hl:(Ob.cells xs e).live=true:=rfl
 have dull:∀{j:Nat} {oj:Ob},(Ob.cells xs e::R)[j+1]?=some oj→oj.live=true→False:=fun h1 h2=>by
  obtain⟨g,u,rfl⟩:=hRg _ (List.mem_of_getElem? (by simpa using h1));cases h2
 let B':Nat→Nat→Prop:=BoW B σ (H.set i .dead)
 let σ0:Nat→Option Nat:=fun k=>if k=0 then some b else none
 have other:∀j oj,(H.set i .dead)[j]?=some oj→oj.live=true→j≠i∧H[j]?=some oj:=by
  intro j oj h1 h2
  rcases s5 hilt h1 with ⟨rfl,rfl⟩|h3
  ·cases h2
  exact h3
 have hB':∀b' off,B' b' off→b'≠b:=by
  rintro b' off (h1|⟨j,oj,h1,h2,h3⟩) rfl
  ·exact s.sep i _ _ hi hl hσ off h1
  have hlj:oj.live=true:=by cases oj<;>first|rfl|cases h3
  obtain⟨h4,h5⟩:=other j oj h1 hlj
  exact h4 (s.inj j i _ _ _ h5 hi hlj hl h2 hσ)
 have wrB:∀b' off,(cx B' (.cells xs e::R) σ0 w).Wr b' off→(cx B H σ w).Wr b' off:=by
  rintro b' off ((h1|⟨j,oj,h1,h2,h3⟩)|⟨j,oj,h1,h2,h3⟩)
  ·exact .inl h1
  ·have hlj:oj.live=true:=by cases oj<;>first|rfl|cases h3
   exact .inr ⟨j,oj,(other j oj h1 hlj).2,h2,h3⟩
  match j,h1,h2 with
  | 0,h1,h2 =>
   simp only[σ0,if_true,Option.some.injEq]at h2
   subst h2
   exact .inr ⟨i,_,hi,hσ,trivial⟩
  | j+1,h1,_=>exact(dull h1 (by cases oj<;>first|rfl|cases h3)).elim
 have s0:Sim B' (.cells xs e::R) σ0 w:=by
  refine⟨?_,?_,?_,?_⟩
  ·intro j k b' oj ok h1 h2 l1 l2 _ _
   match j,k,h1,h2 with
   | 0,0,_,_=>rfl
   | j+1,_,h1,_=>exact(dull h1 l1).elim
   | 0,k+1,_,h2=>exact(dull h2 l2).elim
  ·intro j b' oj h1 l1 h2 off h3
   match j,h1,h2 with
   | 0,_,h2 =>
    simp only[σ0,if_true,Option.some.injEq]at h2
    exact hB' _ _ h3 h2.symm
   | j+1,h1,_=>exact(dull h1 l1).elim
  ·rintro b' off (h1|⟨j,oj,h1,h2,h3⟩)
   ·exact s.base _ _ h1
   have hlj:oj.live=true:=by cases oj<;>first|rfl|cases h3
   exact(s.holds j oj (other j oj h1 hlj).2).lt hlj h2
  intro j oj h1
  match j,h1 with
  | 0,h1 =>
   simp only[List.getElem?_cons_zero,Option.some.injEq]at h1
   subst h1
   obtain⟨b1,vs1,fr,h2,h3,hf,p,q,hpq,h4⟩:=s.holds i _ hi
   simp only[cx]at h2 h3
   rw[hσ]at h2;cases h2
   exact⟨b,vs1,fr,by simp[cx,σ0],h3,hf,p,q,hpq,dj (c:=cx B H σ w) (c':=cx B' (.cells xs e::R) σ0 w) rfl wrB hxs h4⟩
  | j+1,h1 =>
   have hm:=List.mem_of_getElem? (show R[j]?=some oj by simpa using h1)
   obtain⟨g,u,rfl⟩:=hRg _ hm
   obtain⟨k,hk⟩:=hRH _ hm
   obtain⟨q1,q2⟩:=s.holds k _ hk
   exact⟨q1,fun q=>q2 (wrB _ _ q)⟩
 have hr0:an (cx B' (.cells xs e::R) σ0 w) (.ptr 0 off::rest) (.pointer (some ⟨b,off,none⟩)::vs):=by
  refine am.2 ⟨?_,dj (c:=cx B H σ w) (c':=cx B' (.cells xs e::R) σ0 w) rfl wrB ha hvr⟩
  unfold Rep
  exact⟨by simp[cx],b,by simp[cx,σ0],rfl⟩
 have hn:=Nat.le_of_ble_eq_true hn0
 have hvl:=an.length hvr
 refine calls_of_wp hf hb (wp_mono (h B' σ0 w {tmps:=(Value.pointer (some ⟨b,off,none⟩)::vs).toArray++Array.replicate (fn.ntmps-(Value.pointer (some ⟨b,off,none⟩)::vs).toArray.size) undef,defers:=[]} ⟨s0,oO hr0 _,by simp;omega,rfl⟩) ?_)
 rintro e1 a' w' ⟨T',H1,σ',h1,h2,h3⟩
 have fin:∀(h4:∃x,mi G T' H1 rs=some x∧Imp x res∧∃zs,H1[0]?=some (.cells zs e)∧pN zs ys),a'.defers=[]∧∃v,(results fn a'.tmps).run P w'=.ok v w'∧∃v' σ',Ending.returned v=Ending.returned v'∧Rep (cx B (H.set i (.cells ys e)) σ' w') res v'∧Sim B (H.set i (.cells ys e)) σ' w'∧di B H σ w (H.set i (.cells ys e)) σ' w':=by
  rintro⟨x,hx,h4,zs,h5,hzy⟩
  obtain⟨v,h6,h7⟩:=qs hG hr h2 hx
  have hσ':σ' 0=some b:=by have:=h3.le.σ 0 (by simp[cx]);simpa[cx,σ0]using this
  have get:∀j oj,(H.set i (.cells ys e))[j]?=some oj→(j=i∧oj=.cells ys e)∨(j≠i∧H[j]?=some oj):=fun j oj hj=>s5 hilt hj
  have wrN:∀b' off,(cx B (H.set i (.cells ys e)) σ w').Wr b' off→(cx B' H1 σ' w').Wr b' off:=by
   rintro b' off (k1|⟨j,oj,k1,k2,k3⟩)
   ·exact .inl (.inl k1)
   rcases get j oj k1 with ⟨rfl,rfl⟩|⟨k4,k5⟩
   ·rw[hσ]at k2;cases k2
    exact .inr ⟨0,_,h5,hσ',trivial⟩
   exact .inl (.inr ⟨j,oj,by rw[List.getElem?_set_ne (Ne.symm k4)];exact k5,k2,k3⟩)
  have wrO:∀b' off,(cx B (H.set i (.cells ys e)) σ w').Wr b' off→(cx B H σ w).Wr b' off:=by
   rintro b' off (k1|⟨j,oj,k1,k2,k3⟩)
   ·exact .inl k1
   rcases get j oj k1 with ⟨rfl,rfl⟩|⟨k4,k5⟩
   ·exact .inr ⟨_,_,hi,k2,trivial⟩
   exact .inr ⟨j,oj,k5,k2,k3⟩
  have le:(cx B H σ w).Le (cx B (H.set i (.cells ys e)) σ w'):=by
   refine⟨by simp[cx],fun _ _=>rfl,fun b' off u k1 k2=>?_,fun b' es clk k1 k2=>?_,h3.le.shape⟩
   ·have k3:=h3.le.cell b' off u (fun k=>k1 (wrB _ _ k)) k2
    exact⟨k3.1,fun k=>k1 (wrO _ _ k)⟩
   have k3:=h3.le.mapo b' es clk (fun k=>k1 (wrB _ _ k)) k2
   exact⟨k3.1,fun k=>k1 (wrO _ _ k)⟩
  have keep:∀b',b'<w.heap.size→b'≠b→w'.heap[b']?=w.heap[b']?:=by
   intro b' k1 k2
   refine h3.block b' k1 (fun j oj k3 kl k4=>?_)
   match j,k3,k4 with
   | 0,_,k4=>simp only[σ0,if_true,Option.some.injEq]at k4;exact k2 k4.symm
   | j+1,k3,_=>exact(dull k3 kl).elim
  have s':Sim B (H.set i (.cells ys e)) σ w':=by
   refine⟨?_,?_,fun b' off k=>Nat.lt_of_lt_of_le (s.base b' off k) h3.size,?_⟩
   ·intro j k b' oj ok k1 k2 l1 l2 e1 e2
    rcases get j oj k1 with ⟨rfl,rfl⟩|⟨_,k3⟩<;>rcases get k ok k2 with ⟨rfl,rfl⟩|⟨_,k4⟩
    ·rfl
    ·exact s.inj _ _ b' _ _ hi k4 rfl l2 e1 e2
    ·exact s.inj _ _ b' _ _ k3 hi l1 rfl e1 e2
    exact s.inj _ _ b' _ _ k3 k4 l1 l2 e1 e2
   ·intro j b' oj k1 l1 e1 off
    rcases get j oj k1 with ⟨rfl,rfl⟩|⟨_,k3⟩
    ·exact s.sep _ b' _ hi rfl e1 off
    exact s.sep _ b' _ k3 l1 e1 off
   intro j oj k1
   rcases get j oj k1 with ⟨rfl,rfl⟩|⟨hj,k3⟩
   ·obtain⟨b1,vs1,fr,k4,k5,hf,p,q,hpq,k6⟩:=h2.sim.holds 0 _ h5
    simp only[cx]at k4 k5
    rw[hσ']at k4;cases k4
    exact⟨b,vs1,fr,hσ,k5,hf,p,q,hpq,dj (c:=cx B' H1 σ' w') (c':=cx B (H.set j (.cells ys e)) σ w') rfl wrN hys (nP hzy k6)⟩
   have k:=s.holds j oj k3
   cases oj with
   | cells zs t =>
    obtain⟨x,ws,fr,k5,k6,hf,k7⟩:=k
    have hx:x≠b:=fun hx=>hj (s.inj j i b _ _ k3 hi rfl rfl (hx▸k5) hσ)
    exact⟨x,ws,fr,k5,(keep x (Array.getElem?_eq_some_iff.1 k6).1 hx).trans k6,hf,k7.mono le⟩
   | free m =>
    intro x hx
    obtain⟨cs,t,k5,k6⟩:=k x hx
    have hne:x≠b:=fun h=>hj (s.inj j i b _ _ k3 hi rfl rfl (h▸hx) hσ)
    exact⟨cs,t,(keep x (Array.getElem?_eq_some_iff.1 k5).1 hne).trans k5,k6⟩
   | dead=>trivial
   | glob g u=>obtain⟨q1,q2⟩:=k;exact le.cell g 0 u q2 q1
   | iter s2 pos =>
    obtain⟨x,k5,k6⟩:=k
    have hx:x≠b:=fun hx=>hj (s.inj j i b _ _ k3 hi rfl rfl (hx▸k5) hσ)
    exact⟨x,k5,(keep x (Array.getElem?_eq_some_iff.1 k6).1 hx).trans k6⟩
   | smap ks ms =>
    obtain⟨x,es,clk,k5,k6,k7,k8⟩:=k
    have hx:x≠b:=fun hx=>hj (s.inj j i b _ _ k3 hi rfl rfl (hx▸k5) hσ)
    exact⟨x,es,clk,k5,(keep x (Array.getElem?_eq_some_iff.1 k6).1 hx).trans k6,k7,an.mono le k8⟩
  refine⟨h2.defers,v,h6,v,σ,rfl,?_,s',⟨le,h3.os,h3.tape,h3.output,h3.size,?_,?_⟩⟩
  ·exact kx (c:=cx B' H1 σ' w') (c':=cx B (H.set i (.cells ys e)) σ w') rfl wrN hres (h4 _ _ h7)
  ·intro j oj b' k1 k2 k3
   rcases get j oj k1 with ⟨rfl,rfl⟩|⟨_,k4⟩
   ·exact .inr ⟨_,_,hi,rfl,k3⟩
   exact .inr ⟨j,oj,k4,k2,k3⟩
  intro b' k1 k2
  exact keep b' k1 (fun k=>k2 i _ hi rfl (k▸hσ))
 cases e1<;>first|exact fin h1|exact False.elim h1
theorem aO{G:List (Nat×TD)}(hG:cP P G=true){f:FuncId}{fn:Func}{c:Code}{rest:List PV}{res:PV}{rs:List ResultVar}{off:Nat}{xs ys:List PV}{e:TypeId}(hf:P.funcs[f]?=some fn)(hb:fn.body=some c)(hr:fn.results=rs.toArray)(hn0:Nat.ble (rest.length+1) fn.ntmps=true)
  (ha:aL rest) (hres:aQ res) (hxs:aL xs) (hys:aL ys)
  (h:∀B,W P B fn.ntmps c (AH (.ptr 0 off::rest)) [.cells xs e] (F8 G rs res ys e)) (H:List Ob) (i:Nat) (hi:H[i]?=some (.cells xs e)):HC P f (.ptr i off::rest) H res (H.set i (.cells ys e)) :=
 rZ (R:=[]) (by simp) hG hf hb hr hn0 ha hres hxs hys h H i hi (by simp)
end
open Go.RowKit
def sq{α:Type}(enc:α→List PV)(l:List α):PV:=.seq l.length (l.flatMap enc) .any
theorem ag{α:Type}(enc:α→List PV)(k:Nat)(hk:∀x,(enc x).length=k):∀l:List α,(l.flatMap enc).length=l.length*k
 | []=>by simp
 | x::l=>by rw[List.flatMap_cons,List.length_append,ag enc k hk l,hk,List.length_cons,Nat.succ_mul,Nat.add_comm]
theorem jf{α:Type}(enc:α→List PV)(k:Nat)(hk:∀x,(enc x).length=k):∀(i:Nat) (l:List α),(l.flatMap enc).drop (i*k)=(l.drop i).flatMap enc
 | 0,l=>by simp
 | i+1,[]=>by simp
 | i+1,x::l=>by
  rw[List.flatMap_cons,List.drop_append,Nat.succ_mul]
  have h1:(enc x).drop (i*k+k)=[]:=by rw[List.drop_eq_nil_iff,hk];omega
  have h2:i*k+k-(enc x).length=i*k:=by rw[hk];omega
  rw[h1,h2,List.nil_append,jf enc k hk i l,List.drop_succ_cons]
theorem j9{α:Type}(enc:α→List PV)(k:Nat)(hk:∀x,(enc x).length=k):∀(i:Nat) (l:List α),(l.flatMap enc).take (i*k)=(l.take i).flatMap enc
 | 0,l=>by simp
 | i+1,[]=>by simp
 | i+1,x::l=>by
  rw[List.flatMap_cons,List.take_append,Nat.succ_mul]
  have h1:(enc x).take (i*k+k)=enc x:=List.take_of_length_le (by rw[hk];omega)
  have h2:i*k+k-(enc x).length=i*k:=by rw[hk];omega
  rw[h1,h2,j9 enc k hk i l,List.take_succ_cons,List.flatMap_cons]
theorem iR{α:Type}(enc:α→List PV)(k:Nat)(hk:∀x,(enc x).length=k)(d:α){l:List α}{i:Nat}(h:i<l.length):Imp (.row ((l.flatMap enc).drop (i*k))) (.row (enc (l.getD i d))):=by
 intro c v hv
 rw[jf enc k hk]at hv
 rw[List.drop_eq_getElem_cons h,List.flatMap_cons]at hv
 have e:l.getD i d=l[i]:=by simp[List.getD,h]
 rw[e]
 unfold Rep at hv ⊢
 obtain⟨b,vs,h1,h2,h3⟩:=hv
 have h4:=h2.take (enc l[i]).length
 rw[List.take_left]at h4
 exact⟨b,_,h1,h4,ou.take h3 _⟩
theorem bM{α:Type}(enc:α→List PV)(k:Nat)(hk:∀x,(enc x).length=k){l:List α}{a b:Nat}{s:SK}(hb:b≤l.length):PV.seq (b-a) (((l.flatMap enc).drop (a*k)).take ((b-a)*k)) s=.seq ((l.take b).drop a).length (((l.take b).drop a).flatMap enc) s:=by
 rw[jf enc k hk,j9 enc k hk,List.length_drop,List.length_take,Nat.min_eq_left hb]
 congr 2
 rw[List.drop_take]
theorem aM{α:Type}(enc:α→List PV){l m:List α}{s:SK}:PV.seq (l.length+m.length) (l.flatMap enc++m.flatMap enc) s=.seq (l++m).length ((l++m).flatMap enc) s:=by
 rw[List.length_append,List.flatMap_append]
theorem He{α:Type}(enc:α→List PV)(x:α){s:SK}:PV.seq (0+1) ([]++enc x) s=.seq [x].length ([x].flatMap enc) s:=by simp
theorem fO{α:Type}{enc:α→List PV}(h:∀x,aL (enc x))(l:List α):aQ (sq enc l):=by
 unfold sq aQ
 refine⟨?_,.inl rfl⟩
 induction l with
 | nil=>rw[List.flatMap_nil];unfold aL;trivial
 | cons x l ih =>
  rw[List.flatMap_cons]
  have app:∀a b:List PV,aL a→aL b→aL (a++b):=by
   intro a b ha hb
   induction a with
   | nil=>exact hb
   | cons y a iha=>unfold aL at ha;rw[List.cons_append];unfold aL;exact⟨ha.1,iha ha.2⟩
  exact app _ _ (h x) ih
theorem aB{α:Type}(enc:α→List PV)(h:∀x,((enc x).all okC)=true):∀l:List α,∀x∈l.flatMap enc,okC x=true:=by
 intro l x hx
 obtain⟨y,_,hy⟩:=List.mem_flatMap.1 hx
 exact List.all_eq_true.1 (h y) x hy
@[simp] theorem Ji (v : Value) : aQ (.val v) := by unfold aQ; trivial
@[simp] theorem Ro (cs : List PV) : aQ (.tup cs) ↔ aL cs := by rw [aQ]
@[simp] theorem SF (cs : List PV) : aQ (.agg cs) ↔ aL cs := by rw [aQ]
@[simp] theorem QW : aL [] := by unfold aL; trivial
@[simp] theorem PL (x : PV) (xs : List PV) : aL (x :: xs) ↔ aQ x ∧ aL xs := by rw [aL]
def af(n:Int):List PV:=[.val (.int .i64 n)]
def av(b:UInt8):List PV:=[.val (.int .u8 (b.toNat:Int))]
abbrev Str:=List UInt8
def str(l:Str):PV:=.val (.string ⟨l.toArray⟩)
def fP(l:Str):List PV:=[str l]
def i64(n:Int):PV:=.val (.int .i64 n)
def boo(b:Bool):PV:=.val (.bool b)
@[simp] theorem Rq (n : Int) : aQ (i64 n) := by unfold i64 aQ; trivial
@[simp] theorem RY (n : Bool) : aQ (boo n) := by unfold boo aQ; trivial
@[simp] theorem IF (n : Str) : aQ (str n) := by unfold str aQ; trivial
@[simp] theorem w8 (n : Int) : aL (af n) := by unfold af aL; exact ⟨by unfold aQ; trivial, by unfold aL; trivial⟩
@[simp] theorem pn (n : UInt8) : aL (av n) := by unfold av aL; exact ⟨by unfold aQ; trivial, by unfold aL; trivial⟩
@[simp] theorem wS (n : Str) : aL (fP n) := by unfold fP aL; exact ⟨IF n, by unfold aL; trivial⟩
@[simp] theorem QQ (l : List Int) : aQ (sq af l) := fO w8 l
@[simp] theorem PK (l : List UInt8) : aQ (sq av l) := fO pn l
@[simp] theorem Q9 (l : List Str) : aQ (sq fP l) := fO wS l
theorem aK(x:Int):IntKind.i64.wrap x=wrap64 x:=IntWalk.i64_left _
theorem wl{a b:ByteArray}(h:a.data.toList=b.data.toList):a=b:=by
 cases a;cases b;simp only at h;congr 1;exact Array.toList_inj.1 h
theorem Eh(a b:Str):PV.val (.bool (kN ⟨a.toArray⟩ ⟨b.toArray⟩))=.val (.bool (decide (a=b))):=by
 rw[HO]
 have:decide ((⟨a.toArray⟩:ByteArray)=⟨b.toArray⟩)=decide (a=b):=by
  rw[Bool.eq_iff_iff];simp[ByteArray.mk.injEq]
 rw[this]
theorem eU(a b:Str):PV.val (.bool (!kN ⟨a.toArray⟩ ⟨b.toArray⟩))=.val (.bool (!decide (a=b))):=by
 have:=Eh a b
 simp only[PV.val.injEq,Value.bool.injEq]at this
 rw[this]
theorem mo(a b:Str):PV.val (.string ((⟨a.toArray⟩:ByteArray)++⟨b.toArray⟩))=str (a++b):=by
 unfold str
 rw[show(⟨a.toArray⟩:ByteArray)++⟨b.toArray⟩=⟨(a++b).toArray⟩ from wl (by rw[ByteArray.data_append];simp)]
theorem Hw(l:Str)(i:Nat):PV.val (.int .u8 (qc ⟨l.toArray⟩ i))=.val (.int .u8 ((l.getD i 0).toNat:Int)):=by
 unfold qc
 simp
theorem gF(l:Str):(⟨l.toArray⟩:ByteArray).size=l.length:=by
 show l.toArray.size=_
 simp
theorem ED(l:Str)(k:Nat):PV.val (.int .u8 (qc ⟨l.toArray⟩ ((k:Int)).toNat))=.val (.int .u8 ((l.getD k 0).toNat:Int)):=Hw l k
theorem iN{α:Type}(enc:α→List PV)(k:Nat)(hk:∀x,(enc x).length=k)(d:α){l:List α}{i:Nat}(h:i<l.length):Imp (.row ((l.flatMap enc).drop (((i:Int)).toNat*k))) (.row (enc (l.getD i d))):=iR enc k hk d h
theorem gE{α:Type}(l:List α)(k:Nat)(d:α)(h:k<l.length):l.take (k+1)=l.take k++[l.getD k d]:=by
 rw[List.take_succ_eq_append_getElem h];simp[List.getD,h]
theorem bk{α:Type}(l:List α)(k:Nat)(h:l.length≤k):l.take k=l:=List.take_of_length_le h
theorem G5{α:Type}(enc:α→List PV)(k:Nat)(hk:∀x,(enc x).length=k){l:List α}{i:Nat}(h:i<l.length)(x:α):cK (l.flatMap enc) (i*k) (enc x)=(l.set i x).flatMap enc:=by
 unfold cK
 rw[j9 enc k hk,hk,←Nat.succ_mul,jf enc k hk]
 rw[List.set_eq_take_append_cons_drop,if_pos h,List.flatMap_append,List.flatMap_cons,List.append_assoc]
theorem nv{l:List UInt8}{i:Nat}(h:i<l.length)(x:UInt8):cK (l.flatMap av) i [.val (.int .u8 (x.toNat:Int))]=(l.set i x).flatMap av:=by
 have:=G5 av 1 (fun _=>rfl) h x
 rw[Nat.mul_one]at this
 exact this
theorem kW(l:Str):PV.val (.int .i64 ((⟨l.toArray⟩:ByteArray).size:Int))=.val (.int .i64 (l.length:Int)):=by rw[gF]
theorem Pz(s:ByteArray):PV.val (.string s)=str s.data.toList:=by unfold str;cases s;simp
theorem JZ(l:List UInt8):strOfNums (l.map fun b=>(b.toNat:Int))=⟨l.toArray⟩:=by
 apply wl
 rw[strOfNums_data]
 simp only[List.map_map]
 induction l with
 | nil=>rfl
 | cons x l ih =>
  simp only[List.map_cons,List.toList_toArray,List.cons.injEq,Function.comp]
  refine⟨?_,by simpa using ih⟩
  rw[←UInt8.toNat_inj,UInt8.toNat_ofNat']
  have:=x.toNat_lt
  omega
theorem kh(l:List UInt8):l.flatMap av=(l.map fun b=>(b.toNat:Int)).map j4:=by
 induction l with
 | nil=>rfl
 | cons x l ih=>rw[List.flatMap_cons,ih];rfl
theorem bI{P:Program}{B:Nat→Nat→Prop}{o:Oper}{T:Nat→PV}{H:List Ob}{src dst e:TypeId}{ds dd de:TD}{x:Operand}{l:List UInt8}{s:SK}(f:ap P src ds)(hs:ds.sh=.slice e)(fe:ap P e de)(he:de.sh=.int .u8)(g:ap P dst dd)(hd:dd.sh=.str)(ho:o.op=.convert src dst x)(hx:opv T x=.seq l.length (l.flatMap av) s):
  br P B o T H (str l) H:=by
 rw[kh]at hx
 have:=pG (B:=B) (H:=H) (s:=s) f hs fe he g hd ho hx (by simp)
 rw[JZ]at this
 exact this
theorem rW(l:Str):PV.seq (⟨l.toArray⟩:ByteArray).size ((⟨l.toArray⟩:ByteArray).data.toList.map fun b=>j4 b.toNat) .any=sq av l:=by
 unfold sq
 rw[gF,kh]
 simp[List.map_map]
section
variable {P : Program} {B : Nat → Nat → Prop} {n : Nat} {T : Nat → PV} {H : List Ob} {o : Oper} {l : List Oper} {x y : PV} {H' : List Ob} {p : Prop} {G : List (Nat × TD)} {all : Array Oper}
theorem br.imp(h:br P B o T H x H')(hi:Imp x y):br P B o T H y H':=by
 intro σ w a s k
 obtain⟨v,w',σ',h1,h2,h3,h4⟩:=h σ w a s k
 exact⟨v,w',σ',h1,hi _ _ h2,h3,h4⟩
theorem gA.imp(h:gA P B o T H x H')(hi:Imp x y):gA P B o T H y H':=by
 intro σ w a s k
 obtain⟨f,args,h1,h2⟩:=h σ w a s k
 refine⟨f,args,h1,Calls.mono h2 ?_⟩
 rintro e w' ⟨v,σ',he,h3,h4⟩
 exact⟨v,σ',he,hi _ _ h3,h4⟩
theorem Wv{K:(Nat→PV)→List Ob→Prop}{d:Option Tmp}(hG:cP P G=true)(hd:nfD n o.dst=some d)(hw:aj all T o=some true)(h:evN G T H o.type o.op=some (x,H',p))(hp:p)(hi:Imp x y)(k:WO P B n all l (al d y T) H' K):WO P B n all (o::l) T H K :=
 Wd hd hw ((ek hG rfl (nd h) hp).imp hi) k
end
open Go.RowKit
def St:List (Nat×PV)→Nat→PV
 | [],_=>.any
 | (i,x)::l,j=>match Nat.beq j i with
  | true=>x
  | false=>St l j
def nm(b:Nat)(is:List Nat)(t:Nat):Nat:=match Nat.blt t b with
 | true=>t
 | false=>is.getD (t-b) 0
def vd(b:Nat)(is:List Nat):PV→PV
 | .ptr i off=>.ptr (nm b is i) off
 | x=>x
def CO(b:Nat)(is:List Nat):PV→PV
 | .ptr i off=>.ptr (nm b is i) off
 | .arr i off n cap=>.arr (nm b is i) off n cap
 | .arw i off n=>.arw (nm b is i) off n
 | .seq n xs (.own t k)=>.seq n xs (.own (nm b is t) k)
 | .fn f a c=>.fn f (a.map (vd b is)) (c.map (vd b is))
 | x=>x
def NL1(N:Nat):PV→Prop
 | .ptr i _=>i<N
 | x=>aQ x
def mS(N:Nat):List PV→Prop
 | []=>True
 | x::xs=>NL1 N x∧mS N xs
def NL(N:Nat):PV→Prop
 | .ptr i _=>i<N
 | .arr i _ _ _=>i<N
 | .arw i _ _=>i<N
 | .seq _ xs (.own t _)=>t<N∧aL xs
 | .fn _ a c=>mS N a∧mS N c
 | x=>aQ x
def NLs(N:Nat):List (Nat×PV)→Prop
 | []=>True
 | (_,x)::l=>NL N x∧NLs N l
def NLo(b:Nat):List Ob→Prop
 | []=>True
 | .cells xs _::l=>mS b xs∧NLo b l
 | .smap _ xs::l=>mS b xs∧NLo b l
 | _::l=>NLo b l
def jX:List Ob→List Ob→Prop
 | _,[]=>True
 | [],_::_=>False
 | o::H,o'::Hb=>(o'=o∨o'=.dead)∧jX H Hb
def ReX(H:List Ob):List Nat→List Ob→Prop
 | [],[]=>True
 | k::is,o::Hx=>H[k]?=some o∧ReX H is Hx
 | _,_=>False
def qj(Hb:List Ob)(b:Nat):List Nat→Prop
 | []=>True
 | k::is=>(b≤k∨Hb[k]?=some .dead)∧qj Hb b is
def Bz(b:Nat)(is:List Nat)(T:Nat→PV):List (Nat×PV)→Prop
 | []=>True
 | (i,x)::l=>Imp (T i) (CO b is x)∧Bz b is T l
def reσ(b:Nat)(is:List Nat)(σ:Nat→Option Nat):Nat→Option Nat:=fun i=>match Nat.blt i b with
 | true=>σ i
 | false=>match is[i-b]? with
  | some k=>σ k
  | none=>none
structure Re (H Hb Hx:List Ob) (is:List Nat):Prop where
 base:jX H Hb
 extra:ReX H is Hx
 nodup:is.Nodup
 moved:qj Hb Hb.length is
 cont:NLo Hb.length (Hb++Hx)
section
variable {P : Program} {B : Nat → Nat → Prop} {T : Nat → PV} {H Hb Hx : List Ob} {is : List Nat} {σ : Nat → Option Nat} {w : World}
theorem jX.get:∀{H Hb:List Ob} (_:jX H Hb) {i:Nat} {o:Ob},Hb[i]?=some o→H[i]?=some o∨o=.dead
 | _,[],_,i,o,h=>by simp at h
 | [],_::_,r,_,_,_=>r.elim
 | x::H,y::Hb,r,0,o,h=>by
  simp at h;subst h
  rcases r.1 with h|h
  ·exact .inl (by simp[h])
  exact .inr h
 | x::H,y::Hb,r,i+1,o,h=>by simpa using jX.get r.2 (by simpa using h)
theorem jX.le:∀{H Hb:List Ob} (_:jX H Hb),Hb.length≤H.length
 | _,[],_=>by simp
 | [],_::_,r=>r.elim
 | x::H,y::Hb,r=>by simpa using jX.le r.2
theorem ReX.len:∀{is:List Nat} {Hx:List Ob} (_:ReX H is Hx),Hx.length=is.length
 | [],[],_=>rfl
 | k::is,o::Hx,r=>by simpa using ReX.len r.2
 | [],_::_,r=>r.elim
 | _::_,[],r=>r.elim
theorem ReX.get:∀{is:List Nat} {Hx:List Ob} (_:ReX H is Hx) {j:Nat} {o:Ob},Hx[j]?=some o→∃k,is[j]?=some k∧H[k]?=some o
 | [],[],_,j,o,h=>by simp at h
 | k::is,x::Hx,r,0,o,h=>by simp at h;subst h;exact⟨k,rfl,r.1⟩
 | k::is,x::Hx,r,j+1,o,h=>by simpa using ReX.get r.2 (by simpa using h)
 | [],_::_,r,_,_,_=>r.elim
 | _::_,[],r,_,_,_=>r.elim
theorem qj.get:∀{is:List Nat} {b:Nat} (_:qj Hb b is) {k:Nat},k∈is→b≤k∨Hb[k]?=some .dead
 | [],_,_,k,h=>by simp at h
 | x::is,b,r,k,h=>by
  rcases List.mem_cons.1 h with rfl|h
  ·exact r.1
  exact qj.get r.2 h
theorem CD{b i:Nat}(h:i<b):reσ b is σ i=σ i:=by unfold reσ;rw[show Nat.blt i b=true from by rw[Nat.blt_eq];exact h]
theorem Hn{b j:Nat}:reσ b is σ (b+j)=match is[j]? with|some k=>σ k|none=>none:=by
 unfold reσ
 rw[show Nat.blt (b+j) b=false from by rw[←Bool.not_eq_true,Nat.blt_eq];omega]
 simp
theorem mM(r:Re H Hb Hx is){i:Nat}{o:Ob}(h:(Hb++Hx)[i]?=some o)(hl:o.live=true):
  ∃k,H[k]?=some o∧reσ Hb.length is σ i=σ k∧((i<Hb.length∧k=i)∨∃j,i=Hb.length+j∧is[j]?=some k):=by
 rcases Nat.lt_or_ge i Hb.length with h1|h1
 ·rw[List.getElem?_append_left h1]at h
  rcases r.base.get h with h2|rfl
  ·exact⟨i,h2,CD h1,.inl ⟨h1,rfl⟩⟩
  cases hl
 obtain⟨j,rfl⟩:∃j,i=Hb.length+j:=⟨i-Hb.length,by omega⟩
 rw[List.getElem?_append_right h1,Nat.add_sub_cancel_left]at h
 obtain⟨k,h2,h3⟩:=r.extra.get h
 exact⟨k,h3,by rw[Hn,h2],.inr ⟨j,rfl,h2⟩⟩
theorem RR(r:Re H Hb Hx is){b' off:Nat}(h:iE (reσ Hb.length is σ) (Hb++Hx) b' off):iE σ H b' off:=by
 obtain⟨i,oi,h1,h2,h3⟩:=h
 have hl:oi.live=true:=by cases oi<;>first|rfl|cases h3
 obtain⟨k,h4,h5,_⟩:=mM (σ:=σ) r h1 hl
 exact⟨k,oi,h4,by rw[←h5];exact h2,h3⟩
theorem pL(r:Re H Hb Hx is):∀b' off,(cx B (Hb++Hx) (reσ Hb.length is σ) w).Wr b' off→(cx B H σ w).Wr b' off
 | _,_,.inl h=>.inl h
 | _,_,.inr h=>.inr (RR r h)
theorem tm(r:Re H Hb Hx is){i:Nat}(hi:i<(Hb++Hx).length):reσ Hb.length is σ i=σ (nm Hb.length is i):=by
 unfold nm
 rcases Nat.lt_or_ge i Hb.length with h1|h1
 ·rw[CD h1,show Nat.blt i Hb.length=true from by rw[Nat.blt_eq];exact h1]
 obtain⟨j,rfl⟩:∃j,i=Hb.length+j:=⟨i-Hb.length,by omega⟩
 rw[Hn,show Nat.blt (Hb.length+j) Hb.length=false from by rw[←Bool.not_eq_true,Nat.blt_eq];omega]
 have hj:j<is.length:=by rw[List.length_append,r.extra.len]at hi;omega
 simp[List.getD,hj]
theorem J8(r:Re H Hb Hx is){x:PV}{v:Value}(hn:NL (Hb++Hx).length x)(h:Rep (cx B H σ w) (CO Hb.length is x) v):Rep (cx B (Hb++Hx) (reσ Hb.length is σ) w) x v:=by
 have flat:∀{x v},aQ x→Rep (cx B H σ w) x v→Rep (cx B (Hb++Hx) (reσ Hb.length is σ) w) x v:=fun hf hr=>kx (c:=cx B H σ w) (c':=cx B (Hb++Hx) (reσ Hb.length is σ) w) rfl (pL r) hf hr
 have ptr:∀{i off v},i<(Hb++Hx).length→Rep (cx B H σ w) (.ptr (nm Hb.length is i) off) v→Rep (cx B (Hb++Hx) (reσ Hb.length is σ) w) (.ptr i off) v:=by
  intro i off v hi hr
  unfold Rep at hr ⊢
  obtain⟨_,b,h1,h2⟩:=hr
  exact⟨hi,b,(tm r hi).trans h1,h2⟩
 have one:∀{x v},NL1 (Hb++Hx).length x→Rep (cx B H σ w) (vd Hb.length is x) v→Rep (cx B (Hb++Hx) (reσ Hb.length is σ) w) x v:=by
  intro x v h1 h2
  cases x<;>first|exact ptr h1 h2|exact flat h1 h2
 have oneL:∀{xs:List PV} {vs:List Value},mS (Hb++Hx).length xs→an (cx B H σ w) (xs.map (vd Hb.length is)) vs→an (cx B (Hb++Hx) (reσ Hb.length is σ) w) xs vs:=by
  intro xs
  induction xs with
  | nil=>intro vs _ h2;rw[List.map_nil,ax]at h2;exact ax.2 h2
  | cons x xs ih =>
   intro vs h1 h2
   cases vs with
   | nil=>rw[List.map_cons]at h2;unfold an at h2;obtain⟨u,us,h3,_⟩:=h2;cases h3
   | cons v vs=>rw[List.map_cons,am]at h2;exact am.2 ⟨one h1.1 h2.1,ih h1.2 h2.2⟩
 cases x with
 | ptr i off=>exact ptr hn h
 | arr i off n cap =>
  unfold CO Rep at h
  unfold Rep
  obtain⟨_,b,h1,h2⟩:=h
  exact⟨hn,b,(tm r hn).trans h1,h2⟩
 | arw i off n =>
  unfold CO Rep at h
  unfold Rep
  obtain⟨_,b,cap,h1,h2⟩:=h
  exact⟨hn,b,cap,(tm r hn).trans h1,h2⟩
 | seq n xs s =>
  cases s with
  | own t k =>
   unfold CO Rep at h
   unfold Rep
   obtain⟨a,cap,vs,h1,h2,h3,h4,h5,h6,h7,h8⟩:=h
   refine⟨a,cap,vs,h1,h2,h3,dj (c:=cx B H σ w) (c':=cx B (Hb++Hx) (reσ Hb.length is σ) w) rfl (pL r) hn.2 h4,fun b hb=>(h5 b hb).imp (fun hl=>⟨hl.1,fun j u hj=>⟨(hl.2 j u hj).1,fun hw=>(hl.2 j u hj).2 (pL r _ _ hw)⟩⟩) id,hn.1,h7,?_⟩
   rcases h8 with h8|⟨b,cs,e,h9,h10,h11⟩
   ·exact .inl h8
   exact .inr ⟨b,cs,e,(tm r hn.1).trans h9,h10,h11⟩
  | any=>exact flat hn h
  | clip=>exact flat hn h
 | fn f a c =>
  unfold CO Rep at h
  unfold Rep
  obtain⟨fs,cs,h1,h2,h3⟩:=h
  exact⟨fs,cs,h1,oneL hn.1 h2,oneL hn.2 h3⟩
 | _=>exact flat hn h
theorem mY:∀{l:List Ob} {b:Nat} (_:NLo b l) {i:Nat} {xs:List PV} {e:TypeId},l[i]?=some (.cells xs e)→mS b xs
 | [],_,_,i,xs,e,h=>by simp at h
 | o::l,b,hn,0,xs,e,h=>by simp at h;subst h;exact hn.1
 | .cells _ _::l,b,hn,i+1,xs,e,h=>mY (l:=l) hn.2 (by simpa using h)
 | .smap _ _::l,b,hn,i+1,xs,e,h=>mY (l:=l) hn.2 (by simpa using h)
 | .iter _ _::l,b,hn,i+1,xs,e,h=>mY (l:=l) hn (by simpa using h)
 | .free _::l,b,hn,i+1,xs,e,h=>mY (l:=l) hn (by simpa using h)
 | .dead::l,b,hn,i+1,xs,e,h=>mY (l:=l) hn (by simpa using h)
 | .glob _ _::l,b,hn,i+1,xs,e,h=>mY (l:=l) hn (by simpa using h)
theorem kF:∀{l:List Ob} {b:Nat} (_:NLo b l) {i:Nat} {ks:List fg} {xs:List PV},l[i]?=some (.smap ks xs)→mS b xs
 | [],_,_,i,xs,e,h=>by simp at h
 | o::l,b,hn,0,xs,e,h=>by simp at h;subst h;exact hn.1
 | .cells _ _::l,b,hn,i+1,xs,e,h=>kF (l:=l) hn.2 (by simpa using h)
 | .smap _ _::l,b,hn,i+1,xs,e,h=>kF (l:=l) hn.2 (by simpa using h)
 | .iter _ _::l,b,hn,i+1,xs,e,h=>kF (l:=l) hn (by simpa using h)
 | .free _::l,b,hn,i+1,xs,e,h=>kF (l:=l) hn (by simpa using h)
 | .dead::l,b,hn,i+1,xs,e,h=>kF (l:=l) hn (by simpa using h)
 | .glob _ _::l,b,hn,i+1,xs,e,h=>kF (l:=l) hn (by simpa using h)
theorem v7{b:Nat}:∀{xs:List PV},mS b xs→xs.map (vd b is)=xs
 | [],_=>rfl
 | x::xs,h=>by
  rw[List.map_cons,v7 h.2]
  congr 1
  have h1:=h.1
  cases x<;>first|rfl|skip
  simp only[NL1]at h1
  simp only[vd,nm]
  rw[show Nat.blt _ b=true from by rw[Nat.blt_eq];exact h1]
theorem Ew(r:Re H Hb Hx is){xs:List PV}{vs:List Value}(hn:mS Hb.length xs)(h:an (cx B H σ w) xs vs):an (cx B (Hb++Hx) (reσ Hb.length is σ) w) xs vs:=by
 have h1:=v7 (is:=is) hn
 have h2:an (cx B H σ w) (xs.map (vd Hb.length is)) vs:=by rw[h1];exact h
 clear h h1
 induction xs generalizing vs with
 | nil=>rw[List.map_nil,ax]at h2;exact ax.2 h2
 | cons x xs ih =>
  cases vs with
  | nil=>rw[List.map_cons]at h2;unfold an at h2;obtain⟨u,us,h3,_⟩:=h2;cases h3
  | cons v vs =>
   rw[List.map_cons,am]at h2
   refine am.2 ⟨?_,ih hn.2 h2.2⟩
   have hx:=hn.1
   cases x<;>first
    | (refine J8 (x:=.ptr _ _) r ?_ h2.1;show _<_;simp only[NL1]at hx;rw[List.length_append];omega)
    | exact kx (c:=cx B H σ w) (c':=cx B (Hb++Hx) (reσ Hb.length is σ) w) rfl (pL r) hx h2.1
theorem CL(r:Re H Hb Hx is)(s:Sim B H σ w):Sim B (Hb++Hx) (reσ Hb.length is σ) w:=by
 refine⟨?_,?_,s.base,?_⟩
 ·intro i j b oi oj h1 h2 l1 l2 e1 e2
  obtain⟨k,g1,g2,g3⟩:=mM (σ:=σ) r h1 l1
  obtain⟨k',g1',g2',g3'⟩:=mM (σ:=σ) r h2 l2
  have hk:=s.inj k k' b oi oj g1 g1' l1 l2 (g2▸e1) (g2'▸e2)
  subst hk
  rcases g3 with ⟨g3,rfl⟩|⟨q,rfl,g3⟩<;>rcases g3' with ⟨g3',rfl⟩|⟨q',rfl,g3'⟩
  ·rfl
  ·rcases r.moved.get (List.mem_of_getElem? g3')with g4|g4
   ·omega
   rw[List.getElem?_append_left g3]at h1;rw[h1]at g4;cases g4;cases l1
  ·rcases r.moved.get (List.mem_of_getElem? g3)with g4|g4
   ·omega
   rw[List.getElem?_append_left g3']at h2;rw[h2]at g4;cases g4;cases l2
  have:q=q':=by
   have hq:=(List.getElem?_eq_some_iff.1 g3).1
   exact(List.getElem?_inj hq r.nodup).1 (g3.trans g3'.symm)
  rw[this]
 ·intro i b oi h1 l1 e1 off
  obtain⟨k,g1,g2,_⟩:=mM (σ:=σ) r h1 l1
  exact s.sep k b oi g1 l1 (g2▸e1) off
 intro i oi h1
 cases oi with
 | dead=>trivial
 | glob g u =>
  have key:∃k:Nat,H[k]?=some (Ob.glob g u):=by
   rcases Nat.lt_or_ge i Hb.length with h2|h2
   ·rw[List.getElem?_append_left h2]at h1
    rcases r.base.get h1 with h3|h3
    ·exact⟨i,h3⟩
    cases h3
   rw[List.getElem?_append_right h2]at h1
   obtain⟨k,_,h3⟩:=r.extra.get h1
   exact⟨k,h3⟩
  obtain⟨k,hk⟩:=key
  obtain⟨q1,q2⟩:=s.holds k _ hk
  exact⟨q1,fun q=>q2 (pL r _ _ q)⟩
 | cells xs e =>
  obtain⟨k,g1,g2,_⟩:=mM (σ:=σ) r h1 rfl
  obtain⟨b,vs,fr,h3,h4,h5,p,q,hpq,h6⟩:=s.holds k _ g1
  exact⟨b,vs,fr,g2.trans h3,h4,h5,p,q,hpq,Ew r (mY r.cont h1) h6⟩
 | iter s2 pos =>
  obtain⟨k,g1,g2,_⟩:=mM (σ:=σ) r h1 rfl
  obtain⟨b,h3,h4⟩:=s.holds k _ g1
  exact⟨b,g2.trans h3,h4⟩
 | smap ks ms =>
  obtain⟨k,g1,g2,_⟩:=mM (σ:=σ) r h1 rfl
  obtain⟨b,es,clk,h3,h4,h5,h6⟩:=s.holds k _ g1
  exact⟨b,es,clk,g2.trans h3,h4,h5,Ew r (kF r.cont h1) h6⟩
 | free m =>
  obtain⟨k,g1,g2,_⟩:=mM (σ:=σ) r h1 rfl
  intro b hb
  exact s.holds k _ g1 b (by show σ k=some b;rw[←g2];exact hb)
theorem yw{H0:List Ob}{σ0:Nat→Option Nat}{w0:World}(r:Re H Hb Hx is)(hb:H0.length=Hb.length)(st:di B H0 σ0 w0 H σ w):di B H0 σ0 w0 (Hb++Hx) (reσ Hb.length is σ) w:=by
 refine⟨⟨by simp[cx];omega,fun i hi=>?_,fun b off u h1 h2=>?_,fun b es clk h1 h2=>?_,st.le.shape⟩,st.os,st.tape,st.output,st.size,fun i oi b h1 h2 h3=>?_,st.block⟩
 ·simp only[cx]at hi ⊢
  rw[CD (by omega)]
  exact st.le.σ i hi
 ·have:=st.le.cell b off u h1 h2
  exact⟨this.1,fun h=>this.2 (pL r _ _ h)⟩
 ·have:=st.le.mapo b es clk h1 h2
  exact⟨this.1,fun h=>this.2 (pL r _ _ h)⟩
 obtain⟨k,g1,g2,_⟩:=mM (σ:=σ) r h1 h2
 exact st.new k oi b g1 h2 (g2▸h3)
theorem xn(r:Re H Hb Hx is){a:Act}(h:LZ (cx B H σ w) T a):∀{l:List (Nat×PV)},Bz Hb.length is T l→NLs (Hb++Hx).length l→LZ (cx B (Hb++Hx) (reσ Hb.length is σ) w) (St l) a
 | [],_,_=>fun i=>by unfold St Rep;trivial
 | (i,x)::l,hs,hn=>fun j=>by
  unfold St
  by_cases hj:j=i
  ·subst hj
   rw[show Nat.beq j j=true from Nat.beq_refl j]
   exact J8 r hn.1 (hs.1 _ _ (h j))
  rw[show Nat.beq j i=false from by rw[←Bool.not_eq_true,Nat.beq_eq];exact hj]
  exact xn r h hs.2 hn.2 j
variable {n : Nat} {Q : Exit → (Nat → PV) → List Ob → Prop}
structure MN (b:Nat) (L:List (Nat×PV)) (Hb Hx:List Ob) (T:Nat→PV) (H:List Ob) (is:List Nat):Prop where
 len:b=Hb.length
 re:Re H Hb Hx is
 sub:Bz Hb.length is T L
 low:NLs (Hb++Hx).length L
theorem bG{α:Type}{c:Code}(L:α→List (Nat×PV))(Hb Hx:α→List Ob)(Inv:α→Prop)(μ:α→Nat)(s0:α)(i0:Inv s0)(is0:List Nat)(h0:MN H.length (L s0) (Hb s0) (Hx s0) T H is0)
  (round:∀s,Inv s→W P B n c (St (L s)) (Hb s++Hx s) (lG (fun T' H'=>∃s' is,Inv s'∧μ s'<μ s∧MN H.length (L s') (Hb s') (Hx s') T' H' is) Q)):W P B n (.loop c) T H Q:=by
 intro σ w a g
 have st0:di B H σ w (Hb s0++Hx s0) (reσ (Hb s0).length is0 σ) w:=yw h0.re h0.len (di.refl B H σ w)
 refine BD (fun m a' w'=>∃s σ',Inv s∧μ s=m∧jz B n (St (L s)) (Hb s++Hx s) σ' w' a'∧di B H σ w (Hb s++Hx s) σ' w') ?_ (μ s0) a w ⟨s0,_,i0,rfl,⟨CL h0.re g.sim,xn h0.re g.rep h0.sub h0.low,g.size,g.defers⟩,st0⟩
 rintro m a' w' ⟨s,σ',hi,rfl,hg,hst⟩
 refine wp_mono (round s hi σ' w' a' hg) ?_
 rintro e a2 w2 ⟨T2,H2,σ2,k1,k2,k3⟩
 have k4:=hst.trans k3
 cases e with
 | normal =>
  obtain⟨s',is,h1,h2,h3⟩:=k1
  exact⟨μ s',h2,s',_,h1,rfl,⟨CL h3.re k2.sim,xn h3.re k2.rep h3.sub h3.low,k2.size,k2.defers⟩,yw h3.re h3.len k4⟩
 | exit id=>exact⟨T2,H2,σ2,k1,k2,k4⟩
 | goto l=>exact⟨T2,H2,σ2,k1,k2,k4⟩
 | ret=>exact⟨T2,H2,σ2,k1,k2,k4⟩
 | panic c=>exact⟨T2,H2,σ2,k1,k2,k4⟩
 | outgrown=>exact⟨T2,H2,σ2,k1,k2,k4⟩
theorem Cw:jX H []:=by cases H<;>exact trivial
theorem rB{o o':Ob}(h:o'=o∨o'=.dead)(k:jX H Hb):jX (o::H) (o'::Hb):=⟨h,k⟩
theorem M8:ReX H [] []:=trivial
theorem rX{k:Nat}{o:Ob}(h:H[k]?=some o)(r:ReX H is Hx):ReX H (k::is) (o::Hx):=⟨h,r⟩
theorem Gv{b:Nat}:qj Hb b []:=trivial
theorem mC{b k:Nat}(h:b≤k∨Hb[k]?=some .dead)(r:qj Hb b is):qj Hb b (k::is):=⟨h,r⟩
theorem Dh{b:Nat}:NLo b []:=trivial
theorem ER{b:Nat}{xs:List PV}{e:TypeId}{l:List Ob}(h:mS b xs)(k:NLo b l):NLo b (.cells xs e::l):=⟨h,k⟩
theorem JY{b:Nat}{ks:List fg}{xs:List PV}{l:List Ob}(h:mS b xs)(k:NLo b l):NLo b (.smap ks xs::l):=⟨h,k⟩
theorem nO{b m:Nat}{l:List Ob}(k:NLo b l):NLo b (.free m::l):=k
theorem Iv{b:Nat}{l:List Ob}(k:NLo b l):NLo b (.dead::l):=k
theorem bo{b:Nat}:Bz b is T []:=trivial
theorem aX{b i:Nat}{x:PV}{l:List (Nat×PV)}(h:Imp (T i) (CO b is x))(k:Bz b is T l):Bz b is T ((i,x)::l):=⟨h,k⟩
theorem Lv{N:Nat}:NLs N []:=trivial
theorem Ik{N i:Nat}{x:PV}{l:List (Nat×PV)}(h:NL N x)(k:NLs N l):NLs N ((i,x)::l):=⟨h,k⟩
theorem bu{b:Nat}{L:List (Nat×PV)}(sub:Bz Hb.length is T L:=by repeat (first|exact bo|refine aX (by first|exact aH rfl|exact jB _ _ _|exact aH (congrArg i64 (by first|(rw[aK];unfold wrap64;omega)|omega|(simp;done)))) ?_))(len:b=Hb.length:=by exact rfl)
  (base:jX H Hb:=by repeat (first|exact Cw|refine rB (.inl rfl) ?_|refine rB (.inr rfl) ?_)) (extra:ReX H is Hx:=by repeat (first|exact M8|refine rX rfl ?_|refine rX (by refine congrArg (fun q=>some (Ob.free q)) ?_;simp<;>omega) ?_)) (nodup:is.Nodup:=by decide)
  (moved:qj Hb Hb.length is:=by repeat (first|exact Gv|refine mC (.inl (Nat.le_of_ble_eq_true rfl)) ?_|refine mC (.inr rfl) ?_))
  (cont:NLo Hb.length (Hb++Hx):=by repeat (first|exact Dh|exact nO Dh|refine ER (by first|(refine ki ?_;simp;done)|(refine ki (bW ?_ _);intro x;simp;done)|(simp[mS,NL1];done)) ?_|refine nO ?_|refine Iv ?_|refine JQ ?_|refine JY (by first|(refine ki ?_;simp;done)|(refine ki (bW ?_ _);intro x;simp;done)|(simp[mS,NL1];done)) ?_))
  (low:NLs (Hb++Hx).length L:=by repeat (first|exact Lv|refine Ik (by first|(refine NA ?_;simp;done)|(show _<_;first|decide|(simp;done))|(refine⟨?_,bW ?_ _⟩<;>first|decide|(intro x;simp;done)|(simp;done))|(refine⟨?_,?_⟩<;>first|decide|(simp;done))|(simp[NL,mS,NL1];done)) ?_)):MN b L Hb Hx T H is :=
 ⟨len,⟨base,extra,nodup,moved,cont⟩,sub,low⟩
theorem Ae{N:Nat}{x:PV}(h:aQ x):NL1 N x:=by cases x<;>first|exact h|(unfold aQ at h;exact h.elim)
theorem NA{N:Nat}{x:PV}(h:aQ x):NL N x:=by
 cases x<;>first|exact h|skip
 ·unfold aQ at h;exact h.elim
 ·rename_i n xs s
  cases s<;>first|exact h|(unfold aQ at h;rcases h.2 with h|h<;>cases h)
 ·unfold aQ at h;exact h.elim
 ·rename_i f a b
  unfold aQ at h
  have one:∀l:List PV,aL l→mS N l:=by
   intro l
   induction l with
   | nil=>intro _;exact trivial
   | cons x l ih=>intro hl;unfold aL at hl;exact⟨Ae hl.1,ih hl.2⟩
  exact⟨one _ h.1,one _ h.2⟩
 unfold aQ at h;exact h.elim
theorem ki{N:Nat}:∀{l:List PV},aL l→mS N l
 | [],_=>trivial
 | x::l,h=>by unfold aL at h;exact⟨Ae h.1,ki h.2⟩
theorem bW{α:Type}{enc:α→List PV}(h:∀x,aL (enc x))(l:List α):aL (l.flatMap enc):=by
 have:=fO h l
 unfold sq at this
 unfold aQ at this
 exact this.1
theorem nt{x y:Code}(L:List (Nat×PV))(Hb Hx:List Ob)(hx:W P B n x T H (lG (fun T1 H1=>∃is,MN H.length L Hb Hx T1 H1 is) Q))(hy:W P B n y (St L) (Hb++Hx) Q):W P B n (x.seq y) T H Q:=by
 intro σ w a g
 refine wp_seq (wp_mono (hx σ w a g) ?_)
 rintro e a' w' ⟨T',H',σ',h1,h2,h3⟩
 cases e with
 | normal =>
  obtain⟨is,hf⟩:=h1
  exact wp_mono (hy _ w' a' ⟨CL hf.re h2.sim,xn hf.re h2.rep hf.sub hf.low,h2.size,h2.defers⟩) fun _ _ _ k=>gS (yw hf.re hf.len h3) (fun _ _ _ h=>h) k
 | exit id=>exact⟨T',H',σ',h1,h2,h3⟩
 | goto l=>exact⟨T',H',σ',h1,h2,h3⟩
 | ret=>exact⟨T',H',σ',h1,h2,h3⟩
 | panic c=>exact⟨T',H',σ',h1,h2,h3⟩
 | outgrown=>exact⟨T',H',σ',h1,h2,h3⟩
end
open Go.RowKit
def fg.like:fg→fg→Bool
 | .s _,.s _=>true
 | .n _,.n _=>true
 | _,_=>false
def fg.kind:fg→TypeDesc
 | .s _=>.string
 | .n _=>.int .i64
def Ed:fg→PV
 | .s k=>.val (.string ⟨k.toArray⟩)
 | .n i=>.val (.int .i64 i)
def Du(P:Program)(t e:TypeId)(key:fg):Bool:=match P.underlying t with
 | some (.map k e')=>match P.underlying k,key with
  | some .string,.s _=>Nat.beq e' e
  | some (.int .i64),.n _=>Nat.beq e' e
  | _,_=>false
 | _=>false
theorem tQ{P:Program}{t e:TypeId}{key:fg}(h:Du P t e key=true):∃k,P.underlying t=some (.map k e)∧P.underlying k=some key.kind:=by
 unfold Du at h
 split at h
 ·rename_i k e' h1
  split at h
  ·rename_i h2
   rw[Nat.beq_eq]at h;subst h
   exact⟨k,h1,h2⟩
  ·rename_i h2
   rw[Nat.beq_eq]at h;subst h
   exact⟨k,h1,h2⟩
  cases h
 cases h
def ii:List fg→List PV→fg→PV→PV×Bool
 | k::ks,x::xs,key,z=>if k=key then(x,true)else ii ks xs key z
 | _,_,_,z=>(z,false)
theorem AY{k key:fg}(h:key.like k=true):Instr.sameNow key.kind (kR key) (kR k)=some (decide (k=key)):=by
 cases key<;>cases k<;>cases h
 ·rename_i a b
  simp only[fg.kind,kR,Instr.sameNow,Option.some.injEq,fg.s.injEq]
  by_cases hab:b=a
  ·subst hab
   have:((⟨b.toArray⟩:ByteArray)==⟨b.toArray⟩)=true:=by show(b.toArray==b.toArray)=true;simp
   simp[this]
  have:((⟨a.toArray⟩:ByteArray)==⟨b.toArray⟩)=false:=by
   show(a.toArray==b.toArray)=false
   rw[beq_eq_false_iff_ne]
   intro he
   exact hab (by simpa using he.symm)
  simp[hab,this]
 rename_i a b
 simp only[fg.kind,kR,Instr.sameNow,if_true,Option.some.injEq,fg.n.injEq]
 by_cases hab:b=a
 ·subst hab;simp
 have:¬a=b:=fun h=>hab h.symm
 simp[hab,this]
def Hk(P:Program)(e:TypeId)(agg:Bool):Bool:=match (P.info? e).bind (·.zero)with
 | some (.agg _)=>agg
 | some _=>!agg
 | none=>false
def IN(d:TD):Option PV:=match d.agg with
 | true=>some (.agg d.zero)
 | false=>d.zero[0]?
section
variable {P : Program} {B : Nat → Nat → Prop} {n : Nat} {o : Oper} {T : Nat → PV} {H : List Ob} {G : List (Nat × TD)} {all : Array Oper} {K : (Nat → PV) → List Ob → Prop} {Q : Exit → (Nat → PV) → List Ob → Prop}
theorem dg{t:TypeId}(ho:o.op=.makeMap t none):br P B o T H (.mapv H.length) (H++[.smap [] []]):=by
 intro σ w a s h
 have gr:bg w (w.alloc (.map #[] 0)):=bg.alloc _ _
 obtain⟨s',st⟩:=fp s gr (.smap [] []) (some w.heap.size) (fun b hb=>by cases hb;exact Nat.le_refl _) ⟨w.heap.size,#[],0,by simp only[cx];rw[bF],by show(w.heap.push _)[w.heap.size]?=_;simp,rfl,ax.2 rfl⟩
 refine⟨.map (some w.heap.size),_,_,.inl ?_,?_,s',st⟩
 ·simp[execOp,ho,run_makeMap]
 unfold Rep;exact⟨by simp[cx],w.heap.size,by simp only[cx];rw[bF],rfl⟩
theorem yq{ks:List fg}{key:fg}:∀{es:List MapEntry} {i:Nat},es.map (·.key)=ks.map kR→ks.all key.like=true→key∉ks→Instr.findNow key.kind (kR key) es i=some none:=by
 induction ks with
 | nil=>intro es i h _ _;cases es with
  | nil=>rfl
  | cons e es=>simp at h
 | cons k ks ih =>
  intro es i h hl hn
  cases es with
  | nil=>simp at h
  | cons e es =>
   simp only[List.map_cons,List.cons.injEq]at h
   simp only[List.all_cons,Bool.and_eq_true]at hl
   have h1:Instr.sameNow key.kind (kR key) e.key=some false:=by
    rw[h.1,AY hl.1]
    simp only[Option.some.injEq,decide_eq_false_iff_not]
    rintro rfl;exact hn (by simp)
   simp only[Instr.findNow,h1]
   exact ih h.2 hl.2 (fun hk=>hn (List.mem_cons_of_mem _ hk))
theorem tw{c:Cx}{key:fg}{z:PV}:∀{ks:List fg} {xs:List PV} {es:List MapEntry} {i:Nat},es.map (·.key)=ks.map kR→ks.all key.like=true→an c xs (es.map (·.val)) →
  (∃j v,Instr.findNow key.kind (kR key) es i=some (some (j,v))∧(ii ks xs key z).2=true∧Rep c (ii ks xs key z).1 v)∨(Instr.findNow key.kind (kR key) es i=some none∧ii ks xs key z=(z,false))
 | [],xs,es,i,h1,_,h2=>by
  cases es with
  | nil=>exact .inr ⟨rfl,by unfold ii;rfl⟩
  | cons e es=>simp at h1
 | k::ks,xs,[],i,h1,_,h2=>by simp at h1
 | k::ks,[],e::es,i,h1,_,h2=>by rw[List.map_cons]at h2;rw[ax]at h2;cases h2
 | k::ks,x::xs,e::es,i,h1,hl,h2=>by
  simp only[List.map_cons,List.cons.injEq]at h1
  simp only[List.all_cons,Bool.and_eq_true]at hl
  rw[List.map_cons,am]at h2
  have hs:Instr.sameNow key.kind (kR key) e.key=some (decide (k=key)):=by rw[h1.1];exact AY hl.1
  by_cases hk:k=key
  ·refine .inl ⟨i,e.val,?_,by simp[ii,hk],by simpa[ii,hk]using h2.1⟩
   rw[decide_eq_true hk]at hs
   simp only[Instr.findNow,hs]
  rw[decide_eq_false hk]at hs
  have e1:Instr.findNow key.kind (kR key) (e::es) i=Instr.findNow key.kind (kR key) es (i+1):=by
   simp only[Instr.findNow,hs]
  rw[e1]
  simp only[ii,if_neg hk]
  exact tw h1.2 hl.2 h2.2
theorem vQ(n:Nat)(key:fg){kt:TypeId}(h:P.underlying kt=some key.kind)(b:Bool)(w:World):(Instr.checkKey b (n+1) kt (kR key)).run P w=.ok () w:=by
 cases key<;>simp[Instr.checkKey,run_underlying h,fg.kind,kR]
theorem mV(key:fg){kt:TypeId}(h:P.underlying kt=some key.kind)(b:Bool)(w:World):(Instr.checkKey b 10000 kt (kR key)).run P w=.ok () w:=vQ 9999 key h b w
theorem Lt{σ:Nat→Option Nat}{w:World}(s:Sim B H σ w){i b:Nat}{ks ks':List fg}{xs xs':List PV}(hi:H[i]?=some (.smap ks xs))(hb:σ i=some b){es es':Array MapEntry}{clk clk':Nat}(hv:w.heap[b]?=some (Obj.map es clk))
  (hk:es'.toList.map (·.key)=ks'.map kR) (hr:an (cx B H σ w) xs' (es'.toList.map (·.val))) :
  Sim B (H.set i (.smap ks' xs')) σ {w with heap:=w.heap.setIfInBounds b (.map es' clk')}∧di B H σ w (H.set i (.smap ks' xs')) σ {w with heap:=w.heap.setIfInBounds b (.map es' clk')}:=by
 have hlen:=cn hi
 have hbl:=(Array.getElem?_eq_some_iff.1 hv).1
 have other:∀x,x≠b→(w.heap.setIfInBounds b (.map es' clk'))[x]?=w.heap[x]?:=fun x hx=>Array.getElem?_setIfInBounds_ne (Ne.symm hx)
 have same:(w.heap.setIfInBounds b (.map es' clk'))[b]?=some (.map es' clk'):=by simp[hbl]
 have get:∀j o,(H.set i (.smap ks' xs'))[j]?=some o→(j=i∧o=.smap ks' xs')∨(j≠i∧H[j]?=some o):=fun j o h=>s5 hlen h
 have own:∀x off,iE σ (H.set i (.smap ks' xs')) x off→iE σ H x off:=by
  rintro x off ⟨j,o,h1,h2,h3⟩
  rcases get j o h1 with ⟨rfl,rfl⟩|⟨_,h4⟩
  ·exact⟨j,_,hi,h2,trivial⟩
  exact⟨j,o,h4,h2,h3⟩
 have wr:∀off,iE σ H b off:=fun off=>⟨i,_,hi,hb,trivial⟩
 have le:(cx B H σ w).Le (cx B (H.set i (.smap ks' xs')) σ {w with heap:=w.heap.setIfInBounds b (.map es' clk')}):=by
  refine⟨by simp[cx],fun _ _=>rfl,fun x off u h1 h2=>⟨?_,fun h=>h1 (h.imp id (own x off))⟩,fun x e2 c2 h1 h2=>⟨?_,fun h=>h1 (h.imp id (own x 0))⟩,fun x cs t fr h1=>⟨cs,?_,rfl⟩⟩
  ·have hx:x≠b:=fun hx=>h1 (.inr (hx▸wr off))
   exact(World.cell?_of_block (w:=w) (w':={w with heap:=w.heap.setIfInBounds b (.map es' clk')}) (a:=⟨x,off,none⟩) (other x hx)).trans h2
  ·have hx:x≠b:=fun hx=>h1 (.inr (hx▸wr 0))
   exact(other x hx).trans h2
  have hx:x≠b:=by rintro rfl;simp only[cx]at h1;rw[hv]at h1;cases h1
  exact(other x hx).trans h1
 refine⟨⟨?_,?_,fun x off h=>by simpa using s.base x off h,?_⟩,⟨le,rfl,rfl,rfl,by simp,?_,?_⟩⟩
 ·intro j k x oj ok h1 h2 l1 l2 e1 e2
  rcases get j oj h1 with ⟨rfl,rfl⟩|⟨_,h3⟩<;>rcases get k ok h2 with ⟨rfl,rfl⟩|⟨_,h4⟩
  ·rfl
  ·exact s.inj _ _ x _ _ hi h4 rfl l2 e1 e2
  ·exact s.inj _ _ x _ _ h3 hi l1 rfl e1 e2
  exact s.inj _ _ x _ _ h3 h4 l1 l2 e1 e2
 ·intro j x oj h1 l1 e1 off
  rcases get j oj h1 with ⟨rfl,rfl⟩|⟨_,h3⟩
  ·exact s.sep _ x _ hi rfl e1 off
  exact s.sep _ x _ h3 l1 e1 off
 ·intro j oj h1
  rcases get j oj h1 with ⟨rfl,rfl⟩|⟨hj,h3⟩
  ·exact⟨b,es',clk',hb,same,hk,an.mono le hr⟩
  have k:=s.holds j oj h3
  cases oj with
  | cells zs t =>
   obtain⟨x,ws,fr',h5,h6,hf,h7⟩:=k
   have hx:x≠b:=fun hx=>hj (s.inj j i b _ _ h3 hi rfl rfl (hx▸h5) hb)
   exact⟨x,ws,fr',h5,(other x hx).trans h6,hf,h7.mono le⟩
  | iter s2 pos =>
   obtain⟨x,h5,h6⟩:=k
   have hx:x≠b:=fun hx=>hj (s.inj j i b _ _ h3 hi rfl rfl (hx▸h5) hb)
   exact⟨x,h5,(other x hx).trans h6⟩
  | smap ks2 ms =>
   obtain⟨x,e2,c2,h5,h6,h7,h8⟩:=k
   have hx:x≠b:=fun hx=>hj (s.inj j i b _ _ h3 hi rfl rfl (hx▸h5) hb)
   exact⟨x,e2,c2,h5,(other x hx).trans h6,h7,an.mono le h8⟩
  | free m =>
   intro x hx
   obtain⟨cs,t,h5,h6⟩:=k x hx
   have hne:x≠b:=fun h=>hj (s.inj j i b _ _ h3 hi rfl rfl (h▸hx) hb)
   exact⟨cs,t,(other x hne).trans h5,h6⟩
  | dead=>trivial
  | glob g u=>obtain⟨q1,q2⟩:=k;exact le.cell g 0 u q2 q1
 ·intro j oj x h1 h2 h3
  rcases get j oj h1 with ⟨rfl,rfl⟩|⟨_,h4⟩
  ·exact .inr ⟨_,_,hi,rfl,h3⟩
  exact .inr ⟨j,oj,h4,h2,h3⟩
 intro x hx hn
 exact other x (fun h=>hn i _ hi rfl (h▸hb))
theorem dI{t e:TypeId}{m k x:Operand}{i:Nat}{ks:List fg}{xs:List PV}{key:fg}(ht:Du P t e key=true)(ho:o.op=.insert t m k x)(hm:opv T m=.mapv i)(hi:H[i]?=some (.smap ks xs))(hk:opv T k=Ed key)(hn:(ks.all key.like&&!(ks.contains key))=true):
  br P B o T H (.val undef) (H.set i (.smap (ks++[key]) (xs++[opv T x]))):=by
 intro σ w a s h
 obtain⟨kt,h1,h2⟩:=tQ ht
 have k1:=h m (by simp[ho,Op.operands])
 have k2:=h k (by simp[ho,Op.operands])
 have k3:=h x (by simp[ho,Op.operands])
 rw[hm]at k1
 rw[hk]at k2
 unfold Rep at k1
 have k2:a.eval k=kR key:=by cases key<;>(unfold Ed Rep at k2;exact k2)
 obtain⟨_,b,hb,hv⟩:=k1
 obtain⟨b',es,clk,hb',hg,hks,hxs⟩:=s.holds i _ hi
 simp only[cx]at hb hb' hg
 rw[hb]at hb'
 cases hb'
 simp only[Bool.and_eq_true,Bool.not_eq_true',List.contains_eq_mem,decide_eq_false_iff_not]at hn
 have hf:=yq (i:=0) hks hn.1 hn.2
 obtain⟨s',st⟩:=Lt s (es':=es.push {key:=kR key,val:=a.eval x,born:=clk}) (clk':=clk+1) hi hb hg (ks':=ks++[key]) (xs':=xs++[opv T x]) (by simp[hks]) (by
  rw[Array.toList_push,List.map_append]
  exact hxs.append (am.2 ⟨k3,ax.2 rfl⟩))
 refine⟨undef,_,σ,.inr ⟨?_,rfl⟩,aD _ _,s',st⟩
 simp only[execOp,ho,hv,k2]
 simp[Instr.mapUpdate,run_underlying h1,mV key h2,run_underlying h2,Instr.findKey,hf,getObj,setObj,Sem.run,hg]
theorem bi{t e:TypeId}{de:TD}{m k:Operand}{b:Bool}{ks:List fg}{xs:List PV}{key:fg}{z y:PV}{q:Bool}(ht:Du P t e key=true)(fe:ap P e de)(hzo:Hk P e de.agg=true)(hz:IN de=some z)(ho:o.op=.lookup t m k b)(hm:opv T m=.smap ks xs)(hk:opv T k=Ed key)(hkl:ks.all key.like=true)(hl:ii ks xs key z=(y,q)):
  br P B o T H (match b with|true=>.tup [y,.val (.bool q)]|false=>y) H :=
 aI fun σ w a s h=>by
  obtain⟨kt,h1,h2⟩:=tQ ht
  have k1:=h m (by simp[ho,Op.operands])
  have k2:=h k (by simp[ho,Op.operands])
  rw[hm]at k1
  rw[hk]at k2
  unfold Rep at k1
  have k2:a.eval k=kR key:=by cases key<;>(unfold Ed Rep at k2;exact k2)
  obtain⟨r,es,clk,hv,hg,_,hks,hxs⟩:=k1
  simp only[cx]at hg
  obtain⟨i,zv,hi,_,_,hzv,hzr⟩:=fe.info
  have zrep:Rep (cx B H σ w) z zv:=by
   have hz1:=hzr (cx B H σ w)
   have hz2:(P.info? e).bind (·.zero)=some zv:=by rw[hi];exact hzv
   unfold Hk at hzo
   rw[hz2]at hzo
   unfold IN at hz
   cases hag:de.agg with
   | true =>
    rw[hag]at hz hzo
    simp only[Option.some.injEq]at hz
    subst hz
    cases zv<;>first|(simp at hzo;done)|skip
    rename_i cs
    unfold Rep
    exact⟨cs.toList,by simp,by simpa[Value.cells]using hz1⟩
   | false =>
    rw[hag]at hz hzo
    simp only at hz
    cases zv<;>first|(simp at hzo;done)|(
     simp only[Value.cells]at hz1
     obtain⟨u,hu,hr⟩:=hz1.get hz
     simp only[List.getElem?_cons_zero,Option.some.injEq]at hu
     subst hu
     exact hr)
  have fin:∀v,Rep (cx B H σ w) y v→Rep (cx B H σ w) (match b with|true=>.tup [y,.val (.bool q)]|false=>y) (if b then .tuple #[v,.bool q]else v):=by
   intro v hv
   cases b with
   | true=>show Rep _ (.tup _) _;unfold Rep;exact⟨[v,.bool q],rfl,am.2 ⟨hv,am.2 ⟨aD _ _,ax.2 rfl⟩⟩⟩
   | false=>exact hv
  rcases tw (i:=0) (z:=z) (key:=key) hks hkl hxs with ⟨j,v,h3,h4,h5⟩|⟨h3,h4⟩
  ·rw[hl]at h4 h5
   simp only at h4 h5
   subst h4
   refine⟨_,?_,fin v h5⟩
   simp only[execOp,ho,hv,k2]
   simp[Instr.lookup,run_underlying h1,mV key h2,run_underlying h2,Instr.findKey,h3,getObj,Sem.run,hg]
  rw[hl]at h4
  cases h4
  refine⟨_,?_,fin zv zrep⟩
  simp only[execOp,ho,hv,k2]
  simp[Instr.lookup,run_underlying h1,mV key h2,run_underlying h2,Instr.findKey,h3,getObj,Sem.run,hg,zeroValue,typeInfo,hi,hzv]
theorem yC{σ:Nat→Option Nat}{w:World}{a:Act}(g:jz B n T H σ w a){d i:Nat}{xs:List PV}{e:TypeId}(hT:T d=.ptr i 0)(hi:H[i]?=some (.cells xs e)):
  jz B n (upd d (.row xs) T) (H.set i .dead) σ w a∧di B H σ w (H.set i .dead) σ w:=by
 obtain⟨s',st⟩:=l9 g.sim hi
 refine⟨⟨s',fun j=>?_,g.size,g.defers⟩,st⟩
 by_cases hj:j=d
 ·subst hj
  rw[dt]
  have h1:=g.rep j
  rw[hT]at h1
  unfold Rep at h1
  obtain⟨_,b,hb,hv⟩:=h1
  obtain⟨b',vs,fr,hb',hg,_,p,q,rfl,hp⟩:=g.sim.holds i _ hi
  simp only[cx]at hb hb' hg
  rw[hb]at hb'
  cases hb'
  rw[hv]
  unfold Rep
  refine⟨_,p,rfl,an.mono st.le hp,rfl,fun j' u hu=>⟨?_,?_⟩⟩
  ·show w.cell? ⟨b,0+j',none⟩=some u
   rw[Nat.zero_add,fL hg];exact vi hu
  rintro(h2|⟨k,ok,h2,h3,h4⟩)
  ·exact g.sim.sep i b _ hi rfl hb _ h2
  have hlk:ok.live=true:=by cases ok<;>first|rfl|cases h4
  by_cases hki:k=i
  ·subst hki
   rw[List.getElem?_set_self (cn hi)]at h2;cases h2;cases h4
  rw[List.getElem?_set_ne (Ne.symm hki)]at h2
  exact hki (g.sim.inj k i b _ _ h2 hi hlk rfl h3 hb)
 rw[cp _ _ _ _ hj];exact(g.rep j).mono st.le
theorem xA{σ:Nat→Option Nat}{w:World}{a:Act}(g:jz B n T H σ w a){d i:Nat}{ks:List fg}{xs:List PV}(hT:T d=.mapv i)(hi:H[i]?=some (.smap ks xs)):
  jz B n (upd d (.smap ks xs) T) (H.set i .dead) σ w a∧di B H σ w (H.set i .dead) σ w:=by
 obtain⟨s',st⟩:=l9 g.sim hi
 refine⟨⟨s',fun j=>?_,g.size,g.defers⟩,st⟩
 by_cases hj:j=d
 ·subst hj
  rw[dt]
  have h1:=g.rep j
  rw[hT]at h1
  unfold Rep at h1
  obtain⟨_,b,hb,hv⟩:=h1
  obtain⟨b',es,clk,hb',hg,hk,hp⟩:=g.sim.holds i _ hi
  simp only[cx]at hb hb' hg
  rw[hb]at hb'
  cases hb'
  rw[hv]
  unfold Rep
  refine⟨b,es,clk,rfl,hg,?_,hk,an.mono st.le hp⟩
  rintro(h2|⟨k,ok,h2,h3,h4⟩)
  ·exact g.sim.sep i b _ hi rfl hb _ h2
  have hlk:ok.live=true:=by cases ok<;>first|rfl|cases h4
  by_cases hki:k=i
  ·subst hki
   rw[List.getElem?_set_self (cn hi)]at h2;cases h2;cases h4
  rw[List.getElem?_set_ne (Ne.symm hki)]at h2
  exact hki (g.sim.inj k i b _ _ h2 hi hlk rfl h3 hb)
 rw[cp _ _ _ _ hj];exact(g.rep j).mono st.le
theorem bJ{l:List Oper}(d i:Nat){xs:List PV}{e:TypeId}{H':List Ob}(hT:T d=.ptr i 0)(hi:H[i]?=some (.cells xs e))(hH:nfH (H.set i .dead)=some H')(h1:WO P B n all l (upd d (.row xs) T) H' K):WO P B n all l T H K:=by
 rw[ry hH]at h1
 intro hall σ w a g
 obtain⟨g',st⟩:=yC g hT hi
 exact eR (fun _ _ _ h=>gS st (fun _ _ _ h=>h) h) _ _ _ (h1 hall σ w a g')
theorem ee{l:List Oper}(d i:Nat){ks:List fg}{xs:List PV}{H':List Ob}(hT:T d=.mapv i)(hi:H[i]?=some (.smap ks xs))(hH:nfH (H.set i .dead)=some H')(h1:WO P B n all l (upd d (.smap ks xs) T) H' K):WO P B n all l T H K:=by
 rw[ry hH]at h1
 intro hall σ w a g
 obtain⟨g',st⟩:=xA g hT hi
 exact eR (fun _ _ _ h=>gS st (fun _ _ _ h=>h) h) _ _ _ (h1 hall σ w a g')
def WR(P:Program)(B:Nat→Nat→Prop)(n:Nat)(c:Code)(Q:Exit→(Nat→PV)→List Ob→Prop):Nat→(Nat→PV)→List Ob→Prop
 | 0,_,_=>False
 | m+1,T,H=>W P B n c T H (lG (fun T' H'=>WR P B n c Q m T' H') Q)
theorem A0{c:Code}{H0:List Ob}{σ0:Nat→Option Nat}{w0:World}:∀(m:Nat) {T:Nat→PV} {H:List Ob} {σ:Nat→Option Nat} {w:World} {a:Act},WR P B n c Q m T H→jz B n T H σ w a→di B H0 σ0 w0 H σ w→Code.rounds P c (xo B n H0 σ0 w0 Q) m a w
 | 0,_,_,_,_,_,h,_,_=>h.elim
 | m+1,T,H,σ,w,a,h,g,st=>by
  rw[rounds_succ]
  refine wp_mono (h σ w a g) ?_
  rintro e a' w' ⟨T',H',σ',h1,h2,h3⟩
  cases e with
  | normal=>exact A0 m h1 h2 (st.trans h3)
  | exit id=>exact⟨T',H',σ',h1,h2,st.trans h3⟩
  | goto l=>exact⟨T',H',σ',h1,h2,st.trans h3⟩
  | ret=>exact⟨T',H',σ',h1,h2,st.trans h3⟩
  | panic ch=>exact⟨T',H',σ',h1,h2,st.trans h3⟩
  | outgrown=>exact⟨T',H',σ',h1,h2,st.trans h3⟩
theorem ia{c:Code}(m:Nat)(h:WR P B n c Q m T H):W P B n (.loop c) T H Q:=fun σ w a g=>wp_loop_rounds m (A0 m h g (di.refl _ _ _ _))
def uF(P:Program)(f:FuncId)(args:List PV)(H:List Ob)(res:PV)(H':List Ob):Prop :=
 (∃ fn, P.funcs[f]? = some fn ∧ fn.body.isNone = false ∧ (fn.name == "runtime.NumGoroutine") = false) ∧ HC P f args H res H'
theorem fb{f:FuncId}{x:Operand}{first cap:List PV}{args:Array Operand}{ats:Array TypeId}{res:PV}{H':List Ob}(ho:o.op=.call {callee:=.value x,args:=args,argTypes:=ats})(hx:opv T x=.fn (.func f) first cap)
  (h:uF P f (first++(args.toList.map fun y=>wk (opv T y))++cap) H res H'):gA P B o T H res H':=by
 obtain⟨⟨fn,h1,h2,h3⟩,h4⟩:=h
 exact dq ho hx h1 h2 h3 h4
end
open Go.RowKit
section
variable {P : Program} {B : Nat → Nat → Prop} {n : Nat} {H : List Ob} {md : Region.Mode} {ops : Array Oper} {k : Nat}
theorem te{α:Type}{l:List α}{j:Nat}{x:α}(h:l[j]?=some x):(x,j)∈l.zipIdx:=by
 rw[List.mem_zipIdx_iff_getElem?];exact h
variable {T : Nat → PV} {Q : Exit → (Nat → PV) → List Ob → Prop}
end
section
variable {P : Program} {B : Nat → Nat → Prop} {n : Nat} {all : Array Oper} {K : (Nat → PV) → List Ob → Prop} {H : List Ob} {T : Nat → PV} {o : Oper}
theorem ym{l:List Oper}{d:Option Tmp}{t yt:TypeId}{td:TD}{e:Nat}{x:Operand}{q:Nat}{xs:List PV}{s:SK}(f:ap P t td)(htd:td.sh=.slice e)(hd:nfD n o.dst=some d)(hw:aj all T o=some true)(ho:o.op=.binOp .eql t x (.const (.slice none 0 0)) yt)(hx:opv T x=.seq q xs s)
  (k:∀b,(b=true→q=0∧xs=[])→WO P B n all l (al d (.val (.bool b)) T) H K):WO P B n all (o::l) T H K:=by
 obtain⟨rfl,hd0⟩:=cm hd
 intro hall σ w a g
 have k1:=jG g.rep x
 rw[hx]at k1
 obtain⟨ad,cap,vs,hv,hle,hnil,hrl,hlies,hk⟩:=fa k1
 have hb:ad.isNone=true→q=0∧xs=[]:=fun h=>by
  have h1:=hnil (by simpa using h)
  exact⟨h1.1,List.eq_nil_of_length_eq_zero (by rw[←an.length hrl,h1.2.2];rfl)⟩
 have hr:(execOp a.eval o).run P w=.ok (.value (.bool ad.isNone)) w:=by
  have hc:a.eval (.const (.slice none 0 0))=.slice none 0 0:=rfl
  have hq:(Op.equal t (.slice ad q cap) (.slice none 0 0)).run P w=.ok ad.isNone w:=by
   unfold Op.equal
   cases hm:Op.maxDepth with
   | zero=>exact absurd hm (by decide)
   | succ m=>cases ad<;>simp[Op.equalIn,run_underlying (f.slice htd)]
  simp[execOp,ho,hv,hc,eqGuard,binOp,hq]
 simp only[wpL]
 rw[if_pos (ku (dW hall) g hw)]
 unfold Oper.wp
 rw[hr]
 exact k _ hb hall σ w _ (fE (qT hd0) g (aD _ _) g.sim (di.refl _ _ _ _))
theorem i4{α:Type}(enc:α→List PV){l:List α}{s:SK}:PV.seq (0+l.length) ([]++l.flatMap enc) s=.seq l.length (l.flatMap enc) s:=by simp
def sqc{α:Type}(enc:α→List PV)(l:List α):PV:=.seq l.length (l.flatMap enc) .clip
theorem lV{α:Type}{enc:α→List PV}(h:∀x,aL (enc x))(l:List α):aQ (sqc enc l):=by
 have:=fO h l
 unfold sq aQ at this
 unfold sqc aQ
 exact⟨this.1,.inr rfl⟩
theorem Ss{α:Type}{enc:α→List PV}{l:List α}(h:l.length=0∧l.flatMap enc=[]):PV.seq 0 [] .any=sq enc l:=by
 have:l=[]:=List.eq_nil_of_length_eq_zero h.1
 subst this;rfl
theorem jM{i off m cap:Nat}(h:m≤cap):Imp (.arr i off m cap) (.arw i off m):=by
 intro c v hr
 unfold Rep at hr ⊢
 obtain⟨h1,b,h2,h3⟩:=hr
 exact⟨h1,b,cap,h2,h,h3⟩
theorem qE{t tx e:TypeId}{d de dx:TD}{x y:Operand}{q m:Nat}{xs ys:List PV}(f:ap P t d)(hd:d.sh=.slice e)(fe:ap P e de)(fx:ap P tx dx)
  (ho:o.op=.call {callee:=.builtin .append,args:=#[x,y],argTypes:=#[t,tx]}) (hx:opv T x=.seq q xs .clip) (ht:zf dx (opv T y)) (hy:wG de.size (opv T y) m ys) (hl:xs.length=q*de.size)
  (hb:(q+m)*de.bytes≤140737488355328) (h63:q+m≤9223372036854775807) (hm:0<m) :
  br P B o T H (.arw H.length 0 (q+m)) (H++[.cells (xs++ys) e]):=by
 intro σ w a s h
 have k1:=h x (by simp[ho,Op.operands,Call.operands])
 have k2:=h y (by simp[ho,Op.operands,Call.operands])
 rw[hx]at k1
 obtain⟨ad,cap,vs,hv,hle,hnil,hrl,hlies,hk⟩:=fa k1
 have hcap:cap=q:=hk
 subst hcap
 obtain⟨news,hnr,hsrc⟩:=yc fx ht hy k2
 obtain⟨i,z,hi,hsz,hby,hz,hzr⟩:=fe.info
 rw[←hsz]at hsrc
 have hsrc':Src P i.size tx (a.eval y) m news w:=hsrc
 have hvl:vs.length=cap*i.size:=by rw[an.length hrl,hsz];exact hl
 have hr:=uk (P:=P) (w:=w) t tx o.type e i z (f.slice hd) hi hz ad cap cap vs hvl (fun h0=>(hnil h0).1) (fun b hb j v hj=>by
  have hl2:=(hlies b hb).resolve_right (by rintro⟨_,h3⟩;rw[h3]at hj;simp at hj)
  rw[gj hl2,Addr.add_lit];exact(hl2.2 j v hj).1) _ m news hsrc' (by omega) (by rw[hby];exact hb) h63
 have gr:bg w (w.drew.alloc (.cells ((vs++news).toArray++Builtin.zeroCells z.cells (grownCap w (cap+m) cap e-(cap+m))) e)):=(bg.drew w).trans (bg.alloc _ _)
 have hheap:(w.drew.alloc (.cells ((vs++news).toArray++Builtin.zeroCells z.cells (grownCap w (cap+m) cap e-(cap+m))) e)).heap[w.heap.size]?=some (Obj.cells ((vs++news)++(Builtin.zeroCells z.cells (grownCap w (cap+m) cap e-(cap+m))).toList).toArray e (0,0)):=by
  show(w.heap.push _)[w.heap.size]?=_;simp
 obtain⟨s0,st0⟩:=eM s gr
 obtain⟨s',st⟩:=fp s gr (.cells (xs++ys) e) (some w.heap.size) (fun b hb=>by cases hb;exact Nat.le_refl _) (by
  refine⟨w.heap.size,_,(0,0),bF _ _ _,hheap,.inl rfl,?_⟩
  refine⟨vs++news,_,rfl,?_⟩
  refine an.mono ?_ (hrl.append hnr)
  refine⟨by simp[cx],fun i hi=>bU hi,fun b off u h1 h2=>⟨gr.cell h2,fun h=>?_⟩,fun b es clk h1 h2=>⟨(gr.block b (Array.getElem?_eq_some_iff.1 h2).1).trans h2,fun h=>h.elim (fun h=>h1 (.inl h)) (fun⟨i,oi,h3,h4,h5⟩=>(eS h3).elim (fun⟨h6,h7⟩=>h1 (.inr ⟨i,oi,h7,by rw[bU h6]at h4;exact h4,h5⟩)) (fun⟨h6,_⟩=>by subst h6;rw[bF]at h4;cases h4;have:=(Array.getElem?_eq_some_iff.1 h2).1;simp[cx]at this))⟩,fun b cs e' fr h1=>⟨cs,(gr.block b (Array.getElem?_eq_some_iff.1 h1).1).trans h1,rfl⟩⟩
  rcases h with h|⟨i,oi,h3,h4,h5⟩
  ·exact h1 (.inl h)
  rcases eS h3 with ⟨h6,h7⟩|⟨rfl,rfl⟩
  ·rw[bU h6]at h4;exact h1 (.inr ⟨i,oi,h7,h4,h5⟩)
  rw[bF]at h4;cases h4
  have:=World.block_lt_of_cell? w ⟨w.heap.size,off,none⟩ h2
  simp at this)
 refine⟨_,_,_,.inl (lI ho hv hr),?_,s',st⟩
 unfold Rep
 exact⟨by simp[cx],w.heap.size,_,bF _ _ _,grownCap_ge w (cap+m) cap e,rfl⟩
end
@[simp] theorem CJ : aQ (.seq 0 [] .clip) := by unfold aQ; exact ⟨trivial, .inr rfl⟩
theorem bsL{α:Type}(enc:α→List PV)(l:List α){n:Nat}{xs:List PV}(h:xs=l.flatMap enc)(hn:n=l.length):PV.seq n xs .clip=.seq l.length (l.flatMap enc) .clip:=by rw[h,hn]
theorem gV:∀{a b:List PV},aL a→aL b→aL (a++b)
 | [],_,_,h=>h
 | _::_,_,h,k=>by unfold aL at h;exact⟨h.1,gV h.2 k⟩
section
variable {P : Program} {H : List Ob} {T : Nat → PV}
theorem pv{G:List (Nat×TD)}{rs:List ResultVar}{x res:PV}(h:mi G T H rs=some x)(h2:x=res):At G rs res .ret T H:=by
 subst h2;exact⟨_,h,Imp.refl _⟩
end
open Go.RowKit
section
variable {P : Program} {B : Nat → Nat → Prop} {n : Nat} {all : Array Oper} {K : (Nat → PV) → List Ob → Prop} {H : List Ob} {T : Nat → PV} {o : Oper}
theorem zo{c:Cx}:∀(vs:List Value),an c (List.replicate vs.length .any) vs
 | []=>ax.2 rfl
 | v::vs=>by
  rw[List.length_cons,List.replicate_succ]
  exact am.2 ⟨by unfold Rep;trivial,zo vs⟩
theorem sZ {f : FuncId} {fn : Func} {x : Operand} {ats ps : Array TypeId} {t e : TypeId} {d : TD} {m : Nat} (ho : o.op = .call { callee := .value (.func f), args := #[x], argTypes := ats }) (hf : P.funcs[f]? = some fn) (hname : (fn.name == "runtime.NumGoroutine") = false)
  (hb:fn.body.isNone=true) (hn:Extern.findNext fn=none) (he:Extern.find fn=some (Extern.BytealgMakeNoZero.makeNoZero ps #[t])) (ft:ap P t d) (hd:d.sh=.slice e) (hx:opv T x=.val (.int .i64 (m:Int))) (hm:m≤281474976710656) :
  br P B o T H (.arw H.length 0 m) (H++[.cells (List.replicate m .any) e]):=by
 intro σ w a s h
 have k1:=h x (by simp[ho,Op.operands,Call.operands])
 rw[hx]at k1
 unfold Rep at k1
 obtain⟨cs,hr,hle,_⟩:=Lib.run_makeNoZero (P:=P) w ps t e (ft.slice hd) m hm
 have gr:bg w (w.drew.drew.alloc (.cells cs e)):=((bg.drew w).trans (bg.drew _)).trans (bg.alloc _ _)
 have hheap:(w.drew.drew.alloc (.cells cs e)).heap[w.heap.size]?=some (Obj.cells cs.toList.toArray e (0,0)):=by
  show(w.heap.push _)[w.heap.size]?=_;simp
 obtain⟨s',st⟩:=fp s gr (.cells (List.replicate m .any) e) (some w.heap.size) (fun b hb=>by cases hb;exact Nat.le_refl _) (by
  refine⟨w.heap.size,cs.toList,(0,0),bF _ _ _,hheap,.inl rfl,cs.toList.take m,cs.toList.drop m,(List.take_append_drop _ _).symm,?_⟩
  have:=zo (c:=cx B (H++[.cells (List.replicate m .any) e]) (ext σ H.length (some w.heap.size)) (w.drew.drew.alloc (.cells cs e))) (cs.toList.take m)
  rwa [List.length_take,Nat.min_eq_left (by simpa using hle)]at this)
 refine⟨.slice (some ⟨w.heap.size,0,none⟩) m cs.size,_,_,.inl ?_,?_,s',st⟩
 ·unfold execOp
  simp only[ho,resolve,Act.eval,Deferred.ofValue,invoke,Sem.run_bind,Sem.run_pure,Result.andThen_ok]
  rw[run_callFunc_extern hf hname hb hn he]
  simp[k1,hr]
 unfold Rep
 exact⟨by simp[cx],w.heap.size,_,bF _ _ _,hle,rfl⟩
theorem j0{t e:TypeId}{d de:TD}{x y z:Operand}{id m:Nat}(f:ap P t d)(hd:d.sh=.slice e)(fe:ap P e de)(ho:o.op=.slice t x none (some y) (some z))(hx:opv T x=.arw id 0 m)
  (h2:jn T (some y) m m) (h3:jn T (some z) m m):br P B o T H (.arr id 0 m m) H :=
 aI fun σ w a s' h=>by
  have k1:=h x (by simp[ho,Op.operands])
  rw[hx]at k1
  unfold Rep at k1
  obtain⟨hN,b,cap,hb,hle,hv⟩:=k1
  have h3':jn T (some z) cap m:=h3
  have kb:=kL (P:=P) (w:=w) (a:=a) (n:=m) (cap:=cap) (b:=true) (m:=m) (mx:=some z) (hi:=some y) (lo:=none) (l:=0) (c:=cx B H σ w) (fun q hq=>h q (by
   rcases hq with hq|hq|hq
   ·cases hq
   ·cases hq;simp[ho,Op.operands]
   cases hq;simp[ho,Op.operands])) rfl h2 h3' (by simp) (by omega) (Nat.le_refl _) (by omega) hle
  refine⟨.slice (some ⟨b,0,none⟩) m m,?_,by unfold Rep;exact⟨hN,b,hb,rfl⟩⟩
  simp only[Option.map_some,Option.map_none]at kb
  simp[execOp,ho,hv,Instr.sliceAt,run_underlying (f.slice hd),Instr.slice,kb,fe.sizeOf]
  intro _;simp[Addr.add]
theorem nC{t tx e:TypeId}{d de:TD}{x y:Operand}{id off n cap off2 m cap2:Nat}{xs:List PV}{et:TypeId}(f:ap P t d)(hd:d.sh=.slice e)(fe:ap P e de)(ho:o.op=.call {callee:=.builtin .copy,args:=#[x,y],argTypes:=#[t,tx]})
  (hx:opv T x=.arr id off n cap) (hi:H[id]?=some (.cells xs et)) (hy:opv T y=.arr id off2 m cap2) (hok:∀z∈(xs.drop off2).take (min m n*de.size),okC z=true) (hfit:off+n*de.size≤xs.length) (hfit2:off2+m*de.size≤xs.length) :
  br P B o T H (.val (.int .i64 (min m n:Nat))) (H.set id (.cells (cK xs off ((xs.drop off2).take (min m n*de.size))) et)):=by
 intro σ w a s' h
 have k1:=h x (by simp[ho,Op.operands,Call.operands])
 have k2:=h y (by simp[ho,Op.operands,Call.operands])
 rw[hx]at k1
 rw[hy]at k2
 unfold Rep at k1 k2
 obtain⟨hN,b,hb,hv⟩:=k1
 obtain⟨_,b2,hb2,hv2⟩:=k2
 obtain⟨b',ws,fr,hb',hg,hfr,hwp⟩:=s'.holds id _ hi
 simp only[cx]at hb hb' hg hb2
 rw[hb]at hb' hb2
 cases hb'
 cases hb2
 have hmn:min m n*de.size≤m*de.size:=Nat.mul_le_mul_right _ (Nat.min_le_left _ _)
 have hmn2:min m n*de.size≤n*de.size:=Nat.mul_le_mul_right _ (Nat.min_le_right _ _)
 have hwsl:=hwp.le
 generalize hvs:(ws.drop off2).take (min m n*de.size)=vs
 have hyl:((xs.drop off2).take (min m n*de.size)).length=min m n*de.size:=by rw[List.length_take,List.length_drop];omega
 have hrl:an (cx B H σ w) ((xs.drop off2).take (min m n*de.size)) vs:=by
  rw[←hvs];exact(hwp.drop off2).take (by rw[List.length_drop];omega)
 have htl:vs.length=min m n*de.size:=by rw[an.length hrl,hyl]
 have hfc:(Builtin.firstCells de.size (min m n) (a.eval y)).run P w=.ok vs.toArray w:=by
  rw[hv2]
  refine run_firstCells_some w de.size (min m n) ⟨b,off2,none⟩ m cap2 _ htl (fun j u hj=>?_)
  rw[Addr.add_lit,fL hg]
  rw[←hvs,List.getElem?_take]at hj
  split at hj
  ·rw[List.getElem?_drop]at hj
   simpa using hj
  cases hj
 have hst:=jE P b off et fr vs 0 ws.toArray w hg (by simpa using hfr) (by rw[Nat.add_zero,htl,List.size_toArray];omega) (oC hok hrl)
 simp only[Nat.add_zero]at hst
 obtain⟨s2,st⟩:=oz s' (ys:=cK xs off ((xs.drop off2).take (min m n*de.size))) hi hb hg hfr (us:=ws.take off++vs++ws.drop (off+vs.length)) (by
  simp only[List.length_append,List.length_drop,htl]
  rw[List.length_take];omega) (by
  unfold cK
  rw[hyl,htl]
  obtain⟨p,q,hpq,hd⟩:=hwp.drop (off+min m n*de.size)
  exact⟨ws.take off++vs++p,q,by rw[hpq];simp,((hwp.take (by omega)).append hrl).append hd⟩)
 refine⟨.int .i64 (min m n:Nat),_,σ,.inl (gG ho ?_),aD _ _,s2,st⟩
 have hlen:(Builtin.lenOf (a.eval y)).run P w=.ok m w:=by rw[hv2];rfl
 have hcp:(Builtin.copy_ #[t,tx] o.type #[a.eval x,a.eval y]).run P w=.ok (.int .i64 (min m n:Nat)) (w.setRow b (ws.take off++vs++ws.drop (off+vs.length)).toArray):=by
  have e1:Nat.min m n=min m n:=rfl
  simp only[Builtin.copy_,hv,List.getElem?_toArray,List.getElem?_cons_zero,List.getElem?_cons_succ,Sem.run_bind,run_underlying (f.slice hd),Result.andThen_ok,hlen,fe.sizeOf,e1,hfc,hst,goInt,Sem.run_pure]
 simp only[builtin,List.map_toArray,List.map_cons,List.map_nil,Sem.run_bind,hcp,Result.andThen_ok,Sem.run_pure]
theorem xY{t e:TypeId}{d de:TD}{x y:Operand}{k k':IntKind}{m:Int}(f:ap P t d)(hd:d.sh=.slice e)(fe:ap P e de)(ho:o.op=.makeSlice t x y)(hx:opv T x=.val (.int k m))(hy:opv T y=.val (.int k' m))(h0:0≤m)(hb:(de.bytes:Int)*m≤281474976710656)(h63:m≤9223372036854775807):
  br P B o T H (.seq m.toNat (dD m.toNat de) .clip) H:=by
 intro σ w a s h
 have k1:=h x (by simp[ho,Op.operands])
 have k2:=h y (by simp[ho,Op.operands])
 rw[hx]at k1
 rw[hy]at k2
 unfold Rep at k1 k2
 obtain⟨i,z,hi,hsz,hby,hz,hzr⟩:=fe.info
 have hr:=run_make (P:=P) w t e i z (f.slice hd) hi hz k k' m m h0 (Int.le_refl _) (by rw[hby];exact hb) h63
 rw[hsz]at hr
 obtain⟨s',st⟩:=eM s (bg.alloc w (.cells (madeCells z.cells (m.toNat*de.size)) e))
 refine⟨_,_,σ,.inl (by simp[execOp,ho,k1,k2,hr];rfl),?_,s',st⟩
 unfold Rep
 refine⟨_,m.toNat,(madeCells z.cells (m.toNat*de.size)).toList,rfl,Nat.le_refl _,(fun h=>by cases h),an.mono st.le (rJ fe m.toNat z hzr _),fun b hb=>?_,rfl⟩
 cases hb
 refine .inl ⟨rfl,fun j u hj=>⟨?_,?_⟩⟩
 ·show(w.alloc (.cells (madeCells z.cells (m.toNat*de.size)) e)).cell? ⟨w.heap.size,0+j,none⟩=_
  rw[kq _ _ _ _ _ _ rfl,Nat.zero_add]
  rw[←Array.getElem?_toList];exact hj
 rintro(h'|⟨i',oi,h3,h4,h5⟩)
 ·exact absurd (s.base _ _ h') (by simp)
 have hl:oi.live=true:=by cases oi<;>first|rfl|cases h5
 have:=(s.holds i' oi h3).lt hl h4
 simp[cx]at this
theorem K8{σ:Nat→Option Nat}{w:World}{a:Act}(g:jz B n T H σ w a){d q k:Nat}{xs:List PV}(hT:T d=.seq q xs .clip)(hl:xs.length=q*k):
  jz B n (upd d (.seq q xs (.own H.length k)) T) (H++[.free (q*k)]) (ext σ H.length none) w a∧di B H σ w (H++[.free (q*k)]) (ext σ H.length none) w:=by
 obtain⟨s',st⟩:=fp g.sim (bg.refl w) (.free (q*k)) none (fun b hb=>by cases hb) (fun b hb=>by simp only[cx]at hb;rw[bF]at hb;cases hb)
 refine⟨⟨s',fun i=>?_,g.size,g.defers⟩,st⟩
 by_cases hi:i=d
 ·subst hi
  rw[dt]
  have h0:=g.rep i
  rw[hT]at h0
  obtain⟨ad,cap,vs,hv,hle,hnil,hrl,hlies,hk⟩:=fa h0
  have hcap:cap=q:=hk
  unfold Rep
  exact⟨ad,cap,vs,hv,hle,hnil,an.mono st.le hrl,fun b hb=>(hlies b hb).imp (·.mono st.le) id,by simp[cx],hl,.inl hcap⟩
 rw[cp _ _ _ _ hi];exact(g.rep i).mono st.le
theorem ns{l:List Oper}(d q k:Nat){xs:List PV}(hT:T d=.seq q xs .clip)(hl:xs.length=q*k)(h1:WO P B n all l (upd d (.seq q xs (.own H.length k)) T) (H++[.free (q*k)]) K):WO P B n all l T H K:=by
 intro hall σ w a g
 obtain⟨g',st⟩:=K8 g hT hl
 exact eR (fun _ _ _ h=>gS st (fun _ _ _ h=>h) h) _ _ _ (h1 hall _ w a g')
end
end Go.Proofs.YtiibjcnedbncjaaGreatDoor
