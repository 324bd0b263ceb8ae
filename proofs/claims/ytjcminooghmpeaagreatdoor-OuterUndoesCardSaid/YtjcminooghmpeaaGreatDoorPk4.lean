import Derived.ChangeKeysEq
import Derived.Laws.RangeAny
import Derived.Laws.RangeString
import Derived.Lib.IndexBytes
import Derived.Lib.OwnBridge
import Derived.Maps.AppendAt
import Derived.RegionTactic
import Derived.Shelf.SlGeneric
import Derived.Shelf.SlicesE.Reverse
import Derived.Test.YtjcminooghmpeaaGreatDoorPk3
set_option linter.all false
set_option maxRecDepth 100000
set_option maxHeartbeats 40000000
open Go.Proofs.Tryz
namespace Go.Proofs.YtjcminooghmpeaaGreatDoor
open Go.RowKit
section
variable {P : Program}
def RC(P:Program)(f:FuncId)(args:List PV)(n:Nat)(xs:List PV)(k:Nat):Prop:=∀H,HC P f args H (.seq n xs (.own H.length k)) (H++[.free (n*k)])
def Ox{f:FuncId}{args:List PV}{n k:Nat}{xs:List PV}(ha:aG args)(hxs:aG xs)
  (h:∀B σ w vs,Sim B [] σ w->ay (cx B [] σ w) args vs->Calls P f vs.toArray w fun e w'=>∃v H' σ' t m,e=.returned v/\Rep (cx B H' σ' w') (.seq n xs (.own t k)) v/\H'[t]?=some (.free m)/\m<=n*k/\dU B [] σ w H' σ' w'):RC P f args n xs k:=by
 intro H B σ w vs s hr
 have s0:=Kh s
 have hr0:ay (cx (BoW B σ H) [] σ w) args vs:=dj (c:=cx B H σ w) (c':=cx (BoW B σ H) [] σ w) rfl (fun b off h=>by
  rcases h with h|⟨i,oi,h1,_⟩
  ·exact h
  simp at h1) ha hr
 refine Calls.mono (h (BoW B σ H) σ w vs s0 hr0) ?_
 rintro e w' ⟨v,H',σ',t,m,rfl,h1,ht,hm,h2⟩
 have g:be w w':=⟨h2.os,h2.tape,h2.output,h2.size,fun b hb=>h2.block b hb (fun i oi h=>by simp at h)⟩
 obtain⟨ad,cap,ws,hv,hle,hnil,hrl,hlies,hqN,hl,hown⟩:=gc h1
 have key:∀nb:Option Nat,(∀b,nb=some b->w.heap.size<=b)->Fw (cx B (H++[.free (n*k)]) (ext σ H.length nb) w') H.length (.free (n*k))->(∀b,nb=some b->σ' t=some b)->(cap=n\/∃b cs e,nb=some b/\ad=some ⟨b,0,none⟩/\w'.heap[b]?=some (Obj.cells cs e (0,0))/\cap*k<=cs.size) ->
   ∃v' σ2,Ending.returned v=Ending.returned v'/\Rep (cx B (H++[.free (n*k)]) σ2 w') (.seq n xs (.own H.length k)) v'/\Sim B (H++[.free (n*k)]) σ2 w'/\dU B H σ w (H++[.free (n*k)]) σ2 w':=by
  intro nb hnew hh hnb hk
  obtain⟨s',st⟩:=eR s g (.free (n*k)) nb hnew hh
  have wr:∀b off,(cx B (H++[.free (n*k)]) (ext σ H.length nb) w').Wr b off->(cx (BoW B σ H) H' σ' w').Wr b off:=by
   rintro b off (h|⟨j,oj,h3,h4,h5⟩)
   ·exact .inl (.inl h)
   rcases eX h3 with ⟨h6,h7⟩|⟨rfl,rfl⟩
   ·rw[bZ h6]at h4;exact .inl (.inr ⟨j,oj,h7,h4,h5⟩)
   rw[bw]at h4;exact .inr ⟨t,_,ht,hnb _ h4,Nat.le_trans hm h5⟩
  refine⟨v,_,rfl,?_,s',st⟩
  unfold Rep
  refine⟨ad,cap,ws,hv,hle,hnil,dj (c:=cx (BoW B σ H) H' σ' w') (c':=cx B (H++[.free (n*k)]) (ext σ H.length nb) w') rfl wr hxs hrl,fun b hb=>(hlies b hb).imp (fun hL=>⟨hL.1,fun j u hj=>⟨(hL.2 j u hj).1,fun hw=>(hL.2 j u hj).2 (wr _ _ hw)⟩⟩) id,by simp[cx],hl,?_⟩
  rcases hk with hk|⟨b,cs,e,h3,h4,h5,h6⟩
  ·exact .inl hk
  exact .inr ⟨b,cs,e,by simp only[cx];rw[bw];exact h3,h4,h5,h6⟩
 rcases hown with hcap|⟨b,cs,e,h3,h4,h5,h6⟩
 ·exact key none (fun b hb=>by cases hb) (fun b hb=>by simp only[cx]at hb;rw[bw]at hb;cases hb) (fun b hb=>by cases hb) (.inl hcap)
 refine key (some b) (fun b' hb=>?_) (fun b' hb=>?_) (fun b' hb=>by cases hb;exact h3) (.inr ⟨b,cs,e,rfl,h4,h5,h6⟩)
 ·cases hb
  rcases h2.new t _ b ht rfl h3 with h7|⟨j,oj,h7,_⟩
  ·exact h7
  simp at h7
 simp only[cx]at hb;rw[bw]at hb;cases hb
 exact⟨cs,e,h5,Nat.le_trans (Nat.mul_le_mul_right _ hle) h6⟩
def az3(G:List (Nat×TD))(rs:List ResultVar)(n:Nat)(xs:List PV)(k:Nat):Exit->(Nat->PV)->List Ob->Prop
 | .normal,T,H=>∃t m,o8 G T H rs=some (.seq n xs (.own t k))/\H[t]?=some (.free m)/\m<=n*k
 | .ret,T,H=>∃t m,o8 G T H rs=some (.seq n xs (.own t k))/\H[t]?=some (.free m)/\m<=n*k
 | _,_,_=>False
def N1{G:List (Nat×TD)}(hG:eJ P G=true){f:FuncId}{fn:Func}{c:Code}{args:List PV}{n k:Nat}{xs:List PV}{rs:List ResultVar}(hf:P.funcs[f]?=some fn)(hb:fn.body=some c)(hr:fn.results=rs.toArray)(hn0:Nat.ble args.length fn.ntmps=true)(ha:aG args)(hres:aG xs)
  (h:∀B,W P B fn.ntmps c (Bc args) [] (az3 G rs n xs k)):RC P f args n xs k:=by
 have hn:=Nat.le_of_ble_eq_true hn0
 refine Ox ha hres fun B σ w vs s hv=>?_
 have hl:=ay.length hv
 refine calls_of_wp hf hb (wp_mono (h B σ w {tmps:=vs.toArray++Array.replicate (fn.ntmps-vs.toArray.size) undef,defers:=[]} ⟨s,s8 hv _,by simp;omega,rfl⟩) ?_)
 rintro e a' w' ⟨T',H1,σ',h1,h2,h3⟩
 have fin:∀(h4:∃t m,o8 G T' H1 rs=some (.seq n xs (.own t k))/\H1[t]?=some (.free m)/\m<=n*k),a'.defers=[]/\∃v,(results fn a'.tmps).run P w'=.ok v w'/\∃v' H' σ' t m,Ending.returned v=Ending.returned v'/\Rep (cx B H' σ' w') (.seq n xs (.own t k)) v'/\H'[t]?=some (.free m)/\m<=n*k/\dU B [] σ w H' σ' w':=by
  rintro⟨t,m,hx,h4,h7⟩
  obtain⟨v,h5,h6⟩:=uu hG hr h2 hx
  exact⟨h2.defers,v,h5,v,H1,σ',t,m,rfl,h6,h4,h7,h3⟩
 cases e<;>first|exact fin h1|exact False.elim h1
def Yd{G:List (Nat×TD)}{rs:List ResultVar}{T:Nat->PV}{H:List Ob}{n n' k t m:Nat}{xs xs':List PV}(h:o8 G T H rs=some (.seq n' xs' (.own t k)))(h1:n'=n)(h2:xs'=xs)(h3:H[t]?=some (.free m))(h4:m<=n*k):az3 G rs n xs k .ret T H:=by
 subst h1 h2;exact⟨t,m,h,h3,h4⟩
def RC.pure{f:FuncId}{args:List PV}{n k:Nat}{xs:List PV}(h:RC P f args n xs k)(ha:aG args)(hxs:aG xs):af P f args (.seq n xs .any):=by
 refine Ip ha (by unfold aQ;exact⟨hxs,.inl rfl⟩) fun B σ w vs s hr=>?_
 refine Calls.mono (h [] B σ w vs s hr) ?_
 rintro e w' ⟨v,σ',rfl,h1,h2,h3⟩
 exact⟨v,_,σ',rfl,og _ _ _ _ _ h1,h3⟩
section
variable {B : Nat -> Nat -> Prop} {o : Oper} {T : Nat -> PV} {H : List Ob}
end
end
def Te{b m:Nat}{s:List UInt8}{l:List Ob}(k:NLo b l):NLo b (.iter s m::l):=k
section
variable {P : Program} {B : Nat -> Nat -> Prop} {o : Oper} {T : Nat -> PV} {H : List Ob}
def QU{σ:Nat->Option Nat}{w:World}(s:Sim B H σ w){i b:Nat}{l:List UInt8}{p q:Nat}(hi:H[i]?=some (.iter l p))(hb:σ i=some b)(hv:w.heap[b]?=some (Obj.stringIter ⟨l.toArray⟩ p)):
  Sim B (H.set i (.iter l q)) σ {w with heap:=w.heap.setIfInBounds b (.stringIter ⟨l.toArray⟩ q)}/\dU B H σ w (H.set i (.iter l q)) σ {w with heap:=w.heap.setIfInBounds b (.stringIter ⟨l.toArray⟩ q)}:=by
 have hlen:=cL hi
 have hbl:=(Array.getElem?_eq_some_iff.1 hv).1
 have other:∀x,x≠b->(w.heap.setIfInBounds b (.stringIter ⟨l.toArray⟩ q))[x]?=w.heap[x]?:=fun x hx=>Array.getElem?_setIfInBounds_ne (Ne.symm hx)
 have same:(w.heap.setIfInBounds b (.stringIter ⟨l.toArray⟩ q))[b]?=some (.stringIter ⟨l.toArray⟩ q):=by simp[hbl]
 have get:∀j o,(H.set i (.iter l q))[j]?=some o->(j=i/\o=.iter l q)\/(j≠i/\H[j]?=some o):=fun j o h=>yc hlen h
 have own:∀x off,j8 σ (H.set i (.iter l q)) x off->j8 σ H x off:=by
  rintro x off ⟨j,o,h1,h2,h3⟩
  rcases get j o h1 with ⟨rfl,rfl⟩|⟨_,h4⟩
  ·exact⟨j,_,hi,h2,trivial⟩
  exact⟨j,o,h4,h2,h3⟩
 have wr:∀off,j8 σ H b off:=fun off=>⟨i,_,hi,hb,trivial⟩
 have le:(cx B H σ w).Le (cx B (H.set i (.iter l q)) σ {w with heap:=w.heap.setIfInBounds b (.stringIter ⟨l.toArray⟩ q)}):=by
  refine⟨by simp[cx],fun _ _=>rfl,fun x off u h1 h2=>⟨?_,fun h=>h1 (h.imp id (own x off))⟩,fun x e2 c2 h1 h2=>⟨?_,fun h=>h1 (h.imp id (own x 0))⟩,fun x cs t fr h1=>⟨cs,?_,rfl⟩⟩
  ·have hx:x≠b:=fun hx=>h1 (.inr (hx▸wr off))
   exact(World.cell?_of_block (w:=w) (w':={w with heap:=w.heap.setIfInBounds b (.stringIter ⟨l.toArray⟩ q)}) (a:=⟨x,off,none⟩) (other x hx)).trans h2
  ·have hx:x≠b:=fun hx=>h1 (.inr (hx▸wr 0))
   exact(other x hx).trans h2
  have hx:x≠b:=by rintro rfl;simp only[cx]at h1;rw[hv]at h1;cases h1
  exact(other x hx).trans h1
 refine⟨⟨?_,?_,fun x off h=>by simpa using s.base x off h,?_⟩,⟨le,rfl,rfl,rfl,by simp,?_,?_⟩⟩
 ·intro j k x oj ok h1 h2 l1 l2 e1 e2
  rcases get j oj h1 with ⟨rfl,rfl⟩|⟨_,h3⟩<;>rcases get k ok h2 with ⟨rfl,rfl⟩|⟨_,h4⟩
  ·rfl
  ·exact s.inj _ _ x _ _ hi h4 rfl l2 e1 e2
  ·exact s.inj _ _ x _ _ h3 hi l1 rfl e1 e2
  exact s.inj _ _ x _ _ h3 h4 l1 l2 e1 e2
 ·intro j x oj h1 l1 e1 off
  rcases get j oj h1 with ⟨rfl,rfl⟩|⟨_,h3⟩
  ·exact s.sep _ x _ hi rfl e1 off
  exact s.sep _ x _ h3 l1 e1 off
 ·intro j oj h1
  rcases get j oj h1 with ⟨rfl,rfl⟩|⟨hj,h3⟩
  ·exact⟨b,hb,same⟩
  have k:=s.holds j oj h3
  cases oj with
  | cells zs t =>
   obtain⟨x,ws,fr',h5,h6,hf,h7⟩:=k
   have hx:x≠b:=fun hx=>hj (s.inj j i b _ _ h3 hi rfl rfl (hx▸h5) hb)
   exact⟨x,ws,fr',h5,(other x hx).trans h6,hf,h7.mono le⟩
  | smap ks2 ms =>
   obtain⟨x,e2,c2,h5,h6,h7,h8⟩:=k
   have hx:x≠b:=fun hx=>hj (s.inj j i b _ _ h3 hi rfl rfl (hx▸h5) hb)
   exact⟨x,e2,c2,h5,(other x hx).trans h6,h7,ay.mono le h8⟩
  | iter l2 p2 =>
   obtain⟨x,h5,h6⟩:=k
   have hx:x≠b:=fun hx=>hj (s.inj j i b _ _ h3 hi rfl rfl (hx▸h5) hb)
   exact⟨x,h5,(other x hx).trans h6⟩
  | free m =>
   intro x hx
   obtain⟨cs,t,h5,h6⟩:=k x hx
   have hne:x≠b:=fun h=>hj (s.inj j i b _ _ h3 hi rfl rfl (h▸hx) hb)
   exact⟨cs,t,(other x hne).trans h5,h6⟩
  | dead=>trivial
  | glob g u=>obtain⟨q1,q2⟩:=k;exact le.cell g 0 u q2 q1
 ·intro j oj x h1 h2 h3
  rcases get j oj h1 with ⟨rfl,rfl⟩|⟨_,h4⟩
  ·exact .inr ⟨_,_,hi,rfl,h3⟩
  exact .inr ⟨j,oj,h4,h2,h3⟩
 intro x hx hn
 exact other x (fun h=>hn i _ hi rfl (h▸hb))
def oI{t:TypeId}{d:TD}{x:Operand}{s:Str}(f:ao P t d)(hd:d.sh=.str)(ho:o.op=.range t x)(hx:opv T x=str s):bL P B o T H (.ptr H.length 0) (H++[.iter s 0]):=by
 intro σ w a sm h
 have k1:=h x (by simp[ho,Op.operands])
 rw[hx]at k1
 unfold str Rep at k1
 obtain⟨s',st⟩:=eR sm (be.alloc w (.stringIter ⟨s.toArray⟩ 0)) (.iter s 0) (some w.heap.size) (fun b hb=>by cases hb;exact Nat.le_refl _) ⟨w.heap.size,by simp only[cx];rw[bw],by show(w.heap.push _)[w.heap.size]?=_;simp⟩
 refine⟨.pointer (some ⟨w.heap.size,0,none⟩),_,_,.inl ?_,?_,s',st⟩
 ·simp only[execOp,ho,k1,Sem.run_bind,run_range_string w t _ (f.str hd),Result.andThen_ok,Sem.run_pure];rfl
 unfold Rep;exact⟨by simp[cx],w.heap.size,by simp only[cx];rw[bw],rfl⟩
def sS{x:Operand}{i:Nat}{s:Str}{pos:Nat}(ho:o.op=.next x true)(hx:opv T x=.ptr i 0)(hi:H[i]?=some (.iter s pos))(hp:pos<s.length)(ha:(s.getD pos 0).toNat<128):
  bL P B o T H (.tup [.val (.bool true),.val (.int .i64 (pos:Int)),.val (.int .i32 ((s.getD pos 0).toNat:Int))]) (H.set i (.iter s (pos+1))):=by
 intro σ w a sm h
 have k1:=h x (by simp[ho,Op.operands])
 rw[hx]at k1
 unfold Rep at k1
 obtain⟨_,b,hb,hv⟩:=k1
 obtain⟨b',hb',hg⟩:=sm.holds i _ hi
 simp only[cx]at hb hb' hg
 rw[hb]at hb'
 cases hb'
 obtain⟨s',st⟩:=QU sm (q:=pos+1) hi hb hg
 have hsz:pos<(⟨s.toArray⟩:ByteArray).size:=by rw[cE];exact hp
 have hel:((⟨s.toArray⟩:ByteArray)[pos]'hsz)=s.getD pos 0:=by
  simp only[List.getD,List.getElem?_eq_getElem hp,Option.getD_some]
  rfl
 have hdec:Utf8.decode ⟨s.toArray⟩ pos=((s.getD pos 0).toNat,1):=by rw[decode_ascii _ pos hsz (by rw[hel];exact ha),hel]
 refine⟨.tuple #[.bool true,.int .i64 (pos:Int),.int .i32 ((s.getD pos 0).toNat:Int)],_,σ,.inl ?_,?_,s',st⟩
 ·have hr:(Instr.next (a.eval x) true o.type).run P w=.ok (.tuple #[.bool true,.int .i64 (pos:Int),.int .i32 ((s.getD pos 0).toNat:Int)]) {w with heap:=w.heap.setIfInBounds b (.stringIter ⟨s.toArray⟩ (pos+1))}:=by
   rw[hv]
   have hbl:=(Array.getElem?_eq_some_iff.1 hg).1
   simp only[Instr.next,getObj,setObj,Sem.run_bind,Sem.run,hg,Result.andThen,hsz,if_true,hdec]
   simp[goInt,Sem.run,hg,hbl]
  simp only[execOp,ho,Sem.run_bind,hr,Result.andThen_ok,Sem.run_pure]
 unfold Rep
 exact⟨_,rfl,ai.2 ⟨av _ _,ai.2 ⟨av _ _,ai.2 ⟨av _ _,aF.2 rfl⟩⟩⟩⟩
def oJ{x:Operand}{i:Nat}{s:Str}{pos:Nat}(ho:o.op=.next x true)(hx:opv T x=.ptr i 0)(hi:H[i]?=some (.iter s pos))(hp:s.length<=pos):bL P B o T H (.tup [.val (.bool false)]) H :=
 aO fun σ w a sm h=>by
  have k1:=h x (by simp[ho,Op.operands])
  rw[hx]at k1
  unfold Rep at k1
  obtain⟨_,b,hb,hv⟩:=k1
  obtain⟨b',hb',hg⟩:=sm.holds i _ hi
  simp only[cx]at hb hb' hg
  rw[hb]at hb'
  cases hb'
  have hsz:¬pos<(⟨s.toArray⟩:ByteArray).size:=by rw[cE];omega
  refine⟨.tuple #[.bool false],?_,by unfold Rep;exact⟨_,rfl,ai.2 ⟨av _ _,aF.2 rfl⟩⟩⟩
  have hr:(Instr.next (a.eval x) true o.type).run P w=.ok (.tuple #[.bool false]) w:=by
   rw[hv]
   simp[Instr.next,getObj,Sem.run,hg,hsz]
  simp only[execOp,ho,Sem.run_bind,hr,Result.andThen_ok,Sem.run_pure]
end
open Go.RowKit
def az2{b:Bool}(h:(!b)=false):b=true:=by cases b<;>simp_all
def au9{b:Bool}(h:(!b)=true):b=false:=by cases b<;>simp_all
def Ub{x y:aL}(h1:x.name=y.name)(h2:x.xt=y.xt)(h3:x.flags=y.flags):x=y:=by cases x;cases y;simp_all
def wN(a b:List aL)(ha:a.length<=1000000)(hb:b.length<=1000000):af prog 13 [sq bP a,sq bP b] (boo (decide (a=b))):=by
 refine zY func13 fun B=>?_
 refine zu1 ?_
 refine Ws<|zu5 ?_
 refine Wi rfl (fun hi1=>?_) (fun hi1=>?_)
 ·have hne:a≠b:=fun h=>by subst h;simp at hi1
  refine zu1 ?_
  refine zR ?_
  exact congrArg boo (decide_eq_false hne).symm
 have hl:a.length=b.length:=by(try simp only[dnL]at *);omega
 refine Wj<|Ws<|zu1 ?_
 refine Wl ?_
 show W _ _ _ _ _ _ _
 refine cQ (fun(k:Nat)=>[(0,sq bP a),(1,sq bP b),(5,i64 k)]) (fun(k:Nat)=>[]) (fun(k:Nat)=>[]) (fun(k:Nat)=>k<=a.length/\a.take k=b.take k) (fun(k:Nat)=>a.length-k) (0) (by simp) [] ?_ ?_
 ·exact cV
 intro k hk
 refine Ws<|zu4 ?_
 refine Wi rfl (fun hi2=>?_) (fun hi2=>?_)
 ·have hlt:k<a.length:=by have:=oT hi2;omega
  refine Wj<|Ws<|Wl<|Ws<|am [0,0,0,0,1,0,0,0,0,1,0,0,0,0,0,0,1,0,0,0,0,1,0,0,0,0,0,0,0,1,0,0,0,0,1,0,0] [0,1,2,3,4,5,6,7,8,9,10,11,12,13,14,15,16,17,18,19,20,21,22,23,24,25,26,27,28,29,30,31,32,33,34,35,36] mG rfl (by kernel_rfl) ?_
  iterate 2 refine z3 ?_
  refine Xi tG rfl rfl rfl rfl (fun _=>rfl) (by omega) (iN bP 3 (fun _=>rfl) default (by omega)) ?_
  refine z3 ?_
  refine z5 ?_
  iterate 2 refine z3 ?_
  refine Xi tG rfl rfl rfl rfl (fun _=>rfl) (by omega) (iN bP 3 (fun _=>rfl) default (by omega)) ?_
  refine z3 ?_
  refine z5 ?_
  refine z3 ?_
  refine Xa 27 rfl (Lk _ _) ?_
  refine z3 ?_
  refine i5 28 rfl (fun hg1=>?_) (fun hg1=>?_)
  ·have hne:a≠b:=fun h=>by have h1:=oF (au9 hg1);rw[h]at h1;exact h1 rfl
   iterate 11 refine z7 ?_
   iterate 2 refine z3 ?_
   iterate 11 refine z7 ?_
   refine z3 ?_
   refine ap ?_
   refine Wt rfl rfl ?_
   refine zu1 ?_
   refine zR ?_
   exact congrArg boo (decide_eq_false hne).symm
  have h1:(a.getD k default).name=(b.getD k default).name:=oT (az2 hg1)
  iterate 2 refine z3 ?_
  refine Xi tG rfl rfl rfl rfl (fun _=>rfl) (by omega) (iN bP 3 (fun _=>rfl) default (by omega)) ?_
  refine z3 ?_
  refine z5 ?_
  iterate 2 refine z3 ?_
  refine Xi tG rfl rfl rfl rfl (fun _=>rfl) (by omega) (iN bP 3 (fun _=>rfl) default (by omega)) ?_
  refine z3 ?_
  refine z5 ?_
  iterate 3 refine z3 ?_
  refine i5 41 rfl (fun hg2=>?_) (fun hg2=>?_)
  ·have hne:a≠b:=fun h=>by have h1:=bne_iff_ne.1 hg2;rw[h]at h1;exact h1 rfl
   iterate 11 refine z7 ?_
   refine z3 ?_
   refine ap ?_
   refine Wt rfl rfl ?_
   refine zu1 ?_
   refine zR ?_
   exact congrArg boo (decide_eq_false hne).symm
  have h2:(a.getD k default).xt=(b.getD k default).xt:=bne_eq_false_iff_eq.1 hg2
  iterate 2 refine z3 ?_
  refine Xi tG rfl rfl rfl rfl (fun _=>rfl) (by omega) (iN bP 3 (fun _=>rfl) default (by omega)) ?_
  refine z3 ?_
  refine z5 ?_
  iterate 2 refine z3 ?_
  refine Xi tG rfl rfl rfl rfl (fun _=>rfl) (by omega) (iN bP 3 (fun _=>rfl) default (by omega)) ?_
  refine z3 ?_
  refine z5 ?_
  iterate 2 refine z3 ?_
  refine ap ?_
  refine Wi rfl (fun hi3=>?_) (fun hi3=>?_)
  ·have hne:a≠b:=fun h=>by have h1:=bne_iff_ne.1 hi3;rw[h]at h1;exact h1 rfl
   refine zu1 ?_
   refine zR ?_
   exact congrArg boo (decide_eq_false hne).symm
  have he:a.getD k default=b.getD k default:=Ub h1 h2 (bne_eq_false_iff_eq.1 hi3)
  refine Wj<|aa rfl ?_
  refine zs3 ?_
  exact⟨k+1,[],(by exact⟨by omega,B7 default hl hlt hk.2 he⟩),(by omega),cV⟩
 have hge:a.length<=k:=by have:=oF hi2;omega
 refine aU ?_
 refine zu1 ?_
 refine zR ?_
 exact congrArg boo (decide_eq_true (by have h1:=hk.2;rw[lj a k hge,lj b k (by omega)]at h1;exact h1)).symm
def cI(s:Str):Int:=if s.length=0 then -16 else if 31<s.length then -19 else if s.all (fun c=>decide (32<c.toNat))then 0 else -32
def AF(w:aL):Bool:=decide (cI w.name=0/\0<=w.flags/\w.flags<=7)
def ib(l:List aL):Bool:=l.all AF&&decide (l.length<=1024)
def Bg(w:aL):Bool:=decide (w.flags/2%2=1)
def pp(w:aL)(name:Str):Bool:=!Bg w&&FV w.name name
def lU(l:List aL)(name:Str):Nat->aL×Int×Bool
 | 0=>(⟨[],0,0⟩,0,false)
 | k+1=>if pp (l.getD k default) name then(l.getD k default,(k:Int),true)else lU l name k
def cd(l:List aL)(name:Str):aL×Int×Bool:=lU l name l.length
def Bt(r:aL×Int×Bool):PV:=jC (xu r.1) (i64 r.2.1) (boo r.2.2)
@[simp] theorem aj0 (r : aL × Int × Bool) : aQ (Bt r) := by simp [Bt]
def rp{l:List aL}(h:∀w∈l,0<=w.flags/\w.flags<=7)(name:Str):∀k,k<=l.length->0<=(lU l name k).1.flags/\(lU l name k).1.flags<=7
 | 0,_=>by show(0:Int)<=0/\(0:Int)<=7;omega
 | k+1,hk=>by
  unfold lU
  split
  ·exact h _ (by rw[List.getD_eq_getElem?_getD,List.getElem?_eq_getElem (by omega)];exact List.getElem_mem _)
  exact rp h name k (by omega)
def gq{n:Int}(h0 : -9223372036854775808<=n)(h1:n<=9223372036854775807):IntKind.i64.wrap n=n:=by rw[bB];unfold wrap64;omega
def qn{f:Int}(h0:0<=f)(h7:f<=7):f=0\/f=1\/f=2\/f=3\/f=4\/f=5\/f=6\/f=7:=by omega
def au2{f:Int}(h0:0<=f)(h7:f<=7):(IntKind.i64.wrap ↑(BitVec.ofInt IntKind.i64.bits f &&& BitVec.ofInt IntKind.i64.bits 2).toNat==0) = !decide (f/2%2=1):=by
 rcases qn h0 h7 with rfl|rfl|rfl|rfl|rfl|rfl|rfl|rfl<;>decide
def as6(x:aL)(name:Str)(hx:x.name.length<=9223372036854775807)(hn:name.length<=9223372036854775807)(h0:0<=x.flags)(h7:x.flags<=7):af prog 65 [xu x,.row [str name]] (boo (pp x name)):=by
 have hl:=au2 h0 h7
 refine bv tG (rs:=[.tmp 3]) func65 rfl rfl rfl (by(simp[aQ,aG];done)) (by(simp;done)) (fun B=>?_)
 refine zu2 ?_
 refine zp5 ?_
 refine Wb 8 rfl (fun hg1=>?_) (fun hg1=>?_)
 ·refine zy3 ?_
  refine zc rfl func66 ((M5 x.name name hx hn) _) ?_
  refine zs2 ?_
  refine zR ?_
  exact congrArg boo (by unfold pp Bg;rw[hg1]at hl;rw[<-hl];simp)
 refine z6 ?_
 iterate 3 refine z6 ?_
 refine zs2 ?_
 refine zR ?_
 exact congrArg boo (by unfold pp Bg;rw[hg1]at hl;rw[<-hl];simp)
def TV{α:Type}(enc:α->List PV)(n:Nat)(hk:∀x,(enc x).length=n)(d:α):∀(l:List α) (j k:Nat),j<l.length->k<n->(l.flatMap enc)[j*n+k]?=(enc (l.getD j d))[k]?
 | [],j,k,h,_=>by simp at h
 | x::l,0,k,_,h=>by
  rw[List.flatMap_cons,Nat.zero_mul,Nat.zero_add,List.getElem?_append_left (by rw[hk];exact h)];rfl
 | x::l,j+1,k,h,h2=>by
  rw[List.flatMap_cons,List.getElem?_append_right (by rw[hk,Nat.succ_mul];omega),hk,show(j+1)*n+k-n=j*n+k by rw[Nat.succ_mul];omega,TV enc n hk d l j k (by simpa using h) h2]
  rfl
def jT(l:List aL):Prop:=l.length<=1000000/\∀w∈l,w.name.length<=9223372036854775807/\0<=w.flags/\w.flags<=7
def jT.get{l:List aL}(h:jT l){j:Nat}(hj:j<l.length):(l.getD j default).name.length<=9223372036854775807/\0<=(l.getD j default).flags/\(l.getD j default).flags<=7 :=
 h.2 _ (by rw[List.getD_eq_getElem?_getD,List.getElem?_eq_getElem hj];exact List.getElem_mem _)
def zOf(l:List aL)(j:Nat):WX:=if h:(l.getD j default).name.length<=9223372036854775807/\0<=(l.getD j default).flags/\(l.getD j default).flags<=7 then
  ⟨(⟨(l.getD j default).name.toArray⟩,(l.getD j default).xt,(l.getD j default).flags),by simpa[ByteArray.size]using h.1,h.2⟩else⟨(⟨#[]⟩,0,0),by decide,by decide,by decide⟩
def yS{l:List aL}(h:jT l){j:Nat}(hj:j<l.length):(zOf l j).1=(⟨(l.getD j default).name.toArray⟩,(l.getD j default).xt,(l.getD j default).flags):=by
 unfold zOf;rw[dif_pos (h.get hj)]
def wOf(x:WX):aL:=⟨x.1.1.data.toList,x.1.2.1,x.1.2.2⟩
def Ra{l:List aL}(h:jT l){j:Nat}(hj:j<l.length):wOf (zOf l j)=l.getD j default:=by
 unfold wOf;rw[yS h hj]
def zQ{l:List aL}{name:Str}:∀k,(∀j,j<k->pp (l.getD j default) name=false)->lU l name k=(⟨[],0,0⟩,0,false)
 | 0,_=>rfl
 | k+1,h=>by unfold lU;rw[h k (by omega)];simp;exact zQ k (fun j hj=>h j (by omega))
def Az{l:List aL}{name:Str}{m:Nat}(hm:pp (l.getD m default) name=true):∀k,m<k->(∀j,m<j->j<k->pp (l.getD j default) name=false)->lU l name k=(l.getD m default,(m:Int),true)
 | 0,h,_=>by omega
 | k+1,h,h2=>by
  unfold lU
  by_cases e:m=k
  ·subst e;rw[hm];rfl
  rw[h2 k (by omega) (by omega)];simp;exact Az hm k (by omega) (fun j h3 h4=>h2 j h3 (by omega))
def wQ(c:Cx)(x:aL):Rep c (xu x) (.agg #[.string ⟨x.name.toArray⟩,.int .i64 x.xt,.int .i64 x.flags]):=by
 unfold xu Rep
 exact⟨[_,_,_],rfl,ai.2 ⟨av _ _,ai.2 ⟨av _ _,ai.2 ⟨av _ _,aF.2 rfl⟩⟩⟩⟩
def Nw(l:List aL)(name:Str)(hl:jT l)(hn:name.length<=9223372036854775807):af prog 64 [sq bP l,.fn (.func 65) [] [.row [str name]]] (Bt (cd l name)):=by
 intro H B σ w vs s hr
 match vs,hr with
 | [v0,v1],hr =>
  obtain⟨h0,hr⟩:=ai.1 hr
  obtain⟨h1,_⟩:=ai.1 hr
  unfold sq Rep at h0
  obtain⟨a,cap,us,rfl,hle,hnil,hrep,hlies,_⟩:=h0
  unfold Rep at h1
  obtain⟨fs,cs,rfl,hf,hc⟩:=h1
  rw[aF]at hf;subst hf
  match cs,hc with
  | [u],hc =>
   obtain⟨hu,_⟩:=ai.1 hc
   unfold Rep at hu
   obtain⟨nb,us',rfl,hn',hln⟩:=hu
   have hcell:∀j k,j<l.length->k<3->∃u,us[j*3+k]?=some u/\∃x,(bP (l.getD j default))[k]?=some x/\Rep (cx B H σ w) x u:=fun j k hj hk=>by
    have e:=TV bP 3 (fun _=>rfl) default l j k hj hk
    have:∃x,(bP (l.getD j default))[k]?=some x:=by match k,hk with|0,_=>exact⟨_,rfl⟩|1,_=>exact⟨_,rfl⟩|2,_=>exact⟨_,rfl⟩
    obtain⟨x,hx⟩:=this
    rw[hx]at e
    obtain⟨u,h5,h6⟩:=ay.get hrep e
    exact⟨u,h5,x,hx,h6⟩
   have hI:s4 w.heap.size w (.slice a l.length cap) l.length (zOf l):=by
    by_cases hz:l.length=0
    ·rw[hz];exact .inl ⟨a,cap,rfl,rfl⟩
    match a,hnil,hlies with
    | none,hnil,_=>exact absurd (hnil rfl).1 hz
    | some b,_,hlies =>
     rcases hlies b rfl with hL|⟨h9,_⟩
     ·obtain⟨hs,hL⟩:=hL
      obtain⟨blk,off,spot⟩:=b
      simp only at hs hL
      subst hs
      obtain⟨u0,q0,x0,q1,q2⟩:=hcell 0 0 (by omega) (by omega)
      have hb:blk<w.heap.size:=by
       have:=(hL _ _ q0).1
       simp only[cx]at this
       unfold World.cell? at this
       by_cases hh:blk<w.heap.size
       ·exact hh
       simp[Array.getElem?_eq_none (Nat.le_of_not_lt hh)]at this
      refine .inr ⟨blk,off,cap,rfl,hb,fun j hj=>?_,fun j hj=>?_,fun j hj=>?_⟩
      ·obtain⟨u,g1,x,g2,g3⟩:=hcell j 0 hj (by omega)
       cases g2
       unfold str Rep at g3
       subst g3
       have:=(hL _ _ g1).1
       rw[yS hl hj];exact this
      ·obtain⟨u,g1,x,g2,g3⟩:=hcell j 1 hj (by omega)
       cases g2
       unfold i64 Rep at g3
       subst g3
       have:=(hL _ _ g1).1
       rw[yS hl hj];rw[<-Nat.add_assoc]at this;exact this
      obtain⟨u,g1,x,g2,g3⟩:=hcell j 2 hj (by omega)
      cases g2
      unfold i64 Rep at g3
      subst g3
      have:=(hL _ _ g1).1
      rw[yS hl hj];rw[<-Nat.add_assoc]at this;exact this
     omega
   have hname:∀W,Below w.heap.size w W->rj ⟨W,0,fun _=>none,fun _ _=>False⟩ nb us':=fun W hB=>by
    refine⟨hln.1,fun j u hj=>⟨?_,fun k=>k⟩⟩
    have:=(hln.2 j u hj).1
    exact(be.of_below hB).cell this
   have key:=callsIn_wide.1 (WI a l.length cap nb (zOf l) (fun x=>pp (wOf x) name) (by have:=hl.1;omega) w hI (fun W hB x=>by
    have f:=as6 (wOf x) name (by show x.1.1.data.toList.length<=_;have q:=x.2.1;unfold ByteArray.size at q;rw[Array.length_toList];exact q) hn x.2.2.1 x.2.2.2 [] (fun _ _=>False) (fun _=>none) W [wv x,.pointer (some nb)] ⟨fun i j b oi oj h=>by simp at h,fun i b oi h=>by simp at h,fun b off h=>h.elim,fun i oi h=>by simp at h⟩
     (ai.2 ⟨by have:=wQ (cx (fun _ _=>False) [] (fun _=>none) W) (wOf x);simpa[wOf]using this,ai.2 ⟨by
      unfold Rep
      refine⟨nb,us',rfl,?_,?_⟩
      ·exact dj (c:=cx B H σ w) (c':=⟨w,0,fun _=>none,fun b off=>(cx B H σ w).Wr b off⟩) rfl (fun _ _ k=>k) (by simp[aG]) hn' |> fun h=>by
        match us',h with
        | [u'],h=>obtain⟨h5,_⟩:=ai.1 h;unfold str Rep at h5;subst h5;exact ai.2 ⟨av _ _,aF.2 rfl⟩
      refine⟨(hname W hB).1,fun j u hj=>⟨((hname W hB).2 j u hj).1,fun k=>?_⟩⟩
      rcases k with k|⟨i,oi,k,_⟩
      ·exact k
      simp at k,aF.2 rfl⟩⟩)
    refine Calls.mono f ?_
    rintro e W' ⟨v,σ',rfl,g1,_,g3⟩
    unfold boo Rep at g1
    subst g1
    exact⟨rfl,g3.os,g3.tape,g3.output,g3.size,fun b hb=>g3.block b hb (fun i oi h=>by simp at h)⟩))
   refine Calls.mono key ?_
   rintro e W' ⟨he,hB⟩
   obtain⟨s',st⟩:=gu s (be.of_below hB)
   rcases he with ⟨rfl,hno⟩|⟨k,hk,rfl,hy,hno⟩
   ·refine⟨_,σ,rfl,?_,s',st⟩
    have:cd l name=(⟨[],0,0⟩,0,false):=zQ l.length (fun j hj=>by have:=hno j hj;rw[Ra hl hj]at this;exact this)
    rw[this]
    unfold Bt jC Rep
    exact⟨[_,_,_],rfl,ai.2 ⟨wQ _ _,ai.2 ⟨av _ _,ai.2 ⟨av _ _,aF.2 rfl⟩⟩⟩⟩
   refine⟨_,σ,rfl,?_,s',st⟩
   have:cd l name=(l.getD k default,(k:Int),true):=Az (by rw[<-Ra hl hk];exact hy) l.length hk (fun j h1 h2=>by have:=hno j h1 h2;rw[Ra hl h2]at this;exact this)
   rw[this]
   unfold Bt jC Rep
   refine⟨[_,_,_],rfl,ai.2 ⟨?_,ai.2 ⟨av _ _,ai.2 ⟨av _ _,aF.2 rfl⟩⟩⟩⟩
   have:=wQ (cx B H σ W') (l.getD k default)
   show Rep _ _ (.agg #[.string (zOf l k).1.1,.int .i64 (zOf l k).1.2.1,.int .i64 (zOf l k).1.2.2])
   rw[yS hl hk];exact this
def wj(l:List aL)(name:Str)(hl:jT l)(hn:name.length<=9223372036854775807):af prog 37 [sq bP l,str name] (Bt (cd l name)):=by
 refine zY func37 fun B=>?_
 refine zp1 ?_
 refine bQ 3 _ rfl rfl rfl ?_
 refine zs3 ?_
 refine zp2 ?_
 refine zc rfl func64 ((Nw l name hl hn) _) ?_
 refine zy5 ?_
 refine zs1 ?_
 refine zR ?_
 rfl
section
variable {P : Program}
def SY(P:Program)(f:FuncId)(args:List PV)(res:Nat->PV)(xs:List PV)(e:TypeId):Prop:=∀H,HC P f args H (res H.length) (H++[.cells xs e])
def xj(k:Nat){H1:List Ob}{f:FuncId}{args:List PV}{res:Nat->PV}{xs:List PV}{e:TypeId}(ha:aG args)(hxs:aG xs)(hres:(∃n,∀i,res i=.arw i 0 n)\/∀i,res i=.ptr i 0)
  (hk:H1[k]?=some (.cells xs e)) (h:HC P f args [] (res k) H1):SY P f args res xs e:=by
 intro H B σ w vs s hr
 have s0:=Kh s
 have hr0:ay (cx (BoW B σ H) [] σ w) args vs:=dj (c:=cx B H σ w) (c':=cx (BoW B σ H) [] σ w) rfl (fun b off h=>by
  rcases h with h|⟨i,oi,h1,_⟩
  ·exact h
  simp at h1) ha hr
 refine Calls.mono (h (BoW B σ H) σ w vs s0 hr0) ?_
 rintro e' w' ⟨v,σ',rfl,h1,h3,h2⟩
 have g:be w w':=⟨h2.os,h2.tape,h2.output,h2.size,fun b hb=>h2.block b hb (fun i oi h=>by simp at h)⟩
 obtain⟨b,ws,fr,h4,h5,h6,h7⟩:=h3.holds k _ hk
 have hnew:w.heap.size<=b:=by
  rcases h2.new k _ b hk rfl h4 with h8|⟨j,oj,h8,_⟩
  ·exact h8
  simp at h8
 have wr:∀x off,(cx B (H++[.cells xs e]) (ext σ H.length (some b)) w').Wr x off->(cx (BoW B σ H) H1 σ' w').Wr x off:=by
  rintro x off (h|⟨j,oj,k3,k4,k5⟩)
  ·exact .inl (.inl h)
  rcases eX k3 with ⟨k6,k7⟩|⟨rfl,rfl⟩
  ·rw[bZ k6]at k4;exact .inl (.inr ⟨j,oj,k7,k4,k5⟩)
  rw[bw]at k4;cases k4;exact .inr ⟨k,_,hk,h4,trivial⟩
 obtain⟨p,q,hpq,hp⟩:=h7
 obtain⟨s',st⟩:=eR s g (.cells xs e) (some b) (fun b' hb=>by cases hb;exact hnew) ⟨b,ws,fr,by simp only[cx];rw[bw],h5,h6,p,q,hpq,dj (c:=cx (BoW B σ H) H1 σ' w') (c':=cx B (H++[.cells xs e]) (ext σ H.length (some b)) w') rfl wr hxs hp⟩
 refine⟨v,_,rfl,?_,s',st⟩
 rcases hres with ⟨n,hres⟩|hres
 ·rw[hres]at h1 ⊢
  unfold Rep at h1 ⊢
  obtain⟨_,b',cap,k1,k2,k3⟩:=h1
  simp only[cx]at h4 k1
  rw[h4]at k1;cases k1
  exact⟨by simp[cx],b,cap,by simp only[cx];rw[bw],k2,k3⟩
 rw[hres]at h1 ⊢
 unfold Rep at h1 ⊢
 obtain⟨_,b',k1,k2⟩:=h1
 simp only[cx]at h4 k1
 rw[h4]at k1;cases k1
 exact⟨by simp[cx],b,by simp only[cx];rw[bw],k2⟩
def yU{f:FuncId}{args:List PV}{res:Nat->PV}{xs:List PV}{e:TypeId}(ha:aG args)(hxs:aG xs)(hres:(∃n,∀i,res i=.arw i 0 n)\/∀i,res i=.ptr i 0)
  (h:HC P f args [] (res 0) [.cells xs e]):SY P f args res xs e:=xj 0 ha hxs hres rfl h
variable {B : Nat -> Nat -> Prop} {H : List Ob} {σ : Nat -> Option Nat} {w : World}
def V3(s:Sim B H σ w){i m q:Nat}{xs:List PV}{e:TypeId}(hi:H[i]?=some (.cells xs e))(hq:q<=xs.length){v:Value}(h1:Rep (cx B H σ w) (.arw i 0 m) v):Rep (cx B (H.set i .dead) σ w) (.seq m (xs.take q) .any) v:=by
 obtain⟨s',st⟩:=lr s hi
 unfold Rep at h1
 obtain⟨_,b,cap,hb,hmc,hv⟩:=h1
 obtain⟨b',vs,fr,hb',hg,_,hp⟩:=s.holds i _ hi
 simp only[cx]at hb hb' hg
 rw[hb]at hb'
 cases hb'
 rw[hv]
 unfold Rep
 refine⟨_,cap,vs.take q,rfl,hmc,(fun h=>by cases h),ay.mono st.le (hp.take hq),fun b1 hb1=>.inl ?_,trivial⟩
 cases hb1
 refine⟨rfl,fun j' u hu=>⟨?_,?_⟩⟩
 ·rw[List.getElem?_take]at hu
  split at hu
  ·show w.cell? ⟨b,0+j',none⟩=some u
   rw[Nat.zero_add,d9 hg];exact hu
  cases hu
 rintro(h2|⟨k,ok,h2,h3,h4⟩)
 ·exact s.sep i b _ hi rfl hb _ h2
 have hlk:ok.live=true:=by cases ok<;>first|rfl|cases h4
 by_cases hki:k=i
 ·subst hki
  rw[List.getElem?_set_self (cL hi)]at h2;cases h2;cases h4
 rw[List.getElem?_set_ne (Ne.symm hki)]at h2
 exact hki (s.inj k i b _ _ h2 hi hlk rfl h3 hb)
def XU(s:Sim B H σ w){i j m q p:Nat}{xs zs:List PV}{e t:TypeId}(hij:i≠j)(hi:H[i]?=some (.cells xs e))(hj:H[j]?=some (.cells zs t))(hp:zs[p]?=some (.arw i 0 m))(hq:q<=xs.length):
  Sim B ((H.set i .dead).set j (.cells (zs.set p (.seq m (xs.take q) .any)) t)) σ w/\dU B H σ w ((H.set i .dead).set j (.cells (zs.set p (.seq m (xs.take q) .any)) t)) σ w:=by
 obtain⟨s1,st1⟩:=lr s hi
 obtain⟨b,vs,fr,hb,hg,hf,p1,p2,hv,hr⟩:=s.holds j _ hj
 obtain⟨u,hu,h1⟩:=hr.get hp
 have h2:=V3 s hi hq h1
 have h3:rD (cx B (H.set i .dead) σ w) (zs.set p (.seq m (xs.take q) .any)) vs:=by
  refine⟨p1,p2,hv,?_⟩
  have:=ay.set p (ay.mono st1.le hr) h2
  have e:p1.set p u=p1:=by
   apply List.ext_getElem?
   intro k
   rw[List.getElem?_set]
   split
   ·rename_i hk;subst hk;split
    ·exact hu.symm
    rename_i hl;rw[List.getElem?_eq_none (by omega)]
   rfl
  rwa [e]at this
 have hj1:(H.set i .dead)[j]?=some (.cells zs t):=by rw[List.getElem?_set_ne hij];exact hj
 obtain⟨s2,st2⟩:=lm s1 hj1 hb hg hf rfl h3
 rw[setRow_self w b vs.toArray t fr hg]at s2 st2
 exact⟨s2,st1.trans st2⟩
def aE2{c:Cx}{zs ys:List PV}{vs:List Value}(h:rx zs ys)(k:rD c zs vs):rD c ys vs:=by
 obtain⟨p,q,h1,h2⟩:=k
 exact⟨p,q,h1,oP h h2⟩
def obW(s:Sim B H σ w){j:Nat}{zs ys:List PV}{t:TypeId}(hj:H[j]?=some (.cells zs t))(h:rx zs ys):Sim B (H.set j (.cells ys t)) σ w/\dU B H σ w (H.set j (.cells ys t)) σ w:=by
 obtain⟨b,vs,fr,hb,hg,hf,hp⟩:=s.holds j _ hj
 have:=lm s hj hb hg hf rfl (aE2 h hp)
 rwa [setRow_self w b vs.toArray t fr hg]at this
def uo{n:Nat}{T:Nat->PV}{all:Array Oper}{l:List Oper}{K:(Nat->PV)->List Ob->Prop}(j:Nat){zs ys:List PV}{t:TypeId}{H':List Ob}(hj:H[j]?=some (.cells zs t)){us:List PV}(hz:Oq zs=some us)(e:us=ys)(hH:nfH (H.set j (.cells ys t))=some H')(h1:WO P B n all l T H' K):WO P B n all l T H K:=by
 rw[r5 hH]at h1
 subst e
 intro hall σ w a g
 obtain⟨s',st⟩:=obW g.sim hj (uV hz)
 exact fQ (fun _ _ _ h=>gM st (fun _ _ _ h=>h) h) _ _ _ (h1 hall σ w a ⟨s',fun i=>(g.rep i).mono st.le,g.size,g.defers⟩)
def FzQ(Q:Exit->(Nat->PV)->List Ob->Prop):Exit->(Nat->PV)->List Ob->Prop:=fun e T H=>∃(i j p m q:Nat) (xs zs:List PV) (ee t:TypeId),
 i≠j/\H[i]?=some (.cells xs ee)/\H[j]?=some (.cells zs t)/\zs[p]?=some (.arw i 0 m)/\q<=xs.length/\Q e T ((H.set i .dead).set j (.cells (zs.set p (.seq m (xs.take q) .any)) t))
def au4{n:Nat}{T:Nat->PV}{c:Code}{Q:Exit->(Nat->PV)->List Ob->Prop}(h:W P B n c T H (FzQ Q)):W P B n c T H Q:=by
 intro σ w a g
 refine wp_mono (h σ w a g) ?_
 rintro e a' w' ⟨T',H',σ',⟨i,j,p,m,q,xs,zs,ee,t,h1,h2,h3,h4,h5,h6⟩,g',st⟩
 obtain⟨s',st'⟩:=XU g'.sim h1 h2 h3 h4 h5
 exact⟨T',_,σ',h6,⟨s',fun i=>(g'.rep i).mono st'.le,g'.size,g'.defers⟩,st.trans st'⟩
end
open Go.RowKit
def Ag(l:List aL)(hl:l.length<=1000000):af prog 94 [sq bP l] (sqc bP l):=by
 refine bv tG (rs:=[.tmp 2]) func94 rfl rfl rfl (by(simp;done)) (by exact kQ (fun x=>by simp) _) (fun B=>?_)
 refine zu1 ?_
 refine zp5 ?_
 refine z2 ?_ (q:=(by(simp_all;done)))
 refine Wa 8 rfl (cF bP 3 (fun _=>rfl) (by omega)) ?_
 refine zs1 ?_
 refine Wq ?_
 exact nE rfl (by simp[sqc];rfl)
def Aw(l:List rF)(hl:l.length<=1000000):af prog 215 [sq sd l] (sqc sd l):=by
 refine bv tG (rs:=[.tmp 2]) func215 rfl rfl rfl (by(simp;done)) (by exact kQ (fun x=>by simp) _) (fun B=>?_)
 refine zu1 ?_
 refine zp5 ?_
 refine z2 ?_ (q:=(by(simp_all;done)))
 refine Wa 8 rfl (cF sd 4 (fun _=>rfl) (by omega)) ?_
 refine zs1 ?_
 refine Wq ?_
 exact nE rfl (by simp[sqc];rfl)
def Qc(l:List aL)(h0:0<l.length)(hl:l.length<=1000000):HC prog 261 [sq bP l] [] (.arw 0 0 l.length) [.cells (l.flatMap bP) 61]:=by
 refine lZ tG (rs:=[.tmp 2]) func261 rfl rfl rfl (fun B=>?_)
 refine zu1 ?_
 refine Ws<|zp1 ?_
 refine vJ (lO tG rfl) rfl rfl rfl rfl rfl (fun bn1 hn1=>?_)
 refine Wn<|Wi rfl (fun hi1=>?_) (fun hi1=>?_)
 ·exact absurd (hn1 hi1).1 (by omega)
 refine Wj<|zp2 ?_
 refine Wd rfl rfl (kG (lO tG rfl) rfl (lO tG rfl) (lO tG rfl) rfl rfl ⟨_,rfl⟩ ⟨rfl,rfl,al _ 3 (fun _=>rfl) _,bi _ (fun _=>rfl) _⟩ rfl (by dsimp only;omega) (by omega) (by omega)) ?_
 refine Wa 7 rfl (show PV.arw 0 0 (0+l.length)=.arw 0 0 l.length by rw[Nat.zero_add]) ?_
 refine zs1 ?_
 refine Wq<|zH rfl ?_ ?_
 ·rfl
 rfl
def Mc(l:List aL)(h0:0<l.length)(hl:l.length<=1000000):SY prog 261 [sq bP l] (fun i=>.arw i 0 l.length) (l.flatMap bP) 61 :=
 yU (by simp) (bo (fun x=>by simp) _) (.inl ⟨_,fun _=>rfl⟩) (Qc l h0 hl)
def E8{s:Str}{k:Nat}(hk:k<s.length)(h:¬32<(s.getD k 0).toNat):s.all (fun c=>decide (32<c.toNat))=false:=by
 rw[<-Bool.not_eq_true,List.all_eq_true]
 intro q
 have:=q (s.getD k 0) (by rw[List.getD_eq_getElem?_getD,List.getElem?_eq_getElem hk];exact List.getElem_mem hk)
 exact h (oT this)
def BS{s:Str}(h:∀k,k<s.length->32<(s.getD k 0).toNat):s.all (fun c=>decide (32<c.toNat))=true:=by
 rw[List.all_eq_true]
 intro x hx
 obtain⟨k,hk,rfl⟩:=List.getElem_of_mem hx
 have:=h k hk
 rw[List.getD_eq_getElem?_getD,List.getElem?_eq_getElem hk]at this
 exact decide_eq_true this
def IB(s:Str)(hs:s.length<=1000000):af prog 357 [str s] (i64 (cI s)):=by
 refine zY func357 fun B=>?_
 refine zu1 ?_
 refine Ws<|Wl<|zp2 ?_
 refine zq 7 ?_
 refine zs1 ?_
 refine Wi rfl (fun hi1=>?_) (fun hi1=>?_)
 ·have q1:s.length=0:=by rw[oT hi1];rfl
  refine zu1 ?_
  refine zR ?_
  (rw[cI,if_pos q1];rfl)
 have q1:¬s.length=0:=fun h=>oF hi1 (List.eq_nil_of_length_eq_zero h)
 refine zp2 ?_
 refine Wa 10 rfl (eM _) ?_
 refine zs2 ?_
 refine Wi rfl (fun hi2=>?_) (fun hi2=>?_)
 ·have q2:31<s.length:=by have:=oT hi2;omega
  refine zu1 ?_
  refine zR ?_
  (rw[cI,if_neg q1,if_pos q2];rfl)
 have q2:¬31<s.length:=by have:=oF hi2;omega
 refine Wj<|Ws<|zp2 ?_
 refine Wa 13 rfl (vR _) ?_
 refine zs2 ?_
 refine Wl ?_
 show W _ _ _ _ _ _ _
 refine cQ (fun(k:Nat)=>[(13,sq ar s),(14,i64 s.length),(15,i64 k)]) (fun(k:Nat)=>[]) (fun(k:Nat)=>[]) (fun(k:Nat)=>k<=s.length/\∀j,j<k->32<(s.getD j 0).toNat) (fun(k:Nat)=>s.length-k) (0) (by exact⟨Nat.zero_le _,fun j hj=>absurd hj (Nat.not_lt_zero _)⟩) [] ?_ ?_
 ·exact cV
 intro k hk
 refine zu1 ?_
 refine Ws<|Wi rfl (fun hi3=>?_) (fun hi3=>?_)
 ·have hlt:k<s.length:=by have:=oT hi3;omega
  refine Wj<|Ws<|Wl<|z8 ?_
  refine Wv tG rfl rfl rfl (by omega) (iN ar 1 (fun _=>rfl) 0 (by omega)) ?_
  refine zs2 ?_
  refine zu2 ?_
  refine Wi rfl (fun hi4=>?_) (fun hi4=>?_)
  ·have q4:¬32<(s.getD k 0).toNat:=by have:=oT hi4;omega
   refine zu1 ?_
   refine zR ?_
   (rw[cI,if_neg q1,if_neg q2,E8 hlt q4];rfl)
  have q4:32<(s.getD k 0).toNat:=by have:=oF hi4;omega
  refine Wj<|aa rfl ?_
  refine zs2 ?_
  exact⟨k+1,[],(by exact⟨hlt,fun j hj=>by rcases Nat.lt_succ_iff_lt_or_eq.1 hj with h|h;exact hk.2 j h;rw[h];exact q4⟩),(by omega),cV⟩
 have hge:s.length<=k:=by have:=oF hi3;omega
 refine aU ?_
 refine zu1 ?_
 refine zR ?_
 (rw[cI,if_neg q1,if_neg q2,BS (fun j hj=>hk.2 j (by omega))];rfl)
def ux(n:Int)(h0:0<=n)(h7:n<=7):af prog 260 [i64 n] (boo true):=by
 refine zY func260 fun B=>?_
 refine zu1 ?_
 refine zu4 ?_
 refine zR ?_
 exact congrArg boo (by rcases qn h0 h7 with rfl|rfl|rfl|rfl|rfl|rfl|rfl|rfl<;>decide)
def bU(l:List aL)(name:Str)(xt flags limit:Int):List aL×Int :=
 if cI name≠0 then(l,cI name)else if (if 1024<limit then 1024 else limit)<=(l.length:Int)then(l,-8)else(l++[⟨name,xt,flags⟩],0)
def OZ(l:List aL)(name:Str)(xt flags limit:Int)(hl:l.length<=100000)(hn:name.length<=1000000)(h0:0<=flags)(h7:flags<=7):af prog 270 [sq bP l,str name,i64 xt,i64 flags,i64 limit] (gY (sq bP (bU l name xt flags limit).1) (i64 (bU l name xt flags limit).2)):=by
 refine zY func270 fun B=>?_
 refine zu2 ?_
 refine Ws<|zp1 ?_
 refine zc rfl func357 ((IB name hn) _) ?_
 refine zs1 ?_
 refine zu2 ?_
 refine Wi rfl (fun hi1=>?_) (fun hi1=>?_)
 ·have q1:cI name≠0:=by simpa using hi1
  refine zu4 ?_
  refine zR ?_
  (rw[bU,if_pos q1];rfl)
 have q1:¬cI name≠0:=by simpa using hi1
 refine Wj<|Ws<|Wl<|zp1 ?_
 refine zc rfl func260 ((ux flags h0 h7) _) ?_
 refine zs2 ?_
 refine Wf rfl (by rfl) ?_
 refine zp5 ?_
 refine zs1 ?_
 refine Wi rfl (fun hi3=>?_) (fun hi3=>?_)
 ·have q3:(if 1024<limit then 1024 else limit)<=(l.length:Int):=oT hi3
  refine zu3 ?_
  refine zR ?_
  (rw[bU,if_neg q1,if_pos q3];rfl)
 have q3:¬(if 1024<limit then 1024 else limit)<=(l.length:Int):=oF hi3
 refine Wj<|zp1 ?_
 refine zc rfl func94 ((Ag l (by omega)) _) ?_
 refine zy5 ?_
 refine Wa 37 rfl ((show _=PV.seq (List.length [(⟨name,xt,flags⟩:aL)]) (List.flatMap bP [(⟨name,xt,flags⟩:aL)]) .clip from rfl)) ?_
 refine Wd rfl rfl (bK (lO tG rfl) rfl (lO tG rfl) (lO tG rfl) rfl rfl (by exact⟨_,rfl⟩) (by exact⟨rfl,rfl,al _ 3 (fun _=>rfl) _,bi _ (fun _=>rfl) _⟩) (by exact al _ 3 (fun _=>rfl) _) (by((simp_all;omega))) (by((simp_all;omega)))) ?_
 refine Wa 38 rfl (bT bP) ?_
 refine zs2 ?_
 refine zR ?_
 (rw[bU,if_neg q1,if_neg q3];rfl)
def fZ(l:List aL)(n:Int):List aL×Int:=if n<0\/(l.length:Int)<n then(l,-24)else(l.take n.toNat,0)
def Hw(l:List aL)(n:Int)(hl:l.length<=1000000):af prog 53 [sq bP l,i64 n] (gY (sq bP (fZ l n).1) (i64 (fZ l n).2)):=by
 refine zY func53 fun B=>?_
 refine zu2 ?_
 refine Ws<|zp3 ?_
 refine Wb 8 rfl (fun hg1=>?_) (fun hg1=>?_)
 ·have q:n<0\/(l.length:Int)<n:=.inl (oT hg1)
  iterate 4 refine z6 ?_
  refine zs1 ?_
  refine Wt rfl rfl ?_
  refine zu3 ?_
  refine zR ?_
  (rw[fZ,if_pos q];rfl)
 refine zs5 ?_
 refine Wi rfl (fun hi1=>?_) (fun hi1=>?_)
 ·have q:n<0\/(l.length:Int)<n:=by(try simp only[dnL]at *);omega
  refine zu3 ?_
  refine zR ?_
  (rw[fZ,if_pos q];rfl)
 have q:¬(n<0\/(l.length:Int)<n):=by(try simp only[dnL]at *);omega
 have hc:=Ag (l.take n.toNat) (by simp;omega)
 have ht:sq bP ((l.take n.toNat).drop 0)=sq bP (l.take n.toNat):=by rw[List.drop_zero]
 refine Wj<|zp2 ?_
 refine z2 ?_ (q:=(by(simp_all;done)))
 refine Wa 17 rfl (cF bP 3 (fun _=>rfl) (by omega)) ?_
 refine Wa 17 rfl (ht) ?_
 refine zc rfl func94 ((hc) _) ?_
 refine zs2 ?_
 refine zR ?_
 (rw[fZ,if_neg q];rfl)
def CI:∀{l:List aL} {i:Nat},i<l.length->∀n:Int,cr (l.flatMap bP) (i*3+2) [i64 n]=(l.set i {l.getD i default with flags:=n}).flatMap bP
 | x::l,0,_,n=>by simp[cr,bP,List.flatMap_cons]
 | x::l,i+1,h,n=>by
  have ih:=CI (l:=l) (i:=i) (by simpa using h) n
  have e:∀r:List PV,cr (bP x++r) ((i+1)*3+2) [i64 n]=bP x++cr r (i*3+2) [i64 n]:=by
   intro r
   unfold cr
   have h1:(bP x).length=3:=rfl
   rw[List.take_append,List.drop_append,h1,List.take_of_length_le (by omega),List.drop_of_length_le (by rw[h1];simp),show(i+1)*3+2-3=i*3+2 by omega,show(i+1)*3+2+[i64 n].length-3=i*3+2+[i64 n].length by omega]
   simp
  rw[List.flatMap_cons,e,ih]
  rfl
 | [],i,h,n=>by simp at h
def cz(l:List aL)(a f:Int):List aL×Int:=if a<0\/(l.length:Int)<=a then(l,-24)else(l.set a.toNat {l.getD a.toNat default with flags:=f},0)
def CS(l:List aL)(a f:Int)(hl:l.length<=1000000)(h0:0<=f)(h7:f<=7):af prog 214 [sq bP l,i64 a,i64 f] (gY (sq bP (cz l a f).1) (i64 (cz l a f).2)):=by
 refine zY func214 fun B=>?_
 refine zu2 ?_
 refine Ws<|zp3 ?_
 refine Wb 10 rfl (fun hg1=>?_) (fun hg1=>?_)
 ·have q:a<0\/(l.length:Int)<=a:=.inl (oT hg1)
  iterate 4 refine z6 ?_
  refine zy2 ?_
  iterate 3 refine z6 ?_
  refine zs1 ?_
  refine Wt rfl rfl ?_
  refine zu3 ?_
  refine zR ?_
  (rw[cz,if_pos q];rfl)
 refine zy5 ?_
 refine z1 ?_
 refine Wb 16 rfl (fun hg2=>?_) (fun hg2=>?_)
 ·have q:a<0\/(l.length:Int)<=a:=by(try simp only[dnL]at *);omega
  iterate 3 refine z6 ?_
  refine zs1 ?_
  refine Wt rfl rfl ?_
  refine zu3 ?_
  refine zR ?_
  (rw[cz,if_pos q];rfl)
 have q:¬(a<0\/(l.length:Int)<=a):=by(try simp only[dnL]at *);omega
 have hp:0<l.length:=by omega
 obtain⟨k,hk⟩:∃k:Nat,a=(k:Int):=⟨a.toNat,by omega⟩
 subst hk
 refine z1 ?_
 refine zc rfl func260 ((ux f h0 h7) _) ?_
 refine zs2 ?_
 refine Wf rfl (by rfl) ?_
 refine Wj<|zp1 ?_
 refine zc rfl func261 (Mc l hp hl _) ?_
 refine Wa 23 rfl ((show PV.arw (List.length ([]:List Ob)) 0 l.length=.arw 0 0 l.length from rfl)) ?_
 refine zs1 ?_
 refine zp3 ?_
 refine z2 ?_ (q:=(by omega))
 refine z1 ?_
 refine Wd rfl rfl (bH (lO tG rfl) rfl rfl rfl rfl rfl rfl (by rw[Nat.ble_eq,al bP 3 (fun _=>rfl)];dsimp only;rw[Int.toNat_natCast];simp;omega)) ?_
 refine iS (H':=[.cells ((l.set k {l.getD k default with flags:=f}).flatMap bP) 61]) (by rw[<-CI (by omega)];dsimp only;rw[Int.toNat_natCast,Nat.zero_add];rfl) ?_
 refine Wn<|zp1 ?_
 refine m7 29 0 l.length (l.length*3) rfl rfl (by rw[al bP 3 (fun _=>rfl),List.length_set];exact Nat.le_refl _) ?_
 refine zs2 ?_
 refine zR ?_
 (rw[cz,if_neg q,List.take_of_length_le (by rw[al bP 3 (fun _=>rfl),List.length_set];exact Nat.le_refl _)];show PV.tup _=PV.tup [PV.seq _ _ _,_];rw[List.length_set];rfl)
def dr(s:Str)(a:Int):Nat:=if a<0\/(s.length:Int)<a then s.length else a.toNat
def EE(s:Str)(a:Int):dr s a<=s.length:=by unfold dr;split<;>omega
def G8(s:Str)(a:Int)(hs:s.length<=9223372036854775807):af prog 63 [str s,i64 a] (i64 (dr s a)):=by
 refine zY func63 fun B=>?_
 refine zu1 ?_
 refine Ws<|zp3 ?_
 refine Wb 7 rfl (fun hg1=>?_) (fun hg1=>?_)
 ·have q:a<0\/(s.length:Int)<a:=.inl (oT hg1)
  iterate 4 refine z6 ?_
  refine zs1 ?_
  refine Wt rfl rfl ?_
  refine zp2 ?_
  refine Wa 14 rfl (eM _) ?_
  refine zs1 ?_
  refine zR ?_
  (unfold dr;rw[if_pos q];rfl)
 refine zy3 ?_
 refine Wa 10 rfl (eM _) ?_
 refine zs2 ?_
 refine Wi rfl (fun hi1=>?_) (fun hi1=>?_)
 ·have q:a<0\/(s.length:Int)<a:=by(try simp only[dnL]at *);omega
  refine zp2 ?_
  refine Wa 14 rfl (eM _) ?_
  refine zs1 ?_
  refine zR ?_
  (unfold dr;rw[if_pos q];rfl)
 have q:¬(a<0\/(s.length:Int)<a):=by(try simp only[dnL]at *);omega
 refine Wj<|zu2 ?_
 refine zR ?_
 (unfold dr;rw[if_neg q];exact congrArg i64 (by omega))
def xq(s:Str):Nat->Nat->Nat
 | 0,k=>k
 | m+1,k=>if k<s.length/\((s.getD k 0).toNat:Int)<=32 then xq s m (k+1)else k
def HO(s:Str):Nat->Nat->Nat
 | 0,k=>k
 | m+1,k=>if k<s.length/\32<((s.getD k 0).toNat:Int)then HO s m (k+1)else k
def k9(s:Str)(k:Nat):Nat:=xq s (s.length-k) k
def nq(s:Str)(k:Nat):Nat:=HO s (s.length-k) k
def Qq{s:Str}{k:Nat}(h:k<s.length)(q:((s.getD k 0).toNat:Int)<=32):k9 s k=k9 s (k+1):=by
 unfold k9
 rw[show s.length-k=(s.length-(k+1))+1 by omega,xq,if_pos ⟨h,q⟩]
def DK{s:Str}{k:Nat}(q:¬(k<s.length/\((s.getD k 0).toNat:Int)<=32)):k9 s k=k:=by
 unfold k9
 cases s.length-k with
 | zero=>rfl
 | succ m=>rw[xq,if_neg q]
def Tm{s:Str}{k:Nat}(h:k<s.length)(q:32<((s.getD k 0).toNat:Int)):nq s k=nq s (k+1):=by
 unfold nq
 rw[show s.length-k=(s.length-(k+1))+1 by omega,HO,if_pos ⟨h,q⟩]
def Af{s:Str}{k:Nat}(q:¬(k<s.length/\32<((s.getD k 0).toNat:Int))):nq s k=k:=by
 unfold nq
 cases s.length-k with
 | zero=>rfl
 | succ m=>rw[HO,if_neg q]
def zO(s:Str):∀(m k:Nat),k<=s.length->k<=xq s m k/\xq s m k<=s.length
 | 0,k,h=>⟨Nat.le_refl _,h⟩
 | m+1,k,h=>by
  rw[xq]
  split
  ·rename_i q;have:=zO s m (k+1) (by omega);omega
  omega
def Dd(s:Str):∀(m k:Nat),k<=s.length->k<=HO s m k/\HO s m k<=s.length
 | 0,k,h=>⟨Nat.le_refl _,h⟩
 | m+1,k,h=>by
  rw[HO]
  split
  ·rename_i q;have:=Dd s m (k+1) (by omega);omega
  omega
def bu(s:Str)(a:Int):Str×Int :=
 let b:=k9 s (dr s a)
 let e:=nq s b
 ((s.take e).drop b,min ((e:Int)+1) s.length)
def Gh(s:Str)(a:Int)(hs:s.length<=1000000):af prog 36 [str s,i64 a] (gY (str (bu s a).1) (i64 (bu s a).2)):=by
 have hf:=EE s a
 obtain⟨b,hb⟩:∃b,k9 s (dr s a)=b:=⟨_,rfl⟩
 obtain⟨e,he⟩:∃e,nq s b=e:=⟨_,rfl⟩
 have hb1:=zO s (s.length-dr s a) (dr s a) hf
 have hb2:xq s (s.length-dr s a) (dr s a)=b:=hb
 rw[hb2]at hb1
 have he1:=Dd s (s.length-b) b hb1.2
 have he2:HO s (s.length-b) b=e:=he
 rw[he2]at he1
 have hE:bu s a=((s.take e).drop b,min ((e:Int)+1) s.length):=by unfold bu;dsimp only;rw[hb,he]
 have hw:(if (s.length:Int)<IntKind.i64.wrap ((e:Int)+1)then(s.length:Int)else IntKind.i64.wrap ((e:Int)+1))=min ((e:Int)+1) s.length:=by
  rw[gq (by omega) (by omega)];split<;>omega
 rw[hE]
 refine zY func36 fun B=>?_
 refine zu2 ?_
 refine zp2 ?_
 refine zc rfl func63 ((G8 s a (by omega)) _) ?_
 refine zs1 ?_
 refine Ws<|Wl ?_
 show W _ _ _ _ _ _ _
 refine cQ (fun(k:Nat)=>[(0,str s),(1,i64 k)]) (fun(k:Nat)=>[]) (fun(k:Nat)=>[]) (fun(k:Nat)=>k<=s.length/\k9 s k=b) (fun(k:Nat)=>s.length-k) (dr s a) (by exact⟨hf,hb⟩) [] ?_ ?_
 ·exact cV
 intro k hk
 refine Ws<|zp3 ?_
 refine Wa 12 rfl (eM _) ?_
 refine zy2 ?_
 refine Wb 14 rfl (fun hg1=>?_) (fun hg1=>?_)
 ·have hlt:k<s.length:=by have:=oT hg1;omega
  refine zy2 ?_
  refine z2 ?_ (q:=(by simp only[cE];omega))
  refine Wa 17 rfl (oO _ _) ?_
  refine zs2 ?_
  refine Wi rfl (fun hi1=>?_) (fun hi1=>?_)
  ·have q:((s.getD k 0).toNat:Int)<=32:=oT hi1
   refine Wj<|Wl<|aa rfl ?_
   refine zs3 ?_
   exact⟨k+1,[],(by exact⟨hlt,(Qq hlt q).symm.trans hk.2⟩),(by omega),cV⟩
  have q:¬(k<s.length/\((s.getD k 0).toNat:Int)<=32):=fun h=>oF hi1 h.2
  obtain rfl:b=k:=((DK q).symm.trans hk.2).symm
  refine aU ?_
  refine zu2 ?_
  refine Ws<|Wl ?_
  show W _ _ _ _ _ _ _
  refine cQ (fun(j:Nat)=>[(0,str s),(1,i64 b),(6,i64 j)]) (fun(j:Nat)=>[]) (fun(j:Nat)=>[]) (fun(j:Nat)=>j<=s.length/\nq s j=e) (fun(j:Nat)=>s.length-j) (b) (by exact⟨hb1.2,he⟩) [] ?_ ?_
  ·exact cV
  intro j hj
  refine Ws<|zp3 ?_
  refine Wa 25 rfl (eM _) ?_
  refine zy2 ?_
  refine Wb 27 rfl (fun hg2=>?_) (fun hg2=>?_)
  ·have hlt:j<s.length:=by have:=oT hg2;omega
   refine zy2 ?_
   refine z2 ?_ (q:=(by simp only[cE];omega))
   refine Wa 30 rfl (oO _ _) ?_
   refine zs2 ?_
   refine Wi rfl (fun hi2=>?_) (fun hi2=>?_)
   ·have q:32<((s.getD j 0).toNat:Int):=oT hi2
    refine Wj<|Wl<|aa rfl ?_
    refine zs3 ?_
    exact⟨j+1,[],(by exact⟨hlt,(Tm hlt q).symm.trans hj.2⟩),(by omega),cV⟩
   have q:¬(j<s.length/\32<((s.getD j 0).toNat:Int)):=fun h=>oF hi2 h.2
   obtain rfl:e=j:=((Af q).symm.trans hj.2).symm
   refine aU ?_
   refine zp3 ?_
   refine z2 ?_ (q:=(by simp only[cE];omega))
   refine Wa 38 rfl (iX _ _ _) ?_
   refine zy4 ?_
   refine Wa 42 rfl (eM _) ?_
   refine zs3 ?_
   refine zR ?_
   rw[hw,Int.toNat_natCast,Int.toNat_natCast];rfl
  have hge:¬(j<s.length/\32<((s.getD j 0).toNat:Int)):=fun h=>by have:=oF hg2;omega
  obtain rfl:e=j:=((Af hge).symm.trans hj.2).symm
  iterate 4 refine z6 ?_
  refine zs1 ?_
  refine Wf rfl rfl ?_
  refine aU ?_
  refine zp3 ?_
  refine z2 ?_ (q:=(by simp only[cE];omega))
  refine Wa 38 rfl (iX _ _ _) ?_
  refine zy4 ?_
  refine Wa 42 rfl (eM _) ?_
  refine zs3 ?_
  refine zR ?_
  rw[hw,Int.toNat_natCast,Int.toNat_natCast];rfl
 have hge:¬(k<s.length/\((s.getD k 0).toNat:Int)<=32):=fun h=>by have:=oF hg1;omega
 obtain rfl:b=k:=((DK hge).symm.trans hk.2).symm
 iterate 4 refine z6 ?_
 refine zs1 ?_
 refine Wf rfl rfl ?_
 refine aU ?_
 refine zu2 ?_
 refine Ws<|Wl ?_
 show W _ _ _ _ _ _ _
 refine cQ (fun(j:Nat)=>[(0,str s),(1,i64 b),(6,i64 j)]) (fun(j:Nat)=>[]) (fun(j:Nat)=>[]) (fun(j:Nat)=>j<=s.length/\nq s j=e) (fun(j:Nat)=>s.length-j) (b) (by exact⟨hb1.2,he⟩) [] ?_ ?_
 ·exact cV
 intro j hj
 refine Ws<|zp3 ?_
 refine Wa 25 rfl (eM _) ?_
 refine zy2 ?_
 refine Wb 27 rfl (fun hg2=>?_) (fun hg2=>?_)
 ·have hlt:j<s.length:=by have:=oT hg2;omega
  refine zy2 ?_
  refine z2 ?_ (q:=(by simp only[cE];omega))
  refine Wa 30 rfl (oO _ _) ?_
  refine zs2 ?_
  refine Wi rfl (fun hi2=>?_) (fun hi2=>?_)
  ·have q:32<((s.getD j 0).toNat:Int):=oT hi2
   refine Wj<|Wl<|aa rfl ?_
   refine zs3 ?_
   exact⟨j+1,[],(by exact⟨hlt,(Tm hlt q).symm.trans hj.2⟩),(by omega),cV⟩
  have q:¬(j<s.length/\32<((s.getD j 0).toNat:Int)):=fun h=>oF hi2 h.2
  obtain rfl:e=j:=((Af q).symm.trans hj.2).symm
  refine aU ?_
  refine zp3 ?_
  refine z2 ?_ (q:=(by simp only[cE];omega))
  refine Wa 38 rfl (iX _ _ _) ?_
  refine zy4 ?_
  refine Wa 42 rfl (eM _) ?_
  refine zs3 ?_
  refine zR ?_
  rw[hw,Int.toNat_natCast,Int.toNat_natCast];rfl
 have hge:¬(j<s.length/\32<((s.getD j 0).toNat:Int)):=fun h=>by have:=oF hg2;omega
 obtain rfl:e=j:=((Af hge).symm.trans hj.2).symm
 iterate 4 refine z6 ?_
 refine zs1 ?_
 refine Wf rfl rfl ?_
 refine aU ?_
 refine zp3 ?_
 refine z2 ?_ (q:=(by simp only[cE];omega))
 refine Wa 38 rfl (iX _ _ _) ?_
 refine zy4 ?_
 refine Wa 42 rfl (eM _) ?_
 refine zs3 ?_
 refine zR ?_
 rw[hw,Int.toNat_natCast,Int.toNat_natCast];rfl
def AM(s:Str)(c:UInt8):af prog 262 [str s,.val (.int .u8 (c.toNat:Int))] (i64 (Lib.indexByte s c)) :=
 dM (args:=[.string ⟨s.toArray⟩,.int .u8 (c.toNat:Int)]) (v:=.int .i64 (Lib.indexByte s c)) (fun c=>av _ _)
  fun W=>Calls.mono (Tryz.strings_IndexByte ⟨s.toArray⟩ (c.toNat:Int) W) fun _ _ q=>⟨by rw[q.1];simp,by rw[q.2];exact be.refl _⟩
def Ax:∀(l:List UInt8) (c:UInt8),Lib.indexByte l c<l.length\/(Lib.indexByte l c = -1)
 | [],c=>.inr rfl
 | b::l,c=>by
  unfold Lib.indexByte
  have h:=Ax l c
  split
  ·left;rw[List.length_cons];omega
  split
  ·exact .inr rfl
  rename_i q;left;rw[List.length_cons]
  rcases h with h|h
  ·omega
  rw[h]at q;exact absurd rfl q
def kZ(s:Str)(a:Int)(c:UInt8):Str×Int×Bool :=
 let b:=dr s a
 let n:=Lib.indexByte (s.drop b) c
 if n<0 then(s.drop b,s.length,false)else((s.take (b+n.toNat)).drop b,b+n+1,true)
def ag7{s:Str}{a:Int}{c:UInt8}(h:Lib.indexByte (s.drop (dr s a)) c<0):kZ s a c=(s.drop (dr s a),(s.length:Int),false):=by unfold kZ;dsimp only;rw[if_pos h]
def af4{s:Str}{a:Int}{c:UInt8}(h:¬Lib.indexByte (s.drop (dr s a)) c<0):kZ s a c=((s.take (dr s a+(Lib.indexByte (s.drop (dr s a)) c).toNat)).drop (dr s a),(dr s a:Int)+Lib.indexByte (s.drop (dr s a)) c+1,true):=by unfold kZ;dsimp only;rw[if_neg h]
def Rf(s:Str)(a:Int)(c:UInt8)(hs:s.length<=1000000):af prog 219 [str s,i64 a,.val (.int .u8 (c.toNat:Int))] (.tup [str (kZ s a c).1,i64 (kZ s a c).2.1,boo (kZ s a c).2.2]):=by
 have hf:=EE s a
 have hi:=Ax (s.drop (dr s a)) c
 have hg:=Lib.indexByte_ge (s.drop (dr s a)) c
 rw[List.length_drop]at hi
 obtain⟨b,hb⟩:∃b,dr s a=b:=⟨_,rfl⟩
 obtain⟨n,hn⟩:∃n,Lib.indexByte (s.drop b) c=n:=⟨_,rfl⟩
 have un:=ag7 (s:=s) (a:=a) (c:=c)
 have uy:=af4 (s:=s) (a:=a) (c:=c)
 have pf:=G8 s a (by omega)
 have pi:=AM (s.drop b) c
 have ed:((s.take s.length).drop (((b:Nat):Int)).toNat)=s.drop b:=by rw[List.take_length,Int.toNat_natCast]
 rw[hb]at hi hg hf un uy pf
 rw[hn]at hi hg un uy pi
 refine zY func219 fun B=>?_
 refine zu3 ?_
 refine zp2 ?_
 refine zc rfl func63 ((pf) _) ?_
 refine zs1 ?_
 refine zp2 ?_
 refine z2 ?_ (q:=(by simp only[cE];((simp_all;done))))
 refine Wa 15 rfl (iX _ _ _) ?_
 refine Wa 15 rfl (congrArg str ed) ?_
 refine z1 ?_
 refine zc rfl func262 ((pi) _) ?_
 refine zs1 ?_
 refine Ws<|zu2 ?_
 refine Wi rfl (fun hi1=>?_) (fun hi1=>?_)
 ·have q:n<0:=oT hi1
  refine zp2 ?_
  refine z2 ?_ (q:=(by simp only[cE];((simp_all;done))))
  refine Wa 22 rfl (iX _ _ _) ?_
  refine Wa 22 rfl (congrArg str ed) ?_
  refine zy2 ?_
  refine Wa 24 rfl (eM _) ?_
  refine zs3 ?_
  refine zR ?_
  (rw[un q];rfl)
 have q:¬n<0:=oF hi1
 have w1:IntKind.i64.wrap ((b:Int)+n)=((b+n.toNat:Nat):Int):=by rw[gq (by omega) (by omega)];omega
 have w2:IntKind.i64.wrap (IntKind.i64.wrap ((b:Int)+n)+1)=(b:Int)+n+1:=by rw[gq (n:=(b:Int)+n) (by omega) (by omega),gq (by omega) (by omega)]
 refine Wj<|zp5 ?_
 refine Wa 29 rfl (zI9 w1) ?_
 refine z2 ?_ (q:=(by simp only[cE];omega))
 refine Wa 30 rfl (iX _ _ _) ?_
 refine zy4 ?_
 refine Wa 34 rfl (zI9 w2) ?_
 refine zs3 ?_
 refine zR ?_
 (rw[uy q];rfl)
def LL{k:IntKind}{a b:Int}(h:a=b):Ending.returned (.int k a)=.returned (.int k b):=by rw[h]
def au0{a b:Bool}(h:a=b):Ending.returned (.bool a)=.returned (.bool b):=by rw[h]
def NK:∀k:Nat,(h:k<36)->(((ByteArray.mk #[48,49,50,51,52,53,54,55,56,57,65,66,67,68,69,70,71,72,73,74,75,76,77,78,79,80,81,82,83,84,85,86,87,88,89,90])[k]'(by exact h)).toNat:Int)=vx k:=by decide
def wG(n:Int)(w:World):Calls prog 379 #[.int .i64 n] w fun e w'=>e=.returned (.int .u8 (vx n))/\w=w':=by
 by_cases h0:n<0
 ·have d:decide (n<0)=true:=by simp[h0]
  go_enter func379,ntmps379
  go_wp2
  go_ret
  exact⟨LL (by unfold vx;rw[if_neg (by omega),if_neg (by omega)]),rfl⟩
 by_cases h1:36<=n
 ·have d:decide (n<0)=false:=by simp;omega
  have d1:decide (36<=n)=true:=by simp[h1]
  go_enter func379,ntmps379
  go_wp2
  go_ret
  exact⟨LL (by unfold vx;rw[if_neg (by omega),if_neg (by omega)]),rfl⟩
 have d:decide (n<0)=false:=by simp;omega
 have d1:decide (36<=n)=false:=by simp;omega
 obtain⟨k,rfl⟩:=Int.eq_ofNat_of_zero_le (by omega:0<=n)
 go_enter func379,ntmps379
 go_wp2
 go_ret
 exact⟨LL (NK k (by omega)),rfl⟩
def ED(b:Int)(w:World):Calls prog 77 #[.int .i64 b] w fun e w'=>e=.returned (.bool (isB b))/\w=w':=by
 go_enter func77,ntmps77
 go_wp2
 all_goals go_ret
 all_goals exact⟨au0 (by unfold isB;simp<;>omega),rfl⟩
def CM(c:Int)(w:World)(h0 : -2147483648<=c)(h1:c<=2147483647):Calls prog 78 #[.int .i32 c] w fun e w'=>e=.returned (.int .i64 (wd c))/\w=w':=by
 go_enter func78,ntmps78
 go_wp2
 all_goals go_ret
 all_goals exact⟨LL (by clear h0 h1;unfold wd;(repeat' split)<;>omega),rfl⟩
def jp(s:ByteArray):s.data.toList.length=s.size:=by simp
def IR(s:ByteArray)(h:s.size=3)(h0:0<s.size)(h1:1<s.size)(h2:2<s.size):s.data.toList=[s[0],s[1],s[2]]:=by
 apply List.ext_getElem
 ·simp;exact h
 intro i h1 h2
 simp at h2
 match i with
 | 0=>rfl
 | 1=>rfl
 | 2=>rfl
def H9(l:List UInt8)(h:l.length≠3):po l=none:=by
 unfold po
 split
 ·simp at h
 rfl
def Kr(c:UInt8)(n:Nat)(h:n<256):c=UInt8.ofNat n↔(c.toNat:Int)=n:=by
 constructor
 ·rintro rfl;rw[UInt8.toNat_ofNat'];omega
 intro e;apply UInt8.toNat.inj;rw[UInt8.toNat_ofNat'];omega
def y6(a b c:UInt8):po [a,b,c]=if (a.toNat:Int)=39/\(c.toNat:Int)=39/\33<=(b.toNat:Int)/\(b.toNat:Int)<=126 then some (b.toNat:Int)else none:=by
 have ha:=Kr a 39 (by omega)
 have hc:=Kr c 39 (by omega)
 simp only[po]
 rw[show(UInt8.ofNat 39)=39 from rfl]at ha hc
 simp only[ha,hc]
 by_cases h:(a.toNat:Int)=39/\(c.toNat:Int)=39/\33<=(b.toNat:Int)/\(b.toNat:Int)<=126
 ·rw[if_pos h,if_pos (by omega)]
 rw[if_neg h,if_neg (by omega)]
def PF{a:Int}{x:Bool}{o:Option Int}(h:o.getD 0=a)(g:o.isSome=x):Ending.returned (.tuple #[.int .i64 a,.bool x])=.returned (.tuple #[.int .i64 (o.getD 0),.bool o.isSome]):=by rw[h,g]
def B8(a b c:UInt8)(h:(a.toNat:Int)=39/\(c.toNat:Int)=39/\33<=(b.toNat:Int)/\(b.toNat:Int)<=126):po [a,b,c]=some (b.toNat:Int):=by rw[y6,if_pos h]
def FA(a b c:UInt8)(h:¬((a.toNat:Int)=39/\(c.toNat:Int)=39/\33<=(b.toNat:Int)/\(b.toNat:Int)<=126)):po [a,b,c]=none:=by rw[y6,if_neg h]
def SI(s:ByteArray)(w:World)(hs:s.size<=9223372036854775807):Calls prog 74 #[.string s] w fun e w'=>e=.returned (.tuple #[.int .i64 ((po s.data.toList).getD 0),.bool (po s.data.toList).isSome])/\w=w':=by
 by_cases h3:s.size=3
 ·have t0:((s.size:Int) != 3)=false:=by simp;omega
  have t1:0<s.size:=by omega
  have t2:1<s.size:=by omega
  have t3:2<s.size:=by omega
  have E:=Lib.hid (IR s h3 t1 t2 t3)
  clear h3
  go_enter func74,ntmps74
  go_wp2
  all_goals go_ret2
  all_goals first
   | (exact⟨PF (by rw[E.out,B8 _ _ _ (by omega)];rfl) (by rw[E.out,B8 _ _ _ (by omega)];rfl),rfl⟩)
   | (exact⟨PF (by rw[E.out,FA _ _ _ (by omega)];rfl) (by rw[E.out,FA _ _ _ (by omega)];rfl),rfl⟩)
 have e:=H9 s.data.toList (by rw[jp];exact h3)
 have E:=Lib.hid e
 have t0:((s.size:Int) != 3)=true:=by simp;omega
 clear h3 e
 go_enter func74,ntmps74
 go_wp2
 go_ret2
 exact⟨by rw[E.out];rfl,rfl⟩
def HF(s:ByteArray)(h:0<s.size):s.toList.isEmpty=false:=by
 rw[ByteArray.toList_eq];cases hl:s.data.toList with
 | nil=>have:=jp s;rw[hl]at this;simp at this;omega
 | cons a l=>rfl
def CB(s:ByteArray)(h:s.size=0):s.toList.isEmpty=true:=by
 rw[ByteArray.toList_eq];have:=jp s;cases hl:s.data.toList with
 | nil=>rfl
 | cons a l=>rw[hl]at this;simp at this;omega
def mB(s:ByteArray)(b:Int):Int×ByteArray :=
 if h:0<s.size then(if s[0]=35 then(10,s.extract 1 s.size)else if s[0]=36 then(16,s.extract 1 s.size)else if s[0]=37 then(2,s.extract 1 s.size)else(b,s))else(b,s)
def D9(c:UInt8)(n:Nat)(h:n<256)(e:c=UInt8.ofNat n):((c.toNat:Int)==n)=true:=by simp only[beq_iff_eq];exact(Kr c n h).1 e
def EO(c:UInt8)(n:Nat)(h:n<256)(e:c≠UInt8.ofNat n):((c.toNat:Int)==n)=false:=by simp only[beq_eq_false_iff_ne];exact fun g=>e ((Kr c n h).2 g)
def Xv(s:ByteArray)(b:Int)(h0:¬0<s.size):mB s b=(b,s):=by unfold mB;rw[dif_neg h0]
def JO(s:ByteArray)(b:Int):vn s.data.toList b=((mB s b).1,(mB s b).2.data.toList):=by
 unfold mB
 by_cases h0:0<s.size
 ·have e:s.data.toList=s[0]::s.data.toList.drop 1:=by
   have h1:0<s.data.toList.length:=by rw[jp];exact h0
   rw[show s[0]=s.data.toList[0] from rfl]
   simpa using (List.drop_eq_getElem_cons h1)
  rw[dif_pos h0]
  have hx:=Lib.extract_to_end s 1
  generalize s.extract 1 s.size=t at hx ⊢
  conv=>lhs;rw[e]
  simp only[vn]
  split
  ·rw[hx]
  split
  ·rw[hx]
  split
  ·rw[hx]
  rw[<-e]
 rw[dif_neg h0]
 have:s.data.toList=[]:=List.eq_nil_of_length_eq_zero (by rw[jp];omega)
 rw[this]
 rfl
def JI(s:ByteArray)(b:Int)(w:World)(hs:s.size<=9223372036854775807):Calls prog 75 #[.string s,.int .i64 b] w fun e w'=>e=.returned (.tuple #[.int .i64 (mB s b).1,.string (mB s b).2])/\∃n,w'=w.drewN n:=by
 by_cases h0:0<s.size
 ·have t:=HF s h0
  by_cases h1:s[0]=35
  ·have c1:((s[0].toNat:Int)==35)=true:=D9 s[0] 35 (by omega) h1
   have e:mB s b=(10,s.extract 1 s.size):=by unfold mB;rw[dif_pos h0,if_pos h1]
   have E:=Lib.hid e
   clear e h1
   go_enter func75,ntmps75
   go_wp2
   go_region
   go_wp2
   go_ret2
   exact⟨by rw[E.out];rfl,1,rfl⟩
  have c1:((s[0].toNat:Int)==35)=false:=EO s[0] 35 (by omega) h1
  by_cases h2:s[0]=36
  ·have c2:((s[0].toNat:Int)==36)=true:=D9 s[0] 36 (by omega) h2
   have e:mB s b=(16,s.extract 1 s.size):=by unfold mB;rw[dif_pos h0,if_neg h1,if_pos h2]
   have E:=Lib.hid e
   clear e h1 h2
   go_enter func75,ntmps75
   go_wp2
   go_region
   go_wp2
   go_ret2
   exact⟨by rw[E.out];rfl,1,rfl⟩
  have c2:((s[0].toNat:Int)==36)=false:=EO s[0] 36 (by omega) h2
  by_cases h3:s[0]=37
  ·have c3:((s[0].toNat:Int)==37)=true:=D9 s[0] 37 (by omega) h3
   have e:mB s b=(2,s.extract 1 s.size):=by unfold mB;rw[dif_pos h0,if_neg h1,if_neg h2,if_pos h3]
   have E:=Lib.hid e
   clear e h1 h2 h3
   go_enter func75,ntmps75
   go_wp2
   go_region
   go_wp2
   go_ret2
   exact⟨by rw[E.out];rfl,1,rfl⟩
  have c3:((s[0].toNat:Int)==37)=false:=EO s[0] 37 (by omega) h3
  have e:mB s b=(b,s):=by unfold mB;rw[dif_pos h0,if_neg h1,if_neg h2,if_neg h3]
  have E:=Lib.hid e
  clear e h1 h2 h3
  go_enter func75,ntmps75
  go_wp2
  go_ret2
  exact⟨by rw[E.out];rfl,0,rfl⟩
 have t:=CB s (by omega)
 have E:=Lib.hid (Xv s b h0)
 go_enter func75,ntmps75
 go_wp2
 go_ret2
 exact⟨by rw[E.out];rfl,0,rfl⟩
def Un(s:ByteArray):ByteArray×Bool:=(⟨(v8 s.data.toList).1.toArray⟩,(v8 s.data.toList).2)
def W5(s:ByteArray)(w:World):Calls prog 76 #[.string s,.string ⟨#[45]⟩] w fun e w'=>e=.returned (.tuple #[.string (Un s).1,.bool (Un s).2])/\w=w':=by
 refine(Tryz.strings_CutPrefix s ⟨#[45]⟩ w).mono ?_
 rintro e w' ⟨rfl,rfl⟩
 refine⟨?_,rfl⟩
 have h:Lib.trimPrefix s.data.toList [45]=(v8 s.data.toList).1/\Lib.hasPrefix s.data.toList [45]=(v8 s.data.toList).2:=by
  cases s.data.toList with
  | nil=>exact⟨rfl,rfl⟩
  | cons c l =>
   by_cases h:c=45
   ·subst h;simp[v8,Lib.trimPrefix,Lib.hasPrefix,List.isPrefixOf]
   have h':¬45=c:=fun e=>h e.symm
   simp[v8,Lib.trimPrefix,Lib.hasPrefix,List.isPrefixOf,h,h']
 show Ending.returned (.tuple #[.string ⟨(Lib.trimPrefix s.data.toList [45]).toArray⟩,.bool (Lib.hasPrefix s.data.toList [45])])=_
 rw[h.1,h.2]
 rfl
def Hs{l l' m:List UInt8}{b b':Int}{below:Bool}(h:po l=none)(hp:vn l b=(b',l'))(hc:v8 l'=(m,below)):dR l b=rm m b' below:=by
 unfold dR;rw[h,hp];simp only[hc]
def FQ{l:List UInt8}{b n:Int}(h:po l=some n):dR l b=(n,true):=by
 unfold dR;rw[h]
def N3(b:Int)(below:Bool):rm [] b below=(0,false):=by unfold rm;rw[if_pos (.inl rfl)]
def NR(l:List UInt8)(b:Int)(below:Bool)(h:isB b=false):rm l b below=(0,false):=by unfold rm;rw[if_pos (.inr (.inl h))]
def BW(s:ByteArray)(k:Nat)(h:k<s.size):s.data.toList.take (k+1)=s.data.toList.take k++[s[k]]:=by
 rw[List.take_succ_eq_append_getElem (by simpa using h)];rfl
def GP(p:UInt8->Bool)(s:ByteArray)(k:Nat)(h:k<s.size)(hb:p s[k]=false):s.data.toList.all p=false:=by
 rw[List.all_eq_false]
 exact⟨s[k],List.getElem_mem (by simpa using h),by simp[hb]⟩
def nV{w w1:World}(hb:Below w.heap.size w w1)(s:ByteArray)(p:Nat):Below w.heap.size w (w1.iter s p):=hb.alloc hb.size _
def MV(s:ByteArray)(b:Int)(w:World)(hs:s.size<=9223372036854775807):Calls prog 40 #[.string s,.int .i64 b] w fun e w'=>e=.returned (.tuple #[.int .i64 (dR s.data.toList b).1,.bool (dR s.data.toList b).2])/\Below w.heap.size w w':=by
 have S0:=fun w=>SI s w hs
 match hsg:po s.data.toList with
 | some n =>
  rw[hsg]at S0
  have S:=Lib.hid S0
  have E:=Lib.hid (FQ (b:=b) hsg)
  clear S0 hsg
  go_enter func40,ntmps40
  go_wp2_with (go_at_call 74;refine(S.out _).mono ?_;rintro e w' ⟨rfl,rfl⟩)
  go_ret2
  exact⟨by rw[E.out];rfl,Below.refl _ _⟩
 | none =>
  rw[hsg]at S0
  obtain⟨b',s',hp⟩:∃b' s',mB s b=(b',s'):=⟨_,_,rfl⟩
  have P0:=fun w=>JI s b w hs
  rw[hp]at P0
  have hpl:=JO s b
  rw[hp]at hpl
  obtain⟨t,below,hc⟩:∃t below,Un s'=(t,below):=⟨_,_,rfl⟩
  have C0:=fun w=>W5 s' w
  rw[hc]at C0
  have hcl:v8 s'.data.toList=(t.data.toList,below):=by
   unfold Un at hc
   obtain⟨rfl,rfl⟩:=Prod.mk.inj hc
   simp
  have e:=Hs hsg hpl hcl
  have htl:t.size<=9223372036854775807:=by
   have h1:t.data.toList.length<=s'.data.toList.length:=by
    have:t.data.toList=(v8 s'.data.toList).1:=by rw[hcl]
    rw[this]
    cases s'.data.toList with
    | nil=>simp[v8]
    | cons c l=>simp only[v8];split<;>simp
   have h2:s'.data.toList.length<=s.data.toList.length:=by
    have:s'.data.toList=(vn s.data.toList b).2:=by rw[hpl]
    rw[this]
    cases s.data.toList with
    | nil=>simp[vn]
    | cons c l =>
     simp only[vn]
     repeat' split
     all_goals simp
   simp only[jp]at h1 h2
   omega
  have S:=Lib.hid S0
  have P:=Lib.hid P0
  have C:=Lib.hid C0
  clear S0 hsg hp hpl hc hcl P0 C0 hs
  by_cases h0:0<t.size
  ·have te:=HF t h0
   have htn:t.data.toList≠[]:=fun h=>by have:=jp t;rw[h]at this;simp at this;omega
   by_cases hb:isB b'=true
   ·have E:=Lib.hid e
    have HB:=Lib.hid ((Kd b').1 hb)
    have HN:=Lib.hid htn
    have HE:=Lib.hid (Tt t.data.toList b' below hb htn)
    have HX:=Lib.hid (Tw t.data.toList b' below)
    clear e htn
    go_enter func40,ntmps40
    go_wp2_with (first
     | (go_at_call 74;refine(S.out _).mono ?_;rintro e w' ⟨rfl,rfl⟩)
     | (go_at_call 75;refine(P.out _).mono ?_;rintro e w1 ⟨rfl,n1,hw1⟩;have HW:=Lib.hid hw1;clear hw1)
     | (go_at_call 76;refine(C.out _).mono ?_;rintro e w' ⟨rfl,rfl⟩)
     | (go_at_call 77;refine(ED b' _).mono ?_;rintro e w' ⟨rfl,rfl⟩))
    have hbel:Below w.heap.size w w1:=by rw[HW.out];exact below_drewN (Below.refl _ _) n1
    go_loopw [9] (fun n wr=>∃(pos:Nat) (m:Int),wr=w1.iter t pos/\pos<=t.size/\n=.int .i64 m/\Hid (m=wrap64 (uk b' 0 (t.data.toList.take pos)))/\Hid ((t.data.toList.take pos).all (okD b')=true)) (fun _ wr=>t.size-wr.iterPos w1.heap.size)
    case atStart=>exact⟨0,0,rfl,by omega,rfl,by show _=_;simp[uk,wrap64],by show _=_;simp⟩
    case round =>
     obtain⟨pos,m,rfl,hpos,rfl,hm,hall⟩:=hrel
     by_cases hlt:pos<t.size
     ·by_cases ha:t[pos].toNat<128
      ·have hnx:∀ty,(Instr.next (.pointer (some ⟨w1.heap.size,0,none⟩)) true ty).run prog (w1.iter t pos)=_:=fun ty=>run_next_ascii w1 t pos ty hlt ha
       obtain⟨d,hd⟩:∃d,wd (t[pos].toNat:Int)=d:=⟨_,rfl⟩
       have hr:=YI (t[pos].toNat:Int)
       have W0:=fun w=>CM (t[pos].toNat:Int) w (by omega) (by omega)
       rw[hd]at W0 hr
       have W:=Lib.hid W0
       by_cases hok:okD b' t[pos]=true
       ·have h2:=(ET b' t[pos]).1 hok
        rw[hd]at h2
        obtain⟨h3,h4⟩:=h2
        have t1:decide (d<0)=false:=by simp;omega
        have t2:decide (b'<=d)=false:=by simp;omega
        have hm':Hid (wrap64 (wrap64 (m*b')+d)=wrap64 (uk b' 0 (t.data.toList.take (pos+1)))):=by
         show _=_
         rw[BW t pos hlt,<-Aa,<-hm.out,hd]
        have hall':Hid ((t.data.toList.take (pos+1)).all (okD b')=true):=by
         show _=_
         rw[BW t pos hlt,List.all_append,hall.out]
         simp[hok]
        clear hm hall hd W0 hok
        go_wp2_with (go_at_call 78;refine(W.out _).mono ?_;rintro e w' ⟨rfl,rfl⟩)
        go_roundw
        case rel=>exact⟨pos+1,_,rfl,by omega,rfl,hm',hall'⟩
        case measure=>simp;omega
       have hno:t.data.toList.all (okD b')=false:=GP _ t pos hlt (by simpa using hok)
       have hdd:d<0\/b'<=d:=by
        have h2:¬(0<=d/\d<b'):=by rw[<-hd,<-ET];exact hok
        omega
       have EX:=Lib.hid (HX.out hno)
       clear hm hall hd W0 hok hno
       by_cases hd0:d<0
       ·have t1:decide (d<0)=true:=by simp;omega
        go_wp2_with (go_at_call 78;refine(W.out _).mono ?_;rintro e w' ⟨rfl,rfl⟩)
        go_ret2
        exact⟨by rw[E.out,EX.out];rfl,nV hbel _ _⟩
       have t1:decide (d<0)=false:=by simp;omega
       have t2:decide (b'<=d)=true:=by simp;omega
       go_wp2_with (go_at_call 78;refine(W.out _).mono ?_;rintro e w' ⟨rfl,rfl⟩)
       go_ret2
       exact⟨by rw[E.out,EX.out];rfl,nV hbel _ _⟩
      have hnx:∀ty,(Instr.next (.pointer (some ⟨w1.heap.size,0,none⟩)) true ty).run prog (w1.iter t pos)=_:=fun ty=>run_next_any w1 t pos ty hlt
      have hdh:=decode_high t pos hlt (by omega)
      have hdl:=decode_le t pos
      have hr:wd ((Utf8.decode t pos).1:Int) = -1:=by unfold wd;rw[if_neg (by omega),if_neg (by omega),if_neg (by omega)]
      have W0:=fun w=>CM ((Utf8.decode t pos).1:Int) w (by omega) (by omega)
      rw[hr]at W0
      have W:=Lib.hid W0
      have hno:t.data.toList.all (okD b')=false:=GP _ t pos hlt (by
       have:¬okD b' t[pos]=true:=by
        rw[ET]
        have:wd (t[pos].toNat:Int) = -1:=by unfold wd;rw[if_neg (by omega),if_neg (by omega),if_neg (by omega)]
        omega
       simpa using this)
      have EX:=Lib.hid (HX.out hno)
      clear hm hall hr W0 hno hdh hdl
      generalize Utf8.decode t pos=q at *
      go_wp2_with (go_at_call 78;refine(W.out _).mono ?_;rintro e w' ⟨rfl,rfl⟩)
      go_ret2
      exact⟨by rw[E.out,EX.out];rfl,nV hbel _ _⟩
     have hnx:∀ty,(Instr.next (.pointer (some ⟨w1.heap.size,0,none⟩)) true ty).run prog (w1.iter t pos)=_:=fun ty=>run_next_end w1 t pos ty hlt
     have et:t.data.toList.take pos=t.data.toList:=List.take_of_length_le (by rw[jp];omega)
     rw[et]at hm hall
     have EX:=Lib.hid (HE.out hall.out)
     clear hall et
     cases below with
     | true =>
      go_wp2
      go_ret2
      exact⟨by rw[E.out,EX.out,<-hm.out];rfl,nV hbel _ _⟩
     | false =>
      go_wp2
      go_ret2
      exact⟨by rw[E.out,EX.out,<-hm.out];rfl,nV hbel _ _⟩
   simp only[Bool.not_eq_true]at hb
   rw[NR _ _ _ hb]at e
   have E:=Lib.hid e
   clear e htn
   go_enter func40,ntmps40
   go_wp2_with (first
    | (go_at_call 74;refine(S.out _).mono ?_;rintro e w' ⟨rfl,rfl⟩)
    | (go_at_call 75;refine(P.out _).mono ?_;rintro e w1 ⟨rfl,n1,hw1⟩;have HW:=Lib.hid hw1;clear hw1)
    | (go_at_call 76;refine(C.out _).mono ?_;rintro e w' ⟨rfl,rfl⟩)
    | (go_at_call 77;refine(ED b' _).mono ?_;rintro e w' ⟨rfl,rfl⟩))
   go_ret2
   exact⟨by rw[E.out];rfl,by rw[HW.out];exact below_drewN (Below.refl _ _) n1⟩
  have te:=CB t (by omega)
  have htn:t.data.toList=[]:=List.eq_nil_of_length_eq_zero (by rw[jp];omega)
  rw[htn,N3]at e
  have E:=Lib.hid e
  clear e htn
  go_enter func40,ntmps40
  go_wp2_with (first
   | (go_at_call 74;refine(S.out _).mono ?_;rintro e w' ⟨rfl,rfl⟩)
   | (go_at_call 75;refine(P.out _).mono ?_;rintro e w1 ⟨rfl,n1,hw1⟩;have HW:=Lib.hid hw1;clear hw1)
   | (go_at_call 76;refine(C.out _).mono ?_;rintro e w' ⟨rfl,rfl⟩))
  go_ret2
  exact⟨by rw[E.out];rfl,by rw[HW.out];exact below_drewN (Below.refl _ _) n1⟩
end Go.Proofs.YtjcminooghmpeaaGreatDoor
namespace Go.Proofs
open Go.Shelf
def Tryz.lReverse_ren:Go.Shelf.Ren:=⟨fun|35=>380|n=>n,fun|22=>22|23=>5|3=>3|4=>4|0=>0|n=>n,fun|n=>n⟩
def Tryz.lReverse:Go.Proofs.SlLaysE.n35 prog Tryz.lReverse_ren:={
 mixed:=by kernel_rfl
 f35:=⟨Tryz.f380.name,by decide,func380.trans (congrArg some (by kernel_rfl))⟩
 t0:=underlying0
 a0:=Tryz.isAgg0
 z0:=Tryz.sizeOf0
 v0:=Tryz.zeroValue0
 t3:=underlying3
 a3:=Tryz.isAgg3
 z3:=Tryz.sizeOf3
 v3:=Tryz.zeroValue3
 t4:=underlying4
 a4:=Tryz.isAgg4
 z4:=Tryz.sizeOf4
 v4:=Tryz.zeroValue4
 t22:=underlying22
 a22:=Tryz.isAgg22
 z22:=Tryz.sizeOf22
 v22:=Tryz.zeroValue22
 a23:=Tryz.isAgg5
 z23:=Tryz.sizeOf5}
def Tryz.lClone_ren:Go.Shelf.Ren:=⟨fun|41=>382|n=>n,fun|22=>22|23=>5|4=>4|n=>n,fun|n=>n⟩
def Tryz.lClone:Go.Proofs.SlLaysE0.n41 prog Tryz.lClone_ren:={
 mixed:=by kernel_rfl
 f41:=⟨Tryz.f382.name,by decide,func382.trans (congrArg some (by kernel_rfl))⟩
 t4:=underlying4
 a4:=Tryz.isAgg4
 z4:=Tryz.sizeOf4
 v4:=Tryz.zeroValue4
 t22:=underlying22
 a22:=Tryz.isAgg22
 z22:=Tryz.sizeOf22
 v22:=Tryz.zeroValue22}
end Go.Proofs
namespace Go.Proofs.YtjcminooghmpeaaGreatDoor
open Go.RowKit
def X1:(prog.info? 5).map (fun i=>(i.zero,i.size,i.bytes))=some (some (.int .u8 0),1,1):=by kernel_rfl
def BH{w w1:World}{B e s n:Nat}{v:Value}{xs:List Value}{q:Nat}(h:w.ownsRow B e s v n xs)(hw:w1=w.drewN q):w1.ownsRow B e s v n xs:=by rw[hw];exact h
def Bv{w0 w w1:World}{B q:Nat}(h:Below B w0 w)(hw:w1=w.drewN q):Below B w0 w1:=by rw[hw];exact below_drewN h q
def KC{w:World}{B e s n:Nat}{v:Value}{xs:List Value}(h:w.ownsRow B e s v n xs):∀k,v.ownBlock=some k->B<=k:=by
 intro k hk
 rcases h.2 with ⟨rfl,_⟩|⟨g,cap,cur,rfl,hb,_⟩
 ·simp[Value.ownBlock]at hk
 simp[Value.ownBlock]at hk;omega
def Qa{w:World}{B B' e s n:Nat}{v:Value}{xs:List Value}(h:w.ownsRow B e s v n xs)(hB:B'<=B):w.ownsRow B' e s v n xs:=by
 refine⟨h.1,?_⟩
 rcases h.2 with h1|⟨g,cap,cur,e1,hb,h2⟩
 ·exact .inl h1
 exact .inr ⟨g,cap,cur,e1,by omega,h2⟩
def L5(w:World)(B:Nat)(v:Value)(n:Nat)(zs:List Int)(h:w.ownsRow B 5 1 v n (zs.map (Value.int .u8)))(hn:n<=9223372036854775807):
  Calls prog 380 #[v] w fun e w'=>e=.returned (.tuple #[])/\w'.ownsRow B 5 1 v n (zs.reverse.map (Value.int .u8))/\∀w0,Below B w0 w->Below B w0 w':=by
 by_cases hv:v=.slice none 0 0
 ·have h0:n=0:=by
   rcases h.2 with ⟨_,h⟩|⟨g,cap,cur,h,_⟩
   ·exact h
   rw[h]at hv;cases hv
  have hz:zs=[]:=List.eq_nil_of_length_eq_zero (by have:=h.1;simp at this;omega)
  subst hz hv
  refine(AnyE.slices_Reverse_empty Tryz.lReverse none 0 w).mono ?_
  rintro e w' ⟨rfl,rfl⟩
  exact⟨rfl,h,fun _ hb=>hb⟩
 obtain⟨g,cap,rfl,hb,_,_,_,hl,hH⟩:=Lib.holds_of_ownsRow h hv
 subst hl
 refine(AnyE.slices_Reverse Tryz.lReverse (Value.int .u8) (fun _=>rfl) g 0 cap zs w hH hn).mono ?_
 rintro e w' ⟨rfl,q,rfl⟩
 refine⟨rfl,?_,fun w0 hw=>Lib.below_putRow hw hb⟩
 have:=Lib.ownsRow_putRow (q:=q) h (ys:=zs.reverse) (by simp) (Nat.le_refl _)
 rw[List.take_of_length_le (by simp)]at this
 exact this
def Fc{w:World}{B n:Nat}{v:Value}{zs:List Int}(h:w.ownsRow B 5 1 v n (zs.map (Value.int .u8))):
  (convert 22 9 v).run prog w=.ok (.string (strOfNums zs)) w:=by
 by_cases hv:v=.slice none 0 0
 ·have h0:n=0:=by
   rcases h.2 with ⟨_,h⟩|⟨g,cap,cur,h,_⟩
   ·exact h
   rw[h]at hv;cases hv
  have hz:zs=[]:=List.eq_nil_of_length_eq_zero (by have:=h.1;simp at this;omega)
  subst hz hv
  exact run_convert_bytes_nil (w:=w) 22 5 underlying22 underlying5 0 0 9 underlying9
 obtain⟨g,cap,rfl,hb,_,_,_,hl,hH⟩:=Lib.holds_of_ownsRow h hv
 subst hl
 refine run_convert_bytes_arg w 22 5 underlying22 underlying5 g 0 zs.length cap zs rfl (fun i hi=>?_) 9 underlying9
 rw[(hH i (by simpa using hi)).1]
 simp[List.getD,hi]
def E0(ds:List Nat):List Int:=ds.map fun d:Nat=>vx (d:Int)
def Cq(ds:List Nat)(d:Nat):E0 (ds++[d])=E0 ds++[vx (d:Int)]:=by simp[E0]
def aq8{u r B:Nat}(hz:¬u/B=0)(h:u<2 ^ (r+1))(hB:2<=B):1<=r:=by
 rcases Nat.eq_zero_or_pos r with rfl|h1
 ·exact absurd (Nat.div_eq_of_lt (by simp at h;omega)) hz
 exact h1
def ac2{u B:Nat}(hu:u<18446744073709551616)(hz:¬u/B=0)(hB:2<=B):U (S (u/B))<U (S u):=by
 have h0:0<u:=Nat.pos_of_ne_zero (fun e=>hz (by rw[e];exact Nat.zero_div B))
 rw[U_S u hu,U_S (u/B) (Nat.lt_of_le_of_lt (Nat.div_le_self u B) hu)]
 exact Nat.div_lt_self h0 hB
def FD(v:Value):Nat:=U (intOf v)
def GO(x:Int):FD (.int .i64 x)=U x:=by unfold FD;simp[intOf]
def It{u B:Nat}(hu:Hid (u<18446744073709551616))(hz:Hid (¬u/B=0))(hB:2<=B):FD (.int .i64 (S (u/B)))<FD (.int .i64 (S u)):=by
 rw[GO,GO];exact ac2 hu.out hz.out hB
def an2(B u:Nat):List Nat:=tc B 64 u
def IK(B u:Nat):Hid ([]++tc B 64 u=an2 B u):=Lib.hid rfl
def Nv:Hid (([]:List Nat).length+64=64):=Lib.hid rfl
def Mw(w:World)(e:TypeId):w.ownsRow w.heap.size e 1 (.slice none 0 0) ([]:List Nat).length ((E0 []).map (Value.int .u8)):=⟨rfl,.inl ⟨rfl,rfl⟩⟩
def at1{u:Nat}(h:u<18446744073709551616):Hid (u<2 ^ 64):=Lib.hid (by rw[show(2:Nat)^64=18446744073709551616 from by decide];exact h)
def Oo{B r u:Nat}{ds all:List Nat}(h:ds++tc B (r+1) u=all)(hz:¬u/B=0):(ds++[u%B])++tc B r (u/B)=all:=by
 rw[<-h];simp only[tc,hz,if_false,List.append_assoc,List.singleton_append]
def SZ{B r u:Nat}{ds all:List Nat}(h:ds++tc B (r+1) u=all)(hz:u/B=0):ds++[u%B]=all:=by
 rw[<-h];simp only[tc,hz,if_true]
def GV(u B:Nat)(hu:u<18446744073709551616)(h2:2<=B)(h3:B<=36):il (S u) 0 (B:Int)=(S (u/B),((u%B:Nat):Int),0):=by
 have e1:U (B:Int)=B:=by unfold U;omega
 have e2:U (0:Int)=0:=by decide
 have e3:PU (S u) 0=u:=by unfold PU;rw[U_S u hu,e2];omega
 unfold il
 rw[if_neg (by omega),e1,e2,if_neg (by omega),e3]
 have hm:=Nat.mod_lt u (show 0<B by omega)
 have:S (u%B)=((u%B:Nat):Int):=by unfold S;exact cT _ (by omega)
 rw[this]
def ZQ{u:Nat}(h:u<18446744073709551616):S u=0↔u=0:=by unfold S wrap64;omega
def S8{u r B:Nat}(h:u<2 ^ (r+1))(hB:2<=B):u/B<2 ^ r:=by
 rw[Nat.pow_succ]at h
 have:=Nat.div_le_div_left hB (show 0<2 by omega) (a:=u)
 omega
def SC(ds:List Nat):strOfNums (E0 ds).reverse=⟨((ds.map chr).reverse).toArray⟩:=by
 unfold strOfNums chr E0
 congr 1
 rw[<-List.map_reverse,List.map_map,<-List.map_reverse]
 rfl
def sF(n b:Int)(w:World)(hn:Fit n):Calls prog 333 #[.int .i64 n,.int .i64 b] w fun e w'=>e=.returned (.tuple #[.string ⟨(gy n b).1.toArray⟩,.int .i64 (gy n b).2])/\Below w.heap.size w w':=by
 by_cases hb:isB b=true
 ·obtain⟨B,rfl,h2,h3⟩:=Qv hb
  have e:gy n (B:Int)=(nG (U n) B,0):=by unfold gy;rw[if_pos hb,Int.toNat_natCast]
  have E:=Lib.hid e
  have EN:=Lib.hid (S_U n hn)
  obtain⟨i0,hi,hz0,hz1,hz2⟩:=info_parts X1
  clear e
  go_enter func333,ntmps333
  go_wp2_with (go_at_call 77;refine(ED _ _).mono ?_;rintro e w' ⟨rfl,rfl⟩)
  go_loopw [0,6] (fun n0 v wr=>∃(r u:Nat) (ds:List Nat),n0=.int .i64 (S u)/\Hid (u<18446744073709551616)/\Hid (u<2 ^ r)/\1<=r/\Hid (ds.length+r=64)/\Hid (ds++tc B r u=an2 B (U n)) /\
   wr.ownsRow w.heap.size 5 1 v ds.length ((E0 ds).map (Value.int .u8))/\Below w.heap.size w wr) (fun n0 _ _=>FD n0)
  case atStart=>exact⟨64,U n,[],by rw[EN.out],xM n,at1 (xM n),by omega,Nv,IK _ _,Mw _ _,Below.refl _ _⟩
  case round =>
   obtain⟨r,u,ds,rfl,hu,hur,hr1,hlen,hds,hown,hbel⟩:=hrel
   obtain⟨r,rfl⟩:∃r',r=r'+1:=⟨r-1,by omega⟩
   have D0:=fun w=>BI (S u) 0 (B:Int) w
   rw[GV u B hu.out h2 h3]at D0
   have D:=Lib.hid D0
   clear D0
   have hm:=Nat.mod_lt u (show 0<B by omega)
   have hq:u/B<18446744073709551616:=Nat.lt_of_le_of_lt (Nat.div_le_self _ _) hu.out
   have hds64:ds.length<=63:=by have:=hlen.out;omega
   by_cases hz:u/B=0
   ·have t:(S (u/B)==0)=true:=by rw[hz];decide +kernel
    have hds':=Lib.hid (SZ hds.out hz)
    have HZ:=Lib.hid hz
    clear hq hz hds
    go_wp2_with (first
     | (go_at_call 287;refine(D.out _).mono ?_;rintro e w1 ⟨rfl,n1,hw1⟩;have hown1:=BH hown hw1;have hbel1:=Bv hbel hw1;clear hw1)
     | (go_at_call 379;refine(wG _ _).mono ?_;rintro e w' ⟨rfl,rfl⟩)
     | (at_builtin;refine wpList_append_own _ rfl _ _ 22 rfl w.heap.size 5 i0 (.int .u8 0) 1 1 underlying22 hi hz0 hz1 hz2 rfl (by decide) _ _ _ rfl (hown1.alloc _) ⟨w1.heap.size,0,none⟩ 1 1 [.int .u8 (vx ((u:Int)%(B:Int)))] rfl rfl ?c1 ?c2 ?c3 ?c4 ?c5 ?_))
    case c1=>exact cell_one_new _ _ _
    case c2=>simp[Value.oneCell']
    case c3=>unfold maxLen;omega
    case c4=>omega
    case c5=>have:=hbel1.size;simp;omega
    intro v' w2 hown2 hgrow _
    have hown3:w2.ownsRow w.heap.size 5 1 v' (ds++[u%B]).length ((E0 (ds++[u%B])).map (Value.int .u8)):=by
     rw[Cq,List.map_append,List.length_append];exact hown2
    have hbel2:Below w.heap.size w w2:=(hbel1.alloc hbel1.size _).grown hgrow (by have:=hbel1.size;simp;omega) (KC hown1)
    have RV:=Lib.hid (L5 w2 w.heap.size v' _ _ hown3 (by simp;omega))
    clear hown hown1 hown2 hgrow hown3
    go_wp2_with fail
    refine RV.out.mono ?_
    rintro e w3 ⟨rfl,hown5,hb5⟩
    have hbel5:=hb5 w hbel2
    have hcv:=Fc hown5
    rw[hds'.out,SC]at hcv
    clear hown5 hb5
    go_wp2
    go_ret2
    exact⟨by rw[E.out];rfl,hbel5⟩
   have t:(S (u/B)==0)=false:=by simp only[beq_eq_false_iff_ne];intro h;exact hz ((ZQ hq).1 h)
   have HQ:=Lib.hid hq
   have hds':=Lib.hid (Oo hds.out hz)
   have HZ:=Lib.hid hz
   clear hq hz hds
   go_wp2_with (first
    | (go_at_call 287;refine(D.out _).mono ?_;rintro e w1 ⟨rfl,n1,hw1⟩;have hown1:=BH hown hw1;have hbel1:=Bv hbel hw1;clear hw1)
    | (go_at_call 379;refine(wG _ _).mono ?_;rintro e w' ⟨rfl,rfl⟩)
    | (at_builtin;refine wpList_append_own _ rfl _ _ 22 rfl w.heap.size 5 i0 (.int .u8 0) 1 1 underlying22 hi hz0 hz1 hz2 rfl (by decide) _ _ _ rfl (hown1.alloc _) ⟨w1.heap.size,0,none⟩ 1 1 [.int .u8 (vx ((u:Int)%(B:Int)))] rfl rfl ?c1 ?c2 ?c3 ?c4 ?c5 ?_))
   case c1=>exact cell_one_new _ _ _
   case c2=>simp[Value.oneCell']
   case c3=>unfold maxLen;omega
   case c4=>omega
   case c5=>have:=hbel1.size;simp;omega
   intro v' w2 hown2 hgrow _
   have hown3:w2.ownsRow w.heap.size 5 1 v' (ds++[u%B]).length ((E0 (ds++[u%B])).map (Value.int .u8)):=by
    rw[Cq,List.map_append,List.length_append];exact hown2
   have hbel2:Below w.heap.size w w2:=(hbel1.alloc hbel1.size _).grown hgrow (by have:=hbel1.size;simp;omega) (KC hown1)
   clear hown hown1 hown2 hgrow
   go_wp2_with fail
   go_roundw
   case rel=>exact⟨r,u/B,ds++[u%B],rfl,HQ.out,S8 hur.out h2,aq8 HZ.out hur.out h2,by have:=hlen.out;show _=_;simp;omega,hds',hown3,hbel2⟩
   case measure=>exact It hu HZ h2
 have e:gy n b=([],-24):=by unfold gy;rw[if_neg hb]
 have E:=Lib.hid e
 simp only[Bool.not_eq_true]at hb
 clear e
 go_enter func333,ntmps333
 go_wp2_with (go_at_call 77;refine(ED _ _).mono ?_;rintro e w' ⟨rfl,rfl⟩)
 go_ret2
 exact⟨by rw[E.out];rfl,Below.refl _ _⟩
def Z8{a b:ByteArray}(h:a.data.toList=b.data.toList):a=b:=by
 apply ByteArray.ext;exact Array.toList_inj.1 h
def YH{a b:ByteArray}{x y:Int}(h:a=b)(g:x=y):Ending.returned (.tuple #[.string a,.int .i64 x])=.returned (.tuple #[.string b,.int .i64 y]):=by rw[h,g]
def UW(B:Nat):∀k u,(tc B k u).length<=k:=by
 intro k
 induction k with
 | zero=>intro u;simp[tc]
 | succ k ih =>
  intro u
  simp only[tc,List.length_cons]
  split
  ·simp
  have:=ih (u/B);omega
def I8(u B:Nat):(nG u B).length<=64:=by unfold nG;simpa using UW B 64 u
def Sa(n b:Int)(w:World)(hn:Fit n):Calls prog 332 #[.int .i64 n,.int .i64 b] w fun e w'=>e=.returned (.tuple #[.string ⟨(iV n b).1.toArray⟩,.int .i64 (iV n b).2])/\Below w.heap.size w w':=by
 by_cases h0:0<=n
 ·have e:iV n b=gy n b:=by unfold iV gy;simp only[h0,if_true]
  rw[e]
  have H:=Lib.hid (sF n b w hn)
  go_enter func332,ntmps332
  go_wp2_with (go_at_call 333;refine H.out.mono ?_;rintro e w1 ⟨rfl,hb⟩)
  go_ret2
  exact⟨rfl,hb⟩
 have h1:decide (0<=n)=false:=by simp;omega
 by_cases hb:isB b=true
 ·have e:gy (wrap64 (-n)) b=(nG (U (wrap64 (-n))) b.toNat,0):=by unfold gy;rw[if_pos hb]
  have e2:iV n b=(45::nG (U (wrap64 (-n))) b.toNat,0):=by unfold iV;rw[if_pos hb];simp only[h0,if_false]
  have H0:=sF (wrap64 (-n)) b w (ic _)
  rw[e]at H0
  clear e
  have hl:=I8 (U (wrap64 (-n))) b.toNat
  generalize nG (U (wrap64 (-n))) b.toNat=l at H0 e2 hl
  have H:=Lib.hid H0
  have E2:=Lib.hid e2
  clear e2 H0
  go_enter func332,ntmps332
  go_wp2_with (go_at_call 333;refine H.out.mono ?_;rintro e w1 ⟨rfl,hb⟩)
  go_ret2
  exact⟨by rw[E2.out];exact YH (Z8 (by simp)) rfl,hb⟩
 have e:gy (wrap64 (-n)) b=([],-24):=by unfold gy;rw[if_neg hb]
 have e2:iV n b=([],-24):=by unfold iV;rw[if_neg hb]
 have H0:=sF (wrap64 (-n)) b w (ic _)
 rw[e]at H0
 have H:=Lib.hid H0
 have E2:=Lib.hid e2
 clear e e2 H0
 go_enter func332,ntmps332
 go_wp2_with (go_at_call 333;refine H.out.mono ?_;rintro e w1 ⟨rfl,hb⟩)
 go_ret2
 exact⟨by rw[E2.out];rfl,hb⟩
def nW(r:List UInt8×Int):PV:=gY (str r.1) (i64 r.2)
@[simp] theorem Zz (r : List UInt8 × Int) : aQ (nW r) := by simp [nW]
def YG{P:Program}{f:FuncId}{args:List Value}{r:List UInt8×Int}(h:∀w,Calls P f args.toArray w fun e w'=>e=.returned (.tuple #[.string ⟨r.1.toArray⟩,.int .i64 r.2])/\be w w'):af P f (args.map .val) (nW r) :=
 dM (v:=.tuple #[.string ⟨r.1.toArray⟩,.int .i64 r.2]) (fun c=>by unfold nW gY Rep;exact⟨[_,_],rfl,ai.2 ⟨av _ _,ai.2 ⟨av _ _,aF.2 rfl⟩⟩⟩) h
def PQ{w:World}{v:Value}:∀{e:Ending} {w':World},(e=.returned v/\Below w.heap.size w w')->(e=.returned v/\be w w'):=by rintro e w' ⟨h,k⟩;exact⟨h,be.of_below k⟩
def aa3(n b:Int)(hn : -9223372036854775808<=n/\n<=9223372036854775807):af prog 332 [i64 n,i64 b] (nW (iV n b)):=YG (args:=[.int .i64 n,.int .i64 b]) fun w=>Calls.mono (Sa n b w hn) fun _ _ h=>PQ h
def Xt(n b:Int)(hn : -9223372036854775808<=n/\n<=9223372036854775807):af prog 333 [i64 n,i64 b] (nW (gy n b)):=YG (args:=[.int .i64 n,.int .i64 b]) fun w=>Calls.mono (sF n b w hn) fun _ _ h=>PQ h
def UE(n:Int):af prog 379 [i64 n] (.val (.int .u8 (vx n))):=dM (args:=[.int .i64 n]) (fun c=>av _ _) fun w=>Calls.mono (wG n w) fun _ _ h=>LX h
def Bk{B:Nat->Nat->Prop}{H:List Ob}{σ:Nat->Option Nat}{w w':World}(s:Sim B H σ w)(g:be w w'){xs:List Int}{b c:Nat}(hb:w.heap.size<=b)(hl:xs.length<=c)(hc:∀i,i<xs.length->w'.cell? ⟨b,i,none⟩=some (.int .u8 (xs.getD i 0))):
  Rep (cx B H σ w') (.seq xs.length (xs.map j0) .any) (.slice (some ⟨b,0,none⟩) xs.length c):=by
 unfold Rep
 refine⟨_,c,xs.map (Value.int .u8),rfl,hl,(fun h=>by cases h),?_,fun a ha=>?_,trivial⟩
 ·clear hc hl
  induction xs with
  | nil=>exact aF.2 rfl
  | cons x l ih=>exact ai.2 ⟨av _ _,ih⟩
 cases ha
 refine .inl ⟨rfl,fun j u hj=>⟨?_,?_⟩⟩
 ·have hjl:j<xs.length:=by have:=cL hj;simpa using this
  show w'.cell? ⟨b,0+j,none⟩=some u
  rw[Nat.zero_add,hc j hjl]
  rw[List.getElem?_map,List.getElem?_eq_getElem hjl]at hj
  simp only[Option.map_some,Option.some.injEq]at hj
  rw[<-hj];simp[List.getD,hjl]
 rintro(h|⟨i,oi,h1,h2,h3⟩)
 ·have:=s.base _ _ h;dsimp only at this;omega
 have hl:oi.live=true:=by cases oi<;>first|rfl|cases h3
 have:=(s.holds i oi h1).lt hl h2
 simp only[cx]at this;omega
def SH(u:Nat):∀x∈gI u,0<=x/\x<256:=by
 intro x hx
 simp only[gI,List.mem_cons,List.not_mem_nil,or_false]at hx
 omega
def rk(n:Int):List UInt8:=(gI (U n)).map fun x=>UInt8.ofNat x.toNat
def jD(n:Int):(rk n).length=8:=rfl
def TH(n:Int):PV.seq 8 ((gI (U n)).map j0) .any=sq ar (rk n):=by
 unfold sq rk
 rw[j7,List.map_map,List.map_map]
 have:∀x∈gI (U n),j0 x=(j0 ∘ (fun b:UInt8=>(b.toNat:Int)) ∘ fun x=>UInt8.ofNat x.toNat) x:=by
  intro x hx
  have:=SH (U n) x hx
  simp only[Function.comp]
  rw[UInt8.toNat_ofNat']
  congr 1
  omega
 rw[List.map_congr_left this]
 rfl
def ve{f:FuncId}(n:Int)(h:∀w,Calls prog f #[.int .i64 n] w (qI (gI (U n)) w)):af prog f [i64 n] (sq ar (rk n)):=by
 rw[<-TH]
 intro H B σ w vs s hv
 have:=so (l:=[.int .i64 n]) hv
 subst this
 refine Calls.mono (h w) ?_
 rintro e w' ⟨b,c,rfl,hb,hl,hc,hbel⟩
 have g:=be.of_below hbel
 obtain⟨s',st⟩:=gu s g
 exact⟨_,σ,rfl,Bk s g hb hl hc,s',st⟩
def CR(n:Int):af prog 124 [i64 n] (sq ar (rk n)):=ve n (RG n)
def PC(n:Int):af prog 32 [i64 n] (sq ar (rk n)):=ve n (VM n)
def d7(l:List UInt8)(k:Nat)(b:List UInt8):List UInt8:=l.take k++b++l.drop (k+b.length)
def pq{l b:List UInt8}{k:Nat}(h:k+b.length<=l.length):(d7 l k b).length=l.length:=by simp[d7];omega
def JH{xs ys:List PV}(h:ys.length=xs.length):cr xs 0 ys=ys:=by simp[cr,h]
def xN(l:List UInt8)(k:Nat):(l.flatMap ar).take k=(l.take k).flatMap ar:=by
 have:=mS ar 1 (fun _=>rfl) k l
 rwa [Nat.mul_one]at this
def UZ(l:List UInt8)(k:Nat):(l.flatMap ar).drop k=(l.drop k).flatMap ar:=by
 have:=ig ar 1 (fun _=>rfl) k l
 rwa [Nat.mul_one]at this
def eH(l:List UInt8):(l.flatMap ar).length=l.length:=by rw[al ar 1 (fun _=>rfl),Nat.mul_one]
def Nn(l b:List UInt8)(k:Nat):cr (l.flatMap ar) k (b.flatMap ar)=(d7 l k b).flatMap ar:=by
 unfold cr d7
 rw[xN,eH,UZ,List.flatMap_append,List.flatMap_append]
def Nu{l b:List UInt8}{k c:Nat}(h:k+b.length<=l.length)(hc:c=if l.length=k then 0 else 0+k*1):cr (l.flatMap ar) c ((b.flatMap ar).take (min b.length (l.length-k)*1))=(d7 l k b).flatMap ar:=by
 rw[Nat.min_eq_left (by omega),Nat.mul_one,List.take_of_length_le (by rw[eH];exact Nat.le_refl _)]
 rw[<-Nn]
 split at hc
 ·have:b=[]:=List.eq_nil_of_length_eq_zero (by omega)
  subst this
  subst hc
  simp[cr]
 rw[hc];congr 1;omega
def Nh{l:List UInt8}{d:TD}(hs:d.size=1)(hz:d.zero.length=1){e:TypeId}:[Ob.cells (l.flatMap ar) e]=[Ob.cells (cr (fg (l.length:Int).toNat d) 0 (List.take (min l.length (l.length:Int).toNat*d.size) (List.flatMap ar l))) e]:=by
 rw[Int.toNat_natCast,Nat.min_self,hs,Nat.mul_one,List.take_of_length_le (by rw[eH];exact Nat.le_refl _),JH (by rw[l7 _ _ (by rw[hs,hz]),eH,hs,Nat.mul_one])]
def WT{l b:List UInt8}{k:Nat}(h:k+b.length<=l.length):PV.seq (l.length:Int).toNat (((d7 l k b).flatMap ar).take (d7 l k b).length) .any=sq ar (d7 l k b):=by
 rw[xN,List.take_length,Int.toNat_natCast]
 unfold sq
 rw[pq h]
def Si(l:List UInt8)(at_:Int)(b:List UInt8)(hl:l.length<=1000000)(h0:0<=at_)(h1:at_+b.length<=l.length):af prog 173 [sq ar l,i64 at_,sq ar b] (sq ar (d7 l at_.toNat b)):=by
 refine zY func173 fun B=>?_
 refine zu1 ?_
 refine zp2 ?_
 refine z2 ?_ (q:=(by(simp_all;omega)))
 refine zs1 ?_
 refine zp2 ?_
 refine Wd rfl rfl (mZ (lO tG rfl) rfl (lO tG rfl) rfl rfl rfl rfl (al _ 1 (fun _=>rfl) _) (bi _ (fun _=>rfl) _) (by rw[l7 _ _ rfl];simp)) ?_
 refine iS (H':=[.cells (l.flatMap ar) 5]) (Nh rfl rfl) ?_
 refine Wn<|zp2 ?_
 refine z2 ?_ (q:=(by(simp_all;omega)))
 refine z1 ?_
 refine Wd rfl rfl (mZ (lO tG rfl) rfl (lO tG rfl) rfl rfl rfl rfl (al _ 1 (fun _=>rfl) _) (bi _ (fun _=>rfl) _) (by rw[eH];dsimp only;split<;>omega)) ?_
 refine iS (H':=[.cells ((d7 l at_.toNat b).flatMap ar) 5]) (congrArg (fun z=>[Ob.cells z 5]) (Nu (by omega) rfl).symm) ?_
 refine Wn<|zp1 ?_
 refine Wm 19 rfl (oE (Nat.le_refl _)) ?_
 refine m7 19 0 _ (d7 l at_.toNat b).length rfl rfl (by rw[eH];exact Nat.le_refl _) ?_
 refine Wa 19 rfl (WT (by omega)) ?_
 refine zs1 ?_
 refine zR ?_
 rfl
structure cy (m:bf):Prop where
 b:m.b.length<=1000000
 old:m.old.length<=1000000
def bV(m:bf)(at_:Int)(b:List UInt8):bf×Int :=
 if aV m at_ b.length then(if b=[]then(m,0)else(⟨d7 m.b at_.toNat b,m.old++[⟨at_,(m.b.drop at_.toNat).take b.length⟩]⟩,0))else(m,-9)
def tQ(r:bf×Int):PV:=gY (gH r.1) (i64 r.2)
@[simp] theorem al4 (r : bf × Int) : aQ (tQ r) := by simp [tQ]
def UR{n:Nat}(h:n<=1000000):ab n:=by unfold ab;omega
def AQ{m:bf}{at_:Int}{n:Nat}(h:aV m at_ n=true)(h0:n≠0):0<=at_/\at_+n<=m.b.length:=by
 unfold aV at h
 simp only[decide_eq_true_eq]at h
 omega
def xU{x:Int}(h0:0<=x)(h1:x<=1000000):IntKind.i64.wrap x=x:=by rw[bB];unfold wrap64;omega
def Kq{l:List UInt8}{a b:Nat}:(l.take b).drop a=(l.drop a).take (b-a):=by rw[List.drop_take]
def Xn{l:List UInt8}{x:Int}{n:Nat}(h0:0<=x)(h:IntKind.i64.wrap (x+n)=x+n):sq ar ((l.take (IntKind.i64.wrap (x+n)).toNat).drop x.toNat)=sq ar ((l.drop x.toNat).take n):=by
 rw[h,Kq];congr 2;omega
def xk{m:bf}{at_:Int}{b:List UInt8}(h:aV m at_ b.length=false):bV m at_ b=(m,-9):=by unfold bV;rw[h];rfl
def vz{m:bf}{at_:Int}{b:List UInt8}(h:aV m at_ b.length=true)(h0:b.length=0):bV m at_ b=(m,0):=by unfold bV;rw[h,if_pos rfl,if_pos (List.eq_nil_of_length_eq_zero h0)]
def vM{m:bf}{at_:Int}{b:List UInt8}(h:aV m at_ b.length=true)(h0:b.length≠0):bV m at_ b=(⟨d7 m.b at_.toNat b,m.old++[⟨at_,(m.b.drop at_.toNat).take b.length⟩]⟩,0):=by
 unfold bV;rw[h,if_pos rfl,if_neg (fun e=>h0 (by rw[e];rfl))]
def nc(m:bf)(at_:Int)(b:List UInt8)(hm:cy m)(ha:ab at_)(hb:b.length<=1000000):af prog 123 [gH m,i64 at_,sq ar b] (tQ (bV m at_ b)):=by
 have hm1:=hm.b
 have hm2:=hm.old
 refine zY func123 fun B=>?_
 refine zu3 ?_
 refine Ws<|zp4 ?_
 refine zc rfl func102 ((o6 m at_ b.length (by omega) ha (UR hb)) _) ?_
 refine zs1 ?_
 refine Wi rfl (fun hi1=>?_) (fun hi1=>?_)
 ·rw[xk (by simpa using hi1)]
  refine zu3 ?_
  refine zR ?_
  rfl
 have ht:aV m at_ b.length=true:=by simpa using hi1
 refine Wj<|Ws<|zu3 ?_
 refine Wi rfl (fun hi2=>?_) (fun hi2=>?_)
 ·rw[vz ht (by simpa using hi2)]
  refine zu3 ?_
  refine zR ?_
  rfl
 have hne:b.length≠0:=by simpa using hi2
 obtain⟨k0,k1⟩:=AQ ht hne
 have k2:IntKind.i64.wrap (at_+b.length)=at_+b.length:=xU (by omega) (by omega)
 refine Wj<|Ws<|am [0,1,0,0,0,1,0,0,0,0,0,0,0,0,0,0,0,3] [0,1,2,3,4,5,6,7,8,9,10,11,12,13,14,15,16,17] mG rfl (by kernel_rfl) ?_
 refine z3 ?_
 refine z5 ?_
 refine Xc rfl rfl rfl rfl (fun _=>dC rfl func171 rfl rfl ((Ed m.old (by omega)) _)) ?_
 iterate 2 refine z3 ?_
 refine z5 ?_
 iterate 5 refine z3 ?_
 refine z4 ?_ (q:=(by rw[k2];omega))
 refine Xa 30 rfl (cF ar 1 (fun _=>rfl) (by rw[k2];omega)) ?_
 refine Xc rfl rfl rfl rfl (fun _=>dC rfl func172 rfl rfl ((xh _ (by simp;omega)) _)) ?_
 refine Xa 31 rfl (Xn k0 k2) ?_
 iterate 2 refine z3 ?_
 refine Xa 33 rfl ((show PV.seq 1 _ .clip=.seq (List.length [(⟨at_,(m.b.drop at_.toNat).take b.length⟩:oL)]) (List.flatMap jX [(⟨at_,(m.b.drop at_.toNat).take b.length⟩:oL)]) .clip from rfl)) ?_
 refine fN rfl rfl rfl rfl (fun _=>cg (lO tG rfl) rfl (lO tG rfl) (lO tG rfl) rfl rfl (by exact⟨_,rfl⟩) (by exact⟨rfl,rfl,al _ 2 (fun _=>rfl) _,bi _ (fun _=>rfl) _⟩) (by exact al _ 2 (fun _=>rfl) _) (by((simp_all;omega))) (by((simp_all;omega))) (by exact fp (bo (fun x=>by simp) _) (bo (fun x=>by simp) _))) ?_
 refine Xa 34 rfl (bT jX) ?_
 refine z3 ?_
 refine ct tG rfl rfl rfl rfl rfl trivial ?_
 refine ap ?_
 refine zp4 ?_
 refine zc rfl func173 ((Si _ _ _ hm1 k0 k1) _) ?_
 refine zs2 ?_
 refine zu3 ?_
 refine zR ?_
 rw[vM ht hne];rfl
def loB(n:Int):UInt8:=UInt8.ofNat (n%256).toNat
def Pf(n:Int):IntKind.u8.wrap n=((loB n).toNat:Int):=by
 unfold loB
 rw[UInt8.toNat_ofNat']
 simp[IntKind.wrap,IntKind.bits,IntKind.signed]
 omega
def zf(n:Int):PV.val (.int .u8 (IntKind.u8.wrap n))=.val (.int .u8 ((loB n).toNat:Int)):=by rw[Pf]
def aH(m:bf)(at_ n:Int):bf×Int:=if cP m at_=0 then bV m at_ (rk n)else(m,cP m at_)
def mN(m:bf)(at_ n:Int):bf×Int:=bV m at_ [loB n]
def dN(m:bf)(at_:Int):Int×Int:=if aV m at_ 1 then(((m.b.getD at_.toNat 0).toNat:Int),0)else(0,-9)
def cv(m:bf)(at_ n:Int):List UInt8×Int:=if aV m at_ n then((m.b.drop at_.toNat).take n.toNat,0)else([],-9)
def mL(m:bf)(x to_ n:Int):bf×Int:=if (cv m x n).2=0 then bV m to_ (cv m x n).1 else(m,(cv m x n).2)
def mM(m:bf)(at_ n c:Int):bf×Int:=if aV m at_ n then bV m at_ (List.replicate n.toNat (loB c))else(m,-9)
def KE(r:List UInt8×Int):PV:=gY (sq ar r.1) (i64 r.2)
@[simp] theorem Zf (r : List UInt8 × Int) : aQ (KE r) := by simp [KE]
def jm(m:bf)(at_ n:Int)(hm:cy m)(ha:ab at_):af prog 92 [gH m,i64 at_,i64 n] (tQ (aH m at_ n)):=by
 have hm1:=hm.b
 have hm2:=hm.old
 refine zY func92 fun B=>?_
 refine zu3 ?_
 refine Ws<|zp2 ?_
 refine zc rfl func72 ((y7 m at_ (by omega) ha) _) ?_
 refine zs1 ?_
 refine zu2 ?_
 refine Wi rfl (fun hi1=>?_) (fun hi1=>?_)
 ·have h0:cP m at_≠0:=by simpa using hi1
  refine zu4 ?_
  refine zR ?_
  rw[aH,if_neg h0];rfl
 have h0:cP m at_=0:=by simpa using hi1
 refine Wj<|Ws<|am [1,0,0,0,0,0,0,3,0] [0,1,2,3,4,5,6,7,8] mG rfl (by kernel_rfl) ?_
 refine z5 ?_
 iterate 2 refine z3 ?_
 refine Xc rfl rfl rfl rfl (fun _=>dC rfl func124 rfl rfl ((CR n) _)) ?_
 refine Xc rfl rfl rfl rfl (fun _=>dC rfl func123 rfl rfl ((nc m at_ (rk n) hm ha (by rw[jD];omega)) _)) ?_
 iterate 2 refine z3 ?_
 refine ct tG rfl rfl rfl rfl rfl trivial ?_
 refine z3 ?_
 refine ap ?_
 refine zR ?_
 rw[aH,if_pos h0];rfl
def A9(m:bf)(at_ n:Int)(hm:cy m)(ha:ab at_):af prog 300 [gH m,i64 at_,i64 n] (tQ (mN m at_ n)):=by
 refine zY func300 fun B=>?_
 refine zu3 ?_
 refine zp4 ?_
 refine Wa 11 rfl (zf n) ?_
 refine z1 ?_
 refine Wa 12 rfl (bsL ar [_] rfl rfl) ?_
 refine zc rfl func123 ((nc m at_ [loB n] hm ha (by simp)) _) ?_
 refine zs4 ?_
 refine zR ?_
 rfl
def au3(b:UInt8):IntKind.i64.wrap (b.toNat:Int)=b.toNat:=by have:=b.toNat_lt;rw[bB];unfold wrap64;omega
def tv(m:bf)(at_:Int)(hm:cy m)(ha:ab at_):af prog 296 [gH m,i64 at_] (qq (dN m at_)):=by
 have hm1:=hm.b
 refine zY func296 fun B=>?_
 refine zu3 ?_
 refine Ws<|zp2 ?_
 refine zc rfl func102 ((o6 m at_ 1 (by omega) ha (UR (n:=1) (by omega))) _) ?_
 refine zs1 ?_
 refine Wi rfl (fun hi1=>?_) (fun hi1=>?_)
 ·refine zu2 ?_
  refine zR ?_
  rw[dN,if_neg (by simpa using hi1)];rfl
 have ht:aV m at_ 1=true:=by simpa using hi1
 obtain⟨k0,k1⟩:=AQ (n:=1) ht (by omega)
 refine Wj<|zp3 ?_
 refine Wv tG rfl rfl rfl (by omega) (iR ar 1 (fun _=>rfl) 0 (by omega)) ?_
 refine zs4 ?_
 refine zR ?_
 rw[dN,if_pos ht];exact congrArg (fun z=>gY (i64 z) (i64 0)) (au3 _)
def ZD{m:bf}{at_ n:Int}(h:aV m at_ n=true)(h0:n≠0):0<n/\0<=at_/\at_+n<=m.b.length:=by
 unfold aV at h
 simp only[decide_eq_true_eq]at h
 omega
def Ua{l:List UInt8}{x n:Int}(h0:0<=x)(h1:0<=n)(h:IntKind.i64.wrap (x+n)=x+n):sq ar ((l.take (IntKind.i64.wrap (x+n)).toNat).drop x.toNat)=sq ar ((l.drop x.toNat).take n.toNat):=by
 rw[h,Kq];congr 2;omega
def yZ(m:bf)(at_ n:Int)(hm:cy m)(ha:ab at_)(hn:ab n):af prog 257 [gH m,i64 at_,i64 n] (KE (cv m at_ n)):=by
 have hm1:=hm.b
 refine zY func257 fun B=>?_
 refine zu3 ?_
 refine Ws<|zp3 ?_
 refine zc rfl func102 ((o6 m at_ n (by omega) ha hn) _) ?_
 refine zs1 ?_
 refine Wi rfl (fun hi1=>?_) (fun hi1=>?_)
 ·have ht:¬aV m at_ n=true:=by simpa using hi1
  refine zu2 ?_
  refine zR ?_
  rw[cv,if_neg ht];rfl
 have ht:aV m at_ n=true:=by simpa using hi1
 refine Wj<|Ws<|zu2 ?_
 refine Wi rfl (fun hi2=>?_) (fun hi2=>?_)
 ·have hz:n=0:=by simpa using hi2
  refine zu2 ?_
  refine zR ?_
  rw[cv,if_pos ht,hz];rfl
 obtain⟨k0,k1,k3⟩:=ZD ht (by simpa using hi2)
 have k2:IntKind.i64.wrap (at_+n)=at_+n:=xU (by omega) (by omega)
 refine Wj<|zp5 ?_
 refine z1 ?_
 refine z2 ?_ (q:=(by rw[k2];omega))
 refine Wa 21 rfl (cF ar 1 (fun _=>rfl) (by rw[k2];omega)) ?_
 refine Wa 21 rfl (Ua k1 (by omega) k2) ?_
 refine zc rfl func172 ((xh _ (by simp;omega)) _) ?_
 refine zs2 ?_
 refine zR ?_
 rw[cv,if_pos ht];rfl
def Gw{m:bf}{at_ n:Int}(hm:cy m):(cv m at_ n).1.length<=1000000:=by
 have:=hm.b
 unfold cv
 split
 ·simp;omega
 simp
def S7(m:bf)(x to_ n:Int)(hm:cy m)(hx:ab x)(ht:ab to_)(hn:ab n):af prog 307 [gH m,i64 x,i64 to_,i64 n] (tQ (mL m x to_ n)):=by
 refine zY func307 fun B=>?_
 refine zu3 ?_
 refine zp3 ?_
 refine zc rfl func257 ((yZ m x n hm hx hn) _) ?_
 refine zs5 ?_
 refine Ws<|zu2 ?_
 refine Wi rfl (fun hi1=>?_) (fun hi1=>?_)
 ·have h0:¬(cv m x n).2=0:=by simpa using hi1
  refine zu4 ?_
  refine zR ?_
  rw[mL,if_neg h0];rfl
 have h0:(cv m x n).2=0:=by simpa using hi1
 refine Wj<|zp3 ?_
 refine zc rfl func123 ((nc m to_ _ hm ht (Gw hm)) _) ?_
 refine zs4 ?_
 refine zR ?_
 rw[mL,if_pos h0];rfl
def gm(p:dL)(c:Int):dL×Int:=if p.on=true/\p.b.length<130 then(⟨p.b++[loB c],p.on⟩,0)else(p,-17)
def ow(p:dL)(n:Int):dL×Int:=if 0<=n then(p,0)else gm p 45
def Mk(r:dL×Int):PV:=gY (xK r.1) (i64 r.2)
@[simp] theorem aj6 (r : dL × Int) : aQ (Mk r) := by simp [Mk]
def NY:af prog 337 [] (xK ⟨[],true⟩):=by
 refine zY func337 fun B=>?_
 refine zu1 ?_
 refine zu2 ?_
 refine zR ?_
 rfl
def Ae{p:dL}{c:Int}(h:¬(p.on=true/\p.b.length<130)):gm p c=(p,-17):=by unfold gm;rw[if_neg h]
def HJ{p:dL}{c:Int}(h:p.on=true/\p.b.length<130):gm p c=(⟨p.b++[loB c],p.on⟩,0):=by unfold gm;rw[if_pos h]
def AA(p:dL)(c:Int)(hp:p.b.length<=1000000):af prog 342 [xK p,i64 c] (Mk (gm p c)):=by
 refine zY func342 fun B=>?_
 refine zu3 ?_
 refine Ws<|zp4 ?_
 refine Wb 10 rfl (fun hg1=>?_) (fun hg1=>?_)
 ·refine z6 ?_
  iterate 3 refine z6 ?_
  refine zs1 ?_
  refine Wt rfl rfl ?_
  refine zu3 ?_
  refine zR ?_
  have hno:¬(p.on=true/\p.b.length<130):=by rintro⟨q1,q2⟩;(try simp only[dnL]at *);(try simp_all)<;>omega
  rw[Ae hno];rfl
 refine zs5 ?_
 refine Wi rfl (fun hi1=>?_) (fun hi1=>?_)
 ·refine zu3 ?_
  refine zR ?_
  have hno:¬(p.on=true/\p.b.length<130):=by rintro⟨q1,q2⟩;(try simp only[dnL]at *);(try simp_all)<;>omega
  rw[Ae hno];rfl
 refine Wj<|zu4 ?_
 refine zp4 ?_
 refine z2 ?_ (q:=(by(simp_all;done)))
 refine Wa 24 rfl (cF ar 1 (fun _=>rfl) (by omega)) ?_
 refine Wa 24 rfl ((show _=sqc ar p.b by simp[sqc];rfl)) ?_
 refine zy2 ?_
 refine Wa 26 rfl (zf c) ?_
 refine z1 ?_
 refine Wa 27 rfl (bsL ar [_] rfl rfl) ?_
 refine Wd rfl rfl (bK (lO tG rfl) rfl (lO tG rfl) (lO tG rfl) rfl rfl (by exact⟨_,rfl⟩) (by exact⟨rfl,rfl,al _ 1 (fun _=>rfl) _,bi _ (fun _=>rfl) _⟩) (by exact al _ 1 (fun _=>rfl) _) (by((simp_all;omega))) (by((simp_all;omega)))) ?_
 refine Wa 28 rfl (bT ar) ?_
 refine zs2 ?_
 refine zu3 ?_
 refine zR ?_
 have hon:p.on=true:=by(try simp only[dnL]at *);simp_all
 have hyes:p.on=true/\p.b.length<130:=⟨hon,by(try simp only[dnL]at *);omega⟩
 rw[HJ hyes];rfl
inductive Op1 where
 | abs
 | neg
 | inv
 | inc
 | dec
 | dbl
 | half
 | cells
 | algn
 | cellp
 | eq0
 | lt0
 | ne0
 | gt0
deriving DecidableEq
def Pd:List (Str×Op1):=[([65,66,83],.abs),([78,69,71,65,84,69],.neg),([73,78,86,69,82,84],.inv),([49,43],.inc),([49,45],.dec),([50,42],.dbl),([50,47],.half),([67,69,76,76,83],.cells),([65,76,73,71,78,69,68],.algn),([67,69,76,76,43],.cellp),([48,61],.eq0),([48,60],.lt0),([48,60,62],.ne0),([48,62],.gt0)]
def op1(s:Str):Option Op1:=Pd.lookup s
def eV(b:Bool):Int:=if b then -1 else 0
def one(o:Op1)(a:Int):Int:=match o with
 | .abs=>if 0<=a then a else wrap64 (-a)
 | .neg=>wrap64 (-a)
 | .inv=>-1-a
 | .inc=>wrap64 (a+1)
 | .dec=>wrap64 (a-1)
 | .dbl=>wrap64 (a+a)
 | .half=>a/2
 | .cells=>wrap64 (a*8)
 | .algn=>if a%8=0 then a else wrap64 (a-a%8+8)
 | .cellp=>wrap64 (a+8)
 | .eq0=>eV (decide (a=0))
 | .lt0=>eV (decide (a<0))
 | .ne0=>eV (!decide (a=0))
 | .gt0=>eV (decide (0<a))
def vr(name:Str)(a:Int):Int×Bool:=match op1 name with
 | some o=>(one o a,true)
 | none=>(0,false)
def jR(r:Int×Bool):PV:=gY (i64 r.1) (boo r.2)
@[simp] theorem al1 (r : Int × Bool) : aQ (jR r) := by simp [jR]
def kr{name:Str}{o:Op1}{a:Int}(h:op1 name=some o):vr name a=(one o a,true):=by unfold vr;rw[h]
def WP{name:Str}{a:Int}(h:op1 name=none):vr name a=(0,false):=by unfold vr;rw[h]
def SD{s:Str}(h0:s≠[65,66,83])(h1:s≠[78,69,71,65,84,69])(h2:s≠[73,78,86,69,82,84])(h3:s≠[49,43])(h4:s≠[49,45])(h5:s≠[50,42])(h6:s≠[50,47])(h7:s≠[67,69,76,76,83])(h8:s≠[65,76,73,71,78,69,68])(h9:s≠[67,69,76,76,43])(h10:s≠[48,61])(h11:s≠[48,60])(h12:s≠[48,60,62])(h13:s≠[48,62]):op1 s=none:=by
 unfold op1 Pd
 simp only[List.lookup]
 simp[beq_eq_false_iff_ne.2 h0,beq_eq_false_iff_ne.2 h1,beq_eq_false_iff_ne.2 h2,beq_eq_false_iff_ne.2 h3,beq_eq_false_iff_ne.2 h4,beq_eq_false_iff_ne.2 h5,beq_eq_false_iff_ne.2 h6,beq_eq_false_iff_ne.2 h7,beq_eq_false_iff_ne.2 h8,beq_eq_false_iff_ne.2 h9,beq_eq_false_iff_ne.2 h10,beq_eq_false_iff_ne.2 h11,beq_eq_false_iff_ne.2 h12,beq_eq_false_iff_ne.2 h13]
def Tq(a:Int):wrap64 (0-a)=wrap64 (-a):=congrArg wrap64 (by omega)
def ac5{a:Int}(ha : -9223372036854775808<=a/\a<=9223372036854775807):wrap64 ((BitVec.ofInt 64 (-1) ^^^ BitVec.ofInt 64 a).toNat:Int) = -1-a:=by
 have h1:BitVec.ofInt 64 (-1)=BitVec.allOnes 64:=by decide
 rw[h1,BitVec.allOnes_xor,BitVec.toNat_not,BitVec.toNat_ofInt]
 have h2:((2 ^ 64:Nat):Int)=18446744073709551616:=by decide
 have h3:(2 ^ 64:Nat)=18446744073709551616:=by decide
 rw[h2,h3]
 unfold wrap64
 omega
def YP(a:Int):wrap64 (a*2 ^ min (Int.toNat 1) IntKind.i64.bits)=wrap64 (a+a):=by
 have:(2:Int) ^ min (Int.toNat 1) IntKind.i64.bits=2:=rfl
 rw[this];exact congrArg wrap64 (by omega)
def Xy(a:Int):a.fdiv (2 ^ min (Int.toNat 1) IntKind.i64.bits)=a/2:=by
 have:(2:Int) ^ min (Int.toNat 1) IntKind.i64.bits=2:=rfl
 rw[this,Int.fdiv_eq_ediv_of_nonneg _ (by omega)]
def Rr(x m:BitVec 64):(x &&& m)+(x &&& ~~~ m)=x:=by
 have h1:(x &&& m) &&& (x &&& ~~~ m)=0#64:=by
  ext i hi
  simp only[BitVec.getElem_and,BitVec.getElem_not,BitVec.getElem_zero]
  cases x[i]<;>cases m[i]<;>rfl
 rw[BitVec.add_eq_or_of_and_eq_zero _ _ h1]
 ext i hi
 simp only[BitVec.getElem_or,BitVec.getElem_and,BitVec.getElem_not]
 cases x[i]<;>cases m[i]<;>rfl
def ah4(x:BitVec 64):(x &&& ~~~ 7#64).toNat=x.toNat-x.toNat%8:=by
 have h2:=Rr x 7#64
 have h4:=congrArg BitVec.toNat h2
 rw[BitVec.toNat_add]at h4
 have h5:(x &&& 7#64).toNat=x.toNat%8:=by rw[BitVec.toNat_and];exact Nat.and_two_pow_sub_one_eq_mod x.toNat 3
 have h6:(x &&& ~~~ 7#64).toNat<=x.toNat:=by rw[BitVec.toNat_and];exact Nat.and_le_left
 have h7:(2 ^ 64:Nat)=18446744073709551616:=by decide
 have h8:=x.isLt
 rw[h5]at h4
 rw[h7]at h4 h8
 omega
def WV{a:Int}(ha : -9223372036854775808<=a/\a<=9223372036854775807):wrap64 ((BitVec.ofInt 64 (IntKind.i64.wrap (IntKind.i64.wrap (a+8)-1)) &&& ~~~ BitVec.ofInt 64 7).toNat:Int)=if a%8=0 then a else wrap64 (a-a%8+8):=by
 have h1:BitVec.ofInt 64 7=7#64:=by decide
 rw[h1,ah4,BitVec.toNat_ofInt]
 have h2:((2 ^ 64:Nat):Int)=18446744073709551616:=by decide
 rw[h2,bB,bB]
 unfold wrap64
 split<;>omega
def nL{x y:Int}(h:x=y):gY (.val (.int .i64 x)) (.val (.bool true))=jR (y,true):=by rw[h];rfl
def kx(b:Bool):af prog 358 [boo b] (i64 (eV b)):=by
 refine zY func358 fun B=>?_
 refine zu1 ?_
 refine Ws<|zu1 ?_
 refine Wi rfl (fun hi1=>?_) (fun hi1=>?_)
 ·refine zu1 ?_
  refine zR ?_
  simp_all[eV,i64]
 refine Wj<|zu1 ?_
 refine zR ?_
 simp_all[eV,i64]
def qB(b:Bool):af prog 360 [boo b] (jR (eV b,true)):=by
 refine zY func360 fun B=>?_
 refine zu2 ?_
 refine zp1 ?_
 refine zc rfl func358 ((kx b) _) ?_
 refine zs2 ?_
 refine zR ?_
 rfl
def Uk(name:Str)(a:Int):Int×Bool:=if name=[48,61]then(one .eq0 a,true)else if name=[48,60]then(one .lt0 a,true)else if name=[48,60,62]then(one .ne0 a,true)else if name=[48,62]then(one .gt0 a,true)else(0,false)
def PA{s:Str}{a:Int}(h0:s≠[65,66,83])(h1:s≠[78,69,71,65,84,69])(h2:s≠[73,78,86,69,82,84])(h3:s≠[49,43])(h4:s≠[49,45])(h5:s≠[50,42])(h6:s≠[50,47])(h7:s≠[67,69,76,76,83])(h8:s≠[65,76,73,71,78,69,68])(h9:s≠[67,69,76,76,43]):Uk s a=vr s a:=by
 unfold Uk
 by_cases h10:s=[48,61]
 ·subst h10;rfl
 rw[if_neg h10]
 by_cases h11:s=[48,60]
 ·subst h11;rfl
 rw[if_neg h11]
 by_cases h12:s=[48,60,62]
 ·subst h12;rfl
 rw[if_neg h12]
 by_cases h13:s=[48,62]
 ·subst h13;rfl
 rw[if_neg h13]
 exact(WP (SD h0 h1 h2 h3 h4 h5 h6 h7 h8 h9 h10 h11 h12 h13)).symm
def NO(name:Str)(a:Int):af prog 275 [str name,i64 a] (jR (Uk name a)):=by
 refine zY func275 fun B=>?_
 refine zu2 ?_
 refine zu1 ?_
 refine Ws<|zu1 ?_
 refine Wl<|zp1 ?_
 refine zq 9 ?_
 refine zs1 ?_
 refine Wi rfl (fun hi1=>?_) (fun hi1=>?_)
 ·obtain rfl:=oT hi1
  refine zp3 ?_
  refine Wc rfl rfl (dQ rfl rfl func360 rfl rfl (qB _ _)) ?_
  refine zs4 ?_
  refine zR ?_
  exact congrArg jR (Prod.ext (congrArg eV (by rfl)) rfl)
 refine zp1 ?_
 refine zq 17 ?_
 refine zs1 ?_
 refine Wi rfl (fun hi2=>?_) (fun hi2=>?_)
 ·obtain rfl:=oT hi2
  refine zp3 ?_
  refine Wc rfl rfl (dQ rfl rfl func360 rfl rfl (qB _ _)) ?_
  refine zs4 ?_
  refine zR ?_
  exact congrArg jR (Prod.ext (congrArg eV (by rfl)) rfl)
 refine zp1 ?_
 refine zq 25 ?_
 refine zs1 ?_
 refine Wi rfl (fun hi3=>?_) (fun hi3=>?_)
 ·obtain rfl:=oT hi3
  refine zp3 ?_
  refine Wc rfl rfl (dQ rfl rfl func360 rfl rfl (qB _ _)) ?_
  refine zs4 ?_
  refine zR ?_
  exact congrArg jR (Prod.ext (congrArg eV (by rfl)) rfl)
 refine zp1 ?_
 refine zq 33 ?_
 refine zs1 ?_
 refine Wi rfl (fun hi4=>?_) (fun hi4=>?_)
 ·obtain rfl:=oT hi4
  refine zp3 ?_
  refine Wc rfl rfl (dQ rfl rfl func360 rfl rfl (qB _ _)) ?_
  refine zs4 ?_
  refine zR ?_
  exact congrArg jR (Prod.ext (congrArg eV (by rfl)) rfl)
 refine Wj<|zu2 ?_
 refine zR ?_
 have h1:=oF hi1
 have h2:=oF hi2
 have h3:=oF hi3
 have h4:=oF hi4
 rw[Uk,if_neg h1,if_neg h2,if_neg h3,if_neg h4];rfl
def Kp(name:Str)(a:Int)(ha : -9223372036854775808<=a/\a<=9223372036854775807):af prog 244 [str name,i64 a] (jR (vr name a)):=by
 refine zY func244 fun B=>?_
 refine zu2 ?_
 refine Ws<|zu1 ?_
 refine Wl<|Ws<|Wl<|Ws<|Wl<|Ws<|Wl<|Ws<|Wl<|Ws<|Wl<|Ws<|Wl<|Ws<|Wl<|Ws<|Wl<|Ws<|Wl<|Ws<|Wl ?_
 iterate 2 refine Ws ?_
 refine zp1 ?_
 refine zq 8 ?_
 refine zs1 ?_
 refine Wi rfl (fun hi1=>?_) (fun hi1=>?_)
 ·obtain rfl:=oT hi1
  refine aU ?_
  refine zu2 ?_
  refine Wi rfl (fun hi2=>?_) (fun hi2=>?_)
  ·refine zu3 ?_
   refine zR ?_
   refine(nL (y:=one .abs a) ?_).trans (congrArg jR (kr (o:=.abs) rfl).symm)
   simp only[one];(((try simp only[dnL]at *);rw[if_pos (by omega)]))
  refine Wj<|Ws<|zu4 ?_
  refine zR ?_
  refine(nL (y:=one .abs a) ?_).trans (congrArg jR (kr (o:=.abs) rfl).symm)
  simp only[one];(((try simp only[dnL]at *);rw[if_neg (by omega),bB];exact Tq a))
 refine Wj<|Ws<|zp1 ?_
 refine zq 10 ?_
 refine zs1 ?_
 refine Wi rfl (fun hi3=>?_) (fun hi3=>?_)
 ·obtain rfl:=oT hi3
  refine aU ?_
  refine Ws<|zu4 ?_
  refine zR ?_
  refine(nL (y:=one .neg a) ?_).trans (congrArg jR (kr (o:=.neg) rfl).symm)
  simp only[one];((rw[bB];exact Tq a))
 refine Wj<|Ws<|zp1 ?_
 refine zq 12 ?_
 refine zs1 ?_
 refine Wi rfl (fun hi4=>?_) (fun hi4=>?_)
 ·obtain rfl:=oT hi4
  refine aU ?_
  refine Ws<|zu4 ?_
  refine zR ?_
  refine(nL (y:=one .inv a) ?_).trans (congrArg jR (kr (o:=.inv) rfl).symm)
  simp only[one];((rw[bB];exact ac5 ha))
 refine Wj<|Ws<|zp1 ?_
 refine zq 14 ?_
 refine zs1 ?_
 refine Wi rfl (fun hi5=>?_) (fun hi5=>?_)
 ·obtain rfl:=oT hi5
  refine aU ?_
  refine Ws<|zu4 ?_
  refine zR ?_
  refine(nL (y:=one .inc a) ?_).trans (congrArg jR (kr (o:=.inc) rfl).symm)
  simp only[one];((rw[bB];done))
 refine Wj<|Ws<|zp1 ?_
 refine zq 16 ?_
 refine zs1 ?_
 refine Wi rfl (fun hi6=>?_) (fun hi6=>?_)
 ·obtain rfl:=oT hi6
  refine aU ?_
  refine Ws<|zu4 ?_
  refine zR ?_
  refine(nL (y:=one .dec a) ?_).trans (congrArg jR (kr (o:=.dec) rfl).symm)
  simp only[one];((rw[bB];done))
 refine Wj<|Ws<|zp1 ?_
 refine zq 18 ?_
 refine zs1 ?_
 refine Wi rfl (fun hi7=>?_) (fun hi7=>?_)
 ·obtain rfl:=oT hi7
  refine aU ?_
  refine Ws<|zu4 ?_
  refine zR ?_
  refine(nL (y:=one .dbl a) ?_).trans (congrArg jR (kr (o:=.dbl) rfl).symm)
  simp only[one];((rw[bB];exact YP a))
 refine Wj<|Ws<|zp1 ?_
 refine zq 20 ?_
 refine zs1 ?_
 refine Wi rfl (fun hi8=>?_) (fun hi8=>?_)
 ·obtain rfl:=oT hi8
  refine aU ?_
  refine Ws<|zu4 ?_
  refine zR ?_
  refine(nL (y:=one .half a) ?_).trans (congrArg jR (kr (o:=.half) rfl).symm)
  simp only[one];exact Xy a
 refine Wj<|Ws<|zp1 ?_
 refine zq 22 ?_
 refine zs1 ?_
 refine Wi rfl (fun hi9=>?_) (fun hi9=>?_)
 ·obtain rfl:=oT hi9
  refine aU ?_
  refine Ws<|zu4 ?_
  refine zR ?_
  refine(nL (y:=one .cells a) ?_).trans (congrArg jR (kr (o:=.cells) rfl).symm)
  simp only[one];((rw[bB];done))
 refine Wj<|Ws<|zp1 ?_
 refine zq 24 ?_
 refine zs1 ?_
 refine Wi rfl (fun hi10=>?_) (fun hi10=>?_)
 ·obtain rfl:=oT hi10
  refine aU ?_
  refine Ws<|zp5 ?_
  refine zs1 ?_
  refine zR ?_
  refine(nL (y:=one .algn a) ?_).trans (congrArg jR (kr (o:=.algn) rfl).symm)
  simp only[one];((rw[bB];exact WV ha))
 refine Wj<|zp1 ?_
 refine zq 26 ?_
 refine zs1 ?_
 refine Wi rfl (fun hi11=>?_) (fun hi11=>?_)
 ·obtain rfl:=oT hi11
  refine aU ?_
  refine Ws<|zu4 ?_
  refine zR ?_
  refine(nL (y:=one .cellp a) ?_).trans (congrArg jR (kr (o:=.cellp) rfl).symm)
  simp only[one];((rw[bB];done))
 refine Wj<|aU ?_
 refine zp2 ?_
 refine zc rfl func275 ((NO name a) _) ?_
 refine zs4 ?_
 refine zR ?_
 rw[PA (oF hi1) (oF hi3) (oF hi4) (oF hi5) (oF hi6) (oF hi7) (oF hi8) (oF hi9) (oF hi10) (oF hi11)];rfl
inductive Op2 where
 | quo
 | rem
 | add
 | sub
 | mul
 | and
 | or
 | xor
 | shl
 | shr
 | min
 | max
 | eq
 | ne
 | lt
 | gt
 | le
 | ge
 | ult
 | ugt
deriving DecidableEq
def Tc:List (Str×Op2):=[([47],.quo),([77,79,68],.rem),([43],.add),([45],.sub),([42],.mul),([65,78,68],.and),([79,82],.or),([88,79,82],.xor),([76,83,72,73,70,84],.shl),([82,83,72,73,70,84],.shr),([77,73,78],.min),([77,65,88],.max),([61],.eq),([60,62],.ne),([60],.lt),([62],.gt),([60,61],.le),([62,61],.ge),([85,60],.ult),([85,62],.ugt)]
def op2(s:Str):Option Op2:=Tc.lookup s
def Bp(a b:Int):Int:=wrap64 ((BitVec.ofInt 64 a &&& BitVec.ofInt 64 b).toNat:Int)
def orS(a b:Int):Int:=wrap64 ((BitVec.ofInt 64 a ||| BitVec.ofInt 64 b).toNat:Int)
def Bj(a b:Int):Int:=wrap64 ((BitVec.ofInt 64 a ^^^ BitVec.ofInt 64 b).toNat:Int)
def pX(a by_:Int)(up:Bool):Int:=if 63<U by_ then 0 else if up then S (U a*2 ^ U by_%18446744073709551616)else S (U a/2 ^ U by_)
def two(o:Op2)(a b:Int):Int×Int:=match o with
 | .quo=>((mP a b).1,(mP a b).2.2)
 | .rem=>((mP a b).2.1,(mP a b).2.2)
 | .add=>(wrap64 (a+b),0)
 | .sub=>(wrap64 (a-b),0)
 | .mul=>(wrap64 (a*b),0)
 | .and=>(Bp a b,0)
 | .or=>(orS a b,0)
 | .xor=>(Bj a b,0)
 | .shl=>(pX a b true,0)
 | .shr=>(pX a b false,0)
 | .min=>(if b<a then b else a,0)
 | .max=>(if a<b then b else a,0)
 | .eq=>(eV (decide (a=b)),0)
 | .ne=>(eV (!decide (a=b)),0)
 | .lt=>(eV (decide (a<b)),0)
 | .gt=>(eV (decide (b<a)),0)
 | .le=>(eV (decide (a<=b)),0)
 | .ge=>(eV (decide (b<=a)),0)
 | .ult=>(eV (decide (U a<U b)),0)
 | .ugt=>(eV (decide (U b<U a)),0)
def lJ(name:Str)(a b:Int):Int×Bool×Int:=match op2 name with
 | some o=>((two o a b).1,true,(two o a b).2)
 | none=>(0,false,0)
def ww(r:Int×Bool×Int):PV:=jC (i64 r.1) (boo r.2.1) (i64 r.2.2)
@[simp] theorem ak4 (r : Int × Bool × Int) : aQ (ww r) := by simp [ww]
def XX{name:Str}{a b:Int}(h:op2 name=none):lJ name a b=(0,false,0):=by unfold lJ;rw[h]
def Qn{s:Str}(h0:s≠[47])(h1:s≠[77,79,68])(h2:s≠[43])(h3:s≠[45])(h4:s≠[42])(h5:s≠[65,78,68])(h6:s≠[79,82])(h7:s≠[88,79,82])(h8:s≠[76,83,72,73,70,84])(h9:s≠[82,83,72,73,70,84])(h10:s≠[77,73,78])(h11:s≠[77,65,88])(h12:s≠[61])(h13:s≠[60,62])(h14:s≠[60])(h15:s≠[62])(h16:s≠[60,61])(h17:s≠[62,61])(h18:s≠[85,60])(h19:s≠[85,62]):op2 s=none:=by
 unfold op2 Tc
 simp only[List.lookup]
 simp[beq_eq_false_iff_ne.2 h0,beq_eq_false_iff_ne.2 h1,beq_eq_false_iff_ne.2 h2,beq_eq_false_iff_ne.2 h3,beq_eq_false_iff_ne.2 h4,beq_eq_false_iff_ne.2 h5,beq_eq_false_iff_ne.2 h6,beq_eq_false_iff_ne.2 h7,beq_eq_false_iff_ne.2 h8,beq_eq_false_iff_ne.2 h9,beq_eq_false_iff_ne.2 h10,beq_eq_false_iff_ne.2 h11,beq_eq_false_iff_ne.2 h12,beq_eq_false_iff_ne.2 h13,beq_eq_false_iff_ne.2 h14,beq_eq_false_iff_ne.2 h15,beq_eq_false_iff_ne.2 h16,beq_eq_false_iff_ne.2 h17,beq_eq_false_iff_ne.2 h18,beq_eq_false_iff_ne.2 h19]
def Gv(name:Str)(a b:Int):Int×Bool:=if name=[61]then((two .eq a b).1,true)else if name=[60,62]then((two .ne a b).1,true)else if name=[62]then((two .gt a b).1,true)else if name=[60]then((two .lt a b).1,true)else if name=[60,61]then((two .le a b).1,true)else if name=[62,61]then((two .ge a b).1,true)else if name=[85,62]then((two .ugt a b).1,true)else if name=[85,60]then((two .ult a b).1,true)else(0,false)
def Pz(name:Str)(a b:Int):af prog 274 [str name,i64 a,i64 b] (jR (Gv name a b)):=by
 refine zY func274 fun B=>?_
 refine zu2 ?_
 refine Ws<|zu1 ?_
 refine Wl<|Ws<|Wl<|Ws<|Wl<|Ws<|Wl<|Ws<|Wl<|Ws<|Wl<|Ws<|Wl<|Ws<|Wl<|Ws<|Wl ?_
 iterate 2 refine Ws ?_
 refine zp1 ?_
 refine zq 10 ?_
 refine zs1 ?_
 refine Wi rfl (fun hi1=>?_) (fun hi1=>?_)
 ·obtain rfl:=oT hi1
  refine aU ?_
  refine Ws<|zp3 ?_
  refine zc rfl func358 ((kx _) _) ?_
  refine zs2 ?_
  refine zR ?_
  refine congrArg jR (show(eV _,true)=((two .eq a b).1,true) from ?_)
  simp only[two]<;>rfl
 refine Wj<|Ws<|zp1 ?_
 refine zq 12 ?_
 refine zs1 ?_
 refine Wi rfl (fun hi2=>?_) (fun hi2=>?_)
 ·obtain rfl:=oT hi2
  refine aU ?_
  refine Ws<|zp3 ?_
  refine zc rfl func358 ((kx _) _) ?_
  refine zs2 ?_
  refine zR ?_
  refine congrArg jR (show(eV _,true)=((two .ne a b).1,true) from ?_)
  simp only[two]<;>rfl
 refine Wj<|Ws<|zp1 ?_
 refine zq 14 ?_
 refine zs1 ?_
 refine Wi rfl (fun hi3=>?_) (fun hi3=>?_)
 ·obtain rfl:=oT hi3
  refine aU ?_
  refine aa rfl ?_
  refine zs4 ?_
  refine Ws<|zp3 ?_
  refine zc rfl func358 ((kx _) _) ?_
  refine zs2 ?_
  refine zR ?_
  refine congrArg jR (show(eV _,true)=((two .gt a b).1,true) from ?_)
  simp only[two]<;>first|rfl|(congr 2;done)|(congr 2;rw[Bool.eq_iff_iff]<;>simp)
 refine Wj<|Ws<|zp1 ?_
 refine zq 16 ?_
 refine zs1 ?_
 refine Wi rfl (fun hi4=>?_) (fun hi4=>?_)
 ·obtain rfl:=oT hi4
  refine aU ?_
  refine Ws<|zp3 ?_
  refine zc rfl func358 ((kx _) _) ?_
  refine zs2 ?_
  refine zR ?_
  refine congrArg jR (show(eV _,true)=((two .lt a b).1,true) from ?_)
  simp only[two]<;>first|rfl|(congr 2;done)|(congr 2;rw[Bool.eq_iff_iff]<;>simp)
 refine Wj<|Ws<|zp1 ?_
 refine zq 18 ?_
 refine zs1 ?_
 refine Wi rfl (fun hi5=>?_) (fun hi5=>?_)
 ·obtain rfl:=oT hi5
  refine aU ?_
  refine aa rfl ?_
  refine zs4 ?_
  refine Ws<|zp3 ?_
  refine zc rfl func358 ((kx _) _) ?_
  refine zs2 ?_
  refine zR ?_
  refine congrArg jR (show(eV _,true)=((two .le a b).1,true) from ?_)
  simp only[two]<;>first|rfl|(congr 2;done)|(congr 2;rw[Bool.eq_iff_iff]<;>simp)
 refine Wj<|Ws<|zp1 ?_
 refine zq 20 ?_
 refine zs1 ?_
 refine Wi rfl (fun hi6=>?_) (fun hi6=>?_)
 ·obtain rfl:=oT hi6
  refine aU ?_
  refine Ws<|zp3 ?_
  refine zc rfl func358 ((kx _) _) ?_
  refine zs2 ?_
  refine zR ?_
  refine congrArg jR (show(eV _,true)=((two .ge a b).1,true) from ?_)
  simp only[two]<;>first|rfl|(congr 2;done)|(congr 2;rw[Bool.eq_iff_iff]<;>simp)
 refine Wj<|Ws<|zp1 ?_
 refine zq 22 ?_
 refine zs1 ?_
 refine Wi rfl (fun hi7=>?_) (fun hi7=>?_)
 ·obtain rfl:=oT hi7
  refine aU ?_
  refine aa rfl ?_
  refine zs4 ?_
  refine Ws<|zp2 ?_
  refine zc rfl func359 ((Et _ _) _) ?_
  refine zc rfl func358 ((kx _) _) ?_
  refine zs2 ?_
  refine zR ?_
  refine congrArg jR (show(eV _,true)=((two .ugt a b).1,true) from ?_)
  simp only[two]<;>first|rfl|(congr 2;done)|(congr 2;rw[Bool.eq_iff_iff]<;>simp)
 refine Wj<|zp1 ?_
 refine zq 24 ?_
 refine zs1 ?_
 refine Wi rfl (fun hi8=>?_) (fun hi8=>?_)
 ·obtain rfl:=oT hi8
  refine aU ?_
  refine Ws<|zp2 ?_
  refine zc rfl func359 ((Et _ _) _) ?_
  refine zc rfl func358 ((kx _) _) ?_
  refine zs2 ?_
  refine zR ?_
  refine congrArg jR (show(eV _,true)=((two .ult a b).1,true) from ?_)
  simp only[two]<;>first|rfl|(congr 2;done)|(congr 2;rw[Bool.eq_iff_iff]<;>simp)
 refine Wj<|aU ?_
 refine zu2 ?_
 refine zR ?_
 rw[Gv,if_neg (oF hi1),if_neg (oF hi2),if_neg (oF hi3),if_neg (oF hi4),if_neg (oF hi5),if_neg (oF hi6),if_neg (oF hi7),if_neg (oF hi8)];rfl
def JY(x lo hi:Int):af prog 294 [i64 x,i64 lo,i64 hi] (boo (decide (U (wrap64 (x-lo))<U (wrap64 (hi-lo))))):=by
 refine zY func294 fun B=>?_
 refine zu1 ?_
 refine zp5 ?_
 refine z1 ?_
 refine zc rfl func359 ((Et _ _) _) ?_
 refine zs1 ?_
 refine zR ?_
 simp only[bB];rfl
def WY{t:TypeId}{x y:Operand}{a b:Int}(h:0<=b):IU .shl t x y (.int .u64 a) (.int .u64 b)=some (.int .u64 (IntKind.u64.wrap (a*2 ^ min b.toNat 64))):=by
 have h1:¬b<0:=by omega
 simp only[IU,eqGuard,binOp,Op.shift,if_neg h1];rfl
def Wu{t:TypeId}{x y:Operand}{a b:Int}(h:0<=b):IU .shr t x y (.int .u64 a) (.int .u64 b)=some (.int .u64 (a.fdiv (2 ^ min b.toNat 64))):=by
 have h1:¬b<0:=by omega
 simp only[IU,eqGuard,binOp,Op.shift,if_neg h1];rfl
def pvU(x:Int):PV.val (.int .u64 (IntKind.u64.wrap x))=.val (.int .u64 (U x:Int)):=by rw[ki]
def as8(x:Int):U x<18446744073709551616:=by unfold U;omega
def Uh(a b:Int):IntKind.i64.wrap (IntKind.u64.wrap ((U a:Int)*2 ^ min ((U b:Int)).toNat 64))=pX a b true:=by
 unfold pX
 rw[Int.toNat_natCast,bB,IntKind.wrap_u64]
 by_cases h:63<U b
 ·rw[if_pos h,Nat.min_eq_right (by omega)]
  have e:(2:Int) ^ 64=18446744073709551616:=by decide
  rw[e,Int.mul_emod_left];unfold wrap64;omega
 rw[if_neg h,Nat.min_eq_left (by omega),if_pos rfl]
 unfold S
 congr 1
def UG(a b:Int):IntKind.i64.wrap ((U a:Int).fdiv (2 ^ min ((U b:Int)).toNat 64))=pX a b false:=by
 unfold pX
 have hp:∀n:Nat,(0:Int)<=2 ^ n:=fun n=>Int.pow_nonneg (by omega)
 rw[Int.toNat_natCast,bB,Int.fdiv_eq_ediv_of_nonneg _ (hp _)]
 by_cases h:63<U b
 ·rw[if_pos h,Nat.min_eq_right (by omega)]
  have e:(2:Int) ^ 64=18446744073709551616:=by decide
  have:=as8 a
  rw[e,Int.ediv_eq_zero_of_lt (by omega) (by omega)];unfold wrap64;omega
 rw[if_neg h,Nat.min_eq_left (by omega),if_neg (by simp)]
 unfold S
 congr 1
def BT(a by_:Int)(up:Bool):af prog 273 [i64 a,i64 by_,boo up] (i64 (pX a by_ up)):=by
 refine zY func273 fun B=>?_
 refine zu1 ?_
 refine zp2 ?_
 refine Wa 9 rfl (pvU by_) ?_
 refine zs1 ?_
 refine Ws<|zu1 ?_
 refine Wi rfl (fun hi1=>?_) (fun hi1=>?_)
 ·obtain rfl:=hi1
  refine zp2 ?_
  refine Wa 12 rfl (pvU a) ?_
  refine z1 ?_
  refine Wd rfl rfl (yR rfl rfl rfl (WY (by omega))) ?_
  refine zs2 ?_
  refine zR ?_
  exact congrArg i64 (Uh a by_)
 obtain rfl:=hi1
 refine Wj<|zp2 ?_
 refine Wa 17 rfl (pvU a) ?_
 refine z1 ?_
 refine Wd rfl rfl (yR rfl rfl rfl (Wu (by omega))) ?_
 refine zs2 ?_
 refine zR ?_
 exact congrArg i64 (UG a by_)
end Go.Proofs.YtjcminooghmpeaaGreatDoor
