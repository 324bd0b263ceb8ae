import Derived.ChangeKeysEq
import Derived.Laws.RangeAny
import Derived.Laws.RangeString
import Derived.Lib.Bytealg
import Derived.Lib.IndexBytes
import Derived.Lib.OwnBridge
import Derived.Maps.AppendAt
import Derived.RegionTactic
import Derived.Shelf.SlGeneric
import Derived.Shelf.SlicesE.Reverse
import Derived.Test.YtjcminooghmpeaaGreatDoorPk3
set_option linter.all false
set_option maxRecDepth 100000
set_option maxHeartbeats 40000000
open Go.Proofs.Tryz
namespace Go.Proofs.YtjcminooghmpeaaGreatDoor
open Go.RowKit (wrap64)
def x8(x q:Int):wrap64 (x+q*18446744073709551616)=wrap64 x:=by unfold wrap64;omega
def Dt(x:Int):∃q,wrap64 x=x+q*18446744073709551616:=⟨-((x+9223372036854775808)/18446744073709551616),by unfold wrap64;omega⟩
def yy(x y:Int):wrap64 (wrap64 x+y)=wrap64 (x+y):=by
 obtain⟨q,h⟩:=Dt x;rw[h,show x+q*18446744073709551616+y=(x+y)+q*18446744073709551616 from by omega,x8]
def wd(c:Int):Int:=if 48<=c/\c<=57 then c-48 else if 97<=c/\c<=122 then c-87 else if 65<=c/\c<=90 then c-55 else -1
def v8(n:Int):Int:=if 0<=n/\n<=9 then 48+n else if 10<=n/\n<=35 then 55+n else 63
def isB(b:Int):Bool:=decide (2<=b)&&decide (b<=36)
def L0(b:Int):isB b=true↔2<=b/\b<=36:=by unfold isB;simp
def ae5(c:Int): -1<=wd c/\wd c<=35:=by unfold wd;split<;>(try split)<;>(try split)<;>omega
def chr(n:Nat):UInt8:=UInt8.ofNat (v8 n).toNat
def okD(b:Int)(c:UInt8):Bool:=decide (0<=wd c.toNat)&&decide (wd c.toNat<b)
def Gj(b:Int)(c:UInt8):okD b c=true↔0<=wd c.toNat/\wd c.toNat<b:=by unfold okD;simp
def uU(b:Int):Int->List UInt8->Int
 | n,[]=>n
 | n,c::l=>uU b (n*b+wd c.toNat) l
def HM(b:Int)(l m:List UInt8):∀n,uU b n (l++m)=uU b (uU b n l) m:=by
 induction l with
 | nil=>intro n;rfl
 | cons c l ih=>intro n;exact ih _
def OK(b n:Int)(l:List UInt8)(c:UInt8):uU b n (l++[c])=uU b n l*b+wd c.toNat:=by rw[HM];rfl
def Bh(b n:Int)(l:List UInt8)(c:UInt8):wrap64 (wrap64 (wrap64 (uU b n l)*b)+wd c.toNat)=wrap64 (uU b n (l++[c])):=by
 rw[OK,yy,wrap64_mul_left_add]
where
 wrap64_mul_left_add {x y z:Int}:wrap64 (wrap64 x*y+z)=wrap64 (x*y+z):=by
  obtain⟨q,h⟩:=Dt x
  rw[h,Int.add_mul,show q*18446744073709551616*y=(q*y)*18446744073709551616 from by rw[Int.mul_right_comm],show x*y+q*y*18446744073709551616+z=(x*y+z)+(q*y)*18446744073709551616 from by omega,x8]
def p9:List UInt8->Option Int
 | [a,c,d]=>if a=39/\d=39/\33<=c.toNat/\c.toNat<=126 then some c.toNat else none
 | _=>none
def vV(l:List UInt8)(b:Int):Int×List UInt8 :=
 match l with
 | []=>(b,[])
 | c::m=>if c=35 then(10,m)else if c=36 then(16,m)else if c=37 then(2,m)else(b,c::m)
def w7(l:List UInt8):List UInt8×Bool :=
 match l with
 | []=>([],false)
 | c::m=>if c=45 then(m,true)else(c::m,false)
def rV(l:List UInt8)(b:Int)(below:Bool):Int×Bool :=
 if l=[]\/isB b=false\/l.all (okD b)=false then(0,false)else(if below then wrap64 (-wrap64 (uU b 0 l))else wrap64 (uU b 0 l),true)
def dw(l:List UInt8)(b:Int):Int×Bool :=
 match p9 l with
 | some n=>(n,true)
 | none=>rV (w7 (vV l b).2).1 (vV l b).1 (w7 (vV l b).2).2
def Vt(l:List UInt8)(b:Int)(below:Bool)(hb:isB b=true)(hl:l≠[])(hd:l.all (okD b)=true):
  rV l b below=(if below then wrap64 (-wrap64 (uU b 0 l))else wrap64 (uU b 0 l),true):=by
 unfold rV;rw[if_neg (by rw[hb,hd];simp[hl])]
def Vy(l:List UInt8)(b:Int)(below:Bool)(h:l.all (okD b)=false):rV l b below=(0,false):=by
 unfold rV;rw[if_pos (.inr (.inr h))]
def tO(b:Nat):Nat->Nat->List Nat
 | 0,_=>[]
 | k+1,u=>u%b::(if u/b=0 then []else tO b k (u/b))
def ot(u b:Nat):List UInt8:=((tO b 64 u).map chr).reverse
def gV(n b:Int):List UInt8×Int:=if isB b then(ot (U n) b.toNat,0)else([],-24)
def ir(n b:Int):List UInt8×Int:=if isB b then(if 0<=n then ot (U n) b.toNat else 45::ot (U (wrap64 (-n))) b.toNat,0)else([],-24)
def Sq{b:Int}(h:isB b=true):∃B:Nat,b=(B:Int)/\2<=B/\B<=36:=by
 rw[L0]at h;exact⟨b.toNat,by omega,by omega,by omega⟩
open Go.RowKit
section
variable {P : Program}
def TA(P:Program)(f:FuncId)(args:List PV)(n:Nat)(xs:List PV)(k:Nat):Prop:=∀H,HC P f args H (.seq n xs (.own H.length k)) (H++[.free (n*k)])
def Qj{f:FuncId}{args:List PV}{n k:Nat}{xs:List PV}(ha:aF args)(hxs:aF xs)
  (h:∀B σ w vs,Sim B [] σ w->au (cx B [] σ w) args vs->Calls P f vs.toArray w fun e w'=>∃v H' σ' t m,e=.returned v/\Rep (cx B H' σ' w') (.seq n xs (.own t k)) v/\H'[t]?=some (.free m)/\m<=n*k/\eH B [] σ w H' σ' w'):TA P f args n xs k:=by
 intro H B σ w vs s hr
 have s0:=L6 s
 have hr0:au (cx (BoW B σ H) [] σ w) args vs:=dv (c:=cx B H σ w) (c':=cx (BoW B σ H) [] σ w) rfl (fun b off h=>by
  rcases h with h|⟨i,oi,h1,_⟩
  ·exact h
  simp at h1) ha hr
 refine Calls.mono (h (BoW B σ H) σ w vs s0 hr0) ?_
 rintro e w' ⟨v,H',σ',t,m,rfl,h1,ht,hm,h2⟩
 have g:bj w w':=⟨h2.os,h2.tape,h2.output,h2.size,fun b hb=>h2.block b hb (fun i oi h=>by simp at h)⟩
 obtain⟨ad,cap,ws,hv,hle,hnil,hrl,hlies,hqN,hl,hown⟩:=gJ h1
 have key:∀nb:Option Nat,(∀b,nb=some b->w.heap.size<=b)->G7 (cx B (H++[.free (n*k)]) (ext σ H.length nb) w') H.length (.free (n*k))->(∀b,nb=some b->σ' t=some b)->(cap=n\/∃b cs e,nb=some b/\ad=some ⟨b,0,none⟩/\w'.heap[b]?=some (Obj.cells cs e (0,0))/\cap*k<=cs.size) ->
   ∃v' σ2,Ending.returned v=Ending.returned v'/\Rep (cx B (H++[.free (n*k)]) σ2 w') (.seq n xs (.own H.length k)) v'/\Sim B (H++[.free (n*k)]) σ2 w'/\eH B H σ w (H++[.free (n*k)]) σ2 w':=by
  intro nb hnew hh hnb hk
  obtain⟨s',st⟩:=fv s g (.free (n*k)) nb hnew hh
  have wr:∀b off,(cx B (H++[.free (n*k)]) (ext σ H.length nb) w').Wr b off->(cx (BoW B σ H) H' σ' w').Wr b off:=by
   rintro b off (h|⟨j,oj,h3,h4,h5⟩)
   ·exact .inl (.inl h)
   rcases fI h3 with ⟨h6,h7⟩|⟨rfl,rfl⟩
   ·rw[bY h6]at h4;exact .inl (.inr ⟨j,oj,h7,h4,h5⟩)
   rw[bx]at h4;exact .inr ⟨t,_,ht,hnb _ h4,Nat.le_trans hm h5⟩
  refine⟨v,_,rfl,?_,s',st⟩
  unfold Rep
  refine⟨ad,cap,ws,hv,hle,hnil,dv (c:=cx (BoW B σ H) H' σ' w') (c':=cx B (H++[.free (n*k)]) (ext σ H.length nb) w') rfl wr hxs hrl,fun b hb=>(hlies b hb).imp (fun hL=>⟨hL.1,fun j u hj=>⟨(hL.2 j u hj).1,fun hw=>(hL.2 j u hj).2 (wr _ _ hw)⟩⟩) id,by simp[cx],hl,?_⟩
  rcases hk with hk|⟨b,cs,e,h3,h4,h5,h6⟩
  ·exact .inl hk
  exact .inr ⟨b,cs,e,by simp only[cx];rw[bx];exact h3,h4,h5,h6⟩
 rcases hown with hcap|⟨b,cs,e,h3,h4,h5,h6⟩
 ·exact key none (fun b hb=>by cases hb) (fun b hb=>by simp only[cx]at hb;rw[bx]at hb;cases hb) (fun b hb=>by cases hb) (.inl hcap)
 refine key (some b) (fun b' hb=>?_) (fun b' hb=>?_) (fun b' hb=>by cases hb;exact h3) (.inr ⟨b,cs,e,rfl,h4,h5,h6⟩)
 ·cases hb
  rcases h2.new t _ b ht rfl h3 with h7|⟨j,oj,h7,_⟩
  ·exact h7
  simp at h7
 simp only[cx]at hb;rw[bx]at hb;cases hb
 exact⟨cs,e,h5,Nat.le_trans (Nat.mul_le_mul_right _ hle) h6⟩
def aO4(G:List (Nat×TD))(rs:List ResultVar)(n:Nat)(xs:List PV)(k:Nat):Exit->(Nat->PV)->List Ob->Prop
 | .normal,T,H=>∃t m,pQ G T H rs=some (.seq n xs (.own t k))/\H[t]?=some (.free m)/\m<=n*k
 | .ret,T,H=>∃t m,pQ G T H rs=some (.seq n xs (.own t k))/\H[t]?=some (.free m)/\m<=n*k
 | _,_,_=>False
def PN{G:List (Nat×TD)}(hG:fh P G=true){f:FuncId}{fn:Func}{c:Code}{args:List PV}{n k:Nat}{xs:List PV}{rs:List ResultVar}(hf:P.funcs[f]?=some fn)(hb:fn.body=some c)(hr:fn.results=rs.toArray)(hn0:Nat.ble args.length fn.ntmps=true)(ha:aF args)(hres:aF xs)
  (h:∀B,W P B fn.ntmps c (yE args) [] (aO4 G rs n xs k)):TA P f args n xs k:=by
 have hn:=Nat.le_of_ble_eq_true hn0
 refine Qj ha hres fun B σ w vs s hv=>?_
 have hl:=au.length hv
 refine calls_of_wp hf hb (wp_mono (h B σ w {tmps:=vs.toArray++Array.replicate (fn.ntmps-vs.toArray.size) undef,defers:=[]} ⟨s,tM hv _,by simp;omega,⟨Nat.zero_le _,rfl⟩⟩) ?_)
 rintro e a' w' ⟨T',H1,σ',h1,h2,h3⟩
 replace h2:=MM h2
 have fin:∀(h4:∃t m,pQ G T' H1 rs=some (.seq n xs (.own t k))/\H1[t]?=some (.free m)/\m<=n*k),a'.defers=[]/\∃v,(results fn a'.tmps).run P w'=.ok v w'/\∃v' H' σ' t m,Ending.returned v=Ending.returned v'/\Rep (cx B H' σ' w') (.seq n xs (.own t k)) v'/\H'[t]?=some (.free m)/\m<=n*k/\eH B [] σ w H' σ' w':=by
  rintro⟨t,m,hx,h4,h7⟩
  obtain⟨v,h5,h6⟩:=uZ hG hr h2 hx
  exact⟨h2.defers.2,v,h5,v,H1,σ',t,m,rfl,h6,h4,h7,h3⟩
 cases e<;>first|exact fin h1|exact False.elim h1
def ab2{G:List (Nat×TD)}{rs:List ResultVar}{T:Nat->PV}{H:List Ob}{n n' k t m:Nat}{xs xs':List PV}(h:pQ G T H rs=some (.seq n' xs' (.own t k)))(h1:n'=n)(h2:xs'=xs)(h3:H[t]?=some (.free m))(h4:m<=n*k):aO4 G rs n xs k .ret T H:=by
 subst h1 h2;exact⟨t,m,h,h3,h4⟩
def TA.pure{f:FuncId}{args:List PV}{n k:Nat}{xs:List PV}(h:TA P f args n xs k)(ha:aF args)(hxs:aF xs):ab P f args (.seq n xs .any):=by
 refine J0 ha (by unfold aR;exact⟨hxs,.inl rfl⟩) fun B σ w vs s hr=>?_
 refine Calls.mono (h [] B σ w vs s hr) ?_
 rintro e w' ⟨v,σ',rfl,h1,h2,h3⟩
 exact⟨v,_,σ',rfl,oU _ _ _ _ _ h1,h3⟩
def ap4(P:Program)(t:TypeId):Value->Value->Bool
 | .int k _,.int k' _=>match P.underlying t with|some (.int k0)=>decide (k=k')&&decide (k0=k0)|_=>false
 | .bool _,.bool _=>match P.underlying t with|some .bool=>true|_=>false
 | .string _,.string _=>match P.underlying t with|some .string=>true|_=>false
 | _,_=>false
def eqV:Value->Value->Bool
 | .int _ a,.int _ b=>a==b
 | .bool a,.bool b=>a==b
 | .string a,.string b=>nc a b
 | _,_=>false
def rW:List Value->List Value->Bool
 | [],[]=>true
 | u::us,v::vs=>eqV u v&&rW us vs
 | _,_=>false
def B7(P:Program):List Field->Nat->List Value->List Value->Bool
 | [],_,[],[]=>true
 | f :: fs, k, u :: us, v :: vs => (f.name != "_") && Nat.beq f.offset k && P.plainKey f.type && ap4 P f.type u v && B7 P fs (k + 1) us vs
 | _,_,_,_=>false
def YC{t:TypeId}{u v:Value}(h:ap4 P t u v=true)(d:Nat)(w:World):(Op.equalIn (d+1) t u v).run P w=.ok (eqV u v) w:=by
 unfold ap4 at h
 split at h
 ·split at h
  ·rename_i hu
   simp only[Bool.and_eq_true,decide_eq_true_eq]at h
   obtain⟨rfl,_⟩:=h
   exact run_equalIn_int w d t _ _ _ _ hu
  cases h
 ·split at h
  ·rename_i hu
   exact run_equalIn_bool' w d t _ _ hu
  cases h
 ·split at h
  ·rename_i a b _ hu
   show _=Result.ok (nc a b) w
   rw[<-uS];exact run_equalIn_string w d t _ _ hu
  cases h
 cases h
def ww(xs ys:Array Value)(d:Nat)(w:World):∀(fs:List Field) (k:Nat) (us vs:List Value),xs.toList.drop k=us->ys.toList.drop k=vs->B7 P fs k us vs=true->(Op.eqFields (d+1) xs ys fs).run P w=.ok (rW us vs) w
 | [],k,us,vs,hu,hv,h=>by
  match us,vs,h with
  | [],[],_=>rfl
  | u::us,_,h=>simp[B7]at h
  | [],v::vs,h=>simp[B7]at h
 | f::fs,k,us,vs,hu,hv,h=>by
  match us,vs,h,hu,hv with
  | [],[],h,_,_=>simp[B7]at h
  | [],v::vs,h,_,_=>simp[B7]at h
  | u::us,[],h,_,_=>simp[B7]at h
  | u::us,v::vs,h,hu,hv =>
   simp only[B7,Bool.and_eq_true]at h
   obtain⟨⟨⟨⟨h1,h2⟩,h3⟩,h4⟩,h5⟩:=h
   rw[Nat.beq_eq]at h2
   have g:∀(zs:Array Value) (z:Value) (l:List Value),zs.toList.drop k=z::l->zs[f.offset]?=some z/\zs.toList.drop (k+1)=l:=by
    intro zs z l hz
    refine⟨?_,?_⟩
    ·rw[h2,<-Array.getElem?_toList]
     have:(zs.toList.drop k)[0]?=some z:=by rw[hz];rfl
     rw[List.getElem?_drop]at this
     simpa using this
    rw[<-List.drop_drop,hz];rfl
   obtain⟨hu1,hu2⟩:=g xs u us hu
   obtain⟨hv1,hv2⟩:=g ys v vs hv
   have ih:=ww xs ys d w fs (k+1) us vs hu2 hv2 h5
   unfold Op.eqFields
   rw[if_pos (by simpa using h1)]
   simp only[Sem.run_bind,run_part_plain w h3 hu1,run_part_plain w h3 hv1,Result.andThen_ok,YC h4]
   cases hq:eqV u v with
   | true=>simp[rW,hq,ih]
   | false=>simp[rW,hq]
def Dn:List PV->Option (List Value)
 | []=>some []
 | .val v::xs=>match Dn xs with|some vs=>some (v::vs)|none=>none
 | _=>none
def uD{c:Cx}:∀{xs:List PV} {us vs:List Value},Dn xs=some us->au c xs vs->vs=us
 | [],us,vs,h,hr=>by simp only[Dn,Option.some.injEq]at h;subst h;exact aG.1 hr
 | x::xs,us,[],h,hr=>by unfold au at hr;obtain⟨u,us,h1,_⟩:=hr;cases h1
 | x::xs,us,v::vs,h,hr=>by
  rw[af]at hr
  cases x<;>simp only[Dn]at h<;>first|(cases h;done)|skip
  split at h
  ·rename_i ws hw
   cases h
   have h1:=hr.1
   unfold Rep at h1
   rw[h1,uD hw hr.2]
  cases h
def xg(P:Program)(t:TypeId)(us vs:List Value):Bool:=(match P.underlying t with|some (.struct _)=>true|_=>false)&&!P.stoodInHeld t&&!P.eqGuardType P.depth t&&B7 P (P.fieldsOf t).toList 0 us vs
def K7{t:TypeId}{us vs:List Value}(h:xg P t us vs=true):P.underlying t=some (.struct (P.fieldsOf t))/\P.stoodInHeld t=false/\P.eqGuardType P.depth t=false/\B7 P (P.fieldsOf t).toList 0 us vs=true:=by
 simp only[xg,Bool.and_eq_true,Bool.not_eq_true']at h
 obtain⟨⟨⟨h1,h2⟩,h3⟩,h4⟩:=h
 refine⟨?_,h2,h3,h4⟩
 cases hu:P.underlying t with
 | none=>rw[hu]at h1;cases h1
 | some u =>
  rw[hu]at h1
  cases u<;>first|(cases h1;done)|skip
  simp only[Program.fieldsOf,hu]
section
variable {B : Nat -> Nat -> Prop} {o : Oper} {T : Nat -> PV} {H : List Ob}
def mW{t yt:TypeId}{x y:Operand}{xs ys:List PV}{us vs:List Value}(ho:o.op=.binOp .neq t x y yt)(hx:opv T x=.agg xs)(hy:opv T y=.agg ys)(h1:Dn xs=some us)(h2:Dn ys=some vs)(h:xg P t us vs=true):bM P B o T H (.val (.bool (!rW us vs))) H :=
 aM fun σ w ac s k=>by
  have k1:=k x (by simp[ho,Op.operands])
  have k2:=k y (by simp[ho,Op.operands])
  rw[hx]at k1
  rw[hy]at k2
  unfold Rep at k1 k2
  obtain⟨ls,ha,k1⟩:=k1
  obtain⟨ms,hb,k2⟩:=k2
  have e1:=uD h1 k1
  have e2:=uD h2 k2
  subst e1 e2
  obtain⟨h3,h4,h5,h6⟩:=K7 h
  refine⟨_,?_,ar _ _⟩
  have hg:=run_eqGuard_agg (P:=P) w .neq t x y ls.toArray ms.toArray h5
  have he:=run_neq_struct (P:=P) w t ls.toArray ms.toArray
  rw[run_equalIn_agg w 9999 t _ _ h3 h4,ww _ _ 9998 w _ 0 ls ms rfl rfl h6]at he
  simp only[execOp,ho,ha,hb,Sem.run_bind,hg,Result.andThen_ok,he,Sem.run_pure]
end
end
def Vd{b m:Nat}{s:List UInt8}{l:List Ob}(k:NLo b l):NLo b (.iter s m::l):=k
section
variable {P : Program} {B : Nat -> Nat -> Prop} {o : Oper} {T : Nat -> PV} {H : List Ob}
def SP{σ:Nat->Option Nat}{w:World}(s:Sim B H σ w){i b:Nat}{l:List UInt8}{p q:Nat}(hi:H[i]?=some (.iter l p))(hb:σ i=some b)(hv:w.heap[b]?=some (Obj.stringIter ⟨l.toArray⟩ p)):
  Sim B (H.set i (.iter l q)) σ {w with heap:=w.heap.setIfInBounds b (.stringIter ⟨l.toArray⟩ q)}/\eH B H σ w (H.set i (.iter l q)) σ {w with heap:=w.heap.setIfInBounds b (.stringIter ⟨l.toArray⟩ q)}:=by
 have hlen:=cM hi
 have hbl:=(Array.getElem?_eq_some_iff.1 hv).1
 have other:∀x,x≠b->(w.heap.setIfInBounds b (.stringIter ⟨l.toArray⟩ q))[x]?=w.heap[x]?:=fun x hx=>Array.getElem?_setIfInBounds_ne (Ne.symm hx)
 have same:(w.heap.setIfInBounds b (.stringIter ⟨l.toArray⟩ q))[b]?=some (.stringIter ⟨l.toArray⟩ q):=by simp[hbl]
 have get:∀j o,(H.set i (.iter l q))[j]?=some o->(j=i/\o=.iter l q)\/(j≠i/\H[j]?=some o):=fun j o h=>y4 hlen h
 have own:∀x off,kM σ (H.set i (.iter l q)) x off->kM σ H x off:=by
  rintro x off ⟨j,o,h1,h2,h3⟩
  rcases get j o h1 with ⟨rfl,rfl⟩|⟨_,h4⟩
  ·exact⟨j,_,hi,h2,trivial⟩
  exact⟨j,o,h4,h2,h3⟩
 have wr:∀off,kM σ H b off:=fun off=>⟨i,_,hi,hb,trivial⟩
 have le:(cx B H σ w).Le (cx B (H.set i (.iter l q)) σ {w with heap:=w.heap.setIfInBounds b (.stringIter ⟨l.toArray⟩ q)}):=by
  refine⟨by simp[cx],fun _ _=>rfl,fun x off u h1 h2=>⟨?_,fun h=>h1 (h.imp id (own x off))⟩,fun x e2 c2 h1 h2=>⟨?_,fun h=>h1 (h.imp id (own x 0))⟩,fun x cs t fr h1=>⟨cs,?_,rfl⟩⟩
  ·have hx:x≠b:=fun hx=>h1 (.inr (hx▸wr off))
   exact(World.cell?_of_block (w:=w) (w':={w with heap:=w.heap.setIfInBounds b (.stringIter ⟨l.toArray⟩ q)}) (a:=⟨x,off,none⟩) (other x hx)).trans h2
  ·have hx:x≠b:=fun hx=>h1 (.inr (hx▸wr 0))
   exact(other x hx).trans h2
  have hx:x≠b:=by rintro rfl;simp only[cx]at h1;rw[hv]at h1;cases h1
  exact(other x hx).trans h1
 refine⟨⟨?_,?_,fun x off h=>by simpa using s.base x off h,?_⟩,⟨le,rfl,rfl,rfl,by simp,?_,?_⟩⟩
 ·intro j k x oj ok h1 h2 l1 l2 e1 e2
  rcases get j oj h1 with ⟨rfl,rfl⟩|⟨_,h3⟩<;>rcases get k ok h2 with ⟨rfl,rfl⟩|⟨_,h4⟩
  ·rfl
  ·exact s.inj _ _ x _ _ hi h4 rfl l2 e1 e2
  ·exact s.inj _ _ x _ _ h3 hi l1 rfl e1 e2
  exact s.inj _ _ x _ _ h3 h4 l1 l2 e1 e2
 ·intro j x oj h1 l1 e1 off
  rcases get j oj h1 with ⟨rfl,rfl⟩|⟨_,h3⟩
  ·exact s.sep _ x _ hi rfl e1 off
  exact s.sep _ x _ h3 l1 e1 off
 ·intro j oj h1
  rcases get j oj h1 with ⟨rfl,rfl⟩|⟨hj,h3⟩
  ·exact⟨b,hb,same⟩
  have k:=s.holds j oj h3
  cases oj with
  | cells zs t =>
   obtain⟨x,ws,fr',h5,h6,hf,h7⟩:=k
   have hx:x≠b:=fun hx=>hj (s.inj j i b _ _ h3 hi rfl rfl (hx▸h5) hb)
   exact⟨x,ws,fr',h5,(other x hx).trans h6,hf,h7.mono le⟩
  | smap ks2 ms =>
   obtain⟨x,e2,c2,h5,h6,h7,h8⟩:=k
   have hx:x≠b:=fun hx=>hj (s.inj j i b _ _ h3 hi rfl rfl (hx▸h5) hb)
   exact⟨x,e2,c2,h5,(other x hx).trans h6,h7,au.mono le h8⟩
  | iter l2 p2 =>
   obtain⟨x,h5,h6⟩:=k
   have hx:x≠b:=fun hx=>hj (s.inj j i b _ _ h3 hi rfl rfl (hx▸h5) hb)
   exact⟨x,h5,(other x hx).trans h6⟩
  | free m =>
   intro x hx
   obtain⟨cs,t,h5,h6⟩:=k x hx
   have hne:x≠b:=fun h=>hj (s.inj j i b _ _ h3 hi rfl rfl (h▸hx) hb)
   exact⟨cs,t,(other x hne).trans h5,h6⟩
  | dead=>trivial
  | glob g u=>obtain⟨q1,q2⟩:=k;exact le.cell g 0 u q2 q1
 ·intro j oj x h1 h2 h3
  rcases get j oj h1 with ⟨rfl,rfl⟩|⟨_,h4⟩
  ·exact .inr ⟨_,_,hi,rfl,h3⟩
  exact .inr ⟨j,oj,h4,h2,h3⟩
 intro x hx hn
 exact other x (fun h=>hn i _ hi rfl (h▸hb))
def pk{t:TypeId}{d:TD}{x:Operand}{s:Str}(f:ap P t d)(hd:d.sh=.str)(ho:o.op=.range t x)(hx:opv T x=str s):bM P B o T H (.ptr H.length 0) (H++[.iter s 0]):=by
 intro σ w a sm h
 have k1:=h x (by simp[ho,Op.operands])
 rw[hx]at k1
 unfold str Rep at k1
 obtain⟨s',st⟩:=fv sm (bj.alloc w (.stringIter ⟨s.toArray⟩ 0)) (.iter s 0) (some w.heap.size) (fun b hb=>by cases hb;exact Nat.le_refl _) ⟨w.heap.size,by simp only[cx];rw[bx],by show(w.heap.push _)[w.heap.size]?=_;simp⟩
 refine⟨.pointer (some ⟨w.heap.size,0,none⟩),_,_,.inl ?_,?_,s',st⟩
 ·simp only[execOp,ho,k1,Sem.run_bind,run_range_string w t _ (f.str hd),Result.andThen_ok,Sem.run_pure];rfl
 unfold Rep;exact⟨by simp[cx],w.heap.size,by simp only[cx];rw[bx],rfl⟩
def tz{x:Operand}{i:Nat}{s:Str}{pos:Nat}(ho:o.op=.next x true)(hx:opv T x=.ptr i 0)(hi:H[i]?=some (.iter s pos))(hp:pos<s.length)(ha:(s.getD pos 0).toNat<128):
  bM P B o T H (.tup [.val (.bool true),.val (.int .i64 (pos:Int)),.val (.int .i32 ((s.getD pos 0).toNat:Int))]) (H.set i (.iter s (pos+1))):=by
 intro σ w a sm h
 have k1:=h x (by simp[ho,Op.operands])
 rw[hx]at k1
 unfold Rep at k1
 obtain⟨_,b,hb,hv⟩:=k1
 obtain⟨b',hb',hg⟩:=sm.holds i _ hi
 simp only[cx]at hb hb' hg
 rw[hb]at hb'
 cases hb'
 obtain⟨s',st⟩:=SP sm (q:=pos+1) hi hb hg
 have hsz:pos<(⟨s.toArray⟩:ByteArray).size:=by rw[dc];exact hp
 have hel:((⟨s.toArray⟩:ByteArray)[pos]'hsz)=s.getD pos 0:=by
  simp only[List.getD,List.getElem?_eq_getElem hp,Option.getD_some]
  rfl
 have hdec:Utf8.decode ⟨s.toArray⟩ pos=((s.getD pos 0).toNat,1):=by rw[decode_ascii _ pos hsz (by rw[hel];exact ha),hel]
 refine⟨.tuple #[.bool true,.int .i64 (pos:Int),.int .i32 ((s.getD pos 0).toNat:Int)],_,σ,.inl ?_,?_,s',st⟩
 ·have hr:(Instr.next (a.eval x) true o.type).run P w=.ok (.tuple #[.bool true,.int .i64 (pos:Int),.int .i32 ((s.getD pos 0).toNat:Int)]) {w with heap:=w.heap.setIfInBounds b (.stringIter ⟨s.toArray⟩ (pos+1))}:=by
   rw[hv]
   have hbl:=(Array.getElem?_eq_some_iff.1 hg).1
   simp only[Instr.next,getObj,setObj,Sem.run_bind,Sem.run,hg,Result.andThen,hsz,if_true,hdec]
   simp[goInt,Sem.run,hg,hbl]
  simp only[execOp,ho,Sem.run_bind,hr,Result.andThen_ok,Sem.run_pure]
 unfold Rep
 exact⟨_,rfl,af.2 ⟨ar _ _,af.2 ⟨ar _ _,af.2 ⟨ar _ _,aG.2 rfl⟩⟩⟩⟩
def pm{x:Operand}{i:Nat}{s:Str}{pos:Nat}(ho:o.op=.next x true)(hx:opv T x=.ptr i 0)(hi:H[i]?=some (.iter s pos))(hp:s.length<=pos):bM P B o T H (.tup [.val (.bool false)]) H :=
 aM fun σ w a sm h=>by
  have k1:=h x (by simp[ho,Op.operands])
  rw[hx]at k1
  unfold Rep at k1
  obtain⟨_,b,hb,hv⟩:=k1
  obtain⟨b',hb',hg⟩:=sm.holds i _ hi
  simp only[cx]at hb hb' hg
  rw[hb]at hb'
  cases hb'
  have hsz:¬pos<(⟨s.toArray⟩:ByteArray).size:=by rw[dc];omega
  refine⟨.tuple #[.bool false],?_,by unfold Rep;exact⟨_,rfl,af.2 ⟨ar _ _,aG.2 rfl⟩⟩⟩
  have hr:(Instr.next (a.eval x) true o.type).run P w=.ok (.tuple #[.bool false]) w:=by
   rw[hv]
   simp[Instr.next,getObj,Sem.run,hg,hsz]
  simp only[execOp,ho,Sem.run_bind,hr,Result.andThen_ok,Sem.run_pure]
end
open Go.RowKit
def Cw(x:rQ):List Value:=[.int .i64 x.kind,.int .i64 x.arg,.int .i64 x.hand,.int .i64 x.rank,.int .i64 x.delay,.int .i64 x.id]
def ar7{x y:rQ}(h:rW (Cw x) (Cw y)=true):x=y:=by cases x;cases y;simp[Cw,rW,eqV]at h;simp[h]
def Qx(x:rQ):rW (Cw x) (Cw x)=true:=by simp[Cw,rW,eqV]
def xF(x:og):List Value:=[.int .i64 x.xt,.int .i64 x.fuel,.int .i64 x.strikes,.bool x.out]
def YE{x y:og}(h:rW (xF x) (xF y)=true):x=y:=by cases x;cases y;simp[xF,rW,eqV]at h;simp[h]
def O2(x:og):rW (xF x) (xF x)=true:=by simp[xF,rW,eqV]
def w4(x:lI):List Value:=[.int .i64 x.mem,.int .i64 x.data,.int .i64 x.ret,.int .i64 x.words,.int .i64 x.out]
def Yq{x y:lI}(h:rW (w4 x) (w4 y)=true):x=y:=by cases x;cases y;simp[w4,rW,eqV]at h;simp[h]
def Or(x:lI):rW (w4 x) (w4 x)=true:=by simp[w4,rW,eqV]
def ql{b:Bool}(h:(!b)=false):b=true:=by cases b<;>simp_all
def p7{b:Bool}(h:(!b)=true):b=false:=by cases b<;>simp_all
def R5(a b:List rQ)(ha:a.length<=1000000)(hb:b.length<=1000000):ab prog 57 [sq pY a,sq pY b] (boo (decide (a=b))):=by
 refine zH func57 fun B=>?_
 refine Wi rfl ?_ ?_<;>intro hi1
 ·have hne:a≠b:=fun h=>by subst h;simp at hi1
  refine zd ?_
  exact congrArg boo (decide_eq_false hne).symm
 have hl:a.length=b.length:=by(try simp only[dnL]at *);omega
 refine Wj<|Ws<|zu1 ?_
 refine Wl ?_
 show W _ _ _ _ _ _ _
 refine dJ (fun(k:Nat)=>[(0,sq pY a),(1,sq pY b),(5,i64 k)]) (fun(k:Nat)=>[]) (fun(k:Nat)=>[]) (fun(k:Nat)=>k<=a.length/\a.take k=b.take k) (fun(k:Nat)=>a.length-k) (0) (by simp) [] ?_ ?_
 ·exact dK
 intro k hk
 refine zd ?_
 refine Wi rfl ?_ ?_<;>intro hi2
 ·have hlt:k<a.length:=by have:=oT hi2;omega
  refine zd ?_
  refine zW [0,0,0,1,0,0,0,1,0] [0,1,2,3,4,5,6,7,8] ?_
  refine zK pY 6 default ?_
  refine zK pY 6 default ?_
  refine ew rfl rfl rfl rfl (fun _=>mW rfl rfl rfl rfl rfl (by kernel_rfl)) ?_
  refine zd ?_
  refine Wi rfl ?_ ?_<;>intro hi3
  ·have hne:a≠b:=fun h=>by have h1:=p7 hi3;rw[h]at h1;exact absurd ((Qx _).symm.trans h1) (by simp)
   refine zd ?_
   exact congrArg boo (decide_eq_false hne).symm
  have he:a.getD k default=b.getD k default:=ar7 (ql hi3)
  refine zd ?_
  exact⟨k+1,[],(by exact⟨by omega,nQ default hl hlt hk.2 he⟩),(by omega),dK⟩
 have hge:a.length<=k:=by have:=oF hi2;omega
 refine aW ?_
 refine zd ?_
 exact congrArg boo (decide_eq_true (by have h1:=hk.2;rw[eQ a k hge,eQ b k (by omega)]at h1;exact h1)).symm
def Od(a b:List og)(ha:a.length<=1000000)(hb:b.length<=1000000):ab prog 58 [sq mP a,sq mP b] (boo (decide (a=b))):=by
 refine zH func58 fun B=>?_
 refine Wi rfl ?_ ?_<;>intro hi1
 ·have hne:a≠b:=fun h=>by subst h;simp at hi1
  refine zd ?_
  exact congrArg boo (decide_eq_false hne).symm
 have hl:a.length=b.length:=by(try simp only[dnL]at *);omega
 refine Wj<|Ws<|zu1 ?_
 refine Wl ?_
 show W _ _ _ _ _ _ _
 refine dJ (fun(k:Nat)=>[(0,sq mP a),(1,sq mP b),(5,i64 k)]) (fun(k:Nat)=>[]) (fun(k:Nat)=>[]) (fun(k:Nat)=>k<=a.length/\a.take k=b.take k) (fun(k:Nat)=>a.length-k) (0) (by simp) [] ?_ ?_
 ·exact dK
 intro k hk
 refine zd ?_
 refine Wi rfl ?_ ?_<;>intro hi2
 ·have hlt:k<a.length:=by have:=oT hi2;omega
  refine zd ?_
  refine zW [0,0,0,1,0,0,0,1,0] [0,1,2,3,4,5,6,7,8] ?_
  refine zK mP 4 default ?_
  refine zK mP 4 default ?_
  refine ew rfl rfl rfl rfl (fun _=>mW rfl rfl rfl rfl rfl (by kernel_rfl)) ?_
  refine zd ?_
  refine Wi rfl ?_ ?_<;>intro hi3
  ·have hne:a≠b:=fun h=>by have h1:=p7 hi3;rw[h]at h1;exact absurd ((O2 _).symm.trans h1) (by simp)
   refine zd ?_
   exact congrArg boo (decide_eq_false hne).symm
  have he:a.getD k default=b.getD k default:=YE (ql hi3)
  refine zd ?_
  exact⟨k+1,[],(by exact⟨by omega,nQ default hl hlt hk.2 he⟩),(by omega),dK⟩
 have hge:a.length<=k:=by have:=oF hi2;omega
 refine aW ?_
 refine zd ?_
 exact congrArg boo (decide_eq_true (by have h1:=hk.2;rw[eQ a k hge,eQ b k (by omega)]at h1;exact h1)).symm
def Wp{x y:aP}(h1:x.name=y.name)(h2:x.xt=y.xt)(h3:x.flags=y.flags):x=y:=by cases x;cases y;simp_all
def PZ(a b:List aP)(ha:a.length<=1000000)(hb:b.length<=1000000):ab prog 13 [sq cn a,sq cn b] (boo (decide (a=b))):=by
 refine zH func13 fun B=>?_
 refine Wi rfl ?_ ?_<;>intro hi1
 ·have hne:a≠b:=fun h=>by subst h;simp at hi1
  refine zd ?_
  exact congrArg boo (decide_eq_false hne).symm
 have hl:a.length=b.length:=by(try simp only[dnL]at *);omega
 refine Wj<|Ws<|zu1 ?_
 refine Wl ?_
 show W _ _ _ _ _ _ _
 refine dJ (fun(k:Nat)=>[(0,sq cn a),(1,sq cn b),(5,i64 k)]) (fun(k:Nat)=>[]) (fun(k:Nat)=>[]) (fun(k:Nat)=>k<=a.length/\a.take k=b.take k) (fun(k:Nat)=>a.length-k) (0) (by simp) [] ?_ ?_
 ·exact dK
 intro k hk
 refine zd ?_
 refine Wi rfl ?_ ?_<;>intro hi2
 ·have hlt:k<a.length:=by have:=oT hi2;omega
  refine zd ?_
  refine zW [0,0,0,0,1,0,0,0,0,1,0,0,0,0,0,0,1,0,0,0,0,1,0,0,0,0,0,0,0,1,0,0,0,0,1,0,0] [0,1,2,3,4,5,6,7,8,9,10,11,12,13,14,15,16,17,18,19,20,21,22,23,24,25,26,27,28,29,30,31,32,33,34,35,36] ?_
  refine zK cn 3 default ?_
  refine Xi tG rfl rfl rfl rfl (fun _=>rfl) (by omega) (iN cn 3 (fun _=>rfl) default (by omega)) ?_
  refine z3 ?_
  refine z5 ?_
  refine z3 ?_
  refine Xa 27 rfl (vZ _ _) ?_
  refine z3 ?_
  refine gI 28 rfl (fun hg1=>?_) (fun hg1=>?_)
  ·have hne:a≠b:=fun h=>by have h1:=oF (p7 hg1);rw[h]at h1;exact h1 rfl
   refine zd ?_
   refine Wt rfl rfl ?_
   refine zd ?_
   exact congrArg boo (decide_eq_false hne).symm
  have h1:(a.getD k default).name=(b.getD k default).name:=oT (ql hg1)
  refine zd ?_
  refine zK cn 3 default ?_
  refine Xi tG rfl rfl rfl rfl (fun _=>rfl) (by omega) (iN cn 3 (fun _=>rfl) default (by omega)) ?_
  refine z3 ?_
  refine z5 ?_
  iterate 3 refine z3 ?_
  refine gI 41 rfl (fun hg2=>?_) (fun hg2=>?_)
  ·have hne:a≠b:=fun h=>by have h1:=bne_iff_ne.1 hg2;rw[h]at h1;exact h1 rfl
   refine zd ?_
   refine Wt rfl rfl ?_
   refine zd ?_
   exact congrArg boo (decide_eq_false hne).symm
  have h2:(a.getD k default).xt=(b.getD k default).xt:=bne_eq_false_iff_eq.1 hg2
  refine zd ?_
  refine zK cn 3 default ?_
  refine zK cn 3 default ?_
  refine Wi rfl ?_ ?_<;>intro hi3
  ·have hne:a≠b:=fun h=>by have h1:=bne_iff_ne.1 hi3;rw[h]at h1;exact h1 rfl
   refine zd ?_
   exact congrArg boo (decide_eq_false hne).symm
  have he:a.getD k default=b.getD k default:=Wp h1 h2 (bne_eq_false_iff_eq.1 hi3)
  refine zd ?_
  exact⟨k+1,[],(by exact⟨by omega,nQ default hl hlt hk.2 he⟩),(by omega),dK⟩
 have hge:a.length<=k:=by have:=oF hi2;omega
 refine aW ?_
 refine zd ?_
 exact congrArg boo (decide_eq_true (by have h1:=hk.2;rw[eQ a k hge,eQ b k (by omega)]at h1;exact h1)).symm
structure VSm (v:VVm):Prop where
 old:v.mem.old.length<=1000000
 d:v.d.length<=1000000
 r:v.r.length<=1000000
 f:v.f.length<=1000000
 dict:v.dict.length<=1000000
 req:v.req.length<=1000000
 hand:v.hand.length<=1000000
def an0{a b:VVm}(h1:a.conf=b.conf)(h2:a.mem=b.mem)(h3:a.here=b.here)(h4:a.d=b.d)(h5:a.r=b.r)(h6:a.f=b.f)(h7:a.dict=b.dict)(h8:a.last=b.last)(h9:a.out=b.out)(h10:a.pic=b.pic)(h11:a.req=b.req)(h12:a.free=b.free)(h13:a.next=b.next)(h14:a.arg=b.arg)(h15:a.self=b.self)(h16:a.now=b.now)(h17:a.hand=b.hand):a=b:=by
 cases a;cases b;simp only[VVm.mk.injEq];exact⟨h1,h2,h3,h4,h5,h6,h7,h8,h9,h10,h11,h12,h13,h14,h15,h16,h17⟩
def K4(a b:VVm)(ha:VSm a)(hb:VSm b):ab prog 28 [eVm a,eVm b] (boo (decide (a=b))):=by
 refine zH func28 fun B=>?_
 refine zC rfl func54 ((On a.mem b.mem ha.old hb.old) _) ?_
 refine zC rfl func20 ((tj a.d b.d ha.d hb.d) _) ?_
 refine zC rfl func20 ((tj a.r b.r ha.r hb.r) _) ?_
 refine zC rfl func55 ((Lh a.f b.f ha.f hb.f) _) ?_
 refine zC rfl func13 ((PZ a.dict b.dict ha.dict hb.dict) _) ?_
 refine zC rfl func56 ((N0 a.pic b.pic) _) ?_
 refine zC rfl func57 ((R5 a.req b.req ha.req hb.req) _) ?_
 refine zc rfl func58 ((Od a.hand b.hand ha.hand hb.hand) _) ?_
 refine zs1 ?_
 refine Ws<|zp3 ?_
 refine Wb 55 rfl ?_ ?_<;>intro hg1
 ·have hne:a≠b:=fun h=>oF (p7 hg1) (by rw[h])
  refine zd ?_
  refine Wt rfl rfl ?_
  refine zd ?_
  exact congrArg boo (decide_eq_false hne).symm
 have h1:=oT (ql hg1)
 refine zy4 ?_
 refine Wb 59 rfl ?_ ?_<;>intro hg2
 ·have hne:a≠b:=fun h=>oF (p7 hg2) (by rw[h])
  refine zd ?_
  refine Wt rfl rfl ?_
  refine zd ?_
  exact congrArg boo (decide_eq_false hne).symm
 have h2:=oT (ql hg2)
 refine zy4 ?_
 refine Wb 63 rfl ?_ ?_<;>intro hg3
 ·have hne:a≠b:=fun h=>oF (p7 hg3) (by rw[h])
  refine zd ?_
  refine Wt rfl rfl ?_
  refine zd ?_
  exact congrArg boo (decide_eq_false hne).symm
 have h3:=oT (ql hg3)
 refine zy4 ?_
 refine Wb 67 rfl ?_ ?_<;>intro hg4
 ·have hne:a≠b:=fun h=>oF (p7 hg4) (by rw[h])
  refine zd ?_
  refine Wt rfl rfl ?_
  refine zd ?_
  exact congrArg boo (decide_eq_false hne).symm
 have h4:=oT (ql hg4)
 refine zy4 ?_
 refine Wb 71 rfl ?_ ?_<;>intro hg5
 ·have hne:a≠b:=fun h=>oF (p7 hg5) (by rw[h])
  refine zd ?_
  refine Wt rfl rfl ?_
  refine zd ?_
  exact congrArg boo (decide_eq_false hne).symm
 have h5:=oT (ql hg5)
 refine zy4 ?_
 refine Wb 75 rfl ?_ ?_<;>intro hg6
 ·have hne:a≠b:=fun h=>oF (p7 hg6) (by rw[h])
  refine zd ?_
  refine Wt rfl rfl ?_
  refine zd ?_
  exact congrArg boo (decide_eq_false hne).symm
 have h6:=oT (ql hg6)
 refine zy4 ?_
 refine Wb 79 rfl ?_ ?_<;>intro hg7
 ·have hne:a≠b:=fun h=>oF (p7 hg7) (by rw[h])
  refine zd ?_
  refine Wt rfl rfl ?_
  refine zd ?_
  exact congrArg boo (decide_eq_false hne).symm
 have h7:=oT (ql hg7)
 refine zy4 ?_
 refine Wb 83 rfl ?_ ?_<;>intro hg8
 ·have hne:a≠b:=fun h=>oF (p7 hg8) (by rw[h])
  refine zd ?_
  refine Wt rfl rfl ?_
  refine zd ?_
  exact congrArg boo (decide_eq_false hne).symm
 have h8:=oT (ql hg8)
 refine zd ?_
 refine Wd rfl rfl (mW rfl rfl rfl rfl rfl (by kernel_rfl)) ?_
 refine zy2 ?_
 refine Wb 90 rfl ?_ ?_<;>intro hg9
 ·have hne:a≠b:=fun h=>by have h1:=p7 hg9;rw[h]at h1;exact absurd ((Or _).symm.trans h1) (by simp)
  refine zd ?_
  refine Wt rfl rfl ?_
  refine zd ?_
  exact congrArg boo (decide_eq_false hne).symm
 have h9:a.conf=b.conf:=Yq (ql hg9)
 refine zd ?_
 refine zX rfl rfl (cY (lO tG rfl) rfl (lO tG rfl) rfl (lO tG rfl) rfl rfl rfl) ?_
 refine Wd rfl rfl (cY (lO tG rfl) rfl (lO tG rfl) rfl (lO tG rfl) rfl rfl rfl) ?_
 refine z1 ?_
 refine zA 97 rfl (vZ _ _) ?_
 refine Wi rfl ?_ ?_<;>intro hi1
 ·have hne:a≠b:=fun h=>oF (p7 hi1) (by rw[h])
  refine zd ?_
  exact congrArg boo (decide_eq_false hne).symm
 have h10:=oT (ql hi1)
 refine Wj<|zp5 ?_
 refine z1 ?_
 refine Wb 104 rfl ?_ ?_<;>intro hg10
 ·have q1:a.here=b.here:=beq_iff_eq.1 hg10
  refine zy5 ?_
  refine zy2 ?_
  refine Wb 111 rfl ?_ ?_<;>intro hg11
  ·have q2:a.last=b.last:=beq_iff_eq.1 hg11
   refine zy5 ?_
   refine zy2 ?_
   refine Wb 118 rfl ?_ ?_<;>intro hg12
   ·have q3:a.free=b.free:=beq_iff_eq.1 hg12
    refine zy5 ?_
    refine zy2 ?_
    refine Wb 125 rfl ?_ ?_<;>intro hg13
    ·have q4:a.next=b.next:=beq_iff_eq.1 hg13
     refine zy5 ?_
     refine zy2 ?_
     refine Wb 132 rfl ?_ ?_<;>intro hg14
     ·have q5:a.arg=b.arg:=beq_iff_eq.1 hg14
      refine zy5 ?_
      refine zy2 ?_
      refine Wb 139 rfl ?_ ?_<;>intro hg15
      ·have q6:a.self=b.self:=beq_iff_eq.1 hg15
       refine zy5 ?_
       refine zs2 ?_
       refine zR ?_
       (refine congrArg boo ?_;rw[Bool.eq_iff_iff,beq_iff_eq,decide_eq_true_eq];exact⟨fun q7=>an0 h9 h1 q1 h2 h3 h4 h5 q2 h10 h6 h7 q3 q4 q5 q6 q7 h8,fun h=>by rw[h]⟩)
      have hne:a≠b:=fun h=>beq_eq_false_iff_ne.1 hg15 (by rw[h])
      refine zd ?_
      exact congrArg boo (decide_eq_false hne).symm
     have hne:a≠b:=fun h=>beq_eq_false_iff_ne.1 hg14 (by rw[h])
     refine zd ?_
     exact congrArg boo (decide_eq_false hne).symm
    have hne:a≠b:=fun h=>beq_eq_false_iff_ne.1 hg13 (by rw[h])
    refine zd ?_
    exact congrArg boo (decide_eq_false hne).symm
   have hne:a≠b:=fun h=>beq_eq_false_iff_ne.1 hg12 (by rw[h])
   refine zd ?_
   exact congrArg boo (decide_eq_false hne).symm
  have hne:a≠b:=fun h=>beq_eq_false_iff_ne.1 hg11 (by rw[h])
  refine zd ?_
  exact congrArg boo (decide_eq_false hne).symm
 have hne:a≠b:=fun h=>beq_eq_false_iff_ne.1 hg10 (by rw[h])
 refine zd ?_
 exact congrArg boo (decide_eq_false hne).symm
def eS(s:Str):Int:=if s.length=0 then -16 else if 31<s.length then -19 else if s.all (fun c=>decide (32<c.toNat))then 0 else -32
def BO(w:aP):Bool:=decide (eS w.name=0/\0<=w.flags/\w.flags<=7)
def iz(l:List aP):Bool:=l.all BO&&decide (l.length<=1024)
def tR(w:aP):Bool:=decide (w.flags/2%2=1)
def qa(w:aP)(name:Str):Bool:=!tR w&&SR w.name name
def mL(l:List aP)(name:Str):Nat->aP×Int×Bool
 | 0=>(⟨[],0,0⟩,0,false)
 | k+1=>if qa (l.getD k default) name then(l.getD k default,(k:Int),true)else mL l name k
def bL(l:List aP)(name:Str):aP×Int×Bool:=mL l name l.length
def Cu(r:aP×Int×Bool):PV:=kr (yq r.1) (i64 r.2.1) (boo r.2.2)
@[simp] theorem ax7 (r : aP × Int × Bool) : aR (Cu r) := by simp [Cu]
def r4{l:List aP}(h:∀w∈l,0<=w.flags/\w.flags<=7)(name:Str):∀k,k<=l.length->0<=(mL l name k).1.flags/\(mL l name k).1.flags<=7
 | 0,_=>by show(0:Int)<=0/\(0:Int)<=7;omega
 | k+1,hk=>by
  unfold mL
  split
  ·exact h _ (by rw[List.getD_eq_getElem?_getD,List.getElem?_eq_getElem (by omega)];exact List.getElem_mem _)
  exact r4 h name k (by omega)
def gS{n:Int}(h0 : -9223372036854775808<=n)(h1:n<=9223372036854775807):IntKind.i64.wrap n=n:=by rw[bU];unfold wrap64;omega
def qP{f:Int}(h0:0<=f)(h7:f<=7):f=0\/f=1\/f=2\/f=3\/f=4\/f=5\/f=6\/f=7:=by omega
def aJ3{f:Int}(h0:0<=f)(h7:f<=7):(IntKind.i64.wrap ↑(BitVec.ofInt IntKind.i64.bits f &&& BitVec.ofInt IntKind.i64.bits 2).toNat==0) = !decide (f/2%2=1):=by
 rcases qP h0 h7 with rfl|rfl|rfl|rfl|rfl|rfl|rfl|rfl<;>decide
def aH5(x:aP)(name:Str)(hx:x.name.length<=9223372036854775807)(hn:name.length<=9223372036854775807)(h0:0<=x.flags)(h7:x.flags<=7):ab prog 65 [yq x,.row [str name]] (boo (qa x name)):=by
 have hl:=aJ3 h0 h7
 refine bw tG (rs:=[.tmp 3]) func65 rfl rfl rfl (by(simp[aR,aF];done)) (by(simp;done)) (fun B=>?_)
 refine zu2 ?_
 refine zp5 ?_
 refine zB 8 (fun hg1=>?_) (fun hg1=>?_)
 ·refine zC rfl func66 ((OV x.name name hx hn) _) ?_
  exact congrArg boo (by unfold qa tR;rw[hg1]at hl;rw[<-hl];simp)
 exact congrArg boo (by unfold qa tR;rw[hg1]at hl;rw[<-hl];simp)
def VY{α:Type}(enc:α->List PV)(n:Nat)(hk:∀x,(enc x).length=n)(d:α):∀(l:List α) (j k:Nat),j<l.length->k<n->(l.flatMap enc)[j*n+k]?=(enc (l.getD j d))[k]?
 | [],j,k,h,_=>by simp at h
 | x::l,0,k,_,h=>by
  rw[List.flatMap_cons,Nat.zero_mul,Nat.zero_add,List.getElem?_append_left (by rw[hk];exact h)];rfl
 | x::l,j+1,k,h,h2=>by
  rw[List.flatMap_cons,List.getElem?_append_right (by rw[hk,Nat.succ_mul];omega),hk,show(j+1)*n+k-n=j*n+k by rw[Nat.succ_mul];omega,VY enc n hk d l j k (by simpa using h) h2]
  rfl
def kw(l:List aP):Prop:=l.length<=1000000/\∀w∈l,w.name.length<=9223372036854775807/\0<=w.flags/\w.flags<=7
def kw.get{l:List aP}(h:kw l){j:Nat}(hj:j<l.length):(l.getD j default).name.length<=9223372036854775807/\0<=(l.getD j default).flags/\(l.getD j default).flags<=7 :=
 h.2 _ (by rw[List.getD_eq_getElem?_getD,List.getElem?_eq_getElem hj];exact List.getElem_mem _)
def zOf(l:List aP)(j:Nat):WX:=if h:(l.getD j default).name.length<=9223372036854775807/\0<=(l.getD j default).flags/\(l.getD j default).flags<=7 then
  ⟨(⟨(l.getD j default).name.toArray⟩,(l.getD j default).xt,(l.getD j default).flags),by simpa[ByteArray.size]using h.1,h.2⟩else⟨(⟨#[]⟩,0,0),by decide,by decide,by decide⟩
def Ai{l:List aP}(h:kw l){j:Nat}(hj:j<l.length):(zOf l j).1=(⟨(l.getD j default).name.toArray⟩,(l.getD j default).xt,(l.getD j default).flags):=by
 unfold zOf;rw[dif_pos (h.get hj)]
def wOf(x:WX):aP:=⟨x.1.1.data.toList,x.1.2.1,x.1.2.2⟩
def S8{l:List aP}(h:kw l){j:Nat}(hj:j<l.length):wOf (zOf l j)=l.getD j default:=by
 unfold wOf;rw[Ai h hj]
def A9{l:List aP}{name:Str}:∀k,(∀j,j<k->qa (l.getD j default) name=false)->mL l name k=(⟨[],0,0⟩,0,false)
 | 0,_=>rfl
 | k+1,h=>by unfold mL;rw[h k (by omega)];simp;exact A9 k (fun j hj=>h j (by omega))
def BI{l:List aP}{name:Str}{m:Nat}(hm:qa (l.getD m default) name=true):∀k,m<k->(∀j,m<j->j<k->qa (l.getD j default) name=false)->mL l name k=(l.getD m default,(m:Int),true)
 | 0,h,_=>by omega
 | k+1,h,h2=>by
  unfold mL
  by_cases e:m=k
  ·subst e;rw[hm];rfl
  rw[h2 k (by omega) (by omega)];simp;exact BI hm k (by omega) (fun j h3 h4=>h2 j h3 (by omega))
def xG(c:Cx)(x:aP):Rep c (yq x) (.agg #[.string ⟨x.name.toArray⟩,.int .i64 x.xt,.int .i64 x.flags]):=by
 unfold yq Rep
 exact⟨[_,_,_],rfl,af.2 ⟨ar _ _,af.2 ⟨ar _ _,af.2 ⟨ar _ _,aG.2 rfl⟩⟩⟩⟩
def Pk(l:List aP)(name:Str)(hl:kw l)(hn:name.length<=9223372036854775807):ab prog 64 [sq cn l,.fn (.func 65) [] [.row [str name]]] (Cu (bL l name)):=by
 intro H B σ w vs s hr
 match vs,hr with
 | [v0,v1],hr =>
  obtain⟨h0,hr⟩:=af.1 hr
  obtain⟨h1,_⟩:=af.1 hr
  unfold sq Rep at h0
  obtain⟨a,cap,us,rfl,hle,hnil,hrep,hlies,_⟩:=h0
  unfold Rep at h1
  obtain⟨fs,cs,rfl,hf,hc⟩:=h1
  rw[aG]at hf;subst hf
  match cs,hc with
  | [u],hc =>
   obtain⟨hu,_⟩:=af.1 hc
   unfold Rep at hu
   obtain⟨nb,us',rfl,hn',hln⟩:=hu
   have hcell:∀j k,j<l.length->k<3->∃u,us[j*3+k]?=some u/\∃x,(cn (l.getD j default))[k]?=some x/\Rep (cx B H σ w) x u:=fun j k hj hk=>by
    have e:=VY cn 3 (fun _=>rfl) default l j k hj hk
    have:∃x,(cn (l.getD j default))[k]?=some x:=by match k,hk with|0,_=>exact⟨_,rfl⟩|1,_=>exact⟨_,rfl⟩|2,_=>exact⟨_,rfl⟩
    obtain⟨x,hx⟩:=this
    rw[hx]at e
    obtain⟨u,h5,h6⟩:=au.get hrep e
    exact⟨u,h5,x,hx,h6⟩
   have hI:tI w.heap.size w (.slice a l.length cap) l.length (zOf l):=by
    by_cases hz:l.length=0
    ·rw[hz];exact .inl ⟨a,cap,rfl,rfl⟩
    match a,hnil,hlies with
    | none,hnil,_=>exact absurd (hnil rfl).1 hz
    | some b,_,hlies =>
     rcases hlies b rfl with hL|⟨h9,_⟩
     ·obtain⟨hs,hL⟩:=hL
      obtain⟨blk,off,spot⟩:=b
      simp only at hs hL
      subst hs
      obtain⟨u0,q0,x0,q1,q2⟩:=hcell 0 0 (by omega) (by omega)
      have hb:blk<w.heap.size:=by
       have:=(hL _ _ q0).1
       simp only[cx]at this
       unfold World.cell? at this
       by_cases hh:blk<w.heap.size
       ·exact hh
       simp[Array.getElem?_eq_none (Nat.le_of_not_lt hh)]at this
      refine .inr ⟨blk,off,cap,rfl,hb,fun j hj=>?_,fun j hj=>?_,fun j hj=>?_⟩
      ·obtain⟨u,g1,x,g2,g3⟩:=hcell j 0 hj (by omega)
       cases g2
       unfold str Rep at g3
       subst g3
       have:=(hL _ _ g1).1
       rw[Ai hl hj];exact this
      ·obtain⟨u,g1,x,g2,g3⟩:=hcell j 1 hj (by omega)
       cases g2
       unfold i64 Rep at g3
       subst g3
       have:=(hL _ _ g1).1
       rw[Ai hl hj];rw[<-Nat.add_assoc]at this;exact this
      obtain⟨u,g1,x,g2,g3⟩:=hcell j 2 hj (by omega)
      cases g2
      unfold i64 Rep at g3
      subst g3
      have:=(hL _ _ g1).1
      rw[Ai hl hj];rw[<-Nat.add_assoc]at this;exact this
     omega
   have hname:∀W,Below w.heap.size w W->rP ⟨W,0,fun _=>none,fun _ _=>False⟩ nb us':=fun W hB=>by
    refine⟨hln.1,fun j u hj=>⟨?_,fun k=>k⟩⟩
    have:=(hln.2 j u hj).1
    exact(bj.of_below hB).cell this
   have key:=callsIn_wide.1 (Y1 a l.length cap nb (zOf l) (fun x=>qa (wOf x) name) (by have:=hl.1;omega) w hI (fun W hB x=>by
    have f:=aH5 (wOf x) name (by show x.1.1.data.toList.length<=_;have q:=x.2.1;unfold ByteArray.size at q;rw[Array.length_toList];exact q) hn x.2.2.1 x.2.2.2 [] (fun _ _=>False) (fun _=>none) W [wv x,.pointer (some nb)] ⟨fun i j b oi oj h=>by simp at h,fun i b oi h=>by simp at h,fun b off h=>h.elim,fun i oi h=>by simp at h⟩
     (af.2 ⟨by have:=xG (cx (fun _ _=>False) [] (fun _=>none) W) (wOf x);simpa[wOf]using this,af.2 ⟨by
      unfold Rep
      refine⟨nb,us',rfl,?_,?_⟩
      ·exact dv (c:=cx B H σ w) (c':=⟨w,0,fun _=>none,fun b off=>(cx B H σ w).Wr b off⟩) rfl (fun _ _ k=>k) (by simp[aF]) hn' |> fun h=>by
        match us',h with
        | [u'],h=>obtain⟨h5,_⟩:=af.1 h;unfold str Rep at h5;subst h5;exact af.2 ⟨ar _ _,aG.2 rfl⟩
      refine⟨(hname W hB).1,fun j u hj=>⟨((hname W hB).2 j u hj).1,fun k=>?_⟩⟩
      rcases k with k|⟨i,oi,k,_⟩
      ·exact k
      simp at k,aG.2 rfl⟩⟩)
    refine Calls.mono f ?_
    rintro e W' ⟨v,σ',rfl,g1,_,g3⟩
    unfold boo Rep at g1
    subst g1
    exact⟨rfl,g3.os,g3.tape,g3.output,g3.size,fun b hb=>g3.block b hb (fun i oi h=>by simp at h)⟩))
   refine Calls.mono key ?_
   rintro e W' ⟨he,hB⟩
   obtain⟨s',st⟩:=gU s (bj.of_below hB)
   rcases he with ⟨rfl,hno⟩|⟨k,hk,rfl,hy,hno⟩
   ·refine⟨_,σ,rfl,?_,s',st⟩
    have:bL l name=(⟨[],0,0⟩,0,false):=A9 l.length (fun j hj=>by have:=hno j hj;rw[S8 hl hj]at this;exact this)
    rw[this]
    unfold Cu kr Rep
    exact⟨[_,_,_],rfl,af.2 ⟨xG _ _,af.2 ⟨ar _ _,af.2 ⟨ar _ _,aG.2 rfl⟩⟩⟩⟩
   refine⟨_,σ,rfl,?_,s',st⟩
   have:bL l name=(l.getD k default,(k:Int),true):=BI (by rw[<-S8 hl hk];exact hy) l.length hk (fun j h1 h2=>by have:=hno j h1 h2;rw[S8 hl h2]at this;exact this)
   rw[this]
   unfold Cu kr Rep
   refine⟨[_,_,_],rfl,af.2 ⟨?_,af.2 ⟨ar _ _,af.2 ⟨ar _ _,aG.2 rfl⟩⟩⟩⟩
   have:=xG (cx B H σ W') (l.getD k default)
   show Rep _ _ (.agg #[.string (zOf l k).1.1,.int .i64 (zOf l k).1.2.1,.int .i64 (zOf l k).1.2.2])
   rw[Ai hl hk];exact this
def xe(l:List aP)(name:Str)(hl:kw l)(hn:name.length<=9223372036854775807):ab prog 37 [sq cn l,str name] (Cu (bL l name)):=by
 refine zY func37 fun B=>?_
 refine zp1 ?_
 refine bT 3 _ rfl rfl rfl ?_
 refine zd ?_
 refine zC rfl func64 ((Pk l name hl hn) _) ?_
 rfl
section
variable {P : Program}
def UW(P:Program)(f:FuncId)(args:List PV)(res:Nat->PV)(xs:List PV)(e:TypeId):Prop:=∀H,HC P f args H (res H.length) (H++[.cells xs e])
def yg(k:Nat){H1:List Ob}{f:FuncId}{args:List PV}{res:Nat->PV}{xs:List PV}{e:TypeId}(ha:aF args)(hxs:aF xs)(hres:(∃n,∀i,res i=.arw i 0 n)\/∀i,res i=.ptr i 0)
  (hk:H1[k]?=some (.cells xs e)) (h:HC P f args [] (res k) H1):UW P f args res xs e:=by
 intro H B σ w vs s hr
 have s0:=L6 s
 have hr0:au (cx (BoW B σ H) [] σ w) args vs:=dv (c:=cx B H σ w) (c':=cx (BoW B σ H) [] σ w) rfl (fun b off h=>by
  rcases h with h|⟨i,oi,h1,_⟩
  ·exact h
  simp at h1) ha hr
 refine Calls.mono (h (BoW B σ H) σ w vs s0 hr0) ?_
 rintro e' w' ⟨v,σ',rfl,h1,h3,h2⟩
 have g:bj w w':=⟨h2.os,h2.tape,h2.output,h2.size,fun b hb=>h2.block b hb (fun i oi h=>by simp at h)⟩
 obtain⟨b,ws,fr,h4,h5,h6,h7⟩:=h3.holds k _ hk
 have hnew:w.heap.size<=b:=by
  rcases h2.new k _ b hk rfl h4 with h8|⟨j,oj,h8,_⟩
  ·exact h8
  simp at h8
 have wr:∀x off,(cx B (H++[.cells xs e]) (ext σ H.length (some b)) w').Wr x off->(cx (BoW B σ H) H1 σ' w').Wr x off:=by
  rintro x off (h|⟨j,oj,k3,k4,k5⟩)
  ·exact .inl (.inl h)
  rcases fI k3 with ⟨k6,k7⟩|⟨rfl,rfl⟩
  ·rw[bY k6]at k4;exact .inl (.inr ⟨j,oj,k7,k4,k5⟩)
  rw[bx]at k4;cases k4;exact .inr ⟨k,_,hk,h4,trivial⟩
 obtain⟨p,q,hpq,hp⟩:=h7
 obtain⟨s',st⟩:=fv s g (.cells xs e) (some b) (fun b' hb=>by cases hb;exact hnew) ⟨b,ws,fr,by simp only[cx];rw[bx],h5,h6,p,q,hpq,dv (c:=cx (BoW B σ H) H1 σ' w') (c':=cx B (H++[.cells xs e]) (ext σ H.length (some b)) w') rfl wr hxs hp⟩
 refine⟨v,_,rfl,?_,s',st⟩
 rcases hres with ⟨n,hres⟩|hres
 ·rw[hres]at h1 ⊢
  unfold Rep at h1 ⊢
  obtain⟨_,b',cap,k1,k2,k3⟩:=h1
  simp only[cx]at h4 k1
  rw[h4]at k1;cases k1
  exact⟨by simp[cx],b,cap,by simp only[cx];rw[bx],k2,k3⟩
 rw[hres]at h1 ⊢
 unfold Rep at h1 ⊢
 obtain⟨_,b',k1,k2⟩:=h1
 simp only[cx]at h4 k1
 rw[h4]at k1;cases k1
 exact⟨by simp[cx],b,by simp only[cx];rw[bx],k2⟩
def Ak{f:FuncId}{args:List PV}{res:Nat->PV}{xs:List PV}{e:TypeId}(ha:aF args)(hxs:aF xs)(hres:(∃n,∀i,res i=.arw i 0 n)\/∀i,res i=.ptr i 0)
  (h:HC P f args [] (res 0) [.cells xs e]):UW P f args res xs e:=yg 0 ha hxs hres rfl h
variable {B : Nat -> Nat -> Prop} {H : List Ob} {σ : Nat -> Option Nat} {w : World}
def YD(s:Sim B H σ w){i m q:Nat}{xs:List PV}{e:TypeId}(hi:H[i]?=some (.cells xs e))(hq:q<=xs.length){v:Value}(h1:Rep (cx B H σ w) (.arw i 0 m) v):Rep (cx B (H.set i .dead) σ w) (.seq m (xs.take q) .any) v:=by
 obtain⟨s',st⟩:=lY s hi
 unfold Rep at h1
 obtain⟨_,b,cap,hb,hmc,hv⟩:=h1
 obtain⟨b',vs,fr,hb',hg,_,hp⟩:=s.holds i _ hi
 simp only[cx]at hb hb' hg
 rw[hb]at hb'
 cases hb'
 rw[hv]
 unfold Rep
 refine⟨_,cap,vs.take q,rfl,hmc,(fun h=>by cases h),au.mono st.le (hp.take hq),fun b1 hb1=>.inl ?_,trivial⟩
 cases hb1
 refine⟨rfl,fun j' u hu=>⟨?_,?_⟩⟩
 ·rw[List.getElem?_take]at hu
  split at hu
  ·show w.cell? ⟨b,0+j',none⟩=some u
   rw[Nat.zero_add,fa hg];exact hu
  cases hu
 rintro(h2|⟨k,ok,h2,h3,h4⟩)
 ·exact s.sep i b _ hi rfl hb _ h2
 have hlk:ok.live=true:=by cases ok<;>first|rfl|cases h4
 by_cases hki:k=i
 ·subst hki
  rw[List.getElem?_set_self (cM hi)]at h2;cases h2;cases h4
 rw[List.getElem?_set_ne (Ne.symm hki)]at h2
 exact hki (s.inj k i b _ _ h2 hi hlk rfl h3 hb)
def Z3(s:Sim B H σ w){i j m q p:Nat}{xs zs:List PV}{e t:TypeId}(hij:i≠j)(hi:H[i]?=some (.cells xs e))(hj:H[j]?=some (.cells zs t))(hp:zs[p]?=some (.arw i 0 m))(hq:q<=xs.length):
  Sim B ((H.set i .dead).set j (.cells (zs.set p (.seq m (xs.take q) .any)) t)) σ w/\eH B H σ w ((H.set i .dead).set j (.cells (zs.set p (.seq m (xs.take q) .any)) t)) σ w:=by
 obtain⟨s1,st1⟩:=lY s hi
 obtain⟨b,vs,fr,hb,hg,hf,p1,p2,hv,hr⟩:=s.holds j _ hj
 obtain⟨u,hu,h1⟩:=hr.get hp
 have h2:=YD s hi hq h1
 have h3:sd (cx B (H.set i .dead) σ w) (zs.set p (.seq m (xs.take q) .any)) vs:=by
  refine⟨p1,p2,hv,?_⟩
  have:=au.set p (au.mono st1.le hr) h2
  have e:p1.set p u=p1:=by
   apply List.ext_getElem?
   intro k
   rw[List.getElem?_set]
   split
   ·rename_i hk;subst hk;split
    ·exact hu.symm
    rename_i hl;rw[List.getElem?_eq_none (by omega)]
   rfl
  rwa [e]at this
 have hj1:(H.set i .dead)[j]?=some (.cells zs t):=by rw[List.getElem?_set_ne hij];exact hj
 obtain⟨s2,st2⟩:=lV s1 hj1 hb hg hf rfl h3
 rw[setRow_self w b vs.toArray t fr hg]at s2 st2
 exact⟨s2,st1.trans st2⟩
def aT5{c:Cx}{zs ys:List PV}{vs:List Value}(h:r8 zs ys)(k:sd c zs vs):sd c ys vs:=by
 obtain⟨p,q,h1,h2⟩:=k
 exact⟨p,q,h1,pr h h2⟩
def obW(s:Sim B H σ w){j:Nat}{zs ys:List PV}{t:TypeId}(hj:H[j]?=some (.cells zs t))(h:r8 zs ys):Sim B (H.set j (.cells ys t)) σ w/\eH B H σ w (H.set j (.cells ys t)) σ w:=by
 obtain⟨b,vs,fr,hb,hg,hf,hp⟩:=s.holds j _ hj
 have:=lV s hj hb hg hf rfl (aT5 h hp)
 rwa [setRow_self w b vs.toArray t fr hg]at this
def uW[DL]{n:Nat}{T:Nat->PV}{all:Array Oper}{l:List Oper}{K:(Nat->PV)->List Ob->Prop}(j:Nat){zs ys:List PV}{t:TypeId}{H':List Ob}(hj:H[j]?=some (.cells zs t)){us:List PV}(hz:Qd zs=some us)(e:us=ys)(hH:nfH (H.set j (.cells ys t))=some H')(h1:WO P B n all l T H' K):WO P B n all l T H K:=by
 rw[sK hH]at h1
 subst e
 intro hall σ w a g
 obtain⟨s',st⟩:=obW g.sim hj (vC hz)
 exact gi (fun _ _ _ h=>ia st (fun _ _ _ h=>h) h) _ _ _ (h1 hall σ w a ⟨s',fun i=>(g.rep i).mono st.le,g.size,mn st g.defers⟩)
def FzQ(Q:Exit->(Nat->PV)->List Ob->Prop):Exit->(Nat->PV)->List Ob->Prop:=fun e T H=>∃(i j p m q:Nat) (xs zs:List PV) (ee t:TypeId),
 i≠j/\H[i]?=some (.cells xs ee)/\H[j]?=some (.cells zs t)/\zs[p]?=some (.arw i 0 m)/\q<=xs.length/\Q e T ((H.set i .dead).set j (.cells (zs.set p (.seq m (xs.take q) .any)) t))
def aJ5[D:DL]{n:Nat}{T:Nat->PV}{c:Code}{Q:Exit->(Nat->PV)->List Ob->Prop}(h:W P B n c T H (FzQ Q)):W P B n c T H Q:=by
 intro σ w a g
 refine wp_mono (h σ w a g) ?_
 rintro e a' w' ⟨T',H',σ',⟨i,j,p,m,q,xs,zs,ee,t,h1,h2,h3,h4,h5,h6⟩,g',st⟩
 letI D2:DL:=D.at_ e
 obtain⟨s',st'⟩:=Z3 g'.sim h1 h2 h3 h4 h5
 exact⟨T',_,σ',h6,⟨s',fun i=>(g'.rep i).mono st'.le,g'.size,mn st' g'.defers⟩,st.trans st'⟩
end
open Go.RowKit
def Bo(l:List aP)(hl:l.length<=1000000):ab prog 94 [sq cn l] (sqc cn l):=by
 refine bw tG (rs:=[.tmp 2]) func94 rfl rfl rfl (by(simp;done)) (by exact lG (fun x=>by simp) _) (fun B=>?_)
 refine zd ?_
 refine z2 ?_ (q:=(by(simp_all;done)))
 refine Wa 8 rfl (cK cn 3 (fun _=>rfl) (by omega)) ?_
 refine zs1 ?_
 refine Wq ?_
 exact oq rfl (by simp[sqc];rfl)
def BF(l:List og)(hl:l.length<=1000000):ab prog 215 [sq mP l] (sqc mP l):=by
 refine bw tG (rs:=[.tmp 2]) func215 rfl rfl rfl (by(simp;done)) (by exact lG (fun x=>by simp) _) (fun B=>?_)
 refine zd ?_
 refine z2 ?_ (q:=(by(simp_all;done)))
 refine Wa 8 rfl (cK mP 4 (fun _=>rfl) (by omega)) ?_
 refine zs1 ?_
 refine Wq ?_
 exact oq rfl (by simp[sqc];rfl)
def R4(l:List aP)(h0:0<l.length)(hl:l.length<=1000000):HC prog 261 [sq cn l] [] (.arw 0 0 l.length) [.cells (l.flatMap cn) 61]:=by
 refine mQ tG (rs:=[.tmp 2]) func261 rfl rfl rfl (fun B=>?_)
 refine zu1 ?_
 refine Ws<|zp1 ?_
 refine wE (lO tG rfl) rfl rfl rfl rfl rfl (fun bn1 hn1=>?_)
 refine zd ?_
 refine zI ?_ ?_<;>intro hi1
 ·exact absurd (hn1 hi1).1 (by omega)
 refine Wd rfl rfl (o0 (lO tG rfl) rfl (lO tG rfl) (lO tG rfl) rfl rfl ⟨_,rfl⟩ ⟨rfl,rfl,an _ 3 (fun _=>rfl) _,bD _ (fun _=>rfl) _⟩ rfl (by dsimp only;omega) (by omega) (by omega)) ?_
 refine Wa 7 rfl (show PV.arw 0 0 (0+l.length)=.arw 0 0 l.length by rw[Nat.zero_add]) ?_
 refine zs1 ?_
 refine Wq<|AV rfl ?_ ?_
 ·rfl
 rfl
def NW(l:List aP)(h0:0<l.length)(hl:l.length<=1000000):UW prog 261 [sq cn l] (fun i=>.arw i 0 l.length) (l.flatMap cn) 61 :=
 Ak (by simp) (bs (fun x=>by simp) _) (.inl ⟨_,fun _=>rfl⟩) (R4 l h0 hl)
def QH{s:Str}{k:Nat}(hk:k<s.length)(h:¬32<(s.getD k 0).toNat):s.all (fun c=>decide (32<c.toNat))=false:=by
 rw[<-Bool.not_eq_true,List.all_eq_true]
 intro q
 have:=q (s.getD k 0) (by rw[List.getD_eq_getElem?_getD,List.getElem?_eq_getElem hk];exact List.getElem_mem hk)
 exact h (oT this)
def Oz{s:Str}(h:∀k,k<s.length->32<(s.getD k 0).toNat):s.all (fun c=>decide (32<c.toNat))=true:=by
 rw[List.all_eq_true]
 intro x hx
 obtain⟨k,hk,rfl⟩:=List.getElem_of_mem hx
 have:=h k hk
 rw[List.getD_eq_getElem?_getD,List.getElem?_eq_getElem hk]at this
 exact decide_eq_true this
def Kd(s:Str)(hs:s.length<=1000000):ab prog 357 [str s] (i64 (eS s)):=by
 refine zY func357 fun B=>?_
 refine zu1 ?_
 refine Ws<|Wl<|zp2 ?_
 refine zQ 7 ?_
 refine Wi rfl ?_ ?_<;>intro hi1
 ·have q1:s.length=0:=by rw[oT hi1];rfl
  refine zd ?_
  (rw[eS,if_pos q1];rfl)
 have q1:¬s.length=0:=fun h=>oF hi1 (List.eq_nil_of_length_eq_zero h)
 refine zp2 ?_
 refine zA 10 rfl (gC _) ?_
 refine Wi rfl ?_ ?_<;>intro hi2
 ·have q2:31<s.length:=by have:=oT hi2;omega
  refine zd ?_
  (rw[eS,if_neg q1,if_pos q2];rfl)
 have q2:¬31<s.length:=by have:=oF hi2;omega
 refine Wj<|Ws<|zp2 ?_
 refine Wa 13 rfl (wO _) ?_
 refine zs2 ?_
 refine Wl ?_
 show W _ _ _ _ _ _ _
 refine dJ (fun(k:Nat)=>[(13,sq aH s),(14,i64 s.length),(15,i64 k)]) (fun(k:Nat)=>[]) (fun(k:Nat)=>[]) (fun(k:Nat)=>k<=s.length/\∀j,j<k->32<(s.getD j 0).toNat) (fun(k:Nat)=>s.length-k) (0) (by exact⟨Nat.zero_le _,fun j hj=>absurd hj (Nat.not_lt_zero _)⟩) [] ?_ ?_
 ·exact dK
 intro k hk
 refine zd ?_
 refine Wi rfl ?_ ?_<;>intro hi3
 ·have hlt:k<s.length:=by have:=oT hi3;omega
  refine zd ?_
  refine zJ aH 1 0 ?_
  refine Wi rfl ?_ ?_<;>intro hi4
  ·have q4:¬32<(s.getD k 0).toNat:=by have:=oT hi4;omega
   refine zd ?_
   (rw[eS,if_neg q1,if_neg q2,QH hlt q4];rfl)
  have q4:32<(s.getD k 0).toNat:=by have:=oF hi4;omega
  refine zd ?_
  exact⟨k+1,[],(by exact⟨hlt,fun j hj=>by rcases Nat.lt_succ_iff_lt_or_eq.1 hj with h|h;exact hk.2 j h;rw[h];exact q4⟩),(by omega),dK⟩
 have hge:s.length<=k:=by have:=oF hi3;omega
 refine aW ?_
 refine zd ?_
 (rw[eS,if_neg q1,if_neg q2,Oz (fun j hj=>hk.2 j (by omega))];rfl)
def u5(n:Int)(h0:0<=n)(h7:n<=7):ab prog 260 [i64 n] (boo true):=by
 refine zH func260 fun B=>?_
 exact congrArg boo (by rcases qP h0 h7 with rfl|rfl|rfl|rfl|rfl|rfl|rfl|rfl<;>decide)
def cD(l:List aP)(name:Str)(xt flags limit:Int):List aP×Int :=
 if eS name≠0 then(l,eS name)else if (if 1024<limit then 1024 else limit)<=(l.length:Int)then(l,-8)else(l++[⟨name,xt,flags⟩],0)
def QM(l:List aP)(name:Str)(xt flags limit:Int)(hl:l.length<=100000)(hn:name.length<=1000000)(h0:0<=flags)(h7:flags<=7):ab prog 270 [sq cn l,str name,i64 xt,i64 flags,i64 limit] (iy (sq cn (cD l name xt flags limit).1) (i64 (cD l name xt flags limit).2)):=by
 refine zH func270 fun B=>?_
 refine zC rfl func357 ((Kd name hn) _) ?_
 refine Wi rfl ?_ ?_<;>intro hi1
 ·have q1:eS name≠0:=by simpa using hi1
  refine zd ?_
  (rw[cD,if_pos q1];rfl)
 have q1:¬eS name≠0:=by simpa using hi1
 refine zd ?_
 refine zC rfl func260 ((u5 flags h0 h7) _) ?_
 refine Wf rfl (by rfl) ?_
 refine zd ?_
 refine Wi rfl ?_ ?_<;>intro hi3
 ·have q3:(if 1024<limit then 1024 else limit)<=(l.length:Int):=oT hi3
  refine zd ?_
  (rw[cD,if_neg q1,if_pos q3];rfl)
 have q3:¬(if 1024<limit then 1024 else limit)<=(l.length:Int):=oF hi3
 refine zd ?_
 refine zc rfl func94 ((Bo l (by omega)) _) ?_
 refine zy5 ?_
 refine Wa 37 rfl ((show _=PV.seq (List.length [(⟨name,xt,flags⟩:aP)]) (List.flatMap cn [(⟨name,xt,flags⟩:aP)]) .clip from rfl)) ?_
 refine Wd rfl rfl (cd (lO tG rfl) rfl (lO tG rfl) (lO tG rfl) rfl rfl (by exact⟨_,rfl⟩) (by exact⟨rfl,rfl,an _ 3 (fun _=>rfl) _,bD _ (fun _=>rfl) _⟩) (by exact an _ 3 (fun _=>rfl) _) (by((simp_all;omega))) (by((simp_all;omega)))) ?_
 refine zA 38 rfl (cw cn) ?_
 (rw[cD,if_neg q1,if_neg q3];rfl)
def i9(l:List aP)(n:Int):List aP×Int:=if n<0\/(l.length:Int)<n then(l,-24)else(l.take n.toNat,0)
def Js(l:List aP)(n:Int)(hl:l.length<=1000000):ab prog 53 [sq cn l,i64 n] (iy (sq cn (i9 l n).1) (i64 (i9 l n).2)):=by
 refine zY func53 fun B=>?_
 refine zu2 ?_
 refine Ws<|zp3 ?_
 refine Wb 8 rfl ?_ ?_<;>intro hg1
 ·have q:n<0\/(l.length:Int)<n:=.inl (oT hg1)
  refine zd ?_
  refine Wt rfl rfl ?_
  refine zd ?_
  (rw[i9,if_pos q];rfl)
 refine zd ?_
 refine Wi rfl ?_ ?_<;>intro hi1
 ·have q:n<0\/(l.length:Int)<n:=by(try simp only[dnL]at *);omega
  refine zd ?_
  (rw[i9,if_pos q];rfl)
 have q:¬(n<0\/(l.length:Int)<n):=by(try simp only[dnL]at *);omega
 have hc:=Bo (l.take n.toNat) (by simp;omega)
 have ht:sq cn ((l.take n.toNat).drop 0)=sq cn (l.take n.toNat):=by rw[List.drop_zero]
 refine zd ?_
 refine z2 ?_ (q:=(by(simp_all;done)))
 refine Wa 17 rfl (cK cn 3 (fun _=>rfl) (by omega)) ?_
 refine Wa 17 rfl (ht) ?_
 refine zC rfl func94 ((hc) _) ?_
 (rw[i9,if_neg q];rfl)
def DP:∀{l:List aP} {i:Nat},i<l.length->∀n:Int,cy (l.flatMap cn) (i*3+2) [i64 n]=(l.set i {l.getD i default with flags:=n}).flatMap cn
 | x::l,0,_,n=>by simp[cy,cn,List.flatMap_cons]
 | x::l,i+1,h,n=>by
  have ih:=DP (l:=l) (i:=i) (by simpa using h) n
  have e:∀r:List PV,cy (cn x++r) ((i+1)*3+2) [i64 n]=cn x++cy r (i*3+2) [i64 n]:=by
   intro r
   unfold cy
   have h1:(cn x).length=3:=rfl
   rw[List.take_append,List.drop_append,h1,List.take_of_length_le (by omega),List.drop_of_length_le (by rw[h1];simp),show(i+1)*3+2-3=i*3+2 by omega,show(i+1)*3+2+[i64 n].length-3=i*3+2+[i64 n].length by omega]
   simp
  rw[List.flatMap_cons,e,ih]
  rfl
 | [],i,h,n=>by simp at h
def cH(l:List aP)(a f:Int):List aP×Int:=if a<0\/(l.length:Int)<=a then(l,-24)else(l.set a.toNat {l.getD a.toNat default with flags:=f},0)
def DZ(l:List aP)(a f:Int)(hl:l.length<=1000000)(h0:0<=f)(h7:f<=7):ab prog 214 [sq cn l,i64 a,i64 f] (iy (sq cn (cH l a f).1) (i64 (cH l a f).2)):=by
 refine zY func214 fun B=>?_
 refine zu2 ?_
 refine Ws<|zp3 ?_
 refine Wb 10 rfl ?_ ?_<;>intro hg1
 ·have q:a<0\/(l.length:Int)<=a:=.inl (oT hg1)
  refine zd ?_
  refine Wt rfl rfl ?_
  refine zd ?_
  (rw[cH,if_pos q];rfl)
 refine zy5 ?_
 refine z1 ?_
 refine Wb 16 rfl ?_ ?_<;>intro hg2
 ·have q:a<0\/(l.length:Int)<=a:=by(try simp only[dnL]at *);omega
  refine zd ?_
  refine Wt rfl rfl ?_
  refine zd ?_
  (rw[cH,if_pos q];rfl)
 have q:¬(a<0\/(l.length:Int)<=a):=by(try simp only[dnL]at *);omega
 have hp:0<l.length:=by omega
 obtain⟨k,hk⟩:∃k:Nat,a=(k:Int):=⟨a.toNat,by omega⟩
 subst hk
 refine z1 ?_
 refine zC rfl func260 ((u5 f h0 h7) _) ?_
 refine Wf rfl (by rfl) ?_
 refine zd ?_
 refine zc rfl func261 (NW l hp hl _) ?_
 refine zA 23 rfl ((show PV.arw (List.length ([]:List Ob)) 0 l.length=.arw 0 0 l.length from rfl)) ?_
 refine zP ?_ (q:=(by omega))
 refine Wd rfl rfl (bP (lO tG rfl) rfl rfl rfl rfl rfl rfl (by rw[Nat.ble_eq,an cn 3 (fun _=>rfl)];dsimp only;rw[Int.toNat_natCast];simp;omega)) ?_
 refine jQ (H':=[.cells ((l.set k {l.getD k default with flags:=f}).flatMap cn) 61]) (by rw[<-DP (by omega)];dsimp only;rw[Int.toNat_natCast,Nat.zero_add];rfl) ?_
 refine Wn<|zp1 ?_
 refine p8 29 0 l.length (l.length*3) rfl rfl (by rw[an cn 3 (fun _=>rfl),List.length_set];exact Nat.le_refl _) ?_
 refine zd ?_
 (rw[cH,if_neg q,List.take_of_length_le (by rw[an cn 3 (fun _=>rfl),List.length_set];exact Nat.le_refl _)];show PV.tup _=PV.tup [PV.seq _ _ _,_];rw[List.length_set];rfl)
def dF(s:Str)(a:Int):Nat:=if a<0\/(s.length:Int)<a then s.length else a.toNat
def F6(s:Str)(a:Int):dF s a<=s.length:=by unfold dF;split<;>omega
def I2(s:Str)(a:Int)(hs:s.length<=9223372036854775807):ab prog 63 [str s,i64 a] (i64 (dF s a)):=by
 refine zY func63 fun B=>?_
 refine zu1 ?_
 refine Ws<|zp3 ?_
 refine Wb 7 rfl ?_ ?_<;>intro hg1
 ·have q:a<0\/(s.length:Int)<a:=.inl (oT hg1)
  refine zd ?_
  refine Wt rfl rfl ?_
  refine zp2 ?_
  refine zA 14 rfl (gC _) ?_
  (unfold dF;rw[if_pos q];rfl)
 refine zy3 ?_
 refine zA 10 rfl (gC _) ?_
 refine Wi rfl ?_ ?_<;>intro hi1
 ·have q:a<0\/(s.length:Int)<a:=by(try simp only[dnL]at *);omega
  refine zp2 ?_
  refine zA 14 rfl (gC _) ?_
  (unfold dF;rw[if_pos q];rfl)
 have q:¬(a<0\/(s.length:Int)<a):=by(try simp only[dnL]at *);omega
 refine zd ?_
 (unfold dF;rw[if_neg q];exact congrArg i64 (by omega))
def yo(s:Str):Nat->Nat->Nat
 | 0,k=>k
 | m+1,k=>if k<s.length/\((s.getD k 0).toNat:Int)<=32 then yo s m (k+1)else k
def JD(s:Str):Nat->Nat->Nat
 | 0,k=>k
 | m+1,k=>if k<s.length/\32<((s.getD k 0).toNat:Int)then JD s m (k+1)else k
def lN(s:Str)(k:Nat):Nat:=yo s (s.length-k) k
def nZ(s:Str)(k:Nat):Nat:=JD s (s.length-k) k
def Sj{s:Str}{k:Nat}(h:k<s.length)(q:((s.getD k 0).toNat:Int)<=32):lN s k=lN s (k+1):=by
 unfold lN
 rw[show s.length-k=(s.length-(k+1))+1 by omega,yo,if_pos ⟨h,q⟩]
def E4{s:Str}{k:Nat}(q:¬(k<s.length/\((s.getD k 0).toNat:Int)<=32)):lN s k=k:=by
 unfold lN
 cases s.length-k with
 | zero=>rfl
 | succ m=>rw[yo,if_neg q]
def Vl{s:Str}{k:Nat}(h:k<s.length)(q:32<((s.getD k 0).toNat:Int)):nZ s k=nZ s (k+1):=by
 unfold nZ
 rw[show s.length-k=(s.length-(k+1))+1 by omega,JD,if_pos ⟨h,q⟩]
def Bm{s:Str}{k:Nat}(q:¬(k<s.length/\32<((s.getD k 0).toNat:Int))):nZ s k=k:=by
 unfold nZ
 cases s.length-k with
 | zero=>rfl
 | succ m=>rw[JD,if_neg q]
def A7(s:Str):∀(m k:Nat),k<=s.length->k<=yo s m k/\yo s m k<=s.length
 | 0,k,h=>⟨Nat.le_refl _,h⟩
 | m+1,k,h=>by
  rw[yo]
  split
  ·rename_i q;have:=A7 s m (k+1) (by omega);omega
  omega
def Ek(s:Str):∀(m k:Nat),k<=s.length->k<=JD s m k/\JD s m k<=s.length
 | 0,k,h=>⟨Nat.le_refl _,h⟩
 | m+1,k,h=>by
  rw[JD]
  split
  ·rename_i q;have:=Ek s m (k+1) (by omega);omega
  omega
def bt(s:Str)(a:Int):Str×Int :=
 let b:=lN s (dF s a)
 let e:=nZ s b
 ((s.take e).drop b,min ((e:Int)+1) s.length)
def H9(s:Str)(a:Int)(hs:s.length<=1000000):ab prog 36 [str s,i64 a] (iy (str (bt s a).1) (i64 (bt s a).2)):=by
 have hf:=F6 s a
 obtain⟨b,hb⟩:∃b,lN s (dF s a)=b:=⟨_,rfl⟩
 obtain⟨e,he⟩:∃e,nZ s b=e:=⟨_,rfl⟩
 have hb1:=A7 s (s.length-dF s a) (dF s a) hf
 have hb2:yo s (s.length-dF s a) (dF s a)=b:=hb
 rw[hb2]at hb1
 have he1:=Ek s (s.length-b) b hb1.2
 have he2:JD s (s.length-b) b=e:=he
 rw[he2]at he1
 have hE:bt s a=((s.take e).drop b,min ((e:Int)+1) s.length):=by unfold bt;dsimp only;rw[hb,he]
 have hw:(if (s.length:Int)<IntKind.i64.wrap ((e:Int)+1)then(s.length:Int)else IntKind.i64.wrap ((e:Int)+1))=min ((e:Int)+1) s.length:=by
  rw[gS (by omega) (by omega)];split<;>omega
 rw[hE]
 refine zH func36 fun B=>?_
 refine zc rfl func63 ((I2 s a (by omega)) _) ?_
 refine zs1 ?_
 refine Ws<|Wl ?_
 show W _ _ _ _ _ _ _
 refine dJ (fun(k:Nat)=>[(0,str s),(1,i64 k)]) (fun(k:Nat)=>[]) (fun(k:Nat)=>[]) (fun(k:Nat)=>k<=s.length/\lN s k=b) (fun(k:Nat)=>s.length-k) (dF s a) (by exact⟨hf,hb⟩) [] ?_ ?_
 ·exact dK
 intro k hk
 refine Ws<|zp3 ?_
 refine Wa 12 rfl (gC _) ?_
 refine zy2 ?_
 refine Wb 14 rfl ?_ ?_<;>intro hg1
 ·have hlt:k<s.length:=by have:=oT hg1;omega
  refine zd ?_
  refine z2 ?_ (q:=(by simp only[dc];omega))
  refine zA 17 rfl (s4 _ _) ?_
  refine Wi rfl ?_ ?_<;>intro hi1
  ·have q:((s.getD k 0).toNat:Int)<=32:=oT hi1
   refine zd ?_
   exact⟨k+1,[],(by exact⟨hlt,(Sj hlt q).symm.trans hk.2⟩),(by omega),dK⟩
  have q:¬(k<s.length/\((s.getD k 0).toNat:Int)<=32):=fun h=>oF hi1 h.2
  obtain rfl:b=k:=((E4 q).symm.trans hk.2).symm
  refine aW ?_
  refine zu2 ?_
  refine Ws<|Wl ?_
  show W _ _ _ _ _ _ _
  refine dJ (fun(j:Nat)=>[(0,str s),(1,i64 b),(6,i64 j)]) (fun(j:Nat)=>[]) (fun(j:Nat)=>[]) (fun(j:Nat)=>j<=s.length/\nZ s j=e) (fun(j:Nat)=>s.length-j) (b) (by exact⟨hb1.2,he⟩) [] ?_ ?_
  ·exact dK
  intro j hj
  refine Ws<|zp3 ?_
  refine Wa 25 rfl (gC _) ?_
  refine zy2 ?_
  refine Wb 27 rfl ?_ ?_<;>intro hg2
  ·have hlt:j<s.length:=by have:=oT hg2;omega
   refine zd ?_
   refine z2 ?_ (q:=(by simp only[dc];omega))
   refine zA 30 rfl (s4 _ _) ?_
   refine Wi rfl ?_ ?_<;>intro hi2
   ·have q:32<((s.getD j 0).toNat:Int):=oT hi2
    refine zd ?_
    exact⟨j+1,[],(by exact⟨hlt,(Vl hlt q).symm.trans hj.2⟩),(by omega),dK⟩
   have q:¬(j<s.length/\32<((s.getD j 0).toNat:Int)):=fun h=>oF hi2 h.2
   obtain rfl:e=j:=((Bm q).symm.trans hj.2).symm
   refine aW ?_
   refine zd ?_
   refine z2 ?_ (q:=(by simp only[dc];omega))
   refine Wa 38 rfl (jk _ _ _) ?_
   refine zy4 ?_
   refine zA 42 rfl (gC _) ?_
   rw[hw,Int.toNat_natCast,Int.toNat_natCast];rfl
  have hge:¬(j<s.length/\32<((s.getD j 0).toNat:Int)):=fun h=>by have:=oF hg2;omega
  obtain rfl:e=j:=((Bm hge).symm.trans hj.2).symm
  refine zd ?_
  refine Wf rfl rfl ?_
  refine aW ?_
  refine zd ?_
  refine z2 ?_ (q:=(by simp only[dc];omega))
  refine Wa 38 rfl (jk _ _ _) ?_
  refine zy4 ?_
  refine zA 42 rfl (gC _) ?_
  rw[hw,Int.toNat_natCast,Int.toNat_natCast];rfl
 have hge:¬(k<s.length/\((s.getD k 0).toNat:Int)<=32):=fun h=>by have:=oF hg1;omega
 obtain rfl:b=k:=((E4 hge).symm.trans hk.2).symm
 refine zd ?_
 refine Wf rfl rfl ?_
 refine aW ?_
 refine zu2 ?_
 refine Ws<|Wl ?_
 show W _ _ _ _ _ _ _
 refine dJ (fun(j:Nat)=>[(0,str s),(1,i64 b),(6,i64 j)]) (fun(j:Nat)=>[]) (fun(j:Nat)=>[]) (fun(j:Nat)=>j<=s.length/\nZ s j=e) (fun(j:Nat)=>s.length-j) (b) (by exact⟨hb1.2,he⟩) [] ?_ ?_
 ·exact dK
 intro j hj
 refine Ws<|zp3 ?_
 refine Wa 25 rfl (gC _) ?_
 refine zy2 ?_
 refine Wb 27 rfl ?_ ?_<;>intro hg2
 ·have hlt:j<s.length:=by have:=oT hg2;omega
  refine zd ?_
  refine z2 ?_ (q:=(by simp only[dc];omega))
  refine zA 30 rfl (s4 _ _) ?_
  refine Wi rfl ?_ ?_<;>intro hi2
  ·have q:32<((s.getD j 0).toNat:Int):=oT hi2
   refine zd ?_
   exact⟨j+1,[],(by exact⟨hlt,(Vl hlt q).symm.trans hj.2⟩),(by omega),dK⟩
  have q:¬(j<s.length/\32<((s.getD j 0).toNat:Int)):=fun h=>oF hi2 h.2
  obtain rfl:e=j:=((Bm q).symm.trans hj.2).symm
  refine aW ?_
  refine zd ?_
  refine z2 ?_ (q:=(by simp only[dc];omega))
  refine Wa 38 rfl (jk _ _ _) ?_
  refine zy4 ?_
  refine zA 42 rfl (gC _) ?_
  rw[hw,Int.toNat_natCast,Int.toNat_natCast];rfl
 have hge:¬(j<s.length/\32<((s.getD j 0).toNat:Int)):=fun h=>by have:=oF hg2;omega
 obtain rfl:e=j:=((Bm hge).symm.trans hj.2).symm
 refine zd ?_
 refine Wf rfl rfl ?_
 refine aW ?_
 refine zd ?_
 refine z2 ?_ (q:=(by simp only[dc];omega))
 refine Wa 38 rfl (jk _ _ _) ?_
 refine zy4 ?_
 refine zA 42 rfl (gC _) ?_
 rw[hw,Int.toNat_natCast,Int.toNat_natCast];rfl
def BV(s:Str)(c:UInt8):ab prog 262 [str s,.val (.int .u8 (c.toNat:Int))] (i64 (Lib.indexByte s c)) :=
 dY (args:=[.string ⟨s.toArray⟩,.int .u8 (c.toNat:Int)]) (v:=.int .i64 (Lib.indexByte s c)) (fun c=>ar _ _)
  fun W=>Calls.mono (Tryz.strings_IndexByte ⟨s.toArray⟩ (c.toNat:Int) W) fun _ _ q=>⟨by rw[q.1];simp,by rw[q.2];exact bj.refl _⟩
def BG:∀(l:List UInt8) (c:UInt8),Lib.indexByte l c<l.length\/(Lib.indexByte l c = -1)
 | [],c=>.inr rfl
 | b::l,c=>by
  unfold Lib.indexByte
  have h:=BG l c
  split
  ·left;rw[List.length_cons];omega
  split
  ·exact .inr rfl
  rename_i q;left;rw[List.length_cons]
  rcases h with h|h
  ·omega
  rw[h]at q;exact absurd rfl q
def lM(s:Str)(a:Int)(c:UInt8):Str×Int×Bool :=
 let b:=dF s a
 let n:=Lib.indexByte (s.drop b) c
 if n<0 then(s.drop b,s.length,false)else((s.take (b+n.toNat)).drop b,b+n+1,true)
def av1{s:Str}{a:Int}{c:UInt8}(h:Lib.indexByte (s.drop (dF s a)) c<0):lM s a c=(s.drop (dF s a),(s.length:Int),false):=by unfold lM;dsimp only;rw[if_pos h]
def at6{s:Str}{a:Int}{c:UInt8}(h:¬Lib.indexByte (s.drop (dF s a)) c<0):lM s a c=((s.take (dF s a+(Lib.indexByte (s.drop (dF s a)) c).toNat)).drop (dF s a),(dF s a:Int)+Lib.indexByte (s.drop (dF s a)) c+1,true):=by unfold lM;dsimp only;rw[if_neg h]
def Tb(s:Str)(a:Int)(c:UInt8)(hs:s.length<=1000000):ab prog 219 [str s,i64 a,.val (.int .u8 (c.toNat:Int))] (.tup [str (lM s a c).1,i64 (lM s a c).2.1,boo (lM s a c).2.2]):=by
 have hf:=F6 s a
 have hi:=BG (s.drop (dF s a)) c
 have hg:=Lib.indexByte_ge (s.drop (dF s a)) c
 rw[List.length_drop]at hi
 obtain⟨b,hb⟩:∃b,dF s a=b:=⟨_,rfl⟩
 obtain⟨n,hn⟩:∃n,Lib.indexByte (s.drop b) c=n:=⟨_,rfl⟩
 have un:=av1 (s:=s) (a:=a) (c:=c)
 have uy:=at6 (s:=s) (a:=a) (c:=c)
 have pf:=I2 s a (by omega)
 have pi:=BV (s.drop b) c
 have ed:((s.take s.length).drop (((b:Nat):Int)).toNat)=s.drop b:=by rw[List.take_length,Int.toNat_natCast]
 rw[hb]at hi hg hf un uy pf
 rw[hn]at hi hg un uy pi
 refine zH func219 fun B=>?_
 refine zC rfl func63 ((pf) _) ?_
 refine z2 ?_ (q:=(by simp only[dc];((simp_all;done))))
 refine Wa 15 rfl (jk _ _ _) ?_
 refine zA 15 rfl (congrArg str ed) ?_
 refine zC rfl func262 ((pi) _) ?_
 refine Wi rfl ?_ ?_<;>intro hi1
 ·have q:n<0:=oT hi1
  refine zd ?_
  refine z2 ?_ (q:=(by simp only[dc];((simp_all;done))))
  refine Wa 22 rfl (jk _ _ _) ?_
  refine Wa 22 rfl (congrArg str ed) ?_
  refine zy2 ?_
  refine zA 24 rfl (gC _) ?_
  (rw[un q];rfl)
 have q:¬n<0:=oF hi1
 have w1:IntKind.i64.wrap ((b:Int)+n)=((b+n.toNat:Nat):Int):=by rw[gS (by omega) (by omega)];omega
 have w2:IntKind.i64.wrap (IntKind.i64.wrap ((b:Int)+n)+1)=(b:Int)+n+1:=by rw[gS (n:=(b:Int)+n) (by omega) (by omega),gS (by omega) (by omega)]
 refine Wj<|zp5 ?_
 refine Wa 29 rfl (j_ w1) ?_
 refine z2 ?_ (q:=(by simp only[dc];omega))
 refine Wa 30 rfl (jk _ _ _) ?_
 refine zy4 ?_
 refine zA 34 rfl (j_ w2) ?_
 (rw[uy q];rfl)
def Nw{k:IntKind}{a b:Int}(h:a=b):Ending.returned (.int k a)=.returned (.int k b):=by rw[h]
def aJ0{a b:Bool}(h:a=b):Ending.returned (.bool a)=.returned (.bool b):=by rw[h]
def Pz:∀k:Nat,(h:k<36)->(((ByteArray.mk #[48,49,50,51,52,53,54,55,56,57,65,66,67,68,69,70,71,72,73,74,75,76,77,78,79,80,81,82,83,84,85,86,87,88,89,90])[k]'(by exact h)).toNat:Int)=v8 k:=by decide
def xv(n:Int)(w:World):Calls prog 379 #[.int .i64 n] w fun e w'=>e=.returned (.int .u8 (v8 n))/\w=w':=by
 by_cases h0:n<0
 ·have d:decide (n<0)=true:=by simp[h0]
  go_enter func379,ntmps379
  go_wp2
  go_ret
  exact⟨Nw (by unfold v8;rw[if_neg (by omega),if_neg (by omega)]),rfl⟩
 by_cases h1:36<=n
 ·have d:decide (n<0)=false:=by simp;omega
  have d1:decide (36<=n)=true:=by simp[h1]
  go_enter func379,ntmps379
  go_wp2
  go_ret
  exact⟨Nw (by unfold v8;rw[if_neg (by omega),if_neg (by omega)]),rfl⟩
 have d:decide (n<0)=false:=by simp;omega
 have d1:decide (36<=n)=false:=by simp;omega
 obtain⟨k,rfl⟩:=Int.eq_ofNat_of_zero_le (by omega:0<=n)
 go_enter func379,ntmps379
 go_wp2
 go_ret
 exact⟨Nw (Pz k (by omega)),rfl⟩
def F0(b:Int)(w:World):Calls prog 77 #[.int .i64 b] w fun e w'=>e=.returned (.bool (isB b))/\w=w':=by
 go_enter func77,ntmps77
 go_wp2
 all_goals go_ret
 all_goals exact⟨aJ0 (by unfold isB;simp<;>omega),rfl⟩
def DT(c:Int)(w:World)(h0 : -2147483648<=c)(h1:c<=2147483647):Calls prog 78 #[.int .i32 c] w fun e w'=>e=.returned (.int .i64 (wd c))/\w=w':=by
 go_enter func78,ntmps78
 go_wp2
 all_goals go_ret
 all_goals exact⟨Nw (by clear h0 h1;unfold wd;(repeat' split)<;>omega),rfl⟩
def jH(s:ByteArray):s.data.toList.length=s.size:=by simp
def Kv(s:ByteArray)(h:s.size=3)(h0:0<s.size)(h1:1<s.size)(h2:2<s.size):s.data.toList=[s[0],s[1],s[2]]:=by
 apply List.ext_getElem
 ·simp;exact h
 intro i h1 h2
 simp at h2
 match i with
 | 0=>rfl
 | 1=>rfl
 | 2=>rfl
def JM(l:List UInt8)(h:l.length≠3):p9 l=none:=by
 unfold p9
 split
 ·simp at h
 rfl
def Mg(c:UInt8)(n:Nat)(h:n<256):c=UInt8.ofNat n↔(c.toNat:Int)=n:=by
 constructor
 ·rintro rfl;rw[UInt8.toNat_ofNat'];omega
 intro e;apply UInt8.toNat.inj;rw[UInt8.toNat_ofNat'];omega
def Av(a b c:UInt8):p9 [a,b,c]=if (a.toNat:Int)=39/\(c.toNat:Int)=39/\33<=(b.toNat:Int)/\(b.toNat:Int)<=126 then some (b.toNat:Int)else none:=by
 have ha:=Mg a 39 (by omega)
 have hc:=Mg c 39 (by omega)
 simp only[p9]
 rw[show(UInt8.ofNat 39)=39 from rfl]at ha hc
 simp only[ha,hc]
 by_cases h:(a.toNat:Int)=39/\(c.toNat:Int)=39/\33<=(b.toNat:Int)/\(b.toNat:Int)<=126
 ·rw[if_pos h,if_pos (by omega)]
 rw[if_neg h,if_neg (by omega)]
def Rw{a:Int}{x:Bool}{o:Option Int}(h:o.getD 0=a)(g:o.isSome=x):Ending.returned (.tuple #[.int .i64 a,.bool x])=.returned (.tuple #[.int .i64 (o.getD 0),.bool o.isSome]):=by rw[h,g]
def Db(a b c:UInt8)(h:(a.toNat:Int)=39/\(c.toNat:Int)=39/\33<=(b.toNat:Int)/\(b.toNat:Int)<=126):p9 [a,b,c]=some (b.toNat:Int):=by rw[Av,if_pos h]
def Hd(a b c:UInt8)(h:¬((a.toNat:Int)=39/\(c.toNat:Int)=39/\33<=(b.toNat:Int)/\(b.toNat:Int)<=126)):p9 [a,b,c]=none:=by rw[Av,if_neg h]
def UL(s:ByteArray)(w:World)(hs:s.size<=9223372036854775807):Calls prog 74 #[.string s] w fun e w'=>e=.returned (.tuple #[.int .i64 ((p9 s.data.toList).getD 0),.bool (p9 s.data.toList).isSome])/\w=w':=by
 by_cases h3:s.size=3
 ·have t0:((s.size:Int) != 3)=false:=by simp;omega
  have t1:0<s.size:=by omega
  have t2:1<s.size:=by omega
  have t3:2<s.size:=by omega
  have E:=Lib.hid (Kv s h3 t1 t2 t3)
  clear h3
  go_enter func74,ntmps74
  go_wp2
  all_goals go_ret2
  all_goals first
   | (exact⟨Rw (by rw[E.out,Db _ _ _ (by omega)];rfl) (by rw[E.out,Db _ _ _ (by omega)];rfl),rfl⟩)
   | (exact⟨Rw (by rw[E.out,Hd _ _ _ (by omega)];rfl) (by rw[E.out,Hd _ _ _ (by omega)];rfl),rfl⟩)
 have e:=JM s.data.toList (by rw[jH];exact h3)
 have E:=Lib.hid e
 have t0:((s.size:Int) != 3)=true:=by simp;omega
 clear h3 e
 go_enter func74,ntmps74
 go_wp2
 go_ret2
 exact⟨by rw[E.out];rfl,rfl⟩
def Jw(s:ByteArray)(h:0<s.size):s.toList.isEmpty=false:=by
 rw[ByteArray.toList_eq];cases hl:s.data.toList with
 | nil=>have:=jH s;rw[hl]at this;simp at this;omega
 | cons a l=>rfl
def DH(s:ByteArray)(h:s.size=0):s.toList.isEmpty=true:=by
 rw[ByteArray.toList_eq];have:=jH s;cases hl:s.data.toList with
 | nil=>rfl
 | cons a l=>rw[hl]at this;simp at this;omega
def nj(s:ByteArray)(b:Int):Int×ByteArray :=
 if h:0<s.size then(if s[0]=35 then(10,s.extract 1 s.size)else if s[0]=36 then(16,s.extract 1 s.size)else if s[0]=37 then(2,s.extract 1 s.size)else(b,s))else(b,s)
def Fu(c:UInt8)(n:Nat)(h:n<256)(e:c=UInt8.ofNat n):((c.toNat:Int)==n)=true:=by simp only[beq_iff_eq];exact(Mg c n h).1 e
def Ge(c:UInt8)(n:Nat)(h:n<256)(e:c≠UInt8.ofNat n):((c.toNat:Int)==n)=false:=by simp only[beq_eq_false_iff_ne];exact fun g=>e ((Mg c n h).2 g)
def ZH(s:ByteArray)(b:Int)(h0:¬0<s.size):nj s b=(b,s):=by unfold nj;rw[dif_neg h0]
def Lz(s:ByteArray)(b:Int):vV s.data.toList b=((nj s b).1,(nj s b).2.data.toList):=by
 unfold nj
 by_cases h0:0<s.size
 ·have e:s.data.toList=s[0]::s.data.toList.drop 1:=by
   have h1:0<s.data.toList.length:=by rw[jH];exact h0
   rw[show s[0]=s.data.toList[0] from rfl]
   simpa using (List.drop_eq_getElem_cons h1)
  rw[dif_pos h0]
  have hx:=Lib.extract_to_end s 1
  generalize s.extract 1 s.size=t at hx ⊢
  conv=>lhs;rw[e]
  simp only[vV]
  split
  ·rw[hx]
  split
  ·rw[hx]
  split
  ·rw[hx]
  rw[<-e]
 rw[dif_neg h0]
 have:s.data.toList=[]:=List.eq_nil_of_length_eq_zero (by rw[jH];omega)
 rw[this]
 rfl
def Lu(s:ByteArray)(b:Int)(w:World)(hs:s.size<=9223372036854775807):Calls prog 75 #[.string s,.int .i64 b] w fun e w'=>e=.returned (.tuple #[.int .i64 (nj s b).1,.string (nj s b).2])/\∃n,w'=w.drewN n:=by
 by_cases h0:0<s.size
 ·have t:=Jw s h0
  by_cases h1:s[0]=35
  ·have c1:((s[0].toNat:Int)==35)=true:=Fu s[0] 35 (by omega) h1
   have e:nj s b=(10,s.extract 1 s.size):=by unfold nj;rw[dif_pos h0,if_pos h1]
   have E:=Lib.hid e
   clear e h1
   go_enter func75,ntmps75
   go_wp2
   go_region
   go_wp2
   go_ret2
   exact⟨by rw[E.out];rfl,1,rfl⟩
  have c1:((s[0].toNat:Int)==35)=false:=Ge s[0] 35 (by omega) h1
  by_cases h2:s[0]=36
  ·have c2:((s[0].toNat:Int)==36)=true:=Fu s[0] 36 (by omega) h2
   have e:nj s b=(16,s.extract 1 s.size):=by unfold nj;rw[dif_pos h0,if_neg h1,if_pos h2]
   have E:=Lib.hid e
   clear e h1 h2
   go_enter func75,ntmps75
   go_wp2
   go_region
   go_wp2
   go_ret2
   exact⟨by rw[E.out];rfl,1,rfl⟩
  have c2:((s[0].toNat:Int)==36)=false:=Ge s[0] 36 (by omega) h2
  by_cases h3:s[0]=37
  ·have c3:((s[0].toNat:Int)==37)=true:=Fu s[0] 37 (by omega) h3
   have e:nj s b=(2,s.extract 1 s.size):=by unfold nj;rw[dif_pos h0,if_neg h1,if_neg h2,if_pos h3]
   have E:=Lib.hid e
   clear e h1 h2 h3
   go_enter func75,ntmps75
   go_wp2
   go_region
   go_wp2
   go_ret2
   exact⟨by rw[E.out];rfl,1,rfl⟩
  have c3:((s[0].toNat:Int)==37)=false:=Ge s[0] 37 (by omega) h3
  have e:nj s b=(b,s):=by unfold nj;rw[dif_pos h0,if_neg h1,if_neg h2,if_neg h3]
  have E:=Lib.hid e
  clear e h1 h2 h3
  go_enter func75,ntmps75
  go_wp2
  go_ret2
  exact⟨by rw[E.out];rfl,0,rfl⟩
 have t:=DH s (by omega)
 have E:=Lib.hid (ZH s b h0)
 go_enter func75,ntmps75
 go_wp2
 go_ret2
 exact⟨by rw[E.out];rfl,0,rfl⟩
def WG(s:ByteArray):ByteArray×Bool:=(⟨(w7 s.data.toList).1.toArray⟩,(w7 s.data.toList).2)
def Zk(s:ByteArray)(w:World):Calls prog 76 #[.string s,.string ⟨#[45]⟩] w fun e w'=>e=.returned (.tuple #[.string (WG s).1,.bool (WG s).2])/\w=w':=by
 refine(Tryz.strings_CutPrefix s ⟨#[45]⟩ w).mono ?_
 rintro e w' ⟨rfl,rfl⟩
 refine⟨?_,rfl⟩
 have h:Lib.trimPrefix s.data.toList [45]=(w7 s.data.toList).1/\Lib.hasPrefix s.data.toList [45]=(w7 s.data.toList).2:=by
  cases s.data.toList with
  | nil=>exact⟨rfl,rfl⟩
  | cons c l =>
   by_cases h:c=45
   ·subst h;simp[w7,Lib.trimPrefix,Lib.hasPrefix,List.isPrefixOf]
   have h':¬45=c:=fun e=>h e.symm
   simp[w7,Lib.trimPrefix,Lib.hasPrefix,List.isPrefixOf,h,h']
 show Ending.returned (.tuple #[.string ⟨(Lib.trimPrefix s.data.toList [45]).toArray⟩,.bool (Lib.hasPrefix s.data.toList [45])])=_
 rw[h.1,h.2]
 rfl
def Jm{l l' m:List UInt8}{b b':Int}{below:Bool}(h:p9 l=none)(hp:vV l b=(b',l'))(hc:w7 l'=(m,below)):dw l b=rV m b' below:=by
 unfold dw;rw[h,hp];simp only[hc]
def HD{l:List UInt8}{b n:Int}(h:p9 l=some n):dw l b=(n,true):=by
 unfold dw;rw[h]
def PP(b:Int)(below:Bool):rV [] b below=(0,false):=by unfold rV;rw[if_pos (.inl rfl)]
def PF(l:List UInt8)(b:Int)(below:Bool)(h:isB b=false):rV l b below=(0,false):=by unfold rV;rw[if_pos (.inr (.inl h))]
def CX(s:ByteArray)(k:Nat)(h:k<s.size):s.data.toList.take (k+1)=s.data.toList.take k++[s[k]]:=by
 rw[List.take_succ_eq_append_getElem (by simpa using h)];rfl
def II(p:UInt8->Bool)(s:ByteArray)(k:Nat)(h:k<s.size)(hb:p s[k]=false):s.data.toList.all p=false:=by
 rw[List.all_eq_false]
 exact⟨s[k],List.getElem_mem (by simpa using h),by simp[hb]⟩
def oJ{w w1:World}(hb:Below w.heap.size w w1)(s:ByteArray)(p:Nat):Below w.heap.size w (w1.iter s p):=hb.alloc hb.size _
def OM(s:ByteArray)(b:Int)(w:World)(hs:s.size<=9223372036854775807):Calls prog 40 #[.string s,.int .i64 b] w fun e w'=>e=.returned (.tuple #[.int .i64 (dw s.data.toList b).1,.bool (dw s.data.toList b).2])/\Below w.heap.size w w':=by
 have S0:=fun w=>UL s w hs
 match hsg:p9 s.data.toList with
 | some n =>
  rw[hsg]at S0
  have S:=Lib.hid S0
  have E:=Lib.hid (HD (b:=b) hsg)
  clear S0 hsg
  go_enter func40,ntmps40
  go_wp2_with (go_at_call 74;refine(S.out _).mono ?_;rintro e w' ⟨rfl,rfl⟩)
  go_ret2
  exact⟨by rw[E.out];rfl,Below.refl _ _⟩
 | none =>
  rw[hsg]at S0
  obtain⟨b',s',hp⟩:∃b' s',nj s b=(b',s'):=⟨_,_,rfl⟩
  have P0:=fun w=>Lu s b w hs
  rw[hp]at P0
  have hpl:=Lz s b
  rw[hp]at hpl
  obtain⟨t,below,hc⟩:∃t below,WG s'=(t,below):=⟨_,_,rfl⟩
  have C0:=fun w=>Zk s' w
  rw[hc]at C0
  have hcl:w7 s'.data.toList=(t.data.toList,below):=by
   unfold WG at hc
   obtain⟨rfl,rfl⟩:=Prod.mk.inj hc
   simp
  have e:=Jm hsg hpl hcl
  have htl:t.size<=9223372036854775807:=by
   have h1:t.data.toList.length<=s'.data.toList.length:=by
    have:t.data.toList=(w7 s'.data.toList).1:=by rw[hcl]
    rw[this]
    cases s'.data.toList with
    | nil=>simp[w7]
    | cons c l=>simp only[w7];split<;>simp
   have h2:s'.data.toList.length<=s.data.toList.length:=by
    have:s'.data.toList=(vV s.data.toList b).2:=by rw[hpl]
    rw[this]
    cases s.data.toList with
    | nil=>simp[vV]
    | cons c l =>
     simp only[vV]
     repeat' split
     all_goals simp
   simp only[jH]at h1 h2
   omega
  have S:=Lib.hid S0
  have P:=Lib.hid P0
  have C:=Lib.hid C0
  clear S0 hsg hp hpl hc hcl P0 C0 hs
  by_cases h0:0<t.size
  ·have te:=Jw t h0
   have htn:t.data.toList≠[]:=fun h=>by have:=jH t;rw[h]at this;simp at this;omega
   by_cases hb:isB b'=true
   ·have E:=Lib.hid e
    have HB:=Lib.hid ((L0 b').1 hb)
    have HN:=Lib.hid htn
    have HE:=Lib.hid (Vt t.data.toList b' below hb htn)
    have HX:=Lib.hid (Vy t.data.toList b' below)
    clear e htn
    go_enter func40,ntmps40
    go_wp2_with (first
     | (go_at_call 74;refine(S.out _).mono ?_;rintro e w' ⟨rfl,rfl⟩)
     | (go_at_call 75;refine(P.out _).mono ?_;rintro e w1 ⟨rfl,n1,hw1⟩;have HW:=Lib.hid hw1;clear hw1)
     | (go_at_call 76;refine(C.out _).mono ?_;rintro e w' ⟨rfl,rfl⟩)
     | (go_at_call 77;refine(F0 b' _).mono ?_;rintro e w' ⟨rfl,rfl⟩))
    have hbel:Below w.heap.size w w1:=by rw[HW.out];exact below_drewN (Below.refl _ _) n1
    go_loopw [9] (fun n wr=>∃(pos:Nat) (m:Int),wr=w1.iter t pos/\pos<=t.size/\n=.int .i64 m/\Hid (m=wrap64 (uU b' 0 (t.data.toList.take pos)))/\Hid ((t.data.toList.take pos).all (okD b')=true)) (fun _ wr=>t.size-wr.iterPos w1.heap.size)
    case atStart=>exact⟨0,0,rfl,by omega,rfl,by show _=_;simp[uU,wrap64],by show _=_;simp⟩
    case round =>
     obtain⟨pos,m,rfl,hpos,rfl,hm,hall⟩:=hrel
     by_cases hlt:pos<t.size
     ·by_cases ha:t[pos].toNat<128
      ·have hnx:∀ty,(Instr.next (.pointer (some ⟨w1.heap.size,0,none⟩)) true ty).run prog (w1.iter t pos)=_:=fun ty=>run_next_ascii w1 t pos ty hlt ha
       obtain⟨d,hd⟩:∃d,wd (t[pos].toNat:Int)=d:=⟨_,rfl⟩
       have hr:=ae5 (t[pos].toNat:Int)
       have W0:=fun w=>DT (t[pos].toNat:Int) w (by omega) (by omega)
       rw[hd]at W0 hr
       have W:=Lib.hid W0
       by_cases hok:okD b' t[pos]=true
       ·have h2:=(Gj b' t[pos]).1 hok
        rw[hd]at h2
        obtain⟨h3,h4⟩:=h2
        have t1:decide (d<0)=false:=by simp;omega
        have t2:decide (b'<=d)=false:=by simp;omega
        have hm':Hid (wrap64 (wrap64 (m*b')+d)=wrap64 (uU b' 0 (t.data.toList.take (pos+1)))):=by
         show _=_
         rw[CX t pos hlt,<-Bh,<-hm.out,hd]
        have hall':Hid ((t.data.toList.take (pos+1)).all (okD b')=true):=by
         show _=_
         rw[CX t pos hlt,List.all_append,hall.out]
         simp[hok]
        clear hm hall hd W0 hok
        go_wp2_with (go_at_call 78;refine(W.out _).mono ?_;rintro e w' ⟨rfl,rfl⟩)
        go_roundw
        case rel=>exact⟨pos+1,_,rfl,by omega,rfl,hm',hall'⟩
        case measure=>simp;omega
       have hno:t.data.toList.all (okD b')=false:=II _ t pos hlt (by simpa using hok)
       have hdd:d<0\/b'<=d:=by
        have h2:¬(0<=d/\d<b'):=by rw[<-hd,<-Gj];exact hok
        omega
       have EX:=Lib.hid (HX.out hno)
       clear hm hall hd W0 hok hno
       by_cases hd0:d<0
       ·have t1:decide (d<0)=true:=by simp;omega
        go_wp2_with (go_at_call 78;refine(W.out _).mono ?_;rintro e w' ⟨rfl,rfl⟩)
        go_ret2
        exact⟨by rw[E.out,EX.out];rfl,oJ hbel _ _⟩
       have t1:decide (d<0)=false:=by simp;omega
       have t2:decide (b'<=d)=true:=by simp;omega
       go_wp2_with (go_at_call 78;refine(W.out _).mono ?_;rintro e w' ⟨rfl,rfl⟩)
       go_ret2
       exact⟨by rw[E.out,EX.out];rfl,oJ hbel _ _⟩
      have hnx:∀ty,(Instr.next (.pointer (some ⟨w1.heap.size,0,none⟩)) true ty).run prog (w1.iter t pos)=_:=fun ty=>run_next_any w1 t pos ty hlt
      have hdh:=decode_high t pos hlt (by omega)
      have hdl:=decode_le t pos
      have hr:wd ((Utf8.decode t pos).1:Int) = -1:=by unfold wd;rw[if_neg (by omega),if_neg (by omega),if_neg (by omega)]
      have W0:=fun w=>DT ((Utf8.decode t pos).1:Int) w (by omega) (by omega)
      rw[hr]at W0
      have W:=Lib.hid W0
      have hno:t.data.toList.all (okD b')=false:=II _ t pos hlt (by
       have:¬okD b' t[pos]=true:=by
        rw[Gj]
        have:wd (t[pos].toNat:Int) = -1:=by unfold wd;rw[if_neg (by omega),if_neg (by omega),if_neg (by omega)]
        omega
       simpa using this)
      have EX:=Lib.hid (HX.out hno)
      clear hm hall hr W0 hno hdh hdl
      generalize Utf8.decode t pos=q at *
      go_wp2_with (go_at_call 78;refine(W.out _).mono ?_;rintro e w' ⟨rfl,rfl⟩)
      go_ret2
      exact⟨by rw[E.out,EX.out];rfl,oJ hbel _ _⟩
     have hnx:∀ty,(Instr.next (.pointer (some ⟨w1.heap.size,0,none⟩)) true ty).run prog (w1.iter t pos)=_:=fun ty=>run_next_end w1 t pos ty hlt
     have et:t.data.toList.take pos=t.data.toList:=List.take_of_length_le (by rw[jH];omega)
     rw[et]at hm hall
     have EX:=Lib.hid (HE.out hall.out)
     clear hall et
     cases below with
     | true =>
      go_wp2
      go_ret2
      exact⟨by rw[E.out,EX.out,<-hm.out];rfl,oJ hbel _ _⟩
     | false =>
      go_wp2
      go_ret2
      exact⟨by rw[E.out,EX.out,<-hm.out];rfl,oJ hbel _ _⟩
   simp only[Bool.not_eq_true]at hb
   rw[PF _ _ _ hb]at e
   have E:=Lib.hid e
   clear e htn
   go_enter func40,ntmps40
   go_wp2_with (first
    | (go_at_call 74;refine(S.out _).mono ?_;rintro e w' ⟨rfl,rfl⟩)
    | (go_at_call 75;refine(P.out _).mono ?_;rintro e w1 ⟨rfl,n1,hw1⟩;have HW:=Lib.hid hw1;clear hw1)
    | (go_at_call 76;refine(C.out _).mono ?_;rintro e w' ⟨rfl,rfl⟩)
    | (go_at_call 77;refine(F0 b' _).mono ?_;rintro e w' ⟨rfl,rfl⟩))
   go_ret2
   exact⟨by rw[E.out];rfl,by rw[HW.out];exact below_drewN (Below.refl _ _) n1⟩
  have te:=DH t (by omega)
  have htn:t.data.toList=[]:=List.eq_nil_of_length_eq_zero (by rw[jH];omega)
  rw[htn,PP]at e
  have E:=Lib.hid e
  clear e htn
  go_enter func40,ntmps40
  go_wp2_with (first
   | (go_at_call 74;refine(S.out _).mono ?_;rintro e w' ⟨rfl,rfl⟩)
   | (go_at_call 75;refine(P.out _).mono ?_;rintro e w1 ⟨rfl,n1,hw1⟩;have HW:=Lib.hid hw1;clear hw1)
   | (go_at_call 76;refine(C.out _).mono ?_;rintro e w' ⟨rfl,rfl⟩))
  go_ret2
  exact⟨by rw[E.out];rfl,by rw[HW.out];exact below_drewN (Below.refl _ _) n1⟩
end Go.Proofs.YtjcminooghmpeaaGreatDoor
namespace Go.Proofs
open Go.Shelf
def Tryz.lReverse_ren:Go.Shelf.Ren:=⟨fun|35=>380|n=>n,fun|22=>22|23=>5|3=>3|4=>4|0=>0|n=>n,fun|n=>n⟩
def Tryz.lReverse:Go.Proofs.SlLaysE.n35 prog Tryz.lReverse_ren:={
 mixed:=by kernel_rfl
 f35:=⟨Tryz.f380.name,by decide,func380.trans (congrArg some (by kernel_rfl))⟩
 t0:=underlying0
 a0:=Tryz.isAgg0
 z0:=Tryz.sizeOf0
 v0:=Tryz.zeroValue0
 t3:=underlying3
 a3:=Tryz.isAgg3
 z3:=Tryz.sizeOf3
 v3:=Tryz.zeroValue3
 t4:=underlying4
 a4:=Tryz.isAgg4
 z4:=Tryz.sizeOf4
 v4:=Tryz.zeroValue4
 t22:=underlying22
 a22:=Tryz.isAgg22
 z22:=Tryz.sizeOf22
 v22:=Tryz.zeroValue22
 a23:=Tryz.isAgg5
 z23:=Tryz.sizeOf5}
def Tryz.lClone_ren:Go.Shelf.Ren:=⟨fun|41=>382|n=>n,fun|22=>22|23=>5|4=>4|n=>n,fun|n=>n⟩
def Tryz.lClone:Go.Proofs.SlLaysE0.n41 prog Tryz.lClone_ren:={
 mixed:=by kernel_rfl
 f41:=⟨Tryz.f382.name,by decide,func382.trans (congrArg some (by kernel_rfl))⟩
 t4:=underlying4
 a4:=Tryz.isAgg4
 z4:=Tryz.sizeOf4
 v4:=Tryz.zeroValue4
 t22:=underlying22
 a22:=Tryz.isAgg22
 z22:=Tryz.sizeOf22
 v22:=Tryz.zeroValue22}
end Go.Proofs
namespace Go.Proofs.YtjcminooghmpeaaGreatDoor
open Go.RowKit
def Z9:(prog.info? 5).map (fun i=>(i.zero,i.size,i.bytes))=some (some (.int .u8 0),1,1):=by kernel_rfl
def CI{w w1:World}{B e s n:Nat}{v:Value}{xs:List Value}{q:Nat}(h:w.ownsRow B e s v n xs)(hw:w1=w.drewN q):w1.ownsRow B e s v n xs:=by rw[hw];exact h
def Cy{w0 w w1:World}{B q:Nat}(h:Below B w0 w)(hw:w1=w.drewN q):Below B w0 w1:=by rw[hw];exact below_drewN h q
def Mt{w:World}{B e s n:Nat}{v:Value}{xs:List Value}(h:w.ownsRow B e s v n xs):∀k,v.ownBlock=some k->B<=k:=by
 intro k hk
 rcases h.2 with ⟨rfl,_⟩|⟨g,cap,cur,rfl,hb,_⟩
 ·simp[Value.ownBlock]at hk
 simp[Value.ownBlock]at hk;omega
def RU{w:World}{B B' e s n:Nat}{v:Value}{xs:List Value}(h:w.ownsRow B e s v n xs)(hB:B'<=B):w.ownsRow B' e s v n xs:=by
 refine⟨h.1,?_⟩
 rcases h.2 with h1|⟨g,cap,cur,e1,hb,h2⟩
 ·exact .inl h1
 exact .inr ⟨g,cap,cur,e1,by omega,h2⟩
def NP(w:World)(B:Nat)(v:Value)(n:Nat)(zs:List Int)(h:w.ownsRow B 5 1 v n (zs.map (Value.int .u8)))(hn:n<=9223372036854775807):
  Calls prog 380 #[v] w fun e w'=>e=.returned (.tuple #[])/\w'.ownsRow B 5 1 v n (zs.reverse.map (Value.int .u8))/\∀w0,Below B w0 w->Below B w0 w':=by
 by_cases hv:v=.slice none 0 0
 ·have h0:n=0:=by
   rcases h.2 with ⟨_,h⟩|⟨g,cap,cur,h,_⟩
   ·exact h
   rw[h]at hv;cases hv
  have hz:zs=[]:=List.eq_nil_of_length_eq_zero (by have:=h.1;simp at this;omega)
  subst hz hv
  refine(AnyE.slices_Reverse_empty Tryz.lReverse none 0 w).mono ?_
  rintro e w' ⟨rfl,rfl⟩
  exact⟨rfl,h,fun _ hb=>hb⟩
 obtain⟨g,cap,rfl,hb,_,_,_,hl,hH⟩:=Lib.holds_of_ownsRow h hv
 subst hl
 refine(AnyE.slices_Reverse Tryz.lReverse (Value.int .u8) (fun _=>rfl) g 0 cap zs w hH hn).mono ?_
 rintro e w' ⟨rfl,q,rfl⟩
 refine⟨rfl,?_,fun w0 hw=>Lib.below_putRow hw hb⟩
 have:=Lib.ownsRow_putRow (q:=q) h (ys:=zs.reverse) (by simp) (Nat.le_refl _)
 rw[List.take_of_length_le (by simp)]at this
 exact this
def GI{w:World}{B n:Nat}{v:Value}{zs:List Int}(h:w.ownsRow B 5 1 v n (zs.map (Value.int .u8))):
  (convert 22 9 v).run prog w=.ok (.string (strOfNums zs)) w:=by
 by_cases hv:v=.slice none 0 0
 ·have h0:n=0:=by
   rcases h.2 with ⟨_,h⟩|⟨g,cap,cur,h,_⟩
   ·exact h
   rw[h]at hv;cases hv
  have hz:zs=[]:=List.eq_nil_of_length_eq_zero (by have:=h.1;simp at this;omega)
  subst hz hv
  exact run_convert_bytes_nil (w:=w) 22 5 underlying22 underlying5 0 0 9 underlying9
 obtain⟨g,cap,rfl,hb,_,_,_,hl,hH⟩:=Lib.holds_of_ownsRow h hv
 subst hl
 refine run_convert_bytes_arg w 22 5 underlying22 underlying5 g 0 zs.length cap zs rfl (fun i hi=>?_) 9 underlying9
 rw[(hH i (by simpa using hi)).1]
 simp[List.getD,hi]
def Gu(ds:List Nat):List Int:=ds.map fun d:Nat=>v8 (d:Int)
def Dw(ds:List Nat)(d:Nat):Gu (ds++[d])=Gu ds++[v8 (d:Int)]:=by simp[Gu]
def aF7{u r B:Nat}(hz:¬u/B=0)(h:u<2 ^ (r+1))(hB:2<=B):1<=r:=by
 rcases Nat.eq_zero_or_pos r with rfl|h1
 ·exact absurd (Nat.div_eq_of_lt (by simp at h;omega)) hz
 exact h1
def aq1{u B:Nat}(hu:u<18446744073709551616)(hz:¬u/B=0)(hB:2<=B):U (S (u/B))<U (S u):=by
 have h0:0<u:=Nat.pos_of_ne_zero (fun e=>hz (by rw[e];exact Nat.zero_div B))
 rw[U_S u hu,U_S (u/B) (Nat.lt_of_le_of_lt (Nat.div_le_self u B) hu)]
 exact Nat.div_lt_self h0 hB
def Hg(v:Value):Nat:=U (intOf v)
def IH(x:Int):Hg (.int .i64 x)=U x:=by unfold Hg;simp[intOf]
def J5{u B:Nat}(hu:Hid (u<18446744073709551616))(hz:Hid (¬u/B=0))(hB:2<=B):Hg (.int .i64 (S (u/B)))<Hg (.int .i64 (S u)):=by
 rw[IH,IH];exact aq1 hu.out hz.out hB
def aC0(B u:Nat):List Nat:=tO B 64 u
def Km(B u:Nat):Hid ([]++tO B 64 u=aC0 B u):=Lib.hid rfl
def Pj:Hid (([]:List Nat).length+64=64):=Lib.hid rfl
def Oh(w:World)(e:TypeId):w.ownsRow w.heap.size e 1 (.slice none 0 0) ([]:List Nat).length ((Gu []).map (Value.int .u8)):=⟨rfl,.inl ⟨rfl,rfl⟩⟩
def aI1{u:Nat}(h:u<18446744073709551616):Hid (u<2 ^ 64):=Lib.hid (by rw[show(2:Nat)^64=18446744073709551616 from by decide];exact h)
def Qc{B r u:Nat}{ds all:List Nat}(h:ds++tO B (r+1) u=all)(hz:¬u/B=0):(ds++[u%B])++tO B r (u/B)=all:=by
 rw[<-h];simp only[tO,hz,if_false,List.append_assoc,List.singleton_append]
def UX{B r u:Nat}{ds all:List Nat}(h:ds++tO B (r+1) u=all)(hz:u/B=0):ds++[u%B]=all:=by
 rw[<-h];simp only[tO,hz,if_true]
def IO(u B:Nat)(hu:u<18446744073709551616)(h2:2<=B)(h3:B<=36):iH (S u) 0 (B:Int)=(S (u/B),((u%B:Nat):Int),0):=by
 have e1:U (B:Int)=B:=by unfold U;omega
 have e2:U (0:Int)=0:=by decide
 have e3:PU (S u) 0=u:=by unfold PU;rw[U_S u hu,e2];omega
 unfold iH
 rw[if_neg (by omega),e1,e2,if_neg (by omega),e3]
 have hm:=Nat.mod_lt u (show 0<B by omega)
 have:S (u%B)=((u%B:Nat):Int):=by unfold S;exact da _ (by omega)
 rw[this]
def al3{u:Nat}(h:u<18446744073709551616):S u=0↔u=0:=by unfold S wrap64;omega
def U7{u r B:Nat}(h:u<2 ^ (r+1))(hB:2<=B):u/B<2 ^ r:=by
 rw[Nat.pow_succ]at h
 have:=Nat.div_le_div_left hB (show 0<2 by omega) (a:=u)
 omega
def UF(ds:List Nat):strOfNums (Gu ds).reverse=⟨((ds.map chr).reverse).toArray⟩:=by
 unfold strOfNums chr Gu
 congr 1
 rw[<-List.map_reverse,List.map_map,<-List.map_reverse]
 rfl
def tp(n b:Int)(w:World)(hn:Fit n):Calls prog 333 #[.int .i64 n,.int .i64 b] w fun e w'=>e=.returned (.tuple #[.string ⟨(gV n b).1.toArray⟩,.int .i64 (gV n b).2])/\Below w.heap.size w w':=by
 by_cases hb:isB b=true
 ·obtain⟨B,rfl,h2,h3⟩:=Sq hb
  have e:gV n (B:Int)=(ot (U n) B,0):=by unfold gV;rw[if_pos hb,Int.toNat_natCast]
  have E:=Lib.hid e
  have EN:=Lib.hid (S_U n hn)
  obtain⟨i0,hi,hz0,hz1,hz2⟩:=info_parts Z9
  clear e
  go_enter func333,ntmps333
  go_wp2_with (go_at_call 77;refine(F0 _ _).mono ?_;rintro e w' ⟨rfl,rfl⟩)
  go_loopw [0,6] (fun n0 v wr=>∃(r u:Nat) (ds:List Nat),n0=.int .i64 (S u)/\Hid (u<18446744073709551616)/\Hid (u<2 ^ r)/\1<=r/\Hid (ds.length+r=64)/\Hid (ds++tO B r u=aC0 B (U n)) /\
   wr.ownsRow w.heap.size 5 1 v ds.length ((Gu ds).map (Value.int .u8))/\Below w.heap.size w wr) (fun n0 _ _=>Hg n0)
  case atStart=>exact⟨64,U n,[],by rw[EN.out],B1 n,aI1 (B1 n),by omega,Pj,Km _ _,Oh _ _,Below.refl _ _⟩
  case round =>
   obtain⟨r,u,ds,rfl,hu,hur,hr1,hlen,hds,hown,hbel⟩:=hrel
   obtain⟨r,rfl⟩:∃r',r=r'+1:=⟨r-1,by omega⟩
   have D0:=fun w=>CJ (S u) 0 (B:Int) w
   rw[IO u B hu.out h2 h3]at D0
   have D:=Lib.hid D0
   clear D0
   have hm:=Nat.mod_lt u (show 0<B by omega)
   have hq:u/B<18446744073709551616:=Nat.lt_of_le_of_lt (Nat.div_le_self _ _) hu.out
   have hds64:ds.length<=63:=by have:=hlen.out;omega
   by_cases hz:u/B=0
   ·have t:(S (u/B)==0)=true:=by rw[hz];decide +kernel
    have hds':=Lib.hid (UX hds.out hz)
    have HZ:=Lib.hid hz
    clear hq hz hds
    go_wp2_with (first
     | (go_at_call 287;refine(D.out _).mono ?_;rintro e w1 ⟨rfl,n1,hw1⟩;have hown1:=CI hown hw1;have hbel1:=Cy hbel hw1;clear hw1)
     | (go_at_call 379;refine(xv _ _).mono ?_;rintro e w' ⟨rfl,rfl⟩)
     | (at_builtin;refine wpList_append_own _ rfl _ _ 22 rfl w.heap.size 5 i0 (.int .u8 0) 1 1 underlying22 hi hz0 hz1 hz2 rfl (by decide) _ _ _ rfl (hown1.alloc _) ⟨w1.heap.size,0,none⟩ 1 1 [.int .u8 (v8 ((u:Int)%(B:Int)))] rfl rfl ?c1 ?c2 ?c3 ?c4 ?c5 ?_))
    case c1=>exact cell_one_new _ _ _
    case c2=>simp[Value.oneCell']
    case c3=>unfold maxLen;omega
    case c4=>omega
    case c5=>have:=hbel1.size;simp;omega
    intro v' w2 hown2 hgrow _
    have hown3:w2.ownsRow w.heap.size 5 1 v' (ds++[u%B]).length ((Gu (ds++[u%B])).map (Value.int .u8)):=by
     rw[Dw,List.map_append,List.length_append];exact hown2
    have hbel2:Below w.heap.size w w2:=(hbel1.alloc hbel1.size _).grown hgrow (by have:=hbel1.size;simp;omega) (Mt hown1)
    have RV:=Lib.hid (NP w2 w.heap.size v' _ _ hown3 (by simp;omega))
    clear hown hown1 hown2 hgrow hown3
    go_wp2_with fail
    refine RV.out.mono ?_
    rintro e w3 ⟨rfl,hown5,hb5⟩
    have hbel5:=hb5 w hbel2
    have hcv:=GI hown5
    rw[hds'.out,UF]at hcv
    clear hown5 hb5
    go_wp2
    go_ret2
    exact⟨by rw[E.out];rfl,hbel5⟩
   have t:(S (u/B)==0)=false:=by simp only[beq_eq_false_iff_ne];intro h;exact hz ((al3 hq).1 h)
   have HQ:=Lib.hid hq
   have hds':=Lib.hid (Qc hds.out hz)
   have HZ:=Lib.hid hz
   clear hq hz hds
   go_wp2_with (first
    | (go_at_call 287;refine(D.out _).mono ?_;rintro e w1 ⟨rfl,n1,hw1⟩;have hown1:=CI hown hw1;have hbel1:=Cy hbel hw1;clear hw1)
    | (go_at_call 379;refine(xv _ _).mono ?_;rintro e w' ⟨rfl,rfl⟩)
    | (at_builtin;refine wpList_append_own _ rfl _ _ 22 rfl w.heap.size 5 i0 (.int .u8 0) 1 1 underlying22 hi hz0 hz1 hz2 rfl (by decide) _ _ _ rfl (hown1.alloc _) ⟨w1.heap.size,0,none⟩ 1 1 [.int .u8 (v8 ((u:Int)%(B:Int)))] rfl rfl ?c1 ?c2 ?c3 ?c4 ?c5 ?_))
   case c1=>exact cell_one_new _ _ _
   case c2=>simp[Value.oneCell']
   case c3=>unfold maxLen;omega
   case c4=>omega
   case c5=>have:=hbel1.size;simp;omega
   intro v' w2 hown2 hgrow _
   have hown3:w2.ownsRow w.heap.size 5 1 v' (ds++[u%B]).length ((Gu (ds++[u%B])).map (Value.int .u8)):=by
    rw[Dw,List.map_append,List.length_append];exact hown2
   have hbel2:Below w.heap.size w w2:=(hbel1.alloc hbel1.size _).grown hgrow (by have:=hbel1.size;simp;omega) (Mt hown1)
   clear hown hown1 hown2 hgrow
   go_wp2_with fail
   go_roundw
   case rel=>exact⟨r,u/B,ds++[u%B],rfl,HQ.out,U7 hur.out h2,aF7 HZ.out hur.out h2,by have:=hlen.out;show _=_;simp;omega,hds',hown3,hbel2⟩
   case measure=>exact J5 hu HZ h2
 have e:gV n b=([],-24):=by unfold gV;rw[if_neg hb]
 have E:=Lib.hid e
 simp only[Bool.not_eq_true]at hb
 clear e
 go_enter func333,ntmps333
 go_wp2_with (go_at_call 77;refine(F0 _ _).mono ?_;rintro e w' ⟨rfl,rfl⟩)
 go_ret2
 exact⟨by rw[E.out];rfl,Below.refl _ _⟩
def an7{a b:ByteArray}(h:a.data.toList=b.data.toList):a=b:=by
 apply ByteArray.ext;exact Array.toList_inj.1 h
def ae4{a b:ByteArray}{x y:Int}(h:a=b)(g:x=y):Ending.returned (.tuple #[.string a,.int .i64 x])=.returned (.tuple #[.string b,.int .i64 y]):=by rw[h,g]
def Xn(B:Nat):∀k u,(tO B k u).length<=k:=by
 intro k
 induction k with
 | zero=>intro u;simp[tO]
 | succ k ih =>
  intro u
  simp only[tO,List.length_cons]
  split
  ·simp
  have:=ih (u/B);omega
def KQ(u B:Nat):(ot u B).length<=64:=by unfold ot;simpa using Xn B 64 u
def Uf(n b:Int)(w:World)(hn:Fit n):Calls prog 332 #[.int .i64 n,.int .i64 b] w fun e w'=>e=.returned (.tuple #[.string ⟨(ir n b).1.toArray⟩,.int .i64 (ir n b).2])/\Below w.heap.size w w':=by
 by_cases h0:0<=n
 ·have e:ir n b=gV n b:=by unfold ir gV;simp only[h0,if_true]
  rw[e]
  have H:=Lib.hid (tp n b w hn)
  go_enter func332,ntmps332
  go_wp2_with (go_at_call 333;refine H.out.mono ?_;rintro e w1 ⟨rfl,hb⟩)
  go_ret2
  exact⟨rfl,hb⟩
 have h1:decide (0<=n)=false:=by simp;omega
 by_cases hb:isB b=true
 ·have e:gV (wrap64 (-n)) b=(ot (U (wrap64 (-n))) b.toNat,0):=by unfold gV;rw[if_pos hb]
  have e2:ir n b=(45::ot (U (wrap64 (-n))) b.toNat,0):=by unfold ir;rw[if_pos hb];simp only[h0,if_false]
  have H0:=tp (wrap64 (-n)) b w (iB _)
  rw[e]at H0
  clear e
  have hl:=KQ (U (wrap64 (-n))) b.toNat
  generalize ot (U (wrap64 (-n))) b.toNat=l at H0 e2 hl
  have H:=Lib.hid H0
  have E2:=Lib.hid e2
  clear e2 H0
  go_enter func332,ntmps332
  go_wp2_with (go_at_call 333;refine H.out.mono ?_;rintro e w1 ⟨rfl,hb⟩)
  go_ret2
  exact⟨by rw[E2.out];exact ae4 (an7 (by simp)) rfl,hb⟩
 have e:gV (wrap64 (-n)) b=([],-24):=by unfold gV;rw[if_neg hb]
 have e2:ir n b=([],-24):=by unfold ir;rw[if_neg hb]
 have H0:=tp (wrap64 (-n)) b w (iB _)
 rw[e]at H0
 have H:=Lib.hid H0
 have E2:=Lib.hid e2
 clear e e2 H0
 go_enter func332,ntmps332
 go_wp2_with (go_at_call 333;refine H.out.mono ?_;rintro e w1 ⟨rfl,hb⟩)
 go_ret2
 exact⟨by rw[E2.out];rfl,hb⟩
def oK(r:List UInt8×Int):PV:=iy (str r.1) (i64 r.2)
@[simp] theorem aj7 (r : List UInt8 × Int) : aR (oK r) := by simp [oK]
def ae3{P:Program}{f:FuncId}{args:List Value}{r:List UInt8×Int}(h:∀w,Calls P f args.toArray w fun e w'=>e=.returned (.tuple #[.string ⟨r.1.toArray⟩,.int .i64 r.2])/\bj w w'):ab P f (args.map .val) (oK r) :=
 dY (v:=.tuple #[.string ⟨r.1.toArray⟩,.int .i64 r.2]) (fun c=>by unfold oK iy Rep;exact⟨[_,_],rfl,af.2 ⟨ar _ _,af.2 ⟨ar _ _,aG.2 rfl⟩⟩⟩) h
def RE{w:World}{v:Value}:∀{e:Ending} {w':World},(e=.returned v/\Below w.heap.size w w')->(e=.returned v/\bj w w'):=by rintro e w' ⟨h,k⟩;exact⟨h,bj.of_below k⟩
def ao3(n b:Int)(hn : -9223372036854775808<=n/\n<=9223372036854775807):ab prog 332 [i64 n,i64 b] (oK (ir n b)):=ae3 (args:=[.int .i64 n,.int .i64 b]) fun w=>Calls.mono (Uf n b w hn) fun _ _ h=>RE h
def ZG(n b:Int)(hn : -9223372036854775808<=n/\n<=9223372036854775807):ab prog 333 [i64 n,i64 b] (oK (gV n b)):=ae3 (args:=[.int .i64 n,.int .i64 b]) fun w=>Calls.mono (tp n b w hn) fun _ _ h=>RE h
def WZ(n:Int):ab prog 379 [i64 n] (.val (.int .u8 (v8 n))):=dY (args:=[.int .i64 n]) (fun c=>ar _ _) fun w=>Calls.mono (xv n w) fun _ _ h=>NI h
def Cl{B:Nat->Nat->Prop}{H:List Ob}{σ:Nat->Option Nat}{w w':World}(s:Sim B H σ w)(g:bj w w'){xs:List Int}{b c:Nat}(hb:w.heap.size<=b)(hl:xs.length<=c)(hc:∀i,i<xs.length->w'.cell? ⟨b,i,none⟩=some (.int .u8 (xs.getD i 0))):
  Rep (cx B H σ w') (.seq xs.length (xs.map kH) .any) (.slice (some ⟨b,0,none⟩) xs.length c):=by
 unfold Rep
 refine⟨_,c,xs.map (Value.int .u8),rfl,hl,(fun h=>by cases h),?_,fun a ha=>?_,trivial⟩
 ·clear hc hl
  induction xs with
  | nil=>exact aG.2 rfl
  | cons x l ih=>exact af.2 ⟨ar _ _,ih⟩
 cases ha
 refine .inl ⟨rfl,fun j u hj=>⟨?_,?_⟩⟩
 ·have hjl:j<xs.length:=by have:=cM hj;simpa using this
  show w'.cell? ⟨b,0+j,none⟩=some u
  rw[Nat.zero_add,hc j hjl]
  rw[List.getElem?_map,List.getElem?_eq_getElem hjl]at hj
  simp only[Option.map_some,Option.some.injEq]at hj
  rw[<-hj];simp[List.getD,hjl]
 rintro(h|⟨i,oi,h1,h2,h3⟩)
 ·have:=s.base _ _ h;dsimp only at this;omega
 have hl:oi.live=true:=by cases oi<;>first|rfl|cases h3
 have:=(s.holds i oi h1).lt hl h2
 simp only[cx]at this;omega
def UK(u:Nat):∀x∈ku u,0<=x/\x<256:=by
 intro x hx
 simp only[ku,List.mem_cons,List.not_mem_nil,or_false]at hx
 omega
def qW(n:Int):List UInt8:=(ku (U n)).map fun x=>UInt8.ofNat x.toNat
def k9(n:Int):(qW n).length=8:=rfl
def VI(n:Int):PV.seq 8 ((ku (U n)).map kH) .any=sq aH (qW n):=by
 unfold sq qW
 rw[kK,List.map_map,List.map_map]
 have:∀x∈ku (U n),kH x=(kH ∘ (fun b:UInt8=>(b.toNat:Int)) ∘ fun x=>UInt8.ofNat x.toNat) x:=by
  intro x hx
  have:=UK (U n) x hx
  simp only[Function.comp]
  rw[UInt8.toNat_ofNat']
  congr 1
  omega
 rw[List.map_congr_left this]
 rfl
def Fl{f:FuncId}(n:Int)(h:∀w,Calls prog f #[.int .i64 n] w (Bn (ku (U n)) w)):ab prog f [i64 n] (sq aH (qW n)):=by
 rw[<-VI]
 intro H B σ w vs s hv
 have:=sZ (l:=[.int .i64 n]) hv
 subst this
 refine Calls.mono (h w) ?_
 rintro e w' ⟨b,c,rfl,hb,hl,hc,hbel⟩
 have g:=bj.of_below hbel
 obtain⟨s',st⟩:=gU s g
 exact⟨_,σ,rfl,Cl s g hb hl hc,s',st⟩
def DY(n:Int):ab prog 124 [i64 n] (sq aH (qW n)):=Fl n (TH n)
def jR(l:List UInt8)(k:Nat)(b:List UInt8):List UInt8:=l.take k++b++l.drop (k+b.length)
def DK{l b:List UInt8}{k:Nat}(h:k+b.length<=l.length):(jR l k b).length=l.length:=by simp[jR];omega
def Lt{xs ys:List PV}(h:ys.length=xs.length):cy xs 0 ys=ys:=by simp[cy,h]
def Eb(l:List UInt8)(k:Nat):(l.flatMap aH).take k=(l.take k).flatMap aH:=by
 have:=nD aH 1 (fun _=>rfl) k l
 rwa [Nat.mul_one]at this
def Xr(l:List UInt8)(k:Nat):(l.flatMap aH).drop k=(l.drop k).flatMap aH:=by
 have:=iC aH 1 (fun _=>rfl) k l
 rwa [Nat.mul_one]at this
def fQ(l:List UInt8):(l.flatMap aH).length=l.length:=by rw[an aH 1 (fun _=>rfl),Nat.mul_one]
def Pd(l b:List UInt8)(k:Nat):cy (l.flatMap aH) k (b.flatMap aH)=(jR l k b).flatMap aH:=by
 unfold cy jR
 rw[Eb,fQ,Xr,List.flatMap_append,List.flatMap_append]
def Pi{l b:List UInt8}{k c:Nat}(h:k+b.length<=l.length)(hc:c=if l.length=k then 0 else 0+k*1):cy (l.flatMap aH) c ((b.flatMap aH).take (min b.length (l.length-k)*1))=(jR l k b).flatMap aH:=by
 rw[Nat.min_eq_left (by omega),Nat.mul_one,List.take_of_length_le (by rw[fQ];exact Nat.le_refl _)]
 rw[<-Pd]
 split at hc
 ·have:b=[]:=List.eq_nil_of_length_eq_zero (by omega)
  subst this
  subst hc
  simp[cy]
 rw[hc];congr 1;omega
def O6{l:List UInt8}{d:TD}(hs:d.size=1)(hz:d.zero.length=1){e:TypeId}:[Ob.cells (l.flatMap aH) e]=[Ob.cells (cy (fP (l.length:Int).toNat d) 0 (List.take (min l.length (l.length:Int).toNat*d.size) (List.flatMap aH l))) e]:=by
 rw[Int.toNat_natCast,Nat.min_self,hs,Nat.mul_one,List.take_of_length_le (by rw[fQ];exact Nat.le_refl _),Lt (by rw[mS _ _ (by rw[hs,hz]),fQ,hs,Nat.mul_one])]
def Zc{l b:List UInt8}{k:Nat}(h:k+b.length<=l.length):PV.seq (l.length:Int).toNat (((jR l k b).flatMap aH).take (jR l k b).length) .any=sq aH (jR l k b):=by
 rw[Eb,List.take_length,Int.toNat_natCast]
 unfold sq
 rw[DK h]
def Um(l:List UInt8)(at_:Int)(b:List UInt8)(hl:l.length<=1000000)(h0:0<=at_)(h1:at_+b.length<=l.length):ab prog 173 [sq aH l,i64 at_,sq aH b] (sq aH (jR l at_.toNat b)):=by
 refine zH func173 fun B=>?_
 refine zP ?_ (q:=(by(simp_all;omega)))
 refine Wd rfl rfl (nL (lO tG rfl) rfl (lO tG rfl) rfl rfl rfl rfl (an _ 1 (fun _=>rfl) _) (bD _ (fun _=>rfl) _) (by rw[mS _ _ rfl];simp)) ?_
 refine jQ (H':=[.cells (l.flatMap aH) 5]) (O6 rfl rfl) ?_
 refine zd ?_
 refine zP ?_ (q:=(by(simp_all;omega)))
 refine Wd rfl rfl (nL (lO tG rfl) rfl (lO tG rfl) rfl rfl rfl rfl (an _ 1 (fun _=>rfl) _) (bD _ (fun _=>rfl) _) (by rw[fQ];dsimp only;split<;>omega)) ?_
 refine jQ (H':=[.cells ((jR l at_.toNat b).flatMap aH) 5]) (congrArg (fun z=>[Ob.cells z 5]) (Pi (by omega) rfl).symm) ?_
 refine Wn<|zp1 ?_
 refine Wm 19 rfl (pc (Nat.le_refl _)) ?_
 refine p8 19 0 _ (jR l at_.toNat b).length rfl rfl (by rw[fQ];exact Nat.le_refl _) ?_
 refine zA 19 rfl (Zc (by omega)) ?_
 rfl
structure cX (m:bh):Prop where
 b:m.b.length<=1000000
 old:m.old.length<=1000000
def cg(m:bh)(at_:Int)(b:List UInt8):bh×Int :=
 if bq m at_ b.length then(if b=[]then(m,0)else(⟨jR m.b at_.toNat b,m.old++[⟨at_,(m.b.drop at_.toNat).take b.length⟩]⟩,0))else(m,-9)
def vl(r:bh×Int):PV:=iy (jj r.1) (i64 r.2)
@[simp] theorem aA1 (r : bh × Int) : aR (vl r) := by simp [vl]
def aD9{n:Nat}(h:n<=1000000):ae n:=by unfold ae;omega
def Jk{m:bh}{at_:Int}{n:Nat}(h:bq m at_ n=true)(h0:n≠0):0<=at_/\at_+n<=m.b.length:=by
 unfold bq at h
 simp only[decide_eq_true_eq]at h
 omega
def Mf{x:Int}(h0:0<=x)(h1:x<=1000000):IntKind.i64.wrap x=x:=by rw[bU];unfold wrap64;omega
def Me{l:List UInt8}{a b:Nat}:(l.take b).drop a=(l.drop a).take (b-a):=by rw[List.drop_take]
def Zz{l:List UInt8}{x:Int}{n:Nat}(h0:0<=x)(h:IntKind.i64.wrap (x+n)=x+n):sq aH ((l.take (IntKind.i64.wrap (x+n)).toNat).drop x.toNat)=sq aH ((l.drop x.toNat).take n):=by
 rw[h,Me];congr 2;omega
def IB{m:bh}{at_:Int}{b:List UInt8}(h:bq m at_ b.length=false):cg m at_ b=(m,-9):=by unfold cg;rw[h];rfl
def FY{m:bh}{at_:Int}{b:List UInt8}(h:bq m at_ b.length=true)(h0:b.length=0):cg m at_ b=(m,0):=by unfold cg;rw[h,if_pos rfl,if_pos (List.eq_nil_of_length_eq_zero h0)]
def Gs{m:bh}{at_:Int}{b:List UInt8}(h:bq m at_ b.length=true)(h0:b.length≠0):cg m at_ b=(⟨jR m.b at_.toNat b,m.old++[⟨at_,(m.b.drop at_.toNat).take b.length⟩]⟩,0):=by
 unfold cg;rw[h,if_pos rfl,if_neg (fun e=>h0 (by rw[e];rfl))]
def nW(m:bh)(at_:Int)(b:List UInt8)(hm:cX m)(ha:ae at_)(hb:b.length<=1000000):ab prog 123 [jj m,i64 at_,sq aH b] (vl (cg m at_ b)):=by
 have hm1:=hm.b
 have hm2:=hm.old
 refine zH func123 fun B=>?_
 refine zC rfl func102 ((pH m at_ b.length (by omega) ha (aD9 hb)) _) ?_
 refine Wi rfl ?_ ?_<;>intro hi1
 ·rw[IB (by simpa using hi1)]
  refine zd ?_
  rfl
 have ht:bq m at_ b.length=true:=by simpa using hi1
 refine zd ?_
 refine Wi rfl ?_ ?_<;>intro hi2
 ·rw[FY ht (by simpa using hi2)]
  refine zd ?_
  rfl
 have hne:b.length≠0:=by simpa using hi2
 obtain⟨k0,k1⟩:=Jk ht hne
 have k2:IntKind.i64.wrap (at_+b.length)=at_+b.length:=Mf (by omega) (by omega)
 refine zd ?_
 refine zW [0,1,0,0,0,1,0,0,0,0,0,0,0,0,0,0,0,3] [0,1,2,3,4,5,6,7,8,9,10,11,12,13,14,15,16,17] ?_
 refine Xc rfl rfl rfl rfl (fun _=>dC rfl func171 rfl rfl ((Fy m.old (by omega)) _)) ?_
 refine zd ?_
 refine z4 ?_ (q:=(by rw[k2];omega))
 refine Xa 30 rfl (cK aH 1 (fun _=>rfl) (by rw[k2];omega)) ?_
 refine Xc rfl rfl rfl rfl (fun _=>dC rfl func172 rfl rfl ((yd _ (by simp;omega)) _)) ?_
 refine Xa 31 rfl (Zz k0 k2) ?_
 iterate 2 refine z3 ?_
 refine Xa 33 rfl ((show PV.seq 1 _ .clip=.seq (List.length [(⟨at_,(m.b.drop at_.toNat).take b.length⟩:rG)]) (List.flatMap jX [(⟨at_,(m.b.drop at_.toNat).take b.length⟩:rG)]) .clip from rfl)) ?_
 refine ew rfl rfl rfl rfl (fun _=>co (lO tG rfl) rfl (lO tG rfl) (lO tG rfl) rfl rfl (by exact⟨_,rfl⟩) (by exact⟨rfl,rfl,an _ 2 (fun _=>rfl) _,bD _ (fun _=>rfl) _⟩) (by exact an _ 2 (fun _=>rfl) _) (by((simp_all;omega))) (by((simp_all;omega))) (by exact fU (bs (fun x=>by simp) _) (bs (fun x=>by simp) _))) ?_
 refine zO 34 rfl (cw jX) ?_
 refine cr tG rfl rfl rfl rfl rfl trivial ?_
 refine zd ?_
 refine zC rfl func173 ((Um _ _ _ hm1 k0 k1) _) ?_
 rw[Gs ht hne];rfl
def loB(n:Int):UInt8:=UInt8.ofNat (n%256).toNat
def Q6(n:Int):IntKind.u8.wrap n=((loB n).toNat:Int):=by
 unfold loB
 rw[UInt8.toNat_ofNat']
 simp[IntKind.wrap,IntKind.bits,IntKind.signed]
 omega
def AC(n:Int):PV.val (.int .u8 (IntKind.u8.wrap n))=.val (.int .u8 ((loB n).toNat:Int)):=by rw[Q6]
def aJ(m:bh)(at_ n:Int):bh×Int:=if cS m at_=0 then cg m at_ (qW n)else(m,cS m at_)
def ny(m:bh)(at_ n:Int):bh×Int:=cg m at_ [loB n]
def d9(m:bh)(at_:Int):Int×Int:=if bq m at_ 1 then(((m.b.getD at_.toNat 0).toNat:Int),0)else(0,-9)
def dP(m:bh)(at_ n:Int):List UInt8×Int:=if bq m at_ n then((m.b.drop at_.toNat).take n.toNat,0)else([],-9)
def nu(m:bh)(x to_ n:Int):bh×Int:=if (dP m x n).2=0 then cg m to_ (dP m x n).1 else(m,(dP m x n).2)
def nv(m:bh)(at_ n c:Int):bh×Int:=if bq m at_ n then cg m at_ (List.replicate n.toNat (loB c))else(m,-9)
def Sr(r:List UInt8×Int):PV:=iy (sq aH r.1) (i64 r.2)
@[simp] theorem ah7 (r : List UInt8 × Int) : aR (Sr r) := by simp [Sr]
def jE(m:bh)(at_ n:Int)(hm:cX m)(ha:ae at_):ab prog 92 [jj m,i64 at_,i64 n] (vl (aJ m at_ n)):=by
 have hm1:=hm.b
 have hm2:=hm.old
 refine zH func92 fun B=>?_
 refine zC rfl func72 ((Aw m at_ (by omega) ha) _) ?_
 refine Wi rfl ?_ ?_<;>intro hi1
 ·have h0:cS m at_≠0:=by simpa using hi1
  refine zd ?_
  rw[aJ,if_neg h0];rfl
 have h0:cS m at_=0:=by simpa using hi1
 refine zd ?_
 refine zW [1,0,0,0,0,0,0,3,0] [0,1,2,3,4,5,6,7,8] ?_
 refine Xc rfl rfl rfl rfl (fun _=>dC rfl func124 rfl rfl ((DY n) _)) ?_
 refine Xc rfl rfl rfl rfl (fun _=>dC rfl func123 rfl rfl ((nW m at_ (qW n) hm ha (by rw[k9];omega)) _)) ?_
 refine zd ?_
 refine cr tG rfl rfl rfl rfl rfl trivial ?_
 refine zd ?_
 rw[aJ,if_pos h0];rfl
def Cc(m:bh)(at_ n:Int)(hm:cX m)(ha:ae at_):ab prog 300 [jj m,i64 at_,i64 n] (vl (ny m at_ n)):=by
 refine zY func300 fun B=>?_
 refine zu3 ?_
 refine zp4 ?_
 refine Wa 11 rfl (AC n) ?_
 refine z1 ?_
 refine Wa 12 rfl (bsL aH [_] rfl rfl) ?_
 refine zC rfl func123 ((nW m at_ [loB n] hm ha (by simp)) _) ?_
 rfl
def aJ4(b:UInt8):IntKind.i64.wrap (b.toNat:Int)=b.toNat:=by have:=b.toNat_lt;rw[bU];unfold wrap64;omega
def t7(m:bh)(at_:Int)(hm:cX m)(ha:ae at_):ab prog 296 [jj m,i64 at_] (qR (d9 m at_)):=by
 have hm1:=hm.b
 refine zH func296 fun B=>?_
 refine zC rfl func102 ((pH m at_ 1 (by omega) ha (aD9 (n:=1) (by omega))) _) ?_
 refine Wi rfl ?_ ?_<;>intro hi1
 ·refine zd ?_
  rw[d9,if_neg (by simpa using hi1)];rfl
 have ht:bq m at_ 1=true:=by simpa using hi1
 obtain⟨k0,k1⟩:=Jk (n:=1) ht (by omega)
 refine zd ?_
 refine Wv tG rfl rfl rfl (by omega) (iR aH 1 (fun _=>rfl) 0 (by omega)) ?_
 refine zd ?_
 rw[d9,if_pos ht];exact congrArg (fun z=>iy (i64 z) (i64 0)) (aJ4 _)
def ak1{m:bh}{at_ n:Int}(h:bq m at_ n=true)(h0:n≠0):0<n/\0<=at_/\at_+n<=m.b.length:=by
 unfold bq at h
 simp only[decide_eq_true_eq]at h
 omega
def Wh{l:List UInt8}{x n:Int}(h0:0<=x)(h1:0<=n)(h:IntKind.i64.wrap (x+n)=x+n):sq aH ((l.take (IntKind.i64.wrap (x+n)).toNat).drop x.toNat)=sq aH ((l.drop x.toNat).take n.toNat):=by
 rw[h,Me];congr 2;omega
def Ap(m:bh)(at_ n:Int)(hm:cX m)(ha:ae at_)(hn:ae n):ab prog 257 [jj m,i64 at_,i64 n] (Sr (dP m at_ n)):=by
 have hm1:=hm.b
 refine zH func257 fun B=>?_
 refine zC rfl func102 ((pH m at_ n (by omega) ha hn) _) ?_
 refine Wi rfl ?_ ?_<;>intro hi1
 ·have ht:¬bq m at_ n=true:=by simpa using hi1
  refine zd ?_
  rw[dP,if_neg ht];rfl
 have ht:bq m at_ n=true:=by simpa using hi1
 refine zd ?_
 refine Wi rfl ?_ ?_<;>intro hi2
 ·have hz:n=0:=by simpa using hi2
  refine zd ?_
  rw[dP,if_pos ht,hz];rfl
 obtain⟨k0,k1,k3⟩:=ak1 ht (by simpa using hi2)
 have k2:IntKind.i64.wrap (at_+n)=at_+n:=Mf (by omega) (by omega)
 refine zd ?_
 refine z2 ?_ (q:=(by rw[k2];omega))
 refine Wa 21 rfl (cK aH 1 (fun _=>rfl) (by rw[k2];omega)) ?_
 refine Wa 21 rfl (Wh k1 (by omega) k2) ?_
 refine zC rfl func172 ((yd _ (by simp;omega)) _) ?_
 rw[dP,if_pos ht];rfl
def In{m:bh}{at_ n:Int}(hm:cX m):(dP m at_ n).1.length<=1000000:=by
 have:=hm.b
 unfold dP
 split
 ·simp;omega
 simp
def U6(m:bh)(x to_ n:Int)(hm:cX m)(hx:ae x)(ht:ae to_)(hn:ae n):ab prog 307 [jj m,i64 x,i64 to_,i64 n] (vl (nu m x to_ n)):=by
 refine zH func307 fun B=>?_
 refine zC rfl func257 ((Ap m x n hm hx hn) _) ?_
 refine Wi rfl ?_ ?_<;>intro hi1
 ·have h0:¬(dP m x n).2=0:=by simpa using hi1
  refine zd ?_
  rw[nu,if_neg h0];rfl
 have h0:(dP m x n).2=0:=by simpa using hi1
 refine zd ?_
 refine zC rfl func123 ((nW m to_ _ hm ht (In hm)) _) ?_
 rw[nu,if_pos h0];rfl
def gR(p:dV)(c:Int):dV×Int:=if p.on=true/\p.b.length<130 then(⟨p.b++[loB c],p.on⟩,0)else(p,-17)
def oZ(p:dV)(n:Int):dV×Int:=if 0<=n then(p,0)else gR p 45
def N6(r:dV×Int):PV:=iy (wt r.1) (i64 r.2)
@[simp] theorem ay3 (r : dV × Int) : aR (N6 r) := by simp [N6]
def PL:ab prog 337 [] (wt ⟨[],true⟩):=by
 refine zH func337 fun B=>?_
 rfl
def Bl{p:dV}{c:Int}(h:¬(p.on=true/\p.b.length<130)):gR p c=(p,-17):=by unfold gR;rw[if_neg h]
def JA{p:dV}{c:Int}(h:p.on=true/\p.b.length<130):gR p c=(⟨p.b++[loB c],p.on⟩,0):=by unfold gR;rw[if_pos h]
def BJ(p:dV)(c:Int)(hp:p.b.length<=1000000):ab prog 342 [wt p,i64 c] (N6 (gR p c)):=by
 refine zY func342 fun B=>?_
 refine zu3 ?_
 refine Ws<|zp4 ?_
 refine zB 10 (fun hg1=>?_) (fun hg1=>?_)
 ·refine Wt rfl rfl ?_
  refine zu3 ?_
  refine zR ?_
  have hno:¬(p.on=true/\p.b.length<130):=by rintro⟨q1,q2⟩;(try simp only[dnL]at *);(try simp_all)<;>omega
  rw[Bl hno];rfl
 refine Wi rfl ?_ ?_<;>intro hi1
 ·refine zu3 ?_
  refine zR ?_
  have hno:¬(p.on=true/\p.b.length<130):=by rintro⟨q1,q2⟩;(try simp only[dnL]at *);(try simp_all)<;>omega
  rw[Bl hno];rfl
 refine zd ?_
 refine z2 ?_ (q:=(by(simp_all;done)))
 refine Wa 24 rfl (cK aH 1 (fun _=>rfl) (by omega)) ?_
 refine Wa 24 rfl ((show _=sqc aH p.b by simp[sqc];rfl)) ?_
 refine zy2 ?_
 refine Wa 26 rfl (AC c) ?_
 refine z1 ?_
 refine Wa 27 rfl (bsL aH [_] rfl rfl) ?_
 refine Wd rfl rfl (cd (lO tG rfl) rfl (lO tG rfl) (lO tG rfl) rfl rfl (by exact⟨_,rfl⟩) (by exact⟨rfl,rfl,an _ 1 (fun _=>rfl) _,bD _ (fun _=>rfl) _⟩) (by exact an _ 1 (fun _=>rfl) _) (by((simp_all;omega))) (by((simp_all;omega)))) ?_
 refine Wa 28 rfl (cw aH) ?_
 refine zs2 ?_
 refine zu3 ?_
 refine zR ?_
 have hon:p.on=true:=by(try simp only[dnL]at *);simp_all
 have hyes:p.on=true/\p.b.length<130:=⟨hon,by(try simp only[dnL]at *);omega⟩
 rw[JA hyes];rfl
end Go.Proofs.YtjcminooghmpeaaGreatDoor
