import Derived.Test.YtjcminooghmpeaaGreatDoorPk10
set_option linter.all false
set_option maxRecDepth 100000
set_option maxHeartbeats 40000000
open Go.Proofs.Tryz
namespace Go.Proofs.YtjcminooghmpeaaGreatDoor
open Go.RowKit Go.Extern.Stop Go.Stop Go.Extern
def Kh(t:Addr)(w:World):(ReflectliteValue.unpack (.iface 143 (.pointer (some t)))).run prog w
  = .ok (.agg #[.pointer (some ⟨5,143,none⟩),.pointer (some ⟨w.heap.size,0,none⟩),.int .u64 150]) (w.alloc (.cells #[.pointer (some t)] 143)):=by kernel_rfl
def VJ (a : Addr) (w : World) : (ReflectliteValue.methodAny (ReflectliteValue.valueError "reflectlite.Value.Type" 0) (fun t _ _ _ => ReflectliteType.toType t) #[.agg #[.pointer (some ⟨5, 143, none⟩), .pointer (some a), .int .u64 150]]).run prog w
  = .ok (.iface 221 (.agg #[.pointer (some ⟨5,143,none⟩)])) w:=by kernel_rfl
def QN (h : Value) (w : World) : (Go.method 513 221 (.agg #[h]) "Kind").run prog w = .ok (408, h) w := by kernel_rfl
def R8(w:World):((ReflectliteType.abiMethod fun t=>(fun a:Nat=>Value.int IntKind.u8 (a:Int)) <$> Rtype.kind t) #[.pointer (some ⟨5,143,none⟩)]).run prog w=.ok (.int .u8 22) w:=by kernel_rfl
def Uf(w:World):((ReflectliteType.abiMethod fun t=>(fun a:Nat=>Value.int IntKind.u8 (a:Int)) <$> Rtype.kind t) #[.pointer (some ⟨5,141,none⟩)]).run prog w=.ok (.int .u8 25) w:=by kernel_rfl
def Qi(z:Sem Value)(f:TypeId->Addr->Nat->Nat->Sem Value)(v:Value):
  ReflectliteValue.method z f #[v]=(do match <-ReflectliteValue.parts v with|none=>z|some (t,a,fl)=>f t a fl (fl%32)):=rfl
def Db(a:Addr)(w:World):(ReflectliteValue.parts (.agg #[.pointer (some ⟨5,143,none⟩),.pointer (some a),.int .u64 150])).run prog w=.ok (some (143,a,150)) w:=by kernel_rfl
def Qt(a p:Addr)(W:World)(ha:W.cell? a=some (.pointer (some p))):
  (ReflectliteValue.method (ReflectliteValue.valueError "reflectlite.Value.IsNil" 0) ReflectliteValue.isNil #[.agg #[.pointer (some ⟨5, 143, none⟩), .pointer (some a), .int .u64 150]]).run prog W = .ok (.bool false) W := by
 rw[Qi]
 simp only[Sem.run_bind,Db,Result.andThen]
 simp[ReflectliteValue.isNil,loadVar,isAgg,underlying,underlying143,ha,Result.andThen]
def TC (h : Value) (w : World) : (Go.method 513 221 (.agg #[h]) "Elem").run prog w = .ok (421, .agg #[h]) w := by kernel_rfl
def TX (h : Value) (w : World) : (Go.method 513 221 (.agg #[h]) "Implements").run prog w = .ok (422, .agg #[h]) w := by kernel_rfl
def KK (h : Value) (w : World) : (Go.method 513 221 (.agg #[h]) "AssignableTo").run prog w = .ok (419, .agg #[h]) w := by kernel_rfl
def VL(w:World):(ReflectliteType.method ReflectliteType.elem #[.agg #[.pointer (some ⟨5,143,none⟩)]]).run prog w=.ok (.iface 221 (.agg #[.pointer (some ⟨5,141,none⟩)])) w:=by kernel_rfl
def VE (w : World) : (ReflectliteType.relation "Implements" ReflectliteType.implements_ #[.agg #[.pointer (some ⟨5, 141, none⟩)], .iface 221 (.agg #[.pointer (some ⟨5, 87, none⟩)])]).run prog w = .ok (.bool true) w := by kernel_rfl
def S6(v:Value)(w:World):(ReflectliteType.typeOf #[.iface 141 v]).run prog w=.ok (.iface 221 (.agg #[.pointer (some ⟨5,141,none⟩)])) w:=by kernel_rfl
def Yq (w : World) : (ReflectliteType.relation "AssignableTo" ReflectliteType.assignableTo #[.agg #[.pointer (some ⟨5, 141, none⟩)], .iface 221 (.agg #[.pointer (some ⟨5, 141, none⟩)])]).run prog w = .ok (.bool true) w := by kernel_rfl
def NS(c:Int)(w:World):(ReflectliteValue.unpack (.iface 141 (.agg #[.int .i64 c]))).run prog w
  = .ok (.agg #[.pointer (some ⟨5,141,none⟩),.pointer (some ⟨w.heap.size,0,none⟩),.int .u64 153]) (w.alloc (.cells #[.int .i64 c] 141)):=by kernel_rfl
def Nn(w:World):(Rtype.elem? 143).run prog w=.ok (some 141) w:=by kernel_rfl
def ay1(p:Addr)(w:World):(ReflectliteValue.mk 141 p ReflectliteValue.flagAddr).run prog w=.ok (.agg #[.pointer (some ⟨5,141,none⟩),.pointer (some p),.int .u64 409]) w:=by kernel_rfl
def SJ(a p:Addr)(W:World)(ha:W.cell? a=some (.pointer (some p))):
  (ReflectliteValue.method (ReflectliteValue.valueError "reflectlite.Value.Elem" 0) ReflectliteValue.elem #[.agg #[.pointer (some ⟨5, 143, none⟩), .pointer (some a), .int .u64 150]]).run prog W
   = .ok (.agg #[.pointer (some ⟨5,141,none⟩),.pointer (some p),.int .u64 409]) W:=by
 rw[Qi]
 simp only[Sem.run_bind,Db,Result.andThen]
 simp[ReflectliteValue.elem,loadVar,isAgg,underlying,underlying143,ha,Result.andThen,Nn,ay1]
def M4(a:Addr)(w:World):(ReflectliteValue.parts (.agg #[.pointer (some ⟨5,141,none⟩),.pointer (some a),.int .u64 409])).run prog w=.ok (some (141,a,409)) w:=by kernel_rfl
def OW(a:Addr)(w:World):(ReflectliteValue.parts (.agg #[.pointer (some ⟨5,141,none⟩),.pointer (some a),.int .u64 153])).run prog w=.ok (some (141,a,153)) w:=by kernel_rfl
def Nb(w:World):(Rtype.directlyAssignable 141 141).run prog w=.ok true w:=by kernel_rfl
def ad4(v x:Value):ReflectliteValue.set #[v,x]=(do
  let (some (dst,a,fl),some (src,b,_)):=(<-ReflectliteValue.parts v,<-ReflectliteValue.parts x)
   | unsupported (.noEntry "extern/(internal/reflectlite.Value).Set.zeroValue")
  if fl / ReflectliteValue.flagAddr % 2 == 0 then unsupported (.noEntry "extern/(internal/reflectlite.Value).Set.unaddressable")
  let val <-loadVar src b
  if <-Rtype.directlyAssignable dst src then storeVar dst a val
  else if <-Rtype.implements dst src then
   if (<-Rtype.kind src)==20 then
    match val with
    | .nilIface => unsupported (.noEntry "extern/reflectlite: a nil value of one interface type handed on as a value of another")
    | _=>storeVar dst a val
   else storeVar dst a (.iface src val)
  else panicString ("reflectlite.Set: value of type " ++ (← Rtype.spelt src) ++ " is not assignable to type " ++ (← Rtype.spelt dst))
  pure (.tuple #[])):=rfl
def MF(w:World):(sizeOf 141).run prog w=.ok 1 w:=by kernel_rfl
def aa1(ta b:Addr)(c:Int)(old:Value)(W:World)(hb:W.cell? b=some (.int .i64 c))(ht:W.cell? ta=some old)(hf:W.frozen? ta=false):
  (ReflectliteValue.set #[.agg #[.pointer (some ⟨5,141,none⟩),.pointer (some ta),.int .u64 409],.agg #[.pointer (some ⟨5,141,none⟩),.pointer (some b),.int .u64 153]]).run prog W
   = .ok (.tuple #[]) (W.setCell ta (.int .i64 c)):=by
 have hl:(loadVar 141 b).run prog W=.ok (.agg #[.int .i64 c]) W:=by
  have h1:=run_loadCells_list (P:=prog) W b [.int .i64 c] (fun j v hj=>by
   match j,hj with
   | 0,hj=>cases hj;rw[show b.add 0=b from by simp[Addr.add]];exact hb
   | j+1,hj=>simp at hj)
  unfold loadVar
  have h2:(loadCells b 1).run prog W=.ok #[.int .i64 c] W:=by simpa using h1
  simp[isAgg,underlying,underlying141,Result.andThen,MF,h2]
 have hs:(storeVar 141 ta (.agg #[.int .i64 c])).run prog W=.ok () (W.setCell ta (.int .i64 c)):=by
  simp[storeVar,Value.cells,storeCells,Addr.add,MF,Result.andThen]
  rw[run_store prog W ta _ _ (by rfl)]
  simp[ht,hf]
 rw[ad4]
 simp only[Sem.run_bind,M4,OW,Result.andThen]
 simp[ReflectliteValue.flagAddr,hl,hs,Result.andThen,Nb]
def Wz(c:Int)(t:Addr)(old:Value)(w:World)(hg:w.cell? ⟨0,0,none⟩=some (.iface 221 (.agg #[.pointer (some ⟨5,87,none⟩)])))(ht0:w.cell? t=some old)(hf0:w.frozen? t=false):
  Calls prog 83 #[.iface 141 (.agg #[.int .i64 c]),.iface 143 (.pointer (some t))] w fun ev w'=>ev=.returned (.bool true)/\∃w1,ba w w1/\w'=w1.setCell t (.int .i64 c):=by
 have h6:=@run_callFunc_extern prog 108 _ (fun args=>ReflectliteValue.unpack (args.getD 0 (.tuple #[]))) func108 (by kernel_rfl) (by kernel_rfl) (by kernel_rfl) (by kernel_rfl)
 have h7 := @run_callFunc_extern prog 109 _ (ReflectliteValue.methodAny (ReflectliteValue.valueError "reflectlite.Value.Type" 0) (fun t _ _ _ => ReflectliteType.toType t)) func109 (by kernel_rfl) (by kernel_rfl) (by kernel_rfl) (by kernel_rfl)
 have h8 := @run_callFunc_extern prog 110 _ (ReflectliteValue.method (ReflectliteValue.valueError "reflectlite.Value.IsNil" 0) ReflectliteValue.isNil) func110 (by kernel_rfl) (by kernel_rfl) (by kernel_rfl) (by kernel_rfl)
 have h27:=@run_callFunc_extern prog 408 _ (ReflectliteType.abiMethod fun t=>do pure (.int .u8 (<-Rtype.kind t))) func408 (by kernel_rfl) (by kernel_rfl) (by kernel_rfl) (by kernel_rfl)
 have h37:=@run_callFunc_extern prog 421 _ (ReflectliteType.method ReflectliteType.elem) func421 (by kernel_rfl) (by kernel_rfl) (by kernel_rfl) (by kernel_rfl)
 have h38 := @run_callFunc_extern prog 422 _ (ReflectliteType.relation "Implements" ReflectliteType.implements_) func422 (by kernel_rfl) (by kernel_rfl) (by kernel_rfl) (by kernel_rfl)
 have h10:=@run_callFunc_extern prog 155 _ ReflectliteType.typeOf func155 (by kernel_rfl) (by kernel_rfl) (by kernel_rfl) (by kernel_rfl)
 have h35 := @run_callFunc_extern prog 419 _ (ReflectliteType.relation "AssignableTo" ReflectliteType.assignableTo) func419 (by kernel_rfl) (by kernel_rfl) (by kernel_rfl) (by kernel_rfl)
 have h11 := @run_callFunc_extern prog 156 _ (ReflectliteValue.method (ReflectliteValue.valueError "reflectlite.Value.Elem" 0) ReflectliteValue.elem) func156 (by kernel_rfl) (by kernel_rfl) (by kernel_rfl) (by kernel_rfl)
 have h12:=@run_callFunc_extern prog 157 _ ReflectliteValue.set func157 (by kernel_rfl) (by kernel_rfl) (by kernel_rfl) (by kernel_rfl)
 have tT:=S6
 have mA:=KK
 have aT:=Yq
 have vT:=NS
 have f6:=Kh
 have f7:=VJ
 have mK:=QN
 have mE:=TC
 have mI:=TX
 have kP:=R8
 have kT:=Uf
 have eP:=VL
 have iT:=VE
 have hlt:0<w.heap.size:=by
  rcases Nat.lt_or_ge 0 w.heap.size with h|h
  ·exact h
  simp[World.cell?,Array.getElem?_eq_none h]at hg
 have htl:t.block<w.heap.size:=by
  rcases Nat.lt_or_ge t.block w.heap.size with h|h
  ·exact h
  simp[World.cell?,Array.getElem?_eq_none h]at ht0
 let A1:Obj:=.cells #[.pointer (some t)] 143
 let A2:Obj:=.cells #[.pointer (some ⟨5,143,none⟩),.pointer (some ⟨w.heap.size,0,none⟩),.int .u64 150] 184
 let A5:Obj:=.cells #[.int .i64 c] 141
 have n8:=Qt ⟨w.heap.size,0,none⟩ t ((w.alloc A1).alloc A2) (by simp[A1])
 have hg2:((w.alloc A1).alloc A2).cell? ⟨0,0,none⟩=some (.iface 221 (.agg #[.pointer (some ⟨5,87,none⟩)])):=by
  rw[World.cell?_alloc_lt _ _ ⟨0,0,none⟩ (by(simp;done)),World.cell?_alloc_lt _ _ ⟨0,0,none⟩ hlt];exact hg
 have el:=SJ ⟨w.heap.size,0,none⟩ t (((w.alloc A1).alloc A2).alloc A2) (by rw[World.cell?_alloc_lt _ _ ⟨w.heap.size,0,none⟩ (by(simp;omega)),World.cell?_alloc_lt _ _ ⟨w.heap.size,0,none⟩ (by simp)];simp[A1])
 have st:=aa1 t ⟨w.heap.size+1+1+1,0,none⟩ c old ((((w.alloc A1).alloc A2).alloc A2).alloc A5)
  (by rw[World.cell?_alloc_at _ _ _ _ (by simp)];rfl)
  (by rw[World.cell?_alloc_lt _ _ t (by(simp;omega)),World.cell?_alloc_lt _ _ t (by(simp;omega)),World.cell?_alloc_lt _ _ t (by(simp;omega)),World.cell?_alloc_lt _ _ t htl];exact ht0)
  (by rw[World.frozen?_alloc_old _ _ t (by(simp;omega)),World.frozen?_alloc_old _ _ t (by(simp;omega)),World.frozen?_alloc_old _ _ t (by(simp;omega)),World.frozen?_alloc_old _ _ t (Nat.ne_of_lt htl)];exact hf0)
 simp only[A1,A2,A5]at n8 hg2 el st
 clear A1 A2 A5
 go_enter func83,ntmps83
 go_wp2
 refine wp_loop_rounds 1 ?_
 rw[rounds_succ]
 go_wp2
 go_ret
 exact⟨rfl,_,(((ba.alloc _ _).trans (ba.alloc _ _)).trans (ba.alloc _ _)).trans (ba.alloc _ _),rfl⟩
def V2(t:Value)(w:World):Calls prog 83 #[.nilIface,t] w fun ev w'=>ev=.returned (.bool false)/\w'=w:=by
 go_enter func83,ntmps83
 go_wp2
 go_ret
 exact⟨rfl,rfl⟩
def aD4(k:Int){x0:PV}(H:List Ob)(i j:Nat)(hi:H[i]?=some (.cells [x0] 141))(hj:H[j]?=some (.glob 0 etV)):
  HC prog 83 [.ifc 141 (.agg [i64 k]),.ifc 143 (.ptr i 0)] H (boo true) (H.set i (.cells [i64 k] 141)):=by
 intro B σ w vs s hv
 obtain⟨b,vs0,fr,hb,hw,hfr,p,q,rfl,hp⟩:=s.holds i _ hi
 simp only[cx]at hb hw
 match p,hp with
 | [],hp=>have:=au.length hp;simp at this
 | _::_::_,hp=>have:=au.length hp;simp at this
 | [old],hp =>
 have hvs:vs=[.iface 141 (.agg #[.int .i64 k]),.iface 143 (.pointer (some ⟨b,0,none⟩))]:=vL hv (fun u hu=>y6 hu) (fun u hu=>by
  unfold Rep at hu
  obtain⟨z,rfl,hz⟩:=hu
  unfold Rep at hz
  obtain⟨_,b2,h2,rfl⟩:=hz
  simp only[cx]at h2
  rw[hb]at h2;cases h2;rfl)
 subst hvs
 obtain⟨hg,_⟩:=s.holds j _ hj
 have ht0:w.cell? ⟨b,0,none⟩=some old:=by rw[fc hw];rfl
 have hf0:w.frozen? ⟨b,0,none⟩=false:=by
  rcases hfr with rfl|hz
  ·simp[World.frozen?,hw]
  obtain⟨lo,hi'⟩:=fr
  simp only[World.frozen?,hw,Bool.and_eq_false_iff,decide_eq_false_iff_not]
  simp only[List.length_append,List.length_cons]at hz
  exact .inl (by omega)
 refine Calls.mono (Wz k ⟨b,0,none⟩ old w hg ht0 hf0) ?_
 rintro e w' ⟨rfl,w1,g,rfl⟩
 obtain⟨s1,st1⟩:=gc s g
 have hw1:w1.heap[b]?=some (Obj.cells (old::q).toArray 141 fr):=(g.block b (Array.getElem?_eq_some_iff.1 hw).1).trans hw
 obtain⟨s2,st2⟩:=lK s1 (ys:=[i64 k]) (us:=.int .i64 k::q) hi hb hw1 hfr rfl ⟨[.int .i64 k],q,rfl,aj.2 ⟨aq _ _,az.2 rfl⟩⟩
 have e1:w1.setCell ⟨b,0,none⟩ (.int .i64 k)=w1.setRow b (Value.int .i64 k::q).toArray:=by
  rw[setCell_eq_setRow w1 b 0 _ _ _ _ hw1];simp
 rw[e1]
 exact⟨.bool true,σ,rfl,aq _ _,s2,st1.trans st2⟩
def aw9(H:List Ob)(y:PV):HC prog 83 [.val .nilIface,y] H (boo false) H:=by
 intro B σ w vs s hv
 match vs,hv with
 | [],hv=>have:=au.length hv;simp at this
 | [_],hv=>have:=au.length hv;simp at this
 | p::q::r::l,hv=>have:=au.length hv;simp at this
 | [p,q],hv =>
 have hp:p=.nilIface:=Bw (aj.1 hv).1
 subst hp
 refine Calls.mono (V2 q w) ?_
 rintro e w' ⟨rfl,rfl⟩
 exact⟨.bool false,σ,rfl,aq _ _,s,dR.refl _ _ _ _⟩
open Go.RowKit
def af0{P:Program}{f:FuncId}{x y:PV}{l:List PV}{H H':List Ob}{res:PV}(h:Imp x y)(k:HC P f (y::l) H res H'):HC P f (x::l) H res H':=by
 intro B σ w vs s hv
 match vs,hv with
 | [],hv=>have:=au.length hv;simp at this
 | v::vs,hv=>exact k B σ w (v::vs) s (aj.2 ⟨h _ _ (aj.1 hv).1,(aj.1 hv).2⟩)
def Vm(e:Int):Imp (.val (.iface 141 (.agg #[.int .i64 e]))) (.ifc 141 (.agg [i64 e])):=fun c v h=>by
 rw[Bw h]
 unfold Rep
 refine⟨_,rfl,?_⟩
 unfold Rep
 exact⟨[.int .i64 e],rfl,aj.2 ⟨aq _ _,az.2 rfl⟩⟩
def gm(a:Addr)(e:Int):∀(H:List Ob),(∀o∈hJ a,∃k:Nat,H[k]?=some o)->HC prog 44 [BR e] H (i64 e) H:=by
 by_cases he:e=0
 ·subst he
  refine it (gj a) tG (rs:=[.tmp 2]) func44 rfl rfl rfl (by simp) (by simp) (fun B=>?_)
  refine zu1 ?_
  refine zu1 ?_
  refine Ws<|zp1 ?_
  refine Wa 4 rfl (aE4) ?_
  refine Wd rfl rfl (qk rfl (by kernel_rfl) rfl) ?_
  refine zc rfl func83 (aw9 _ _) ?_
  refine Wn<|Wf rfl (by rfl) ?_
  refine Wj<|zu1 ?_
  refine zR ?_
  rfl
 have h1:=SD he
 refine it (gj a) tG (rs:=[.tmp 2]) func44 rfl rfl rfl (by simp) (by simp) (fun B=>?_)
 refine zu1 ?_
 refine zu1 ?_
 refine Ws<|zp1 ?_
 refine Wa 4 rfl (h1) ?_
 refine Wd rfl rfl (qk rfl (by kernel_rfl) rfl) ?_
 refine zc rfl func83 (af0 (Vm e) (aD4 e _ 2 1 rfl rfl)) ?_
 refine Wn<|Wt rfl (by rfl) ?_
 refine zu3 ?_
 refine zR ?_
 rfl
def SmE(e:Int):Prop:=-1000<=e/\e<=0
def SmE.fit{e:Int}(h:SmE e):ae e:=by unfold SmE at h;unfold ae;omega
def smk{e:Int}(h:(decide (-1000<=e)&&decide (e<=0))=true):SmE e:=by
 rw[Bool.and_eq_true]at h;exact⟨oT h.1,oT h.2⟩
def Tn(m:bn)(here:Int)(b:List UInt8):SmE (dg m here b).2.2:=by unfold dg;split;exact(smk rfl:SmE (-8));exact(smk rfl:SmE 0)
def PR(m:bn)(here n:Int):SmE (cy m here n).2.2:=by
 unfold cy;split
 ·exact Tn _ _ _
 exact(smk rfl:SmE (-23))
def TE(s:Str):SmE (fy s):=by
 unfold fy SmE
 (repeat' split)<;>exact⟨by decide,by decide⟩
def ah8(l:List aS)(name:Str)(xt flags limit:Int):SmE (cE l name xt flags limit).2:=by
 unfold cE
 by_cases q1:fy name≠0
 ·rw[if_pos q1];exact TE name
 rw[if_neg q1]
 by_cases q2:(if 1024<limit then 1024 else limit)<=(l.length:Int)
 ·rw[if_pos q2];exact(smk rfl:SmE (-8))
 rw[if_neg q2];exact(smk rfl:SmE 0)
def RA{w:FW}{e:Int}(h:SmE w.bad)(he:SmE e):SmE (okF w e).bad:=by unfold okF;split;exact he;exact h
def W2{w:FW}(h:SmE w.bad)(n:Int):SmE (cg w n).bad:=by
 unfold cg;split
 ·exact PR _ _ _
 exact h
def Gl:∀(l:List Int) (w:FW),SmE w.bad->SmE (l.foldl cg w).bad
 | [],_,h=>h
 | x::l,w,h=>Gl l _ (W2 h x)
def Vg{w:FW}(h:SmE w.bad)(name:Str)(flags:Int)(l:List Int):SmE (eS w name flags l).1.bad:=by
 refine Gl l _ ?_
 have q:SmE (okF (okF w (aN w.f.vm.mem w.f.vm.here).2.2) (cE w.f.vm.dict name (aN w.f.vm.mem w.f.vm.here).2.1 flags w.f.vm.conf.words).2).bad:=RA (RA h (Tn _ _ _)) (ah8 _ _ _ _ _)
 unfold fP
 split
 ·exact q
 exact q
def JR(f:af)(name:Str)(last:Bool)(l:List Int):SmE (cK f name last l).2:=by
 unfold cK
 split
 ·exact(smk rfl:SmE (-29))
 unfold gU
 split
 ·have q:SmE (eS (aK f) name 0 l).1.bad:=Vg (by unfold aK;split;exact(smk rfl:SmE 0);exact(smk rfl:SmE (-29))) _ _ _
  unfold jm;split<;>exact q
 exact(smk rfl:SmE 0)
def KP{l:ai}{e:Int}(h:SmE l.err)(he:SmE e):SmE (oOk l e).err:=by unfold oOk;split;exact he;exact h
def Ld{l:ai}(h:SmE l.err):SmE (bW l).1.err:=by
 unfold bW;split
 ·exact KP h (smk rfl:SmE (-16))
 exact h
def WM{l:ai}{r:af×Int}(h:SmE l.err)(he:SmE r.2):SmE (lx l r).err:=by
 unfold lx;split
 ·exact KP h he
 exact KP h he
def Oc{l:ai}(h:SmE l.err):SmE (eJ l).err:=by
 unfold eJ jR;split
 ·exact WM (Ld h) (JR _ _ _ _)
 exact Ld h
def az6{N k:Nat}{f:af}(g:bf N f.vm)(hk:N+k<=1000000):FK k f:=by
 have R:=g.right
 have hc:=R.gE
 unfold eO at hc
 have h1:=R.len
 have h2:=R.jV
 have h3:=R.jZ
 have h4:=g.old
 have h5:=R.handl
 have h6:=R.dict
 have h7:f.vm.dict.length<=1024:=by
  unfold iC at h6
  simp only[Bool.and_eq_true,decide_eq_true_eq]at h6
  exact h6.2
 exact⟨by omega,by omega,h2,by omega,by omega,tW h6,by omega⟩
def K8{N:Nat}{f:af}(g:bf N f.vm)(name:Str)(last:Bool)(l:List Int):bf (N+1+l.length) (cK f name last l).1.vm:=by
 unfold cK
 split
 ·exact g.up (by omega)
 unfold gU
 split
 ·exact g.up (by omega)
 have q:=EF (l:=l) (w:=aK f) g name (flags:=0) (by decide) (by decide)
 unfold jm;split
 ·exact yT q (xE g)
 exact q
def OM{N:Nat}{l:ai}(g:bf N l.f.vm):bf (N+3) (eJ l).f.vm:=by
 have e:=(lX l).1
 unfold eJ jR
 split
 ·rcases JX (bW l).1 (cK (bW l).1.f (bW l).2 true [257,0])with q|q
  ·rw[q,e];exact K8 g _ _ [257,0]
  rw[q,e];exact g.up (by omega)
 rw[e];exact g.up (by omega)
def kQ(l:ai)(r:bJ):ai:=⟨⟨r.vm,l.f.comp⟩,l.s,l.at_,0,0⟩
def KR(v:VVm)(r:bJ)(ip:Int):bJ:=⟨v,ip,0,false,W64 (r.fuel-1)⟩
def jd(l:ai)(r:bJ)(ip:Int):ai×bJ×Int :=
 if r.fuel<1 then(l,r,-256)else if (eJ (kQ l r)).err=0 then({l with at_:=(eJ (kQ l r)).at_},KR (eJ (kQ l r)).f.vm r ip,0)else(l,ct (KR r.vm r ip) (eJ (kQ l r)).err)
def S7{l:ai}{r:bJ}{ip:Int}(h:r.fuel<1):jd l r ip=(l,r,-256):=by unfold jd;rw[if_pos h]
def aB3{l:ai}{r:bJ}{ip:Int}(h:¬r.fuel<1)(q:(eJ (kQ l r)).err=0):jd l r ip=({l with at_:=(eJ (kQ l r)).at_},KR (eJ (kQ l r)).f.vm r ip,0):=by unfold jd;rw[if_neg h,if_pos q]
def aw2{l:ai}{r:bJ}{ip:Int}(h:¬r.fuel<1)(q:¬(eJ (kQ l r)).err=0):jd l r ip=(l,ct (KR r.vm r ip) (eJ (kQ l r)).err):=by unfold jd;rw[if_neg h,if_neg q]
def XA(a:Addr)(l:ai)(r:bJ)(ip:Int)(N:Nat)(g:bf N r.vm)(hN:N+3<=1000000)(hs:l.s.length<=1000000):∀(H:List Ob) (i:Nat),H[i]?=some (.cells (aR l) 89)->(∀o∈hJ a,∃k:Nat,H[k]?=some o)->HC prog 86 (.ptr i 0::[xy r,i64 ip]) H (MG (jd l r ip).2) (H.set i (.cells (aR (jd l r ip).1) 89)):=by
 have pC:=C7 (kQ l r) hs (az6 (f:=(kQ l r).f) g hN)
 have m0:=S7 (l:=l) (r:=r) (ip:=ip)
 have m1:=aB3 (l:=l) (r:=r) (ip:=ip)
 have m2:=aw2 (l:=l) (r:=r) (ip:=ip)
 obtain⟨c,hc⟩:∃c,eJ (kQ l r)=c:=⟨_,rfl⟩
 rw[hc]at pC m1 m2
 refine lR (gj a) tG (rs:=[.cell 6 145,.tmp 7]) func86 rfl rfl rfl (by simp) (by simp) (by simp) (by simp) (fun B=>?_)
 refine zu3 ?_
 refine Ws<|zu3 ?_
 refine Wi rfl (fun hi1=>?_) (fun hi1=>?_)
 ·have q0:r.fuel<1:=oT hi1
  refine zu3 ?_
  refine Wq<|aO rfl rfl ?_ ?_
  ·(rw[m0 q0];rfl)
  (rw[m0 q0];rfl)
 have q0:¬r.fuel<1:=oF hi1
 refine Wj<|Ws<|V3.bb [0,1,0,0,0,0,1,0,0,0,0,1,0,0,0,1,0,2,3] [0,1,2,3,4,5,6,7,8,9,10,11,12,13,14,15,16,17,18] mG rfl (by kernel_rfl) ?_
 refine V3.aP ?_
 refine V3.i4 ?_
 iterate 4 refine V3.aP ?_
 refine V3.i4 ?_
 iterate 4 refine V3.aP ?_
 refine V3.i4 ?_
 iterate 3 refine V3.aP ?_
 refine V3.i4 ?_
 refine V3.aP ?_
 refine V3.sV tG rfl rfl rfl rfl rfl trivial rfl ?_
 refine V3.oL tG rfl rfl rfl rfl rfl trivial ?_
 refine V3.br ?_
 refine z8 ?_
 refine zc rfl func114 ((pC) _ _ rfl) ?_
 refine Wn<|Ws<|zp2 ?_
 refine Wd rfl rfl (aW rfl (by kernel_rfl) rfl (by exact dW _)) ?_
 refine Wn<|Wi rfl (fun hi2=>?_) (fun hi2=>?_)
 ·have q1:c.err=0:=oT hi2
  refine zp5 ?_
  refine zs1 ?_
  refine zp5 ?_
  refine zs5 ?_
  refine Wq<|aO rfl rfl ?_ ?_
  ·(rw[m1 q0 q1];rfl)
  (rw[m1 q0 q1];rfl)
 have q1:¬c.err=0:=oF hi2
 refine Wj<|Ws<|V3.bb [0,1,0,0,1,0,0,0,1,2,0,0,0,3,0] [0,1,2,3,4,5,6,7,8,9,10,11,12,13,14] mG rfl (by kernel_rfl) ?_
 refine V3.aP ?_
 refine V3.i4 ?_
 iterate 2 refine V3.aP ?_
 refine V3.i4 ?_
 iterate 3 refine V3.aP ?_
 refine V3.i4 ?_
 refine V3.gy rfl rfl rfl rfl (dC rfl func44 rfl rfl (gm a _ _ (cp 1 2 rfl rfl))) ?_
 refine V3.cR rfl rfl rfl rfl (fun _=>dC rfl func115 rfl rfl ((EL (KR r.vm r ip) c.err N g) _)) ?_
 iterate 2 refine V3.aP ?_
 refine V3.oL tG rfl rfl rfl rfl rfl trivial ?_
 refine V3.aP ?_
 refine V3.br ?_
 refine Wq<|aO rfl rfl ?_ ?_
 ·(rw[m2 q0 q1];rfl)
 (rw[m2 q0 q1];rfl)
structure EX where
 l:ai
 r:bJ
 over:Bool
 e:Int
def exM(x:EX):ai×bJ×Int:=jd x.l x.r (cI x.r).2
def pm(x:EX):EX:=if (cI x.r).1=true then⟨(exM x).1,(exM x).2.1,x.over,(exM x).2.2⟩else⟨x.l,(bT x.r).1,(bT x.r).2.1,(bT x.r).2.2⟩
def EX.stops(x:EX):Prop:=x.over=true\/x.e≠0
instance (x:EX):Decidable x.stops:=by unfold EX.stops;infer_instance
def oW:Nat->EX->EX
 | 0,x=>x
 | n+1,x=>if x.stops then x else oW n (pm x)
def FM{x:EX}(h:x.stops):∀n,oW n x=x
 | 0=>rfl
 | n+1=>by rw[oW,if_pos h]
def To{x:EX}(h:¬x.stops)(n:Nat):oW (n+1) x=oW n (pm x):=by rw[oW,if_neg h]
def Xr{x:EX}(h:(cI x.r).1=true):pm x=⟨(exM x).1,(exM x).2.1,x.over,(exM x).2.2⟩:=by unfold pm;rw[if_pos h]
def Pf{x:EX}(h:¬(cI x.r).1=true):pm x=⟨x.l,(bT x.r).1,(bT x.r).2.1,(bT x.r).2.2⟩:=by unfold pm;rw[if_neg h]
structure ExI (R:EX) (s:Nat×EX):Prop where
 out:oW s.1 s.2=R
 live:¬s.2.stops->0<=s.2.r.fuel/\s.2.r.fuel+1<s.1
 g:gV (700000-5*s.1) s.2.r
 n:s.1<=100000
 sl:s.2.l.s.length<=1000000
 fu:ae s.2.r.fuel
def Qe(l:ai)(r:bJ)(ip:Int):(jd l r ip).1.s=l.s/\(jd l r ip).1.f=l.f/\(jd l r ip).1.err=l.err:=by
 unfold jd
 split
 ·exact⟨rfl,rfl,rfl⟩
 split<;>exact⟨rfl,rfl,rfl⟩
def Dk{l:ai}{r:bJ}{ip:Int}{N:Nat}(g:gV N r)(hi:ae ip):gV (N+3) (jd l r ip).2.1:=by
 unfold jd
 split
 ·exact g.up (by omega)
 split
 ·exact⟨OM (l:=kQ l r) g.m,hi,bI⟩
 exact xS (r:=KR r.vm r ip) ⟨g.m.up (by omega),hi,bI⟩ (Oc (smk rfl:SmE 0)).fit
def ye{r:bJ}(hi:ae r.ip):ae (cI r).2:=by
 unfold cI BK
 split
 ·exact hi
 split
 ·exact hi
 exact cY _
def ExI.next{R:EX}{s:Nat×EX}(h:ExI R s)(k:¬s.2.stops):ExI R (s.1-1,pm s.2)/\s.1-1<s.1:=by
 obtain⟨f0,f1⟩:=h.live k
 have f2:=h.n
 obtain⟨n,hn⟩:∃n,s.1=n+1:=⟨s.1-1,by omega⟩
 have hr:=h.out
 rw[hn,To k]at hr
 have hw:W64 (s.2.r.fuel-1)=s.2.r.fuel-1:=gZ (by omega) (by omega)
 refine⟨?_,by omega⟩
 by_cases c:(cI s.2.r).1=true
 ·have e:=Xr c
  have fm:¬s.2.r.fuel<1->(exM s.2).2.1.fuel=s.2.r.fuel-1:=fun q=>by
   unfold exM jd
   rw[if_neg q]
   split
   ·exact hw
   show(ct _ _).1.fuel=_;rw[rE];exact hw
  have fs:s.2.r.fuel<1->(exM s.2).2.2 = -256/\(exM s.2).2.1.fuel=s.2.r.fuel:=fun q=>by unfold exM;rw[S7 q];exact⟨rfl,rfl⟩
  refine⟨by rw[show((s.1-1,pm s.2):Nat×EX).1=n by show s.1-1=n;omega];exact hr,fun k2=>?_,?_,by show s.1-1<=_;omega,?_,?_⟩
  ·rw[e]at k2 ⊢
   by_cases q:s.2.r.fuel<1
   ·exact absurd (.inr (by show(exM s.2).2.2≠0;rw[(fs q).1];decide)) k2
   show 0<=(exM s.2).2.1.fuel/\(exM s.2).2.1.fuel+1<((s.1-1:Nat):Int)
   rw[fm q];omega
  ·rw[e];exact(Dk h.g (ye h.g.ip)).up (by show 700000-5*s.1+3<=700000-5*(s.1-1);omega)
  ·rw[e];show(exM s.2).1.s.length<=_;unfold exM;rw[(Qe _ _ _).1];exact h.sl
  rw[e];show ae (exM s.2).2.1.fuel
  by_cases q:s.2.r.fuel<1
  ·rw[(fs q).2];exact h.fu
  rw[fm q];unfold ae;omega
 have e:=Pf c
 have fm:¬s.2.r.fuel<1->(bT s.2.r).1.fuel=s.2.r.fuel-1:=fun q=>by rw[xe h.g.m.right.d q];exact hw
 have fs:s.2.r.fuel<1->bT s.2.r=(s.2.r,false,-256):=fun q=>xI q
 refine⟨by rw[show((s.1-1,pm s.2):Nat×EX).1=n by show s.1-1=n;omega];exact hr,fun k2=>?_,?_,by show s.1-1<=_;omega,?_,?_⟩
 ·rw[e]at k2 ⊢
  by_cases q:s.2.r.fuel<1
  ·exact absurd (.inr (by show(bT s.2.r).2.2≠0;rw[fs q];show(-256:Int)≠0;decide)) k2
  show 0<=(bT s.2.r).1.fuel/\(bT s.2.r).1.fuel+1<((s.1-1:Nat):Int)
  rw[fm q];omega
 ·rw[e];exact(uD h.g).up (by show 700000-5*s.1+2<=700000-5*(s.1-1);omega)
 ·rw[e];exact h.sl
 rw[e];show ae (bT s.2.r).1.fuel
 by_cases q:s.2.r.fuel<1
 ·rw[fs q];exact h.fu
 rw[fm q];unfold ae;omega
def Ch(l:ai)(xt:Int):EX:=⟨l,AA l.f.vm xt l.fuel,false,0⟩
def vY(x:EX):ai:={x.l with f:={x.l.f with vm:=zC x.r.vm},fuel:=x.r.fuel}
def exR(l:ai)(xt:Int):EX:=oW (l.fuel.toNat+2) (Ch l xt)
def mn(l:ai)(xt:Int):ai:=oOk (vY (exR l xt)) (exR l xt).e
def qN(a:Addr)(l:ai)(xt:Int)(N:Nat)(g:bf N l.f.vm)(hx:ae xt)(h0:0<=l.fuel)(h1:l.fuel<=90000)(hN:N<=190000)(hs:l.s.length<=1000000):∀(H:List Ob) (i:Nat),H[i]?=some (.cells (aR l) 89)->(∀o∈hJ a,∃k:Nat,H[k]?=some o)->HC prog 45 (.ptr i 0::[i64 xt]) H (.tup []) (H.set i (.cells (aR (mn l xt)) 89)):=by
 unfold mn
 obtain⟨R,hR⟩:∃R,exR l xt=R:=⟨_,rfl⟩
 rw[hR]
 have i0:ExI R (l.fuel.toNat+2,Ch l xt):=⟨hR,fun _=>⟨h0,by show l.fuel+1<((l.fuel.toNat+2:Nat):Int);omega⟩,(Bi g hx).up (by show N<=700000-5*(l.fuel.toNat+2);omega),by show l.fuel.toNat+2<=100000;omega,hs,by show ae l.fuel;unfold ae;omega⟩
 clear hR
 refine lR (gj a) tG (rs:=[]) func45 rfl rfl rfl (by simp) (by simp) (by simp) (by simp) (fun B=>?_)
 refine Ws<|V3.bb [0,0,0,0,1,0,0,0,0,1,0,2,3] [0,1,2,3,4,5,6,7,8,9,10,11,12] mG rfl (by kernel_rfl) ?_
 iterate 4 refine V3.aP ?_
 refine V3.i4 ?_
 iterate 4 refine V3.aP ?_
 refine V3.i4 ?_
 refine V3.cR rfl rfl rfl rfl (fun _=>dC rfl func84 rfl rfl ((GT l.f.vm xt l.fuel) _)) ?_
 refine V3.sV tG rfl rfl rfl rfl rfl trivial rfl ?_
 refine V3.oL tG rfl rfl rfl rfl rfl trivial ?_
 refine V3.br ?_
 refine zu2 ?_
 refine Ws<|Wl ?_
 show W _ _ _ _ _ _ _
 refine gz (fun(s:(Nat×EX))=>[(0,.ptr 0 0),(4,.ptr 3 0),(5,boo s.2.over),(6,i64 s.2.e)]) (fun(s:(Nat×EX))=>[.cells (aR s.2.l) 89,.glob 1 (haltV a),.glob 0 etV,.cells (tu s.2.r) 145]) (fun(s:(Nat×EX))=>[]) (fun(s:(Nat×EX))=>ExI R s) (fun(s:(Nat×EX))=>s.1) ((l.fuel.toNat+2,Ch l xt)) (by exact i0) [] ?_ ?_
 ·exact fM
 intro s hs
 refine Ws<|zp3 ?_
 refine Wb 25 rfl (fun hg1=>?_) (fun hg1=>?_)
 ·have q1:s.2.over=false:=by simpa using hg1
  refine zs3 ?_
  refine Wi rfl (fun hi1=>?_) (fun hi1=>?_)
  ·have q2:s.2.e=0:=by simpa using hi1
   have lv:¬s.2.stops:=fun z=>z.elim (fun z=>by rw[q1]at z;cases z) (fun z=>z q2)
   have nx:=hs.next lv
   refine Wj<|Wl<|Ws<|zp1 ?_
   refine zc rfl func85 ((BI s.2.r (by have:=hs.g.m.right.len;have:=hs.g.m.right.gE;unfold eO at this;omega) hs.g.ip hs.g.w) _) ?_
   refine zs5 ?_
   refine zu1 ?_
   refine Wi rfl (fun hi2=>?_) (fun hi2=>?_)
   ·have q3:(cI s.2.r).1=true:=hi2
    have ee:=Xr q3
    rw[ee]at nx
    let xx:EX:=⟨(exM s.2).1,(exM s.2).2.1,s.2.over,(exM s.2).2.2⟩
    refine zp3 ?_
    refine zc rfl func86 (XA a s.2.l s.2.r (cI s.2.r).2 _ hs.g.m (by omega) hs.sl _ 0 rfl (cp 1 2 rfl rfl)) ?_
    refine zs5 ?_
    refine bi ?_
    exact⟨(s.1-1,xx),[],(by exact nx.1),(by exact nx.2),fM⟩
   have q3:¬(cI s.2.r).1=true:=by rw[hi2];decide
   have ee:=Pf q3
   rw[ee]at nx
   let xx:EX:=⟨s.2.l,(bT s.2.r).1,(bT s.2.r).2.1,(bT s.2.r).2.2⟩
   refine Wj<|zp1 ?_
   refine zc rfl func87 (Gu a s.2.r _ hs.g (by omega) hs.fu _ (cp 1 2 rfl rfl)) ?_
   refine zy5 ?_
   refine zs3 ?_
   refine aa rfl ?_
   refine zy5 ?_
   refine zs1 ?_
   exact⟨(s.1-1,xx),[],(by exact nx.1),(by exact nx.2),fM⟩
  have q2:¬s.2.e=0:=by simpa using hi1
  have st:s.2=R:=(FM (.inr q2) s.1).symm.trans hs.out
  refine bi ?_
  refine zp5 ?_
  refine zs1 ?_
  refine Ws<|V3.bb [0,0,0,10,0,10,0,0,0,5,0,0,5] [0,1,2,3,4,5,6,7,8,9,10,11,12] mG rfl (by kernel_rfl) ?_
  iterate 3 refine V3.aP ?_
  refine V3.zU 3 ?_
  refine V3.aP ?_
  refine V3.zU 3 ?_
  iterate 3 refine V3.aP ?_
  refine V3.bV 0 tG rfl rfl rfl rfl rfl trivial rfl ?_
  iterate 2 refine V3.aP ?_
  refine V3.bV 0 tG rfl rfl rfl rfl rfl trivial rfl ?_
  refine V3.br ?_
  refine Mi 0 rfl rfl (ys:=aR (vY s.2)) rfl rfl ?_
  refine aa rfl ?_
  refine zy2 ?_
  refine zc rfl func41 ((o7 (vY s.2) s.2.e) _ _ rfl) ?_
  refine Wn<|aV rfl rfl ?_ ?_
  ·rfl
  rw[<-st];rfl
 have q1:s.2.over=true:=by simpa using hg1
 have st:s.2=R:=(FM (.inl q1) s.1).symm.trans hs.out
 iterate 2 refine z6 ?_
 refine zs1 ?_
 refine Wf rfl rfl ?_
 refine bi ?_
 refine zp5 ?_
 refine zs1 ?_
 refine Ws<|V3.bb [0,0,0,10,0,10,0,0,0,5,0,0,5] [0,1,2,3,4,5,6,7,8,9,10,11,12] mG rfl (by kernel_rfl) ?_
 iterate 3 refine V3.aP ?_
 refine V3.zU 3 ?_
 refine V3.aP ?_
 refine V3.zU 3 ?_
 iterate 3 refine V3.aP ?_
 refine V3.bV 0 tG rfl rfl rfl rfl rfl trivial rfl ?_
 iterate 2 refine V3.aP ?_
 refine V3.bV 0 tG rfl rfl rfl rfl rfl trivial rfl ?_
 refine V3.br ?_
 refine Mi 0 rfl rfl (ys:=aR (vY s.2)) rfl rfl ?_
 refine aa rfl ?_
 refine zy2 ?_
 refine zc rfl func41 ((o7 (vY s.2) s.2.e) _ _ rfl) ?_
 refine Wn<|aV rfl rfl ?_ ?_
 ·rfl
 rw[<-st];rfl
structure KD (v w:VVm):Prop where
 conf:w.conf=v.conf
 hand:w.hand=v.hand
 dict:v.dict.length<=w.dict.length
 xts:DX v.dict->DX w.dict
def KV.kd{v w:VVm}(h:KV v w):KD v w:=⟨h.conf,h.hand,by rw[h.dict];exact Nat.le_refl _,by rw[h.dict];exact id⟩
def KD.tr{a b c:VVm}(h:KD a b)(g:KD b c):KD a c:=⟨g.conf.trans h.conf,g.hand.trans h.hand,Nat.le_trans h.dict g.dict,fun q=>g.xts (h.xts q)⟩
def K9{N:Nat}(f:af)(name:Str)(last:Bool)(l:List Int)(g:bf N f.vm):KD f.vm (cK f name last l).1.vm:=by
 have w:=QW (aK f) name 0 l
 unfold cK
 split
 ·exact(KV.rf _).kd
 unfold gU
 split
 ·exact(KV.rf _).kd
 unfold jm
 split<;>exact⟨w.1,w.2.1,w.2.2.2,fun q=>D8 (w:=aK f) g q name 0 l⟩
def Or{N:Nat}(l:ai)(g:bf N l.f.vm):KD l.f.vm (eJ l).f.vm:=by
 have e:=(lX l).1
 unfold eJ jR
 split
 ·rcases JX (bW l).1 (cK (bW l).1.f (bW l).2 true [257,0])with q|q
  ·rw[q,<-e];exact K9 _ _ _ _ (by rw[e];exact g)
  rw[q,e];exact(KV.rf _).kd
 rw[e];exact(KV.rf _).kd
def US{N:Nat}(l:ai)(r:bJ)(ip:Int)(g:bf N r.vm):KD r.vm (jd l r ip).2.1.vm:=by
 unfold jd
 split
 ·exact(KV.rf _).kd
 split
 ·exact Or (kQ l r) g
 exact(Aa (KR r.vm r ip) _).kd
def WI{l:ai}{r:bJ}{ip:Int}(h0:0<=l.at_)(h1:l.at_<=l.s.length):l.at_<=(jd l r ip).1.at_/\(jd l r ip).1.at_<=l.s.length:=by
 unfold jd
 split
 ·exact⟨Int.le_refl _,h1⟩
 split
 ·show l.at_<=(eJ (kQ l r)).at_/\(eJ (kQ l r)).at_<=_
  have q:l.at_<=(bW (kQ l r)).1.at_/\(bW (kQ l r)).1.at_<=l.s.length:=by
   unfold bW;split
   ·rw[(zy (kQ l r) (-16)).2.1];exact⟨Int.le_refl _,h1⟩
   rename_i z
   have w:=E1 l.s h0 h1 z
   exact⟨by show l.at_<=(bE l.s l.at_).2;omega,w.2.1⟩
  unfold eJ jR
  split
  ·rw[(y3 _ _).2.1];exact q
  exact q
 exact⟨Int.le_refl _,h1⟩
structure ExG (M:Nat) (l0:ai) (v0:VVm) (x:EX):Prop where
 g:gV (M-3*x.r.fuel.toNat) x.r
 m:3*x.r.fuel.toNat<=M
 k:KD v0 x.r.vm
 s:x.l.s=l0.s
 f:x.l.f=l0.f
 a:l0.at_<=x.l.at_
 b:x.l.at_<=l0.s.length
 u0:0<=x.r.fuel
 u1:x.r.fuel<=l0.fuel
def X0{M:Nat}{l0:ai}{v0:VVm}{x:EX}(h:ExG M l0 v0 x)(h0:0<=l0.at_)(h9:l0.fuel<=90000):ExG M l0 v0 (pm x):=by
 have u0:=h.u0
 have u1:=h.u1
 have m:=h.m
 by_cases hf:x.r.fuel<1
 ·by_cases c:(cI x.r).1=true
  ·rw[Xr c]
   have e:exM x=(x.l,x.r,-256):=S7 hf
   rw[e]
   exact⟨h.g,h.m,h.k,h.s,h.f,h.a,h.b,h.u0,h.u1⟩
  rw[Pf c]
  have e:bT x.r=(x.r,false,-256):=xI hf
  rw[e]
  exact⟨h.g,h.m,h.k,h.s,h.f,h.a,h.b,h.u0,h.u1⟩
 have hw:W64 (x.r.fuel-1)=x.r.fuel-1:=gZ (by omega) (by omega)
 have hm:M-3*x.r.fuel.toNat+3<=M-3*(x.r.fuel-1).toNat:=by omega
 by_cases c:(cI x.r).1=true
 ·rw[Xr c]
  have fu:(exM x).2.1.fuel=x.r.fuel-1:=by
   unfold exM jd
   rw[if_neg hf]
   split
   ·exact hw
   show(ct _ _).1.fuel=_;rw[rE];exact hw
  have sf:=Qe x.l x.r (cI x.r).2
  have at_:=WI (l:=x.l) (r:=x.r) (ip:=(cI x.r).2) (by have:=h.a;omega) (by rw[h.s];exact h.b)
  have a:=h.a
  have es:=h.s
  refine⟨?_,?_,h.k.tr (US x.l x.r _ h.g.m),sf.1.trans es,sf.2.1.trans h.f,by show l0.at_<=(jd x.l x.r (cI x.r).2).1.at_;omega,by show(jd x.l x.r (cI x.r).2).1.at_<=_;rw[<-es];exact at_.2,?_,?_⟩
  ·show gV (M-3*(exM x).2.1.fuel.toNat) (exM x).2.1
   rw[fu];exact(Dk h.g (ye h.g.ip)).up hm
  ·show 3*(exM x).2.1.fuel.toNat<=M
   rw[fu];omega
  ·show 0<=(exM x).2.1.fuel
   rw[fu];omega
  show(exM x).2.1.fuel<=_
  rw[fu];omega
 rw[Pf c]
 have fu:(bT x.r).1.fuel=x.r.fuel-1:=by rw[xe h.g.m.right.d hf];exact hw
 refine⟨?_,?_,h.k.tr (Vi h.g).kd,h.s,h.f,h.a,h.b,?_,?_⟩
 ·show gV (M-3*(bT x.r).1.fuel.toNat) (bT x.r).1
  rw[fu];exact(uD h.g).up (by omega)
 ·show 3*(bT x.r).1.fuel.toNat<=M
  rw[fu];omega
 ·show 0<=(bT x.r).1.fuel
  rw[fu];omega
 show(bT x.r).1.fuel<=_
 rw[fu];omega
def LQ{M:Nat}{l0:ai}{v0:VVm}(h0:0<=l0.at_)(h9:l0.fuel<=90000):∀(n:Nat) (x:EX),ExG M l0 v0 x->ExG M l0 v0 (oW n x)
 | 0,x,h=>h
 | n+1,x,h=>by
  rw[oW]
  split
  ·exact h
  exact LQ h0 h9 n _ (X0 h h0 h9)
structure Nr (l0 l:ai) (N:Nat):Prop where
 f:OkF (N+3*l0.fuel.toNat-3*l.fuel.toNat) l.f
 s:l.s=l0.s
 a:l0.at_<=l.at_
 b:l.at_<=l0.s.length
 u0:0<=l.fuel
 u1:l.fuel<=l0.fuel
def Qc{N:Nat}{l:ai}(h:OkF N l.f){xt:Int}(hx:ae xt)(h0:0<=l.at_)(h1:l.at_<=l.s.length)(u0:0<=l.fuel)(u9:l.fuel<=90000):Nr l (mn l xt) N:=by
 have b:ExG (N+3*l.fuel.toNat) l l.f.vm (Ch l xt):=by
  refine⟨?_,?_,⟨rfl,rfl,Nat.le_refl _,id⟩,rfl,rfl,Int.le_refl _,h1,u0,Int.le_refl _⟩
  ·show gV (N+3*l.fuel.toNat-3*l.fuel.toNat) (AA l.f.vm xt l.fuel)
   rw[Nat.add_sub_cancel];exact Bi h.g hx
  show 3*l.fuel.toNat<=_;omega
 have r:=LQ h0 u9 (l.fuel.toNat+2) _ b
 unfold mn exR
 generalize oW (l.fuel.toNat+2) (Ch l xt)=x at r ⊢
 have g:=r.g.m
 have hc:=g.right.gE
 unfold eO at hc
 have g2:=Rz (Q8 g (r:=[]) (by show(0:Int)<=_;omega) bG) (f:=[]) rfl (by show(0:Nat)<=64;omega) (fun y hy=>by cases hy)
 have hf:(vY x).f={l.f with vm:=zC x.r.vm}:=by unfold vY;dsimp only;rw[r.f]
 have o:OkF (N+3*l.fuel.toNat-3*x.r.fuel.toNat) (vY x).f:=by
  rw[hf]
  exact h.vm (v:=zC x.r.vm) g2 r.k.dict r.k.conf (r.k.xts h.xts)
 have sf:=zy (vY x) x.e
 refine⟨?_,sf.1.trans r.s,?_,?_,?_,?_⟩
 ·rw[(vq _ _).1,sf.2.2];exact o
 ·rw[sf.2.1];exact r.a
 ·rw[sf.2.1];exact r.b
 ·rw[sf.2.2];exact r.u0
 rw[sf.2.2];exact r.u1
def aq9{f:Int}(h0:0<=f)(h7:f<=7):(IntKind.i64.wrap ↑(BitVec.ofInt IntKind.i64.bits f &&& BitVec.ofInt IntKind.i64.bits 4).toNat != 0)=decide (f/4%2=1):=by
 rcases rc h0 h7 with rfl|rfl|rfl|rfl|rfl|rfl|rfl|rfl<;>decide
def ay3{f:Int}(h0:0<=f)(h7:f<=7):(IntKind.i64.wrap ↑(BitVec.ofInt IntKind.i64.bits f &&& BitVec.ofInt IntKind.i64.bits 1).toNat==0)=decide (f%2=0):=by
 rcases rc h0 h7 with rfl|rfl|rfl|rfl|rfl|rfl|rfl|rfl<;>decide
def mM(w:aS)(k:Int):Bool:=decide (w.flags/4%2=1)||vF k
def jq(l:ai)(w:aS):ai×Bool :=
 if (av l.f.vm w.xt).2≠0 then(oOk l (av l.f.vm w.xt).2,false)
 else if (mM w (av l.f.vm w.xt).1&&!cw l.f)=true then(oOk l (-14),false)
 else if (cw l.f&&decide (w.flags%2=0))=true then(xj l w.xt,false)
 else if 300<=(av l.f.vm w.xt).1 then(rY l (cv.getD ((av l.f.vm w.xt).1-300).toNat []),false)
 else(mn l w.xt,true)
structure aF6 (N:Nat) (l:ai) (w:aS):Prop where
 lk:LK 300 l
 g:bf N l.f.vm
 n:N<=190000
 xt:ae w.xt
 f0:0<=w.flags
 f7:w.flags<=7
 u0:0<=l.fuel
 u1:l.fuel<=90000
 e:l.err=0
def Bd{l:ai}(h:l.err=0):oOk l 0=l:=by
 rw[ok0 h];cases l;simp only at h;rw[h]
def Ur(a:Addr)(l:ai)(w:aS)(N:Nat)(h:aF6 N l w):∀(H:List Ob) (i:Nat),H[i]?=some (.cells (aR l) 89)->(∀o∈hJ a,∃k:Nat,H[k]?=some o)->HC prog 38 (.ptr i 0::[yB w]) H (boo (jq l w).2) (H.set i (.cells (aR (jq l w).1) 89)):=by
 have hm:l.f.vm.mem.b.length<=140737488355328:=by have:=h.lk.f.b;omega
 have pK:=qW l.f.vm w.xt hm h.xt
 have hkO:=@FO l.f.vm w.xt
 have l4:=aq9 h.f0 h.f7
 have l1:=ay3 h.f0 h.f7
 have hL:=iF
 unfold jq
 obtain⟨k,hk⟩:∃k,av l.f.vm w.xt=k:=⟨_,rfl⟩
 rw[hk]at pK hkO ⊢
 by_cases z:k.2=0
 ·have e0:∀{α:Type} (x y:α),(if k.2≠0 then x else y)=y:=fun x y=>if_neg (fun q=>q z)
  have pO:=o7 l k.2
  rw[z,Bd h.e]at pO
  have hb:=hkO z
  unfold gi at hb
  have w1:300<=k.1->IntKind.i64.wrap (k.1-300)=k.1-300:=fun q=>gZ (by omega) (by omega)
  refine lR (gj a) tG (rs:=[.tmp 4]) func38 rfl rfl rfl (by simp) (by simp) (by simp) (by simp) (fun B=>?_)
  refine zu2 ?_
  refine Ws<|ax [0,0,0,0,1,0,1,0,0,0,0,0,0] [0,1,2,3,4,5,6,7,8,9,10,11,12] mG rfl (by kernel_rfl) ?_
  iterate 4 refine z3 ?_
  refine z5 ?_
  refine z3 ?_
  refine z5 ?_
  refine Xc rfl rfl rfl rfl (fun _=>dC rfl func67 rfl rfl ((pK) _)) ?_
  iterate 3 refine z3 ?_
  refine Xa 18 rfl (congrArg (fun z=>PV.val (Value.int .i64 z)) z) ?_
  iterate 2 refine z3 ?_
  refine aQ ?_
  refine Ws<|zp2 ?_
  refine zc rfl func41 ((pO) _ _ rfl) ?_
  refine zs1 ?_
  refine Wf rfl (by rw[h.e];rfl) ?_
  refine Wj<|zp4 ?_
  refine zc rfl func23 ((j8 l.f hm) _) ?_
  refine zs1 ?_
  refine Ws<|Wl<|zp5 ?_
  refine Wb 37 rfl (fun hg1=>?_) (fun hg1=>?_)
  ·have o:mM w k.1=true:=by unfold mM;rw[l4]at hg1;rw[hg1];rfl
   iterate 2 refine z6 ?_
   refine zy5 ?_
   refine zs1 ?_
   refine Wi rfl (fun hi2=>?_) (fun hi2=>?_)
   ·have c:cw l.f=false:=by simpa using hi2
    have n1:(mM w k.1&&!cw l.f)=true:=by rw[o,c];rfl
    refine aa rfl ?_
    refine z1 ?_
    refine zc rfl func41 ((o7 l (-14)) _ _ rfl) ?_
    refine Wn<|zu1 ?_
    refine Wq<|aO rfl rfl ?_ ?_
    ·(rw[e0,if_pos n1];rfl)
    (rw[e0,if_pos n1];rfl)
   have c:cw l.f=true:=by simpa using hi2
   have n1:¬(mM w k.1&&!cw l.f)=true:=by rw[o,c];decide
   refine zp2 ?_
   refine Wb 49 rfl (fun hg2=>?_) (fun hg2=>?_)
   ·have c2:cw l.f=true:=hg2
    refine zy5 ?_
    refine zs1 ?_
    refine Wi rfl (fun hi3=>?_) (fun hi3=>?_)
    ·have b1:decide (w.flags%2=0)=true:=by rw[l1]at hi3;exact hi3
     have n2:(cw l.f&&decide (w.flags%2=0))=true:=by rw[c2,b1];rfl
     refine aa rfl ?_
     refine zy3 ?_
     refine zc rfl func69 ((s5 l w.xt h.lk.f.mem h.lk.f.here) _ _ rfl) ?_
     refine Wn<|zu1 ?_
     refine Wq<|aO rfl rfl ?_ ?_
     ·(rw[e0,if_neg n1,if_pos n2];rfl)
     (rw[e0,if_neg n1,if_pos n2];rfl)
    have b1:decide (w.flags%2=0)=false:=by rw[l1]at hi3;exact hi3
    have n2:¬(cw l.f&&decide (w.flags%2=0))=true:=by rw[b1];simp
    refine zu3 ?_
    refine Wi rfl (fun hi4=>?_) (fun hi4=>?_)
    ·have q:300<=k.1:=oT hi4
     refine aa rfl ?_
     refine z1 ?_
     refine zc rfl func71 ((fh) _) ?_
     refine zy2 ?_
     refine Wa 65 rfl (congrArg (fun z=>PV.val (Value.int .i64 z)) (w1 q)) ?_
     refine Wv tG rfl rfl rfl (by omega) (iR gR 1 (fun _=>rfl) [] (by omega)) ?_
     refine z1 ?_
     refine zc rfl func70 ((lU l (cv.getD (k.1-300).toNat []) h.lk) _ _ rfl) ?_
     refine Wn<|zu1 ?_
     refine Wq<|aO rfl rfl ?_ ?_
     ·(rw[e0,if_neg n1,if_neg n2,if_pos q];rfl)
     (rw[e0,if_neg n1,if_neg n2,if_pos q];rfl)
    have q:¬300<=k.1:=oF hi4
    refine zp3 ?_
    refine zc rfl func45 (qN a l w.xt N h.g h.xt h.u0 h.u1 h.n h.lk.s _ 0 rfl (cp 1 2 rfl rfl)) ?_
    refine Wn<|zu1 ?_
    refine Wq<|aO rfl rfl ?_ ?_
    ·(rw[e0,if_neg n1,if_neg n2,if_neg q];rfl)
    (rw[e0,if_neg n1,if_neg n2,if_neg q];rfl)
   have c2:cw l.f=false:=hg2
   have n2:¬(cw l.f&&decide (w.flags%2=0))=true:=by rw[c2];simp
   iterate 4 refine z6 ?_
   refine zs2 ?_
   refine Wf rfl rfl ?_
   refine zu3 ?_
   refine Wi rfl (fun hi4=>?_) (fun hi4=>?_)
   ·have q:300<=k.1:=oT hi4
    refine aa rfl ?_
    refine z1 ?_
    refine zc rfl func71 ((fh) _) ?_
    refine zy2 ?_
    refine Wa 65 rfl (congrArg (fun z=>PV.val (Value.int .i64 z)) (w1 q)) ?_
    refine Wv tG rfl rfl rfl (by omega) (iN gR 1 (fun _=>rfl) [] (by(simp_all;done))) ?_
    refine z1 ?_
    refine zc rfl func70 ((lU l (cv.getD (k.1-300).toNat []) h.lk) _ _ rfl) ?_
    refine Wn<|zu1 ?_
    refine Wq<|aO rfl rfl ?_ ?_
    ·(rw[e0,if_neg n1,if_neg n2,if_pos q];rfl)
    (rw[e0,if_neg n1,if_neg n2,if_pos q];rfl)
   have q:¬300<=k.1:=oF hi4
   refine zp3 ?_
   refine zc rfl func45 (qN a l w.xt N h.g h.xt h.u0 h.u1 h.n h.lk.s _ 0 rfl (cp 1 2 rfl rfl)) ?_
   refine Wn<|zu1 ?_
   refine Wq<|aO rfl rfl ?_ ?_
   ·(rw[e0,if_neg n1,if_neg n2,if_neg q];rfl)
   (rw[e0,if_neg n1,if_neg n2,if_neg q];rfl)
  have o1:decide (w.flags/4%2=1)=false:=by rw[l4]at hg1;exact hg1
  refine z1 ?_
  refine zc rfl func68 ((FN k.1 (by omega) (by unfold ae;omega)) _) ?_
  refine zy2 ?_
  refine Wb 41 rfl (fun hg3=>?_) (fun hg3=>?_)
  ·have o:mM w k.1=true:=by unfold mM;rw[o1,hg3];rfl
   refine zs4 ?_
   refine Wi rfl (fun hi2=>?_) (fun hi2=>?_)
   ·have c:cw l.f=false:=by simpa using hi2
    have n1:(mM w k.1&&!cw l.f)=true:=by rw[o,c];rfl
    refine aa rfl ?_
    refine z1 ?_
    refine zc rfl func41 ((o7 l (-14)) _ _ rfl) ?_
    refine Wn<|zu1 ?_
    refine Wq<|aO rfl rfl ?_ ?_
    ·(rw[e0,if_pos n1];rfl)
    (rw[e0,if_pos n1];rfl)
   have c:cw l.f=true:=by simpa using hi2
   have n1:¬(mM w k.1&&!cw l.f)=true:=by rw[o,c];decide
   refine zp2 ?_
   refine Wb 49 rfl (fun hg2=>?_) (fun hg2=>?_)
   ·have c2:cw l.f=true:=hg2
    refine zy5 ?_
    refine zs1 ?_
    refine Wi rfl (fun hi3=>?_) (fun hi3=>?_)
    ·have b1:decide (w.flags%2=0)=true:=by rw[l1]at hi3;exact hi3
     have n2:(cw l.f&&decide (w.flags%2=0))=true:=by rw[c2,b1];rfl
     refine aa rfl ?_
     refine zy3 ?_
     refine zc rfl func69 ((s5 l w.xt h.lk.f.mem h.lk.f.here) _ _ rfl) ?_
     refine Wn<|zu1 ?_
     refine Wq<|aO rfl rfl ?_ ?_
     ·(rw[e0,if_neg n1,if_pos n2];rfl)
     (rw[e0,if_neg n1,if_pos n2];rfl)
    have b1:decide (w.flags%2=0)=false:=by rw[l1]at hi3;exact hi3
    have n2:¬(cw l.f&&decide (w.flags%2=0))=true:=by rw[b1];simp
    refine zu3 ?_
    refine Wi rfl (fun hi4=>?_) (fun hi4=>?_)
    ·have q:300<=k.1:=oT hi4
     refine aa rfl ?_
     refine z1 ?_
     refine zc rfl func71 ((fh) _) ?_
     refine zy2 ?_
     refine Wa 65 rfl (congrArg (fun z=>PV.val (Value.int .i64 z)) (w1 q)) ?_
     refine Wv tG rfl rfl rfl (by omega) (iR gR 1 (fun _=>rfl) [] (by omega)) ?_
     refine z1 ?_
     refine zc rfl func70 ((lU l (cv.getD (k.1-300).toNat []) h.lk) _ _ rfl) ?_
     refine Wn<|zu1 ?_
     refine Wq<|aO rfl rfl ?_ ?_
     ·(rw[e0,if_neg n1,if_neg n2,if_pos q];rfl)
     (rw[e0,if_neg n1,if_neg n2,if_pos q];rfl)
    have q:¬300<=k.1:=oF hi4
    refine zp3 ?_
    refine zc rfl func45 (qN a l w.xt N h.g h.xt h.u0 h.u1 h.n h.lk.s _ 0 rfl (cp 1 2 rfl rfl)) ?_
    refine Wn<|zu1 ?_
    refine Wq<|aO rfl rfl ?_ ?_
    ·(rw[e0,if_neg n1,if_neg n2,if_neg q];rfl)
    (rw[e0,if_neg n1,if_neg n2,if_neg q];rfl)
   have c2:cw l.f=false:=hg2
   have n2:¬(cw l.f&&decide (w.flags%2=0))=true:=by rw[c2];simp
   iterate 4 refine z6 ?_
   refine zs2 ?_
   refine Wf rfl rfl ?_
   refine zu3 ?_
   refine Wi rfl (fun hi4=>?_) (fun hi4=>?_)
   ·have q:300<=k.1:=oT hi4
    refine aa rfl ?_
    refine z1 ?_
    refine zc rfl func71 ((fh) _) ?_
    refine zy2 ?_
    refine Wa 65 rfl (congrArg (fun z=>PV.val (Value.int .i64 z)) (w1 q)) ?_
    refine Wv tG rfl rfl rfl (by omega) (iN gR 1 (fun _=>rfl) [] (by(simp_all;done))) ?_
    refine z1 ?_
    refine zc rfl func70 ((lU l (cv.getD (k.1-300).toNat []) h.lk) _ _ rfl) ?_
    refine Wn<|zu1 ?_
    refine Wq<|aO rfl rfl ?_ ?_
    ·(rw[e0,if_neg n1,if_neg n2,if_pos q];rfl)
    (rw[e0,if_neg n1,if_neg n2,if_pos q];rfl)
   have q:¬300<=k.1:=oF hi4
   refine zp3 ?_
   refine zc rfl func45 (qN a l w.xt N h.g h.xt h.u0 h.u1 h.n h.lk.s _ 0 rfl (cp 1 2 rfl rfl)) ?_
   refine Wn<|zu1 ?_
   refine Wq<|aO rfl rfl ?_ ?_
   ·(rw[e0,if_neg n1,if_neg n2,if_neg q];rfl)
   (rw[e0,if_neg n1,if_neg n2,if_neg q];rfl)
  have o:mM w k.1=false:=by unfold mM;rw[o1,hg3];rfl
  have n1:¬(mM w k.1&&!cw l.f)=true:=by rw[o];simp
  iterate 2 refine z6 ?_
  refine zs2 ?_
  refine Wf rfl rfl ?_
  refine zp2 ?_
  refine Wb 49 rfl (fun hg2=>?_) (fun hg2=>?_)
  ·have c2:cw l.f=true:=hg2
   refine zy5 ?_
   refine zs1 ?_
   refine Wi rfl (fun hi3=>?_) (fun hi3=>?_)
   ·have b1:decide (w.flags%2=0)=true:=by rw[l1]at hi3;exact hi3
    have n2:(cw l.f&&decide (w.flags%2=0))=true:=by rw[c2,b1];rfl
    refine aa rfl ?_
    refine zy3 ?_
    refine zc rfl func69 ((s5 l w.xt h.lk.f.mem h.lk.f.here) _ _ rfl) ?_
    refine Wn<|zu1 ?_
    refine Wq<|aO rfl rfl ?_ ?_
    ·(rw[e0,if_neg n1,if_pos n2];rfl)
    (rw[e0,if_neg n1,if_pos n2];rfl)
   have b1:decide (w.flags%2=0)=false:=by rw[l1]at hi3;exact hi3
   have n2:¬(cw l.f&&decide (w.flags%2=0))=true:=by rw[b1];simp
   refine zu3 ?_
   refine Wi rfl (fun hi4=>?_) (fun hi4=>?_)
   ·have q:300<=k.1:=oT hi4
    refine aa rfl ?_
    refine z1 ?_
    refine zc rfl func71 ((fh) _) ?_
    refine zy2 ?_
    refine Wa 65 rfl (congrArg (fun z=>PV.val (Value.int .i64 z)) (w1 q)) ?_
    refine Wv tG rfl rfl rfl (by omega) (iR gR 1 (fun _=>rfl) [] (by omega)) ?_
    refine z1 ?_
    refine zc rfl func70 ((lU l (cv.getD (k.1-300).toNat []) h.lk) _ _ rfl) ?_
    refine Wn<|zu1 ?_
    refine Wq<|aO rfl rfl ?_ ?_
    ·(rw[e0,if_neg n1,if_neg n2,if_pos q];rfl)
    (rw[e0,if_neg n1,if_neg n2,if_pos q];rfl)
   have q:¬300<=k.1:=oF hi4
   refine zp3 ?_
   refine zc rfl func45 (qN a l w.xt N h.g h.xt h.u0 h.u1 h.n h.lk.s _ 0 rfl (cp 1 2 rfl rfl)) ?_
   refine Wn<|zu1 ?_
   refine Wq<|aO rfl rfl ?_ ?_
   ·(rw[e0,if_neg n1,if_neg n2,if_neg q];rfl)
   (rw[e0,if_neg n1,if_neg n2,if_neg q];rfl)
  have c2:cw l.f=false:=hg2
  have n2:¬(cw l.f&&decide (w.flags%2=0))=true:=by rw[c2];simp
  iterate 4 refine z6 ?_
  refine zs2 ?_
  refine Wf rfl rfl ?_
  refine zu3 ?_
  refine Wi rfl (fun hi4=>?_) (fun hi4=>?_)
  ·have q:300<=k.1:=oT hi4
   refine aa rfl ?_
   refine z1 ?_
   refine zc rfl func71 ((fh) _) ?_
   refine zy2 ?_
   refine Wa 65 rfl (congrArg (fun z=>PV.val (Value.int .i64 z)) (w1 q)) ?_
   refine Wv tG rfl rfl rfl (by omega) (iR gR 1 (fun _=>rfl) [] (by omega)) ?_
   refine z1 ?_
   refine zc rfl func70 ((lU l (cv.getD (k.1-300).toNat []) h.lk) _ _ rfl) ?_
   refine Wn<|zu1 ?_
   refine Wq<|aO rfl rfl ?_ ?_
   ·(rw[e0,if_neg n1,if_neg n2,if_pos q];rfl)
   (rw[e0,if_neg n1,if_neg n2,if_pos q];rfl)
  have q:¬300<=k.1:=oF hi4
  refine zp3 ?_
  refine zc rfl func45 (qN a l w.xt N h.g h.xt h.u0 h.u1 h.n h.lk.s _ 0 rfl (cp 1 2 rfl rfl)) ?_
  refine Wn<|zu1 ?_
  refine Wq<|aO rfl rfl ?_ ?_
  ·(rw[e0,if_neg n1,if_neg n2,if_neg q];rfl)
  (rw[e0,if_neg n1,if_neg n2,if_neg q];rfl)
 have e0:∀{α:Type} (x y:α),(if k.2≠0 then x else y)=x:=fun x y=>if_pos z
 have er:(oOk l k.2).err=k.2:=by rw[ok0 h.e]
 have pO:=o7 l k.2
 refine lR (gj a) tG (rs:=[.tmp 4]) func38 rfl rfl rfl (by simp) (by simp) (by simp) (by simp) (fun B=>?_)
 refine zu2 ?_
 refine Ws<|ax [0,0,0,0,1,0,1,0,0,0,0,0,0] [0,1,2,3,4,5,6,7,8,9,10,11,12] mG rfl (by kernel_rfl) ?_
 iterate 4 refine z3 ?_
 refine z5 ?_
 refine z3 ?_
 refine z5 ?_
 refine Xc rfl rfl rfl rfl (fun _=>dC rfl func67 rfl rfl ((pK) _)) ?_
 iterate 5 refine z3 ?_
 refine aQ ?_
 refine Ws<|zp2 ?_
 refine zc rfl func41 ((pO) _ _ rfl) ?_
 refine zs1 ?_
 refine Wt rfl (by rw[er,decide_eq_false z];rfl) ?_
 refine zu1 ?_
 refine Wq<|aO rfl rfl ?_ ?_
 ·rw[e0];rfl
 rw[e0];rfl
def VU(w:Str)(b:Int)(h:w.length<=9223372036854775807):ab prog 40 [str w,i64 b] (iA (i64 (dK w b).1) (boo (dK w b).2)) :=
 d9 (args:=[.string ⟨w.toArray⟩,.int .i64 b]) (v:=.tuple #[.int .i64 (dK w b).1,.bool (dK w b).2]) (fun c=>by unfold iA Rep;exact⟨[_,_],rfl,aj.2 ⟨aq _ _,aj.2 ⟨aq _ _,az.2 rfl⟩⟩⟩)
  fun W=>Calls.mono (NJ ⟨w.toArray⟩ b W (by unfold ByteArray.size;simpa using h)) fun _ _ q=>⟨q.1,ba.of_below q.2⟩
def bg(f:af)(s:Str)(a fuel:Int):ai:=⟨f,s,a,fuel,0⟩
def Js(l:ai)(name:Str):ai :=
 if (dK name (am l.f.vm.mem 0).1).2=false then oOk l (-13)else if cw l.f=true then uk l (dK name (am l.f.vm.mem 0).1).1 else wa l (dK name (am l.f.vm.mem 0).1).1
def nE(l:ai)(name:Str):ai×Bool:=if (dc l.f.vm.dict name).2.2=true then jq l (dc l.f.vm.dict name).1 else(Js l name,false)
def kR(f:af)(s:Str)(a fuel:Int):af×Int×Int×Bool×Int :=
 if (bE s a).1=[]then(f,(s.length:Int),max fuel 0,false,0)
 else if (nE (bg f s (bE s a).2 (max fuel 0)) (bE s a).1).1.err≠0/\(nE (bg f s (bE s a).2 (max fuel 0)) (bE s a).1).2=false then(f,a,max fuel 0,true,(nE (bg f s (bE s a).2 (max fuel 0)) (bE s a).1).1.err)
 else((nE (bg f s (bE s a).2 (max fuel 0)) (bE s a).1).1.f,(nE (bg f s (bE s a).2 (max fuel 0)) (bE s a).1).1.at_,(nE (bg f s (bE s a).2 (max fuel 0)) (bE s a).1).1.fuel,true,(nE (bg f s (bE s a).2 (max fuel 0)) (bE s a).1).1.err)
def RS{f:af}{s:Str}{a fuel:Int}(h:(bE s a).1=[]):kR f s a fuel=(f,(s.length:Int),max fuel 0,false,0):=by unfold kR;rw[if_pos h]
def KZ{f:af}{s:Str}{a fuel:Int}{r:ai×Bool}(h:¬(bE s a).1=[])(e:nE (bg f s (bE s a).2 (max fuel 0)) (bE s a).1=r)(q1:r.1.err≠0)(q2:r.2=false):kR f s a fuel=(f,a,max fuel 0,true,r.1.err):=by
 unfold kR;rw[if_neg h,e,if_pos ⟨q1,q2⟩]
def QX{f:af}{s:Str}{a fuel:Int}{r:ai×Bool}(h:¬(bE s a).1=[])(e:nE (bg f s (bE s a).2 (max fuel 0)) (bE s a).1=r)(q:¬(r.1.err≠0/\r.2=false)):kR f s a fuel=(r.1.f,r.1.at_,r.1.fuel,true,r.1.err):=by
 unfold kR;rw[if_neg h,e,if_neg q]
def qB{p:Prop}[Decidable p](h:(!decide p)=true):¬p:=by simpa using h
def pd{p:Prop}[Decidable p](h:(!decide p)=false):p:=by simpa using h
structure Uo (N:Nat) (f:af) (s:Str) (a fuel:Int):Prop where
 lk:LK 300 (bg f s 0 0)
 g:bf N f.vm
 n:N<=190000
 u1:fuel<=90000
def Uo.line{N:Nat}{f:af}{s:Str}{a fuel:Int}(h:Uo N f s a fuel)(b u:Int):LK 300 (bg f s b u):=⟨h.lk.f,h.lk.s,h.lk.d,h.lk.data,h.lk.out0,h.lk.out1,h.lk.out,h.lk.cfl,h.lk.cf,h.lk.dict,h.lk.xts⟩
def Mu(r:af×Int×Int×Bool×Int):PV:=.tup [bS r.1,i64 r.2.1,i64 r.2.2.1,boo r.2.2.2.1,i64 r.2.2.2.2]
@[simp] theorem ZR (r : af × Int × Int × Bool × Int) : aU (Mu r) := by unfold Mu; simp [aU, aw]
def By(a:Addr)(f:af)(s:Str)(p fuel:Int)(N:Nat)(h:Uo N f s p fuel):∀(H:List Ob),(∀o∈hJ a,∃k:Nat,H[k]?=some o)->HC prog 21 [bS f,str s,i64 p,i64 fuel] H (Mu (kR f s p fuel)) H:=by
 have hs:s.length<=1000000:=h.lk.s
 have pW:=G5 s p hs
 have wl:=Is s p
 have b0:=@RS f s p fuel
 have b1:=@KZ f s p fuel
 have b2:=@QX f s p fuel
 have hxt:ae (dc f.vm.dict (bE s p).1).1.xt:=Bc h.lk.xts (bE s p).1
 have wm:(if fuel<0 then 0 else fuel)=max fuel 0:=by split<;>omega
 have hm:f.vm.mem.b.length<=140737488355328:=by have:f.vm.mem.b.length<=1000000:=h.lk.f.b;omega
 have hD:kh f.vm.dict:=h.lk.f.each
 obtain⟨w,hw⟩:∃w,bE s p=w:=⟨_,rfl⟩
 rw[hw]at pW wl b0 b1 b2 hxt
 have L:=h.line w.2 (max fuel 0)
 have u1:=h.u1
 have fl:=sg (fun x hx=>(hD.2 x hx).2) w.1 _ (Nat.le_refl _)
 have pD:=xv f.vm.dict w.1 hD (by omega)
 have eF:nE (bg f s w.2 (max fuel 0)) w.1=if (dc f.vm.dict w.1).2.2=true then jq (bg f s w.2 (max fuel 0)) (dc f.vm.dict w.1).1 else(Js (bg f s w.2 (max fuel 0)) w.1,false):=rfl
 change 0<=(dc f.vm.dict w.1).1.flags/\(dc f.vm.dict w.1).1.flags<=7 at fl
 obtain⟨d,hd⟩:∃d,dc f.vm.dict w.1=d:=⟨_,rfl⟩
 rw[hd]at hxt fl pD eF
 have pP:=VU w.1 (am f.vm.mem 0).1 (by omega)
 have eN:Js (bg f s w.2 (max fuel 0)) w.1=if (dK w.1 (am f.vm.mem 0).1).2=false then oOk (bg f s w.2 (max fuel 0)) (-13)else if cw f=true then uk (bg f s w.2 (max fuel 0)) (dK w.1 (am f.vm.mem 0).1).1 else wa (bg f s w.2 (max fuel 0)) (dK w.1 (am f.vm.mem 0).1).1:=rfl
 obtain⟨z,hz⟩:∃z,dK w.1 (am f.vm.mem 0).1=z:=⟨_,rfl⟩
 rw[hz]at pP eN
 refine it (gj a) tG (rs:=[.cell 8 42,.tmp 9,.tmp 10,.tmp 11,.tmp 12]) func21 rfl rfl rfl (by simp) (by simp) (fun B=>?_)
 refine zp5 ?_
 refine zs1 ?_
 refine zp2 ?_
 refine zc rfl func36 ((pW) _) ?_
 refine zs5 ?_
 refine zp2 ?_
 refine Wa 31 rfl (congrArg (fun z=>PV.val (Value.int .i64 z)) wm) ?_
 refine zs1 ?_
 refine Ws<|zp2 ?_
 refine zq 33 ?_
 refine Wn<|Wi rfl (fun hi1=>?_) (fun hi1=>?_)
 ·have n0:w.1=[]:=oT hi1
  refine zp3 ?_
  refine Wa 36 rfl (gJ _) ?_
  refine zy5 ?_
  refine zs1 ?_
  refine zR ?_
  (rw[b0 n0];rfl)
 have n0:¬w.1=[]:=oF hi1
 refine Wj<|zp5 ?_
 refine zs2 ?_
 refine zu1 ?_
 refine Ws<|zp4 ?_
 refine zc rfl func37 ((pD) _) ?_
 refine zy5 ?_
 refine zs3 ?_
 refine zu1 ?_
 refine Wi rfl (fun hi2=>?_) (fun hi2=>?_)
 ·have n1:d.2.2=true:=hi2
  rw[if_pos n1]at eF
  refine aa rfl ?_
  refine zy2 ?_
  refine zc rfl func38 (Ur a (bg f s w.2 (max fuel 0)) d.1 N ⟨L,h.g,h.n,hxt,fl.1,fl.2,by show 0<=max fuel 0;omega,by show max fuel 0<=90000;omega,rfl⟩ _ 4 rfl (cp 0 1 rfl rfl)) ?_
  refine zs1 ?_
  refine Ws<|zp4 ?_
  refine Wd rfl rfl (jn rfl (by kernel_rfl) rfl (by exact dW _)) ?_
  refine z1 ?_
  refine Wb 89 rfl (fun hg1=>?_) (fun hg1=>?_)
  ·have q1:=qB hg1
   refine zs3 ?_
   refine Wi rfl (fun hi3=>?_) (fun hi3=>?_)
   ·have q2:(jq (bg f s w.2 (max fuel 0)) d.1).2=false:=by simpa using hi3
    refine Ws<|V3.bb [8,0,0,0,0,0,12,2,11,0,0,0,0] [0,1,2,3,4,5,6,7,8,9,10,11,12] mG rfl (by kernel_rfl) ?_
    refine V3.zU 2 ?_
    iterate 5 refine V3.aP ?_
    refine V3.zU 4 ?_
    refine V3.gy rfl rfl rfl rfl (dC rfl func44 rfl rfl (gm a _ _ (cp 0 1 rfl rfl))) ?_
    refine V3.bV 3 tG rfl rfl rfl rfl rfl trivial rfl ?_
    iterate 4 refine V3.aP ?_
    refine V3.br ?_
    refine zR ?_
    (rw[b1 n0 eF q1 q2];rfl)
   have q2:(jq (bg f s w.2 (max fuel 0)) d.1).2=true:=by simpa using hi3
   refine Wj<|Ws<|V3.bb [0,0,0,12,0,0,0,12,0,0,0,12,0,0,0,12,2,11,0,0,0,0] [0,1,2,3,4,5,6,7,8,9,10,11,12,13,14,15,16,17,18,19,20,21] mG rfl (by kernel_rfl) ?_
   iterate 3 refine V3.aP ?_
   refine V3.zU 4 ?_
   iterate 3 refine V3.aP ?_
   refine V3.zU 4 ?_
   iterate 3 refine V3.aP ?_
   refine V3.zU 4 ?_
   iterate 3 refine V3.aP ?_
   refine V3.zU 4 ?_
   refine V3.gy rfl rfl rfl rfl (dC rfl func44 rfl rfl (gm a _ _ (cp 0 1 rfl rfl))) ?_
   refine V3.bV 3 tG rfl rfl rfl rfl rfl trivial rfl ?_
   iterate 4 refine V3.aP ?_
   refine V3.br ?_
   refine zR ?_
   (rw[b2 n0 eF (fun y=>by rw[q2]at y;cases y.2)];rfl)
  have q1:=pd hg1
  iterate 2 refine z6 ?_
  refine zs1 ?_
  refine Wf rfl rfl ?_
  refine Wj<|Ws<|V3.bb [0,0,0,12,0,0,0,12,0,0,0,12,0,0,0,12,2,11,0,0,0,0] [0,1,2,3,4,5,6,7,8,9,10,11,12,13,14,15,16,17,18,19,20,21] mG rfl (by kernel_rfl) ?_
  iterate 3 refine V3.aP ?_
  refine V3.zU 4 ?_
  iterate 3 refine V3.aP ?_
  refine V3.zU 4 ?_
  iterate 3 refine V3.aP ?_
  refine V3.zU 4 ?_
  iterate 3 refine V3.aP ?_
  refine V3.zU 4 ?_
  refine V3.gy rfl rfl rfl rfl (dC rfl func44 rfl rfl (gm a _ _ (cp 0 1 rfl rfl))) ?_
  refine V3.bV 3 tG rfl rfl rfl rfl rfl trivial rfl ?_
  iterate 4 refine V3.aP ?_
  refine V3.br ?_
  refine zR ?_
  (rw[b2 n0 eF (fun y=>y.1 q1)];rfl)
 have n1:¬d.2.2=true:=by rw[hi2];decide
 rw[if_neg n1]at eF
 refine zp3 ?_
 refine zc rfl func39 ((gH f.vm.mem 0 hm bI) _) ?_
 refine zs5 ?_
 refine zp2 ?_
 refine zc rfl func40 ((pP) _) ?_
 refine zs5 ?_
 refine Wl<|zu3 ?_
 refine Wi rfl (fun hi4=>?_) (fun hi4=>?_)
 ·have n2:z.2=false:=by simpa using hi4
  rw[eN,if_pos n2]at eF
  refine aa rfl ?_
  refine z1 ?_
  refine zc rfl func41 ((o7 (bg f s w.2 (max fuel 0)) (-13)) _ _ rfl) ?_
  refine Wn<|Ws<|zp4 ?_
  refine Wd rfl rfl (jn rfl (by kernel_rfl) rfl (by exact dW _)) ?_
  refine z1 ?_
  refine Wb 89 rfl (fun hg1=>?_) (fun hg1=>?_)
  ·have q1:=qB hg1
   refine zs3 ?_
   refine Wt rfl rfl ?_
   refine Ws<|V3.bb [8,0,0,0,0,0,12,2,11,0,0,0,0] [0,1,2,3,4,5,6,7,8,9,10,11,12] mG rfl (by kernel_rfl) ?_
   refine V3.zU 2 ?_
   iterate 5 refine V3.aP ?_
   refine V3.zU 4 ?_
   refine V3.gy rfl rfl rfl rfl (dC rfl func44 rfl rfl (gm a _ _ (cp 0 1 rfl rfl))) ?_
   refine V3.bV 3 tG rfl rfl rfl rfl rfl trivial rfl ?_
   iterate 4 refine V3.aP ?_
   refine V3.br ?_
   refine zR ?_
   (rw[b1 n0 eF q1 rfl];rfl)
  have q1:=pd hg1
  iterate 2 refine z6 ?_
  refine zs1 ?_
  refine Wf rfl rfl ?_
  refine Wj<|Ws<|V3.bb [0,0,0,12,0,0,0,12,0,0,0,12,0,0,0,12,2,11,0,0,0,0] [0,1,2,3,4,5,6,7,8,9,10,11,12,13,14,15,16,17,18,19,20,21] mG rfl (by kernel_rfl) ?_
  iterate 3 refine V3.aP ?_
  refine V3.zU 4 ?_
  iterate 3 refine V3.aP ?_
  refine V3.zU 4 ?_
  iterate 3 refine V3.aP ?_
  refine V3.zU 4 ?_
  iterate 3 refine V3.aP ?_
  refine V3.zU 4 ?_
  refine V3.gy rfl rfl rfl rfl (dC rfl func44 rfl rfl (gm a _ _ (cp 0 1 rfl rfl))) ?_
  refine V3.bV 3 tG rfl rfl rfl rfl rfl trivial rfl ?_
  iterate 4 refine V3.aP ?_
  refine V3.br ?_
  refine zR ?_
  (rw[b2 n0 eF (fun y=>y.1 q1)];rfl)
 have n2:¬z.2=false:=by simpa using hi4
 rw[eN,if_neg n2]at eF
 refine zp1 ?_
 refine zc rfl func23 ((j8 f hm) _) ?_
 refine zs1 ?_
 refine Wi rfl (fun hi5=>?_) (fun hi5=>?_)
 ·have n3:cw f=true:=hi5
  rw[if_pos n3]at eF
  refine aa rfl ?_
  refine zy2 ?_
  refine zc rfl func42 ((vh (bg f s w.2 (max fuel 0)) z.1 (L.f.ck.down (by omega))) _ _ rfl) ?_
  refine Wn<|Ws<|zp4 ?_
  refine Wd rfl rfl (jn rfl (by kernel_rfl) rfl (by exact dW _)) ?_
  refine z1 ?_
  refine Wb 89 rfl (fun hg1=>?_) (fun hg1=>?_)
  ·have q1:=qB hg1
   refine zs3 ?_
   refine Wt rfl rfl ?_
   refine Ws<|V3.bb [8,0,0,0,0,0,12,2,11,0,0,0,0] [0,1,2,3,4,5,6,7,8,9,10,11,12] mG rfl (by kernel_rfl) ?_
   refine V3.zU 2 ?_
   iterate 5 refine V3.aP ?_
   refine V3.zU 4 ?_
   refine V3.gy rfl rfl rfl rfl (dC rfl func44 rfl rfl (gm a _ _ (cp 0 1 rfl rfl))) ?_
   refine V3.bV 3 tG rfl rfl rfl rfl rfl trivial rfl ?_
   iterate 4 refine V3.aP ?_
   refine V3.br ?_
   refine zR ?_
   (rw[b1 n0 eF q1 rfl];rfl)
  have q1:=pd hg1
  iterate 2 refine z6 ?_
  refine zs1 ?_
  refine Wf rfl rfl ?_
  refine Wj<|Ws<|V3.bb [0,0,0,12,0,0,0,12,0,0,0,12,0,0,0,12,2,11,0,0,0,0] [0,1,2,3,4,5,6,7,8,9,10,11,12,13,14,15,16,17,18,19,20,21] mG rfl (by kernel_rfl) ?_
  iterate 3 refine V3.aP ?_
  refine V3.zU 4 ?_
  iterate 3 refine V3.aP ?_
  refine V3.zU 4 ?_
  iterate 3 refine V3.aP ?_
  refine V3.zU 4 ?_
  iterate 3 refine V3.aP ?_
  refine V3.zU 4 ?_
  refine V3.gy rfl rfl rfl rfl (dC rfl func44 rfl rfl (gm a _ _ (cp 0 1 rfl rfl))) ?_
  refine V3.bV 3 tG rfl rfl rfl rfl rfl trivial rfl ?_
  iterate 4 refine V3.aP ?_
  refine V3.br ?_
  refine zR ?_
  (rw[b2 n0 eF (fun y=>y.1 q1)];rfl)
 have n3:¬cw f=true:=by rw[hi5];decide
 rw[if_neg n3]at eF
 refine aa rfl ?_
 refine zy2 ?_
 refine zc rfl func43 ((En (bg f s w.2 (max fuel 0)) z.1 L.d L.data) _ _ rfl) ?_
 refine Wn<|Ws<|zp4 ?_
 refine Wd rfl rfl (jn rfl (by kernel_rfl) rfl (by exact dW _)) ?_
 refine z1 ?_
 refine Wb 89 rfl (fun hg1=>?_) (fun hg1=>?_)
 ·have q1:=qB hg1
  refine zs3 ?_
  refine Wt rfl rfl ?_
  refine Ws<|V3.bb [8,0,0,0,0,0,12,2,11,0,0,0,0] [0,1,2,3,4,5,6,7,8,9,10,11,12] mG rfl (by kernel_rfl) ?_
  refine V3.zU 2 ?_
  iterate 5 refine V3.aP ?_
  refine V3.zU 4 ?_
  refine V3.gy rfl rfl rfl rfl (dC rfl func44 rfl rfl (gm a _ _ (cp 0 1 rfl rfl))) ?_
  refine V3.bV 3 tG rfl rfl rfl rfl rfl trivial rfl ?_
  iterate 4 refine V3.aP ?_
  refine V3.br ?_
  refine zR ?_
  (rw[b1 n0 eF q1 rfl];rfl)
 have q1:=pd hg1
 iterate 2 refine z6 ?_
 refine zs1 ?_
 refine Wf rfl rfl ?_
 refine Wj<|Ws<|V3.bb [0,0,0,12,0,0,0,12,0,0,0,12,0,0,0,12,2,11,0,0,0,0] [0,1,2,3,4,5,6,7,8,9,10,11,12,13,14,15,16,17,18,19,20,21] mG rfl (by kernel_rfl) ?_
 iterate 3 refine V3.aP ?_
 refine V3.zU 4 ?_
 iterate 3 refine V3.aP ?_
 refine V3.zU 4 ?_
 iterate 3 refine V3.aP ?_
 refine V3.zU 4 ?_
 iterate 3 refine V3.aP ?_
 refine V3.zU 4 ?_
 refine V3.gy rfl rfl rfl rfl (dC rfl func44 rfl rfl (gm a _ _ (cp 0 1 rfl rfl))) ?_
 refine V3.bV 3 tG rfl rfl rfl rfl rfl trivial rfl ?_
 iterate 4 refine V3.aP ?_
 refine V3.br ?_
 refine zR ?_
 (rw[b2 n0 eF (fun y=>y.1 q1)];rfl)
def Az(m:bn):ab prog 27 [jC m] (jC ⟨m.b,[]⟩):=by
 refine zY func27 fun B=>?_
 refine zu2 ?_
 refine zu4 ?_
 refine zR ?_
 rfl
def vH(f:af):af:={f with vm:={f.vm with mem:=⟨f.vm.mem.b,[]⟩}}
def M1(f0 f:af):af:={j6 f with vm:={(j6 f).vm with d:=[],pic:=⟨[],false⟩,req:=f0.vm.req,free:=f0.vm.free,next:=f0.vm.next}}
structure LS where
 f:af
 at_:Int
 left:Int
def lnR(x:LS)(tx:Str):af×Int×Int×Bool×Int:=kR x.f tx x.at_ x.left
def lC(f0:af)(tx:Str):Nat->LS->af×Int×Int
 | 0,x=>(x.f,x.left,0)
 | n+1,x=>if (lnR x tx).2.2.2.2≠0 then(vH (M1 f0 (lnR x tx).1),(lnR x tx).2.2.1,(lnR x tx).2.2.2.2)else if (lnR x tx).2.2.2.1=false then(vH (lnR x tx).1,(lnR x tx).2.2.1,0)else lC f0 tx n ⟨(lnR x tx).1,(lnR x tx).2.1,(lnR x tx).2.2.1⟩
def O5(tx:Str):Nat->LS->Prop
 | 0,_=>False
 | n+1,x=>(∃N,Uo N x.f tx x.at_ x.left)/\((lnR x tx).2.2.2.2≠0->FK 1 (lnR x tx).1)/\((lnR x tx).2.2.2.2=0->(lnR x tx).2.2.2.1=true->O5 tx n ⟨(lnR x tx).1,(lnR x tx).2.1,(lnR x tx).2.2.1⟩)
structure LnI (R:af×Int×Int) (f0:af) (tx:Str) (s:Nat×LS):Prop where
 ok:O5 tx s.1 s.2
 out:lC f0 tx s.1 s.2=R
def LnI.suc{R:af×Int×Int}{f0:af}{tx:Str}{s:Nat×LS}(h:LnI R f0 tx s):∃n,s.1=n+1:=by
 have:=h.ok
 cases q:s.1 with
 | zero=>rw[q]at this;exact this.elim
 | succ n=>exact⟨n,rfl⟩
def LnI.one{R:af×Int×Int}{f0:af}{tx:Str}{s:Nat×LS}(h:LnI R f0 tx s):∃N,Uo N s.2.f tx s.2.at_ s.2.left:=by
 obtain⟨n,hn⟩:=h.suc
 have:=h.ok
 rw[hn]at this
 exact this.1
def LnI.bad{R:af×Int×Int}{f0:af}{tx:Str}{s:Nat×LS}(h:LnI R f0 tx s)(q:(lnR s.2 tx).2.2.2.2≠0):FK 1 (lnR s.2 tx).1/\R=(vH (M1 f0 (lnR s.2 tx).1),(lnR s.2 tx).2.2.1,(lnR s.2 tx).2.2.2.2):=by
 obtain⟨n,hn⟩:=h.suc
 have h1:=h.ok
 have h2:=h.out
 rw[hn]at h1 h2
 rw[lC,if_pos q]at h2
 exact⟨h1.2.1 q,h2.symm⟩
def LnI.fin{R:af×Int×Int}{f0:af}{tx:Str}{s:Nat×LS}(h:LnI R f0 tx s)(q:¬(lnR s.2 tx).2.2.2.2≠0)(q2:(lnR s.2 tx).2.2.2.1=false):R=(vH (lnR s.2 tx).1,(lnR s.2 tx).2.2.1,0):=by
 obtain⟨n,hn⟩:=h.suc
 have h2:=h.out
 rw[hn,lC,if_neg q,if_pos q2]at h2
 exact h2.symm
def LnI.next{R:af×Int×Int}{f0:af}{tx:Str}{s:Nat×LS}(h:LnI R f0 tx s)(q:¬(lnR s.2 tx).2.2.2.2≠0)(q2:(lnR s.2 tx).2.2.2.1=true):LnI R f0 tx (s.1-1,⟨(lnR s.2 tx).1,(lnR s.2 tx).2.1,(lnR s.2 tx).2.2.1⟩)/\s.1-1<s.1:=by
 obtain⟨n,hn⟩:=h.suc
 have h1:=h.ok
 have h2:=h.out
 rw[hn]at h1 h2
 rw[lC,if_neg q,if_neg (by rw[q2];decide)]at h2
 have e:s.1-1=n:=by omega
 exact⟨⟨by show O5 tx (s.1-1) _;rw[e];exact h1.2.2 (Decidable.not_not.1 q) q2,by show lC f0 tx (s.1-1) _=R;rw[e];exact h2⟩,by omega⟩
@[simp] theorem aq2 : aw zFc := by simp [zFc, aw, aU]
def vB(r:af×Int×Int):PV:=.tup [bS r.1,i64 r.2.1,i64 r.2.2]
@[simp] theorem ZF (r : af × Int × Int) : aU (vB r) := by unfold vB; simp [aU, aw]
def I8(a:Addr)(f:af)(tx:Str)(fuel:Int)(n:Nat)(h:O5 tx n ⟨f,0,max fuel 0⟩):∀(H:List Ob),(∀o∈hJ a,∃k:Nat,H[k]?=some o)->HC prog 12 [bS f,str tx,i64 fuel] H (vB (lC f tx n ⟨f,0,max fuel 0⟩)) H:=by
 have wm:(if fuel<0 then 0 else fuel)=max fuel 0:=by split<;>omega
 obtain⟨R,hR⟩:∃R,lC f tx n ⟨f,0,max fuel 0⟩=R:=⟨_,rfl⟩
 have i0:LnI R f tx (n,⟨f,0,max fuel 0⟩):=⟨h,hR⟩
 rw[hR]
 clear hR
 refine it (gj a) tG (rs:=[.cell 6 42,.tmp 7,.tmp 8]) func12 rfl rfl rfl (by simp) (by simp) (fun B=>?_)
 refine zu4 ?_
 refine zp3 ?_
 refine Wa 19 rfl (congrArg (fun z=>PV.val (Value.int .i64 z)) wm) ?_
 refine zs4 ?_
 refine Wl ?_
 show W _ _ _ _ _ _ _
 refine gz (fun(s:(Nat×LS))=>[(1,str tx),(3,.ptr 2 0),(6,.ptr 3 0),(9,.ptr 4 0),(10,i64 s.2.at_),(11,i64 s.2.left)]) (fun(s:(Nat×LS))=>[.glob 1 (haltV a),.glob 0 etV,.cells (jQ f) 42,.cells zFc 42,.cells (jQ s.2.f) 42]) (fun(s:(Nat×LS))=>[]) (fun(s:(Nat×LS))=>LnI R f tx s) (fun(s:(Nat×LS))=>s.1) ((n,⟨f,0,max fuel 0⟩)) (by exact i0) [] ?_ ?_
 ·exact fM
 intro s hs
 refine Wl<|Ws ?_
 obtain⟨N,hW⟩:=hs.one
 have pW:=By a s.2.f tx s.2.at_ s.2.left N hW
 have pb:=hs.bad
 have pe:=hs.fin
 have pn:=hs.next
 rw[show kR s.2.f tx s.2.at_ s.2.left=lnR s.2 tx from rfl]at pW
 obtain⟨r,hr⟩:∃r,lnR s.2 tx=r:=⟨_,rfl⟩
 rw[hr]at pW pb pe pn
 refine aa rfl ?_
 refine zy4 ?_
 refine zc rfl func21 (pW _ (cp 0 1 rfl rfl)) ?_
 refine zy5 ?_
 refine zy5 ?_
 refine zs2 ?_
 refine zp5 ?_
 refine zs1 ?_
 refine Ws<|zu2 ?_
 refine Wi rfl (fun hi1=>?_) (fun hi1=>?_)
 ·have q:r.2.2.2.2≠0:=by simpa using hi1
  have pb:=pb q
  refine zp1 ?_
  refine zc rfl func26 ((Np r.1 pb.1) _) ?_
  refine zs1 ?_
  refine zp5 ?_
  refine zs2 ?_
  refine V3.bb [0,0,8,0,0,8,0,0,8,0,0,13,0,0,13,0,0,13] [0,1,2,3,4,5,6,7,8,9,10,11,12,13,14,15,16,17] mG rfl (by kernel_rfl) ?_
  iterate 2 refine V3.aP ?_
  refine V3.zU 2 ?_
  iterate 2 refine V3.aP ?_
  refine V3.zU 2 ?_
  iterate 2 refine V3.aP ?_
  refine V3.zU 2 ?_
  iterate 2 refine V3.aP ?_
  refine V3.bV 4 tG rfl rfl rfl rfl rfl trivial rfl ?_
  iterate 2 refine V3.aP ?_
  refine V3.bV 4 tG rfl rfl rfl rfl rfl trivial rfl ?_
  iterate 2 refine V3.aP ?_
  refine V3.bV 4 tG rfl rfl rfl rfl rfl trivial rfl ?_
  refine V3.br ?_
  refine zp3 ?_
  refine Wb 60 rfl (fun hg1=>?_) (fun hg1=>?_)
  ·have q2:r.2.2.2.1=false:=by simpa using hg1
   iterate 2 refine z6 ?_
   refine zs1 ?_
   refine Wt rfl rfl ?_
   refine zp3 ?_
   refine zc rfl func27 ((Az _) _) ?_
   refine zs3 ?_
   refine zp5 ?_
   refine zs1 ?_
   refine zR ?_
   (rw[pb.2];rfl)
  have q2:r.2.2.2.1=true:=by simpa using hg1
  refine zs3 ?_
  refine Wt rfl (by omega) ?_
  refine zp3 ?_
  refine zc rfl func27 ((Az _) _) ?_
  refine zs3 ?_
  refine zp5 ?_
  refine zs1 ?_
  refine zR ?_
  (rw[pb.2];rfl)
 have q:¬r.2.2.2.2≠0:=by simpa using hi1
 refine Wj<|zp3 ?_
 refine Wb 60 rfl (fun hg1=>?_) (fun hg1=>?_)
 ·have q2:r.2.2.2.1=false:=by simpa using hg1
  iterate 2 refine z6 ?_
  refine zs1 ?_
  refine Wt rfl rfl ?_
  refine zp3 ?_
  refine zc rfl func27 ((Az _) _) ?_
  refine zs3 ?_
  refine zp5 ?_
  refine zs1 ?_
  refine zR ?_
  (rw[pe q q2,show r.2.2.2.2=0 from Decidable.not_not.1 q];rfl)
 have q2:r.2.2.2.1=true:=by simpa using hg1
 refine zs3 ?_
 refine Wf rfl (by omega) ?_
 refine Wj ?_
 exact⟨(s.1-1,⟨r.1,r.2.1,r.2.2.1⟩),[],(by exact(pn q q2).1),(by exact(pn q q2).2),fM⟩
def R7{f:af}(h:(aK f).bad=0):f.comp.xt=0:=by
 unfold aK at h
 split at h
 ·assumption
 cases h
def Pr{N M:Nat}{f:af}(h:OkF N f){v:VVm}(g:bf M v)(hx:DX v.dict)(h0:f.comp.xt=0):OkF M {f with vm:=v} :=
 ⟨g,h.cfl,h.cf,fun q=>absurd h0 q,fun q=>absurd h0 q,h.la,h.fu,hx⟩
def AI{N M:Nat}{f:af}(h:OkF N f)(hM:N<=M){w:FW}(hw:w.bad=0->OkF M w.f):OkF M (gU w f).1:=by
 unfold gU
 split
 ·exact h.up hM
 rename_i q;exact hw (Decidable.not_not.1 q)
def WP{N:Nat}{f:af}(h:OkF N f):OkF N (Nv f).1:=by
 unfold Nv
 split
 ·exact AI h (Nat.le_refl _) fun q=>absurd (vz q).2 (by decide)
 refine AI h (Nat.le_refl _) fun q=>?_
 have fl:0<=(qu f).flags/\(qu f).flags<=7:=by
  unfold qu
  by_cases hi:f.vm.dict.length-1<f.vm.dict.length
  ·have q:=((tW h.g.right.dict).get hi);exact q.2
  rw[List.getD_eq_getElem?_getD,List.getElem?_eq_none (by omega)];exact⟨by decide,by decide⟩
 have i7:=at4 fl.1 fl.2
 have e:(nc (aK f) (cH f.vm.dict ((f.vm.dict.length-1:Nat):Int) (Fr (qu f).flags))).f={f with vm:={f.vm with dict:=(cH f.vm.dict ((f.vm.dict.length-1:Nat):Int) (Fr (qu f).flags)).1}}:=by unfold nc;rw[m7];rfl
 rw[e]
 have hl:=(A8 h.g.right.dict ((f.vm.dict.length-1:Nat):Int) i7.1 i7.2).2
 exact h.vm (L1 h.g _ i7.1 i7.2) (by show _<=(cH f.vm.dict _ _).1.length;rw[hl];exact Nat.le_refl _) rfl (Mo h.xts _ _)
def Q7{N:Nat}{f:af}(h:OkF N f)(name:Str):OkF N (C6 f name).1:=by
 unfold C6
 refine AI h (Nat.le_refl _) fun q=>?_
 have q:(CR f (dc f.vm.dict name)).bad=0:=q
 generalize dc f.vm.dict name=r at q ⊢
 have hB:(aK f).bad=0/\1368<=r.1.xt/\r.1.xt<=f.vm.here/\CR f r=aK f:=by
  unfold CR at q ⊢
  split at q
  ·exact absurd (vz q).2 (by decide)
  rename_i z
  split at q
  ·exact absurd (vz q).2 (by decide)
  rename_i y
  rw[if_neg z,if_neg y]
  exact⟨q,by omega,by omega,rfl⟩
 have e:(Bg (CR f r) f.vm.dict r).f={f with vm:={f.vm with dict:=(i6 f.vm.dict r.2.1).1,here:=r.1.xt,last:=0}}:=by unfold Bg;rw[hB.2.2.2];rfl
 rw[e]
 refine Pr h ?_ (TT h.xts _) (R7 hB.1)
 have h1:=h.g.right.jZ
 exact yT (Mx (Py h.g _) hB.2.1 (by show r.1.xt<=f.vm.conf.mem;omega)) bI
def TL{N:Nat}{f:af}(h:OkF N f)(name:Str)(n:Int):OkF (N+261) (wj f name n).1:=by
 unfold wj
 split
 ·exact h.up (by omega)
 rename_i q
 refine(oX h name false (na f n)).up ?_
 unfold na
 rw[List.length_append]
 split
 ·rename_i z
  rw[List.length_replicate]
  have:¬(n<1\/256<n):=fun y=>q ⟨z,y⟩
  show N+1+(4+n.toNat)<=_
  omega
 show N+1+(4+0)<=_
 omega
section
variable {N : Nat} {l0 l : ai}
def Ii(h:Nx N l0 l)(n:Int):Nx (N+1) l0 (Ek l n):=yX (h.up (by omega)) (h.f.kv (DW h.f.g (cP _ _ _)) ⟨rfl,rfl,rfl⟩)
def Br(h:Nx N l0 l)(h0:0<=l0.at_):Nx N l0 (fR l).1:=by
 have q:=w9 h h0
 unfold fR;split
 ·dsimp only;split
  ·exact vK q _
  exact q
 exact q
def QG(l:ai):ae (pT l).2:=by
 unfold pT
 dsimp only
 split
 ·exact bI
 unfold VS ae
 have:=((bW l).2.getD 0 0).toNat_lt
 omega
def Wx(h:Nx N l0 l)(h0:0<=l0.at_):Nx (N+3) l0 (GK l):=by
 have q:=Br h h0
 unfold GK;split
 ·unfold PM;split
  ·exact(D7 (vK q _) _).up (by omega)
  exact yR (Aj (vK q _) _) _
 exact q.up (by omega)
def VI(h:Nx N l0 l)(h0:0<=l0.at_)(name:Str):Nx (N+270) l0 (rY l name):=by
 unfold rY
 cases hs:spF name with
 | none=>exact(Jo h name).up (by omega)
 | some g =>
  dsimp only
  unfold spF at hs
  rcases ag hs with rfl|hs
  ·exact(FT h h0 false 0).up (by omega)
  rcases ag hs with rfl|hs
  ·have p:=J3 h
   unfold oOn;split
   ·exact(FT p.1 h0 true _).up (by omega)
   exact p.1.up (by omega)
  rcases ag hs with rfl|hs
  ·exact(VV h).up (by omega)
  rcases ag hs with rfl|hs
  ·exact(Ow h h0).up (by omega)
  rcases ag hs with rfl|hs
  ·exact(wC h h0 (j:=4) fun f name o=>oX o name true [257,0,0]).up (by omega)
  rcases ag hs with rfl|hs
  ·exact(TJ h h0).up (by omega)
  rcases ag hs with rfl|hs
  ·exact(Cv h h0 (j:=261) fun f name n o=>TL o name n).up (by omega)
  rcases ag hs with rfl|hs
  ·exact(zj h (WP h.f)).up (by omega)
  rcases ag hs with rfl|hs
  ·exact(wC h h0 (j:=0) fun f name o=>Q7 o name).up (by omega)
  rcases ag hs with rfl|hs
  ·exact(Fe (Br h h0) (C8 h.f.xts)).up (by omega)
  rcases ag hs with rfl|hs
  ·exact(Aj (Br h h0) _).up (by omega)
  rcases ag hs with rfl|hs
  ·exact(Fe (w9 h h0) (QG l)).up (by omega)
  rcases ag hs with rfl|hs
  ·exact(Aj (w9 h h0) _).up (by omega)
  rcases ag hs with rfl|hs
  ·exact(Aj (J3 h).1 _).up (by omega)
  rcases ag hs with rfl|hs
  ·exact(Wx h h0).up (by omega)
  rcases ag hs with rfl|hs
  ·exact(D7 h _).up (by omega)
  rcases ag hs with rfl|hs
  ·exact(yR h _).up (by omega)
  rcases ag hs with rfl|hs
  ·exact(yR h _).up (by omega)
  rcases ag hs with rfl|hs
  ·exact(Lm h h0).up (by omega)
  rcases ag hs with rfl|hs
  ·exact(Uh h h0).up (by omega)
  rcases ag hs with rfl|hs
  ·exact(Fi h h0 41).up (by omega)
  rcases ag hs with rfl|hs
  ·exact(VF h).up (by omega)
  rcases ag hs with rfl|hs
  ·exact(Ii h 0).up (by omega)
  rcases ag hs with rfl|hs
  ·unfold AG;split
   ·exact(vK h _).up (by omega)
   exact(Ii h (-1)).up (by omega)
  cases hs
end
def Cl(l:List UInt8)(b:Int):ae (dK l b).1:=by
 have w:∀n:Int,ae (wrap64 n):=fun n=>gS n
 unfold dK oE
 split
 ·rename_i q
  split at q
  ·split at q
   ·injection q with q
    rename_i a c d z
    unfold ae;omega
   cases q
  cases q
 unfold oQ
 split
 ·exact bI
 dsimp only
 split
 ·exact w _
 exact w _
def BD{N:Nat}{l0 l:ai}(h:Nx N l0 l)(u0:0<=l0.fuel):Nr l0 l N :=
 ⟨by rw[h.u,Nat.add_sub_cancel];exact h.f,h.s,h.a,h.b,by rw[h.u];exact u0,by rw[h.u];exact Int.le_refl _⟩
def Nr.up{N M:Nat}{l0 l:ai}(h:Nr l0 l N)(hM:N<=M):Nr l0 l M:=⟨h.f.up (by omega),h.s,h.a,h.b,h.u0,h.u1⟩
section
variable {N : Nat} {l : ai}
def T8(h:OkF N l.f)(h0:0<=l.at_)(h1:l.at_<=l.s.length)(u0:0<=l.fuel)(u9:l.fuel<=90000){x:aS}(hx:ae x.xt):Nr l (jq l x).1 (N+270):=by
 have n:Nx N l l:=⟨h,rfl,Int.le_refl _,h1,rfl⟩
 have i:∀{c:Prop} [Decidable c] {a b:ai×Bool},Nr l a.1 (N+270)->Nr l b.1 (N+270)->Nr l (if c then a else b).1 (N+270):=fun {c} _ {a b} p q=>by
  by_cases hc:c
  ·rw[if_pos hc];exact p
  rw[if_neg hc];exact q
 unfold jq
 exact i (BD ((vK n _).up (by omega)) u0) (i (BD ((vK n _).up (by omega)) u0) (i (BD ((D7 n _).up (by omega)) u0) (i (BD (VI n h0 _) u0) ((Qc h hx h0 h1 u0 u9).up (by omega)))))
def ai9(h:OkF N l.f)(h0:0<=l.at_)(h1:l.at_<=l.s.length)(u0:0<=l.fuel)(u9:l.fuel<=90000)(name:Str):Nr l (nE l name).1 (N+270):=by
 unfold nE
 split
 ·exact T8 h h0 h1 u0 u9 (Bc h.xts name)
 have n:Nx N l l:=⟨h,rfl,Int.le_refl _,h1,rfl⟩
 unfold Js
 split
 ·exact BD ((vK n _).up (by omega)) u0
 split
 ·exact BD ((Aj n _).up (by omega)) u0
 exact BD ((Fe n (Cl _ _)).up (by omega)) u0
end
structure Wo (N:Nat) (s:Str) (a fuel:Int) (r:af×Int×Int×Bool×Int):Prop where
 f:OkF (N+270+3*fuel.toNat-3*r.2.2.1.toNat) r.1
 u0:0<=r.2.2.1
 u1:r.2.2.1<=fuel
 a:r.2.2.2.2=0->r.2.2.2.1=true->a<r.2.1/\(a+2<=r.2.1\/r.2.1=s.length)
 b:r.2.1<=s.length
def okw{N:Nat}{f:af}{s:Str}{a fuel:Int}(h:OkF N f)(h0:0<=a)(h1:a<=s.length)(u0:0<=fuel)(u9:fuel<=90000):Wo N s a fuel (kR f s a fuel):=by
 have mu:max fuel 0=fuel:=by omega
 have o:OkF (N+270+3*fuel.toNat-3*fuel.toNat) f:=h.up (by omega)
 by_cases hw:(bE s a).1=[]
 ·rw[RS hw,mu]
  exact⟨o,u0,Int.le_refl _,(fun _ q=>by cases q),Int.le_refl _⟩
 have w:=E1 s h0 h1 hw
 have r:=ai9 (l:=bg f s (bE s a).2 (max fuel 0)) h (by show 0<=(bE s a).2;omega) w.2.1 (by show 0<=max fuel 0;omega) (by show max fuel 0<=90000;omega) (bE s a).1
 generalize hr:nE (bg f s (bE s a).2 (max fuel 0)) (bE s a).1=x at r
 by_cases hb:x.1.err≠0/\x.2=false
 ·rw[KZ hw hr hb.1 hb.2,mu]
  exact⟨o,u0,Int.le_refl _,fun q=>absurd q hb.1,h1⟩
 rw[QX hw hr hb]
 have ra:=r.a
 have ru:=r.u1
 rw[show(bg f s (bE s a).2 (max fuel 0)).at_=(bE s a).2 from rfl]at ra
 rw[show(bg f s (bE s a).2 (max fuel 0)).fuel=max fuel 0 from rfl,mu]at ru
 refine⟨?_,r.u0,ru,fun _ _=>?_,r.b⟩
 ·have:=r.f
  rw[show(bg f s (bE s a).2 (max fuel 0)).fuel=max fuel 0 from rfl,mu]at this
  exact this
 show a<x.1.at_/\(a+2<=x.1.at_\/x.1.at_=s.length)
 have rb:=r.b
 change x.1.at_<=(s.length:Int)at rb
 omega
def T6{N:Nat}{f:af}{s:Str}(h:OkF N f)(hN:N<=190000)(hs:s.length<=1000000):LK 300 (bg f s 0 0):=by
 have R:=h.g.right
 have hc:=R.gE
 unfold eO at hc
 have h1:=R.d
 have h2:=R.out
 exact⟨h.fk (by omega),hs,by show f.vm.d.length<=_;omega,by show ae f.vm.conf.data;unfold ae;omega,by show 0<=f.vm.conf.out;omega,by show f.vm.conf.out<=_;omega,by show f.vm.out.length<=_;omega,h.cfl,h.cf,h.dict,h.xts⟩
def XV{N:Nat}{v:VVm}(g:bf N v):bf 0 {v with mem:=⟨v.mem.b,[]⟩}:=by
 have R:=g.right
 refine⟨⟨R.gE,?_,R.dict,R.pic,R.len,R.jV,R.jZ,R.f,R.hand,R.d,R.r,R.fl,R.dl,R.out,R.req,R.free0,R.free1,R.next0,R.next1,R.handl⟩,Nat.le_refl _,g.fd,g.fr,g.ff,g.ints,g.la⟩
 have m:=R.mem
 unfold mj at m ⊢
 rw[Bool.and_eq_true]at m
 show([].all _&&_)=true
 rw[List.all_nil,Bool.true_and];exact m.2
def Hs{N:Nat}{f:af}(h:OkF N f):OkF 0 (vH f):=⟨XV h.g,h.cfl,h.cf,h.dict,h.here,h.la,h.fu,h.xts⟩
def Xu{N K:Nat}{f0 f:af}(h:OkF N f)(g0:bf K f0.vm):OkF (N+1) (M1 f0 f):=by
 have u:=P5 h
 have R:=u.g.right
 have R0:=g0.right
 have hc:=R.gE
 unfold eO at hc
 exact⟨⟨⟨R.gE,R.mem,R.dict,⟨(by show(0:Nat)<=130;decide),.inr rfl⟩,R.len,R.jV,R.jZ,R.f,R.hand,(by show((0:Nat):Int)<=(j6 f).vm.conf.data;omega),R.r,R.fl,R.dl,R.out,R0.req,R0.free0,R0.free1,R0.next0,R0.next1,R.handl⟩,u.g.old,bG,u.g.fr,u.g.ff,u.g.ints,u.g.la⟩,u.cfl,u.cf,u.dict,u.here,u.la,u.fu,u.xts⟩
def Lt{tx:Str}{K:Nat}{f0:af}(g0:bf K f0.vm)(ht:tx.length<=1000000):∀(n N:Nat) (x:LS),OkF N x.f->0<=x.at_->x.at_<=tx.length->0<=x.left->x.left<=90000 ->
  N+3*x.left.toNat+270*((tx.length+1-x.at_.toNat)/2)+270<=190000->tx.length+1-x.at_.toNat<n ->
  O5 tx n x/\OkF 0 (lC f0 tx n x).1/\0<=(lC f0 tx n x).2.1/\(lC f0 tx n x).2.1<=x.left
 | 0,N,x,_,_,_,_,_,_,hn=>by omega
 | n+1,N,x,h,h0,h1,u0,u9,hN,hn=>by
  have w:Wo N tx x.at_ x.left (lnR x tx):=okw h h0 h1 u0 u9
  have hu1:=w.u1
  have hu0:=w.u0
  have hb:=w.b
  have ha:=w.a
  have hf:=w.f
  have ih:=fun e i=>Lt g0 ht n (N+270+3*x.left.toNat-3*(lnR x tx).2.2.1.toNat) ⟨(lnR x tx).1,(lnR x tx).2.1,(lnR x tx).2.2.1⟩ hf (by have:=ha e i;show 0<=(lnR x tx).2.1;omega) hb hu0 (by show(lnR x tx).2.2.1<=90000;omega) (by have:=ha e i;show _+3*(lnR x tx).2.2.1.toNat+270*((tx.length+1-(lnR x tx).2.1.toNat)/2)+270<=_;omega) (by have:=ha e i;show tx.length+1-(lnR x tx).2.1.toNat<n;omega)
  refine⟨⟨⟨N,⟨T6 h (by omega) ht,h.g,by omega,u9⟩⟩,fun _=>hf.fk (by omega),fun e i=>(ih e i).1⟩,?_⟩
  rw[lC]
  by_cases e:(lnR x tx).2.2.2.2≠0
  ·rw[if_pos e]
   exact⟨Hs (Xu hf g0),hu0,hu1⟩
  rw[if_neg e]
  by_cases i:(lnR x tx).2.2.2.1=false
  ·rw[if_pos i];exact⟨Hs hf,hu0,hu1⟩
  rw[if_neg i]
  have q:=ih (Decidable.not_not.1 e) (by simpa using i)
  exact⟨q.2.1,q.2.2.1,Int.le_trans q.2.2.2 hu1⟩
def m9(f:af)(tx:Str)(fuel:Int):af×Int×Int:=lC f tx (tx.length+2) ⟨f,0,max fuel 0⟩
def Ia{N:Nat}{f:af}{tx:Str}{fuel:Int}(h:OkF N f)(ht:tx.length<=1000)(hu:fuel<=5000)(hN:N<=20000):
  O5 tx (tx.length+2) ⟨f,0,max fuel 0⟩/\OkF 0 (m9 f tx fuel).1/\0<=(m9 f tx fuel).2.1/\(m9 f tx fuel).2.1<=max fuel 0 :=
 Lt h.g (by omega) (tx.length+2) N ⟨f,0,max fuel 0⟩ h (Int.le_refl _) (Int.natCast_nonneg _) (by show 0<=max fuel 0;omega) (by show max fuel 0<=90000;omega) (by show N+3*(max fuel 0).toNat+270*((tx.length+1-(0:Int).toNat)/2)+270<=_;omega) (by show tx.length+1-(0:Int).toNat<_;omega)
def HO(a:Addr){N:Nat}{f:af}{tx:Str}{fuel:Int}(h:OkF N f)(ht:tx.length<=1000)(hu:fuel<=5000)(hN:N<=20000):∀(H:List Ob),(∀o∈hJ a,∃k:Nat,H[k]?=some o)->HC prog 12 [bS f,str tx,i64 fuel] H (vB (m9 f tx fuel)) H :=
 I8 a f tx fuel _ (Ia h ht hu hN).1
open Go.RowKit
def L8(f:af)(xt:Int)(tx:Str)(p fuel:Int):af×Int×Int×Int :=
 ((mn (bg f tx p (max fuel 0)) xt).f,(mn (bg f tx p (max fuel 0)) xt).at_,(mn (bg f tx p (max fuel 0)) xt).fuel,(mn (bg f tx p (max fuel 0)) xt).err)
def Lf(r:af×Int×Int×Int):PV:=.tup [bS r.1,i64 r.2.1,i64 r.2.2.1,i64 r.2.2.2]
@[simp] theorem Zh (r : af × Int × Int × Int) : aU (Lf r) := by unfold Lf; simp [aU, aw]
def JH(a:Addr)(f:af)(xt:Int)(tx:Str)(p fuel:Int)(N:Nat)(g:bf N f.vm)(hx:ae xt)(h1:fuel<=90000)(hN:N<=190000)(hs:tx.length<=1000000):∀(H:List Ob),(∀o∈hJ a,∃k:Nat,H[k]?=some o)->HC prog 22 [bS f,i64 xt,str tx,i64 p,i64 fuel] H (Lf (L8 f xt tx p fuel)) H:=by
 have wm:(if fuel<0 then 0 else fuel)=max fuel 0:=by split<;>omega
 have pE:=qN a (bg f tx p (max fuel 0)) xt N g hx (by show 0<=max fuel 0;omega) (by show max fuel 0<=90000;omega) hN hs
 unfold L8
 obtain⟨r,hr⟩:∃r,mn (bg f tx p (max fuel 0)) xt=r:=⟨_,rfl⟩
 rw[hr]at pE ⊢
 refine it (gj a) tG (rs:=[.cell 10 42,.tmp 11,.tmp 12,.tmp 13]) func22 rfl rfl rfl (by simp) (by simp) (fun B=>?_)
 refine zu5 ?_
 refine zp5 ?_
 refine Wa 19 rfl (congrArg (fun z=>PV.val (Value.int .i64 z)) wm) ?_
 refine zs3 ?_
 refine zp2 ?_
 refine zc rfl func45 (pE _ 4 rfl (cp 0 1 rfl rfl)) ?_
 refine Wn<|Ws<|V3.bb [0,0,0,12,0,0,0,12,0,0,0,12,0,0,0,12,2,11,0,0,0] [0,1,2,3,4,5,6,7,8,9,10,11,12,13,14,15,16,17,18,19,20] mG rfl (by kernel_rfl) ?_
 iterate 3 refine V3.aP ?_
 refine V3.zU 4 ?_
 iterate 3 refine V3.aP ?_
 refine V3.zU 4 ?_
 iterate 3 refine V3.aP ?_
 refine V3.zU 4 ?_
 iterate 3 refine V3.aP ?_
 refine V3.zU 4 ?_
 refine V3.gy rfl rfl rfl rfl (dC rfl func44 rfl rfl (gm a _ _ (cp 0 1 rfl rfl))) ?_
 refine V3.bV 3 tG rfl rfl rfl rfl rfl trivial rfl ?_
 iterate 3 refine V3.aP ?_
 refine V3.br ?_
 refine zR ?_
 rfl
def mp{b:List UInt8}{k n:Nat}{p q:Prop}[Decidable p][Decidable q](hn:yI k=n)(h1:(pk.getD k []=[40,104,97,108,116,41])=p)(h2:(pk.getD k []=[40,99,97,117,103,104,116,41])=q):
  G9 b k=if q then yL (if p then yL (yL b (32+8*k) n) 16 (32+8*k)else yL b (32+8*k) n) 24 (32+8*k)else(if p then yL (yL b (32+8*k) n) 16 (32+8*k)else yL b (32+8*k) n):=by
 subst h1 h2 hn
 unfold G9
 simp only
 split<;>split<;>simp_all
def aI4{k:Nat}(h:k<167):IntKind.i64.wrap (32+IntKind.i64.wrap (8*(k:Int)))=((32+8*k:Nat):Int):=by simp only[bU];unfold wrap64;omega
def aF2{k n:Nat}(h:k<167)(hn:n=130)(h3:130<=k):IntKind.i64.wrap (IntKind.i64.wrap (300+(k:Int))-(n:Int))=((170+k:Nat):Int):=by subst hn;simp only[bU];unfold wrap64;omega
def aD0{k:Nat}(h:k<167):IntKind.i64.wrap (((32+8*k:Nat):Int)+1)=((32+8*k+1:Nat):Int):=by simp only[bU];unfold wrap64;omega
def HP(k:Nat){q:SK}:PV.seq (ig k++[vR k]).length ((ig k++[vR k]).flatMap cT) q=.seq (ig (k+1)).length ((ig (k+1)).flatMap cT) q:=by rw[Pl]
def aA5{M:Nat}{b:List UInt8}(h:b.length=M):PV.seq M ((b.flatMap aL).take M) .any=sq aL b:=by rw[DM,List.take_of_length_le (by omega),<-h];rfl
def aq8(c:oc)(b:List UInt8)(l:List aS):VVm:={conf:=c,mem:=⟨b,[]⟩,here:=1368,d:=[],r:=[],f:=[],dict:=l,last:=0,out:=[],pic:=⟨[],false⟩,req:=[],free:=0,next:=0,arg:=0,self:=0,now:=0,hand:=[]}
def TA(c:oc):GY c=aq8 c (qe c.mem.toNat 167) (ig 167):=rfl
def Vd(c:oc)(hc:eO c):ab prog 24 [Ll c] (tVm (GY c,0)):=by
 have hM:2048<=c.mem/\c.mem<=65536:=⟨hc.1,hc.2.1⟩
 obtain⟨M,hMe⟩:∃M:Nat,c.mem=M:=⟨c.mem.toNat,by omega⟩
 have hMt:c.mem.toNat=M:=by omega
 have hN:=lI
 have hS:=iF
 have hA:=QZ
 have hD:decide (eO c)=true:=decide_eq_true hc
 refine zY func24 fun B=>?_
 refine zu3 ?_
 refine zp1 ?_
 refine zc rfl func46 ((Th c) _) ?_
 refine zs1 ?_
 refine Ws<|zu2 ?_
 refine Wf rfl (by rw[hD];rfl) ?_
 refine Wj<|zp2 ?_
 refine z2 ?_ (q:=(by(simp_all;omega)))
 refine eV 2 rfl (X3 rfl) rfl ?_
 refine Wa 18 rfl (show PV.arr 2 0 c.mem.toNat c.mem.toNat=.arr 2 0 M M by rw[hMt]) ?_
 refine eV 2 rfl (show Ob.cells ((List.replicate c.mem.toNat (0:UInt8)).flatMap aL) 5=.cells ((List.replicate M (0:UInt8)).flatMap aL) 5 by rw[hMt]) rfl ?_
 refine zs1 ?_
 refine zp1 ?_
 refine z2 ?_ (q:=(by omega))
 refine Wd rfl rfl (bO (lO tG rfl) rfl rfl rfl rfl rfl rfl (by rw[Nat.ble_eq,fU];simp;omega)) ?_
 refine eV 2 rfl (congrArg (fun z=>Ob.cells z 5) (dS (x:=10) (n:=0) rfl (by simp;omega))) rfl ?_
 refine z0 ?_
 refine zc rfl func47 ((Jj) _) ?_
 refine zc rfl func48 ((DV) _) ?_
 refine Wd rfl rfl (ce (lO tG rfl) rfl (lO tG rfl) (lO tG rfl) rfl rfl (by exact⟨_,rfl⟩) (by exact⟨rfl,rfl,al _ 1 (fun _=>rfl) _,bF _ (fun _=>rfl) _⟩) (by exact al _ 1 (fun _=>rfl) _) (by(dsimp only;omega)) (by(rw[hN,hS];decide))) ?_
 refine Wa 23 rfl (cz gR) ?_
 refine Wm 23 rfl (qM _ _ _) ?_
 refine zs1 ?_
 refine zp1 ?_
 refine EG 7 0 3 rfl rfl ?_
 refine Wn<|Ws<|zu1 ?_
 refine Wl ?_
 show W _ _ _ _ _ _ _
 refine gz (fun(k:Nat)=>[(1,.ptr 0 0),(2,.ptr 1 0),(5,.arr 2 0 M M),(6,sq gR pk),(7,.seq (ig k).length ((ig k).flatMap cT) (.own 5 3)),(8,i64 k)]) (fun(k:Nat)=>[.cells (IM c) 25,.cells vmZ 37,.cells ((qe M k).flatMap aL) 5,.dead,.dead]) (fun(k:Nat)=>[.free ((ig k).length*3)]) (fun(k:Nat)=>k<=167) (fun(k:Nat)=>167-k) (0) (by omega) [4] ?_ ?_
 ·exact fM
 intro k hk
 refine Ws<|zu4 ?_
 refine Wi rfl (fun hi2=>?_) (fun hi2=>?_)
 ·have hlt:k<167:=by have:=oT hi2;rw[hA]at this;omega
  have hB:=v6 M k
  have hL:=qw k
  have w1:=aI4 hlt
  have w3:=aD0 hlt
  refine Wj<|Ws<|Wl<|zp3 ?_
  refine Wa 32 rfl (congrArg (fun z=>PV.val (Value.int .i64 z)) w1) ?_
  refine zs1 ?_
  refine zu2 ?_
  refine Ws<|zp1 ?_
  refine zc rfl func47 ((Cg) _) ?_
  refine zs2 ?_
  refine Wi rfl (fun hi3=>?_) (fun hi3=>?_)
  ·have hk3:130<=k:=by have:=oT hi3;rw[hN]at this;omega
   have w2:=aF2 hlt hN hk3
   have hn:yI k=170+k:=by unfold yI;rw[if_pos hk3]
   refine aa rfl ?_
   refine zy2 ?_
   refine zc rfl func47 ((Cg) _) ?_
   refine zy2 ?_
   refine Wa 42 rfl (congrArg (fun z=>PV.val (Value.int .i64 z)) w2) ?_
   refine zs1 ?_
   refine zp5 ?_
   refine Wa 47 rfl (sr _) ?_
   refine z2 ?_ (q:=(by omega))
   refine Wd rfl rfl (bO (lO tG rfl) rfl rfl rfl rfl rfl rfl (by rw[Nat.ble_eq,fU,hB];(try dsimp only);simp;omega)) ?_
   refine eV 2 rfl (congrArg (fun z=>Ob.cells z 5) (dS rfl (by omega))) rfl ?_
   refine Wn<|zp3 ?_
   refine Wa 51 rfl (congrArg (fun z=>PV.val (Value.int .i64 z)) w3) ?_
   refine zy3 ?_
   refine Wa 54 rfl (th _ (by omega)) ?_
   refine z2 ?_ (q:=(by omega))
   refine Wd rfl rfl (bO (lO tG rfl) rfl rfl rfl rfl rfl rfl (by rw[Nat.ble_eq,fU,List.length_set,hB];(try dsimp only);simp;omega)) ?_
   refine eV 2 rfl (congrArg (fun z=>Ob.cells z 5) (dS rfl (by rw[List.length_set];omega))) rfl ?_
   refine Wn<|Ws<|ax [0,0,0,0,0,0,0,0,0,0,0,0,0,0,3,0] [0,1,2,3,4,5,6,7,8,9,10,11,12,13,14,15] mG rfl (by kernel_rfl) ?_
   iterate 3 refine z3 ?_
   refine Xi tG rfl rfl rfl rfl (fun _=>rfl) (by omega) (iN gR 1 (fun _=>rfl) [] (by omega)) ?_
   iterate 4 refine z3 ?_
   refine Xi tG rfl rfl rfl rfl (fun _=>rfl) (by omega) (iN gR 1 (fun _=>rfl) [] (by omega)) ?_
   iterate 2 refine z3 ?_
   refine Xc rfl rfl rfl rfl (fun _=>dC rfl func49 rfl rfl ((Ct _ k) _)) ?_
   iterate 2 refine z3 ?_
   refine Xa 69 rfl ((show PV.seq 1 _ .clip=.seq (List.length [vR k]) (List.flatMap cT [vR k]) .clip from rfl)) ?_
   refine mD rfl rfl rfl rfl (fw (lO tG rfl) rfl (lO tG rfl) (lO tG rfl) rfl rfl rfl rfl (by simp) (by exact⟨_,rfl⟩) (by exact⟨rfl,rfl,al _ 3 (fun _=>rfl) _,bF _ (fun _=>rfl) _⟩) (by(rw[hL];dsimp only;simp;omega)) (by(simp;omega))) ?_
   refine Xa 70 rfl (cz cT) ?_
   refine z3 ?_
   skip
   refine aQ ?_
   refine Ws<|zp2 ?_
   refine Wv tG rfl rfl rfl (by omega) (iN gR 1 (fun _=>rfl) [] (by omega)) ?_
   refine zy2 ?_
   refine zq 75 ?_
   refine Wn<|Wi rfl (fun hi4=>?_) (fun hi4=>?_)
   ·have h1:(pk.getD k []=[40,104,97,108,116,41])=True:=eq_true (oT hi4)
    refine zp4 ?_
    refine Wa 79 rfl (sr _) ?_
    refine z2 ?_ (q:=(by omega))
    refine Wd rfl rfl (bO (lO tG rfl) rfl rfl rfl rfl rfl rfl (by rw[Nat.ble_eq,fU];simp only[List.length_set,hB];(try dsimp only);simp;omega)) ?_
    refine eV 2 rfl (congrArg (fun z=>Ob.cells z 5) (dS rfl (by simp only[List.length_set];omega))) rfl ?_
    refine Wn<|aa rfl ?_
    refine zy4 ?_
    refine Wa 84 rfl (th _ (by omega)) ?_
    refine z2 ?_ (q:=(by omega))
    refine Wd rfl rfl (bO (lO tG rfl) rfl rfl rfl rfl rfl rfl (by rw[Nat.ble_eq,fU];simp only[List.length_set,hB];(try dsimp only);simp;omega)) ?_
    refine eV 2 rfl (congrArg (fun z=>Ob.cells z 5) (dS rfl (by simp only[List.length_set];omega))) rfl ?_
    refine Wn<|zp2 ?_
    refine Wv tG rfl rfl rfl (by omega) (iN gR 1 (fun _=>rfl) [] (by omega)) ?_
    refine zy2 ?_
    refine zq 90 ?_
    refine Wn<|Wi rfl (fun hi5=>?_) (fun hi5=>?_)
    ·have h2:(pk.getD k []=[40,99,97,117,103,104,116,41])=True:=eq_true (oT hi5)
     refine zp4 ?_
     refine Wa 94 rfl (sr _) ?_
     refine z2 ?_ (q:=(by omega))
     refine Wd rfl rfl (bO (lO tG rfl) rfl rfl rfl rfl rfl rfl (by rw[Nat.ble_eq,fU];simp only[List.length_set,hB];(try dsimp only);simp;omega)) ?_
     refine eV 2 rfl (congrArg (fun z=>Ob.cells z 5) (dS rfl (by simp only[List.length_set];omega))) rfl ?_
     refine Wn<|aa rfl ?_
     refine zy4 ?_
     refine Wa 99 rfl (th _ (by omega)) ?_
     refine z2 ?_ (q:=(by omega))
     refine Wd rfl rfl (bO (lO tG rfl) rfl rfl rfl rfl rfl rfl (by rw[Nat.ble_eq,fU];simp only[List.length_set,hB];(try dsimp only);simp;omega)) ?_
     refine eV 2 rfl (congrArg (fun z=>Ob.cells z 5) (dS rfl (by simp only[List.length_set];omega))) rfl ?_
     refine Wn<|aa rfl ?_
     refine z1 ?_
     refine eV 2 rfl (congrArg (fun z=>Ob.cells (List.flatMap aL z) 5) (show _=qe M (k+1) from(mp hn h1 h2).symm)) rfl ?_
     refine zs2 ?_
     exact⟨k+1,[6],(by omega),(by omega),(fM (sub:=by repeat (first|exact gl|refine eW (by first|exact cQ rfl|exact cQ (HP k)|exact cQ (congrArg i64 (by(rw[bU];unfold wrap64;omega)))) ?_)))⟩
    have h2:(pk.getD k []=[40,99,97,117,103,104,116,41])=False:=eq_false (oF hi5)
    refine Wj<|aa rfl ?_
    refine z1 ?_
    refine eV 2 rfl (congrArg (fun z=>Ob.cells (List.flatMap aL z) 5) (show _=qe M (k+1) from(mp hn h1 h2).symm)) rfl ?_
    refine zs2 ?_
    exact⟨k+1,[6],(by omega),(by omega),(fM (sub:=by repeat (first|exact gl|refine eW (by first|exact cQ rfl|exact cQ (HP k)|exact cQ (congrArg i64 (by(rw[bU];unfold wrap64;omega)))) ?_)))⟩
   have h1:(pk.getD k []=[40,104,97,108,116,41])=False:=eq_false (oF hi4)
   refine Wj<|zp2 ?_
   refine Wv tG rfl rfl rfl (by omega) (iN gR 1 (fun _=>rfl) [] (by omega)) ?_
   refine zy2 ?_
   refine zq 90 ?_
   refine Wn<|Wi rfl (fun hi5=>?_) (fun hi5=>?_)
   ·have h2:(pk.getD k []=[40,99,97,117,103,104,116,41])=True:=eq_true (oT hi5)
    refine zp4 ?_
    refine Wa 94 rfl (sr _) ?_
    refine z2 ?_ (q:=(by omega))
    refine Wd rfl rfl (bO (lO tG rfl) rfl rfl rfl rfl rfl rfl (by rw[Nat.ble_eq,fU];simp only[List.length_set,hB];(try dsimp only);simp;omega)) ?_
    refine eV 2 rfl (congrArg (fun z=>Ob.cells z 5) (dS rfl (by simp only[List.length_set];omega))) rfl ?_
    refine Wn<|aa rfl ?_
    refine zy4 ?_
    refine Wa 99 rfl (th _ (by omega)) ?_
    refine z2 ?_ (q:=(by omega))
    refine Wd rfl rfl (bO (lO tG rfl) rfl rfl rfl rfl rfl rfl (by rw[Nat.ble_eq,fU];simp only[List.length_set,hB];(try dsimp only);simp;omega)) ?_
    refine eV 2 rfl (congrArg (fun z=>Ob.cells z 5) (dS rfl (by simp only[List.length_set];omega))) rfl ?_
    refine Wn<|aa rfl ?_
    refine z1 ?_
    refine eV 2 rfl (congrArg (fun z=>Ob.cells (List.flatMap aL z) 5) (show _=qe M (k+1) from(mp hn h1 h2).symm)) rfl ?_
    refine zs2 ?_
    exact⟨k+1,[6],(by omega),(by omega),(fM (sub:=by repeat (first|exact gl|refine eW (by first|exact cQ rfl|exact cQ (HP k)|exact cQ (congrArg i64 (by(rw[bU];unfold wrap64;omega)))) ?_)))⟩
   have h2:(pk.getD k []=[40,99,97,117,103,104,116,41])=False:=eq_false (oF hi5)
   refine Wj<|aa rfl ?_
   refine z1 ?_
   refine eV 2 rfl (congrArg (fun z=>Ob.cells (List.flatMap aL z) 5) (show _=qe M (k+1) from(mp hn h1 h2).symm)) rfl ?_
   refine zs2 ?_
   exact⟨k+1,[6],(by omega),(by omega),(fM (sub:=by repeat (first|exact gl|refine eW (by first|exact cQ rfl|exact cQ (HP k)|exact cQ (congrArg i64 (by(rw[bU];unfold wrap64;omega)))) ?_)))⟩
  have hn:yI k=k:=by have:=oF hi3;rw[hN]at this;unfold yI;rw[if_neg (by omega)]
  refine Wj<|zp5 ?_
  refine Wa 47 rfl (sr _) ?_
  refine z2 ?_ (q:=(by omega))
  refine Wd rfl rfl (bO (lO tG rfl) rfl rfl rfl rfl rfl rfl (by rw[Nat.ble_eq,fU,hB];(try dsimp only);simp;omega)) ?_
  refine eV 2 rfl (congrArg (fun z=>Ob.cells z 5) (dS rfl (by omega))) rfl ?_
  refine Wn<|zp3 ?_
  refine Wa 51 rfl (congrArg (fun z=>PV.val (Value.int .i64 z)) w3) ?_
  refine zy3 ?_
  refine Wa 54 rfl (th _ (by omega)) ?_
  refine z2 ?_ (q:=(by omega))
  refine Wd rfl rfl (bO (lO tG rfl) rfl rfl rfl rfl rfl rfl (by rw[Nat.ble_eq,fU,List.length_set,hB];(try dsimp only);simp;omega)) ?_
  refine eV 2 rfl (congrArg (fun z=>Ob.cells z 5) (dS rfl (by rw[List.length_set];omega))) rfl ?_
  refine Wn<|Ws<|ax [0,0,0,0,0,0,0,0,0,0,0,0,0,0,3,0] [0,1,2,3,4,5,6,7,8,9,10,11,12,13,14,15] mG rfl (by kernel_rfl) ?_
  iterate 3 refine z3 ?_
  refine Xi tG rfl rfl rfl rfl (fun _=>rfl) (by omega) (iN gR 1 (fun _=>rfl) [] (by omega)) ?_
  iterate 4 refine z3 ?_
  refine Xi tG rfl rfl rfl rfl (fun _=>rfl) (by omega) (iN gR 1 (fun _=>rfl) [] (by omega)) ?_
  iterate 2 refine z3 ?_
  refine Xc rfl rfl rfl rfl (fun _=>dC rfl func49 rfl rfl ((Ct _ k) _)) ?_
  iterate 2 refine z3 ?_
  refine Xa 69 rfl ((show PV.seq 1 _ .clip=.seq (List.length [vR k]) (List.flatMap cT [vR k]) .clip from rfl)) ?_
  refine mD rfl rfl rfl rfl (fw (lO tG rfl) rfl (lO tG rfl) (lO tG rfl) rfl rfl rfl rfl (by simp) (by exact⟨_,rfl⟩) (by exact⟨rfl,rfl,al _ 3 (fun _=>rfl) _,bF _ (fun _=>rfl) _⟩) (by(rw[hL];dsimp only;simp;omega)) (by(simp;omega))) ?_
  refine Xa 70 rfl (cz cT) ?_
  refine z3 ?_
  skip
  refine aQ ?_
  refine Ws<|zp2 ?_
  refine Wv tG rfl rfl rfl (by omega) (iN gR 1 (fun _=>rfl) [] (by omega)) ?_
  refine zy2 ?_
  refine zq 75 ?_
  refine Wn<|Wi rfl (fun hi4=>?_) (fun hi4=>?_)
  ·have h1:(pk.getD k []=[40,104,97,108,116,41])=True:=eq_true (oT hi4)
   refine zp4 ?_
   refine Wa 79 rfl (sr _) ?_
   refine z2 ?_ (q:=(by omega))
   refine Wd rfl rfl (bO (lO tG rfl) rfl rfl rfl rfl rfl rfl (by rw[Nat.ble_eq,fU];simp only[List.length_set,hB];(try dsimp only);simp;omega)) ?_
   refine eV 2 rfl (congrArg (fun z=>Ob.cells z 5) (dS rfl (by simp only[List.length_set];omega))) rfl ?_
   refine Wn<|aa rfl ?_
   refine zy4 ?_
   refine Wa 84 rfl (th _ (by omega)) ?_
   refine z2 ?_ (q:=(by omega))
   refine Wd rfl rfl (bO (lO tG rfl) rfl rfl rfl rfl rfl rfl (by rw[Nat.ble_eq,fU];simp only[List.length_set,hB];(try dsimp only);simp;omega)) ?_
   refine eV 2 rfl (congrArg (fun z=>Ob.cells z 5) (dS rfl (by simp only[List.length_set];omega))) rfl ?_
   refine Wn<|zp2 ?_
   refine Wv tG rfl rfl rfl (by omega) (iN gR 1 (fun _=>rfl) [] (by omega)) ?_
   refine zy2 ?_
   refine zq 90 ?_
   refine Wn<|Wi rfl (fun hi5=>?_) (fun hi5=>?_)
   ·have h2:(pk.getD k []=[40,99,97,117,103,104,116,41])=True:=eq_true (oT hi5)
    refine zp4 ?_
    refine Wa 94 rfl (sr _) ?_
    refine z2 ?_ (q:=(by omega))
    refine Wd rfl rfl (bO (lO tG rfl) rfl rfl rfl rfl rfl rfl (by rw[Nat.ble_eq,fU];simp only[List.length_set,hB];(try dsimp only);simp;omega)) ?_
    refine eV 2 rfl (congrArg (fun z=>Ob.cells z 5) (dS rfl (by simp only[List.length_set];omega))) rfl ?_
    refine Wn<|aa rfl ?_
    refine zy4 ?_
    refine Wa 99 rfl (th _ (by omega)) ?_
    refine z2 ?_ (q:=(by omega))
    refine Wd rfl rfl (bO (lO tG rfl) rfl rfl rfl rfl rfl rfl (by rw[Nat.ble_eq,fU];simp only[List.length_set,hB];(try dsimp only);simp;omega)) ?_
    refine eV 2 rfl (congrArg (fun z=>Ob.cells z 5) (dS rfl (by simp only[List.length_set];omega))) rfl ?_
    refine Wn<|aa rfl ?_
    refine z1 ?_
    refine eV 2 rfl (congrArg (fun z=>Ob.cells (List.flatMap aL z) 5) (show _=qe M (k+1) from(mp hn h1 h2).symm)) rfl ?_
    refine zs2 ?_
    exact⟨k+1,[6],(by omega),(by omega),(fM (sub:=by repeat (first|exact gl|refine eW (by first|exact cQ rfl|exact cQ (HP k)|exact cQ (congrArg i64 (by(rw[bU];unfold wrap64;omega)))) ?_)))⟩
   have h2:(pk.getD k []=[40,99,97,117,103,104,116,41])=False:=eq_false (oF hi5)
   refine Wj<|aa rfl ?_
   refine z1 ?_
   refine eV 2 rfl (congrArg (fun z=>Ob.cells (List.flatMap aL z) 5) (show _=qe M (k+1) from(mp hn h1 h2).symm)) rfl ?_
   refine zs2 ?_
   exact⟨k+1,[6],(by omega),(by omega),(fM (sub:=by repeat (first|exact gl|refine eW (by first|exact cQ rfl|exact cQ (HP k)|exact cQ (congrArg i64 (by(rw[bU];unfold wrap64;omega)))) ?_)))⟩
  have h1:(pk.getD k []=[40,104,97,108,116,41])=False:=eq_false (oF hi4)
  refine Wj<|zp2 ?_
  refine Wv tG rfl rfl rfl (by omega) (iN gR 1 (fun _=>rfl) [] (by omega)) ?_
  refine zy2 ?_
  refine zq 90 ?_
  refine Wn<|Wi rfl (fun hi5=>?_) (fun hi5=>?_)
  ·have h2:(pk.getD k []=[40,99,97,117,103,104,116,41])=True:=eq_true (oT hi5)
   refine zp4 ?_
   refine Wa 94 rfl (sr _) ?_
   refine z2 ?_ (q:=(by omega))
   refine Wd rfl rfl (bO (lO tG rfl) rfl rfl rfl rfl rfl rfl (by rw[Nat.ble_eq,fU];simp only[List.length_set,hB];(try dsimp only);simp;omega)) ?_
   refine eV 2 rfl (congrArg (fun z=>Ob.cells z 5) (dS rfl (by simp only[List.length_set];omega))) rfl ?_
   refine Wn<|aa rfl ?_
   refine zy4 ?_
   refine Wa 99 rfl (th _ (by omega)) ?_
   refine z2 ?_ (q:=(by omega))
   refine Wd rfl rfl (bO (lO tG rfl) rfl rfl rfl rfl rfl rfl (by rw[Nat.ble_eq,fU];simp only[List.length_set,hB];(try dsimp only);simp;omega)) ?_
   refine eV 2 rfl (congrArg (fun z=>Ob.cells z 5) (dS rfl (by simp only[List.length_set];omega))) rfl ?_
   refine Wn<|aa rfl ?_
   refine z1 ?_
   refine eV 2 rfl (congrArg (fun z=>Ob.cells (List.flatMap aL z) 5) (show _=qe M (k+1) from(mp hn h1 h2).symm)) rfl ?_
   refine zs2 ?_
   exact⟨k+1,[6],(by omega),(by omega),(fM (sub:=by repeat (first|exact gl|refine eW (by first|exact cQ rfl|exact cQ (HP k)|exact cQ (congrArg i64 (by(rw[bU];unfold wrap64;omega)))) ?_)))⟩
  have h2:(pk.getD k []=[40,99,97,117,103,104,116,41])=False:=eq_false (oF hi5)
  refine Wj<|aa rfl ?_
  refine z1 ?_
  refine eV 2 rfl (congrArg (fun z=>Ob.cells (List.flatMap aL z) 5) (show _=qe M (k+1) from(mp hn h1 h2).symm)) rfl ?_
  refine zs2 ?_
  exact⟨k+1,[6],(by omega),(by omega),(fM (sub:=by repeat (first|exact gl|refine eW (by first|exact cQ rfl|exact cQ (HP k)|exact cQ (congrArg i64 (by(rw[bU];unfold wrap64;omega)))) ?_)))⟩
 have hge:k=167:=by have:=oF hi2;rw[hA]at this;omega
 have hB:=v6 M k
 have eN:tVm (GY c,0)=tVm (aq8 c (qe M k) (ig k),0):=by rw[hge,TA,hMt]
 generalize qe M k=b0 at hB eN ⊢
 generalize ig k=l0 at eN ⊢
 refine bi ?_
 refine zp2 ?_
 refine Wm 102 rfl (pg (Nat.le_refl _)) ?_
 refine qp 102 2 _ M rfl rfl (by rw[fU,hB];exact Nat.le_refl _) ?_
 refine Wa 102 rfl (show _=sq aL b0 from aA5 hB) ?_
 refine zs5 ?_
 refine zR ?_
 rw[eN];rfl
def xM:Nat->Nat->List Int
 | 0,_=>[]
 | k+1,u=>((u%256:Nat):Int)::xM k (u/256)
def IE(k:Nat):∀u:Nat,u<256 ^ k->qn (xM k u)=u:=by
 induction k with
 | zero=>intro u h;simp at h;simp[xM,qn,h]
 | succ k ih =>
  intro u h
  rw[Nat.pow_succ]at h
  simp only[xM,qn,ih (u/256) (by omega),Int.toNat_natCast]
  omega
def Tq(u:Nat):lT u=xM 8 u:=by
 simp only[lT,xM,Nat.div_div_eq_div_mul]
 rfl
def Gn(u:Nat)(h:u<18446744073709551616):qn (lT u)=u:=by
 rw[Tq];exact IE 8 u (by rw[show(256:Nat) ^ 8=18446744073709551616 from by decide];exact h)
def O3{n:Int}(h:ae n):Jk (uj n)=n:=by
 have e:(uj n).map (fun b=>(b.toNat:Int))=lT (U n):=by
  unfold uj
  rw[List.map_map]
  have:∀x∈lT (U n),((fun b:UInt8=>(b.toNat:Int)) ∘ fun x:Int=>UInt8.ofNat x.toNat) x=id x:=by
   intro x hx
   have:=Tl (U n) x hx
   simp only[Function.comp,id]
   rw[UInt8.toNat_ofNat']
   omega
  rw[List.map_congr_left this,List.map_id]
 unfold Jk
 rw[e,Gn _ (w8 n)]
 exact S_U n h
def stM(m:bn)(a n:Int):bn:=⟨jN m.b a.toNat (uj n),m.old++[⟨a,(m.b.drop a.toNat).take 8⟩]⟩
def GH{m:bn}{a n:Int}(h0:0<=a)(h1:0<n)(h2:a+n<=m.b.length):bt m a n=true:=by
 unfold bt
 rw[decide_eq_true_eq]
 omega
def rO{m:bn}{a:Int}(h0:0<=a)(h1:a%8=0)(h2:a+8<=m.b.length):cV m a=0:=by
 unfold cV
 rw[GH h0 (by omega) h2,if_pos rfl,if_pos (by rw[Int.tmod_eq_emod_of_nonneg h0];exact h1)]
def Id{m:bn}{a:Int}(n:Int)(h0:0<=a)(h2:a+8<=m.b.length):cn m a (uj n)=(stM m a n,0):=by
 unfold cn
 rw[kZ,if_pos (show bt m a ((8:Nat):Int)=true from GH h0 (by omega) h2),if_neg (by intro h;have:=congrArg List.length h;rw[kZ]at this;cases this)]
 rfl
def Td{m:bn}{a:Int}(n:Int)(h0:0<=a)(h1:a%8=0)(h2:a+8<=m.b.length):ay m a n=(stM m a n,0):=by
 unfold ay
 rw[if_pos (rO h0 h1 h2),Id n h0 h2]
def zi{m:bn}{a n:Int}(h0:0<=a)(h2:a+8<=m.b.length):(stM m a n).b.length=m.b.length:=by
 unfold stM
 exact Dq (by rw[kZ];omega)
def Vv{l x:List UInt8}{k:Nat}(h:k+x.length<=l.length):((jN l k x).drop k).take x.length=x:=by
 unfold jN
 rw[List.append_assoc,List.drop_left' (by rw[List.length_take];omega),List.take_left' rfl]
def KC{l x:List UInt8}{k c n:Nat}(h:c+n<=k)(h2:k<=l.length):((jN l k x).drop c).take n=(l.drop c).take n:=by
 unfold jN
 rw[List.append_assoc,List.drop_append_of_le_length (by rw[List.length_take];omega),List.take_append_of_le_length (by rw[List.length_drop,List.length_take];omega),List.drop_take,List.take_take,Nat.min_eq_left (by omega)]
def Jf{m:bn}{a n:Int}(hn:ae n)(h0:0<=a)(h1:a%8=0)(h2:a+8<=m.b.length):am (stM m a n) a=(n,0):=by
 unfold am
 rw[rO h0 h1 (by rw[zi h0 h2];exact h2),if_pos rfl]
 have e:((stM m a n).b.drop a.toNat).take 8=uj n:=Vv (x:=uj n) (by rw[kZ];omega)
 rw[e,O3 hn]
def IF{m:bn}{a b n:Int}(h0:0<=b)(h1:b%8=0)(h3:b+8<=a)(h2:a+8<=m.b.length):am (stM m a n) b=am m b:=by
 unfold am
 rw[rO h0 h1 (by rw[zi (by omega) h2];omega),rO h0 h1 (by omega),if_pos rfl,if_pos rfl]
 have e:((stM m a n).b.drop b.toNat).take 8=(m.b.drop b.toNat).take 8:=KC (by omega) (by omega)
 rw[e]
structure jg (m:bn) (L:Nat) (g:Int->Int):Prop where
 len:m.b.length=L
 cell:∀a:Int,0<=a->a%8=0->a+8<=(L:Int)->am m a=(g a,0)
def rZ(g:Int->Int)(a n x:Int):Int:=if x=a then n else g x
def KQ{l x:List UInt8}{k c n:Nat}(h:k+x.length<=c)(h2:k+x.length<=l.length):((jN l k x).drop c).take n=(l.drop c).take n:=by
 unfold jN
 have e:(l.take k++x).length=k+x.length:=by rw[List.length_append,List.length_take];omega
 rw[List.drop_append,List.drop_eq_nil_of_le (by rw[e];exact h),List.nil_append,e,List.drop_drop,show k+x.length+(c-(k+x.length))=c by omega]
def Iu{m:bn}{a b n:Int}(h0:0<=a)(h1:b%8=0)(h3:a+8<=b)(h2:b+8<=m.b.length):am (stM m a n) b=am m b:=by
 unfold am
 rw[rO (by omega) h1 (by rw[zi (by omega) (by omega)];omega),rO (by omega) h1 (by omega),if_pos rfl,if_pos rfl]
 have e:((stM m a n).b.drop b.toNat).take 8=(m.b.drop b.toNat).take 8:=KQ (by rw[kZ];omega) (by rw[kZ];omega)
 rw[e]
def okA(L:Nat)(a:Int):Bool:=decide (0<=a)&&decide (a%8=0)&&decide (a+8<=(L:Int))
def gY{L:Nat}{a:Int}:okA L a=true↔0<=a/\a%8=0/\a+8<=(L:Int):=by unfold okA;simp only[Bool.and_eq_true,decide_eq_true_eq,and_assoc]
def jg.store{m:bn}{L:Nat}{g:Int->Int}(h:jg m L g){a n:Int}(hn:ae n)(ha:okA L a=true):jg (stM m a n) L (rZ g a n):=by
 obtain⟨h0,h1,h2⟩:=gY.1 ha
 have hl:=h.len
 refine⟨(zi h0 (by rw[hl];exact h2)).trans hl,fun x x0 x1 x2=>?_⟩
 unfold rZ
 by_cases hx:x=a
 ·subst hx
  rw[if_pos rfl]
  exact Jf hn h0 h1 (by rw[hl];exact h2)
 rw[if_neg hx,<-h.cell x x0 x1 x2]
 by_cases hlt:x<a
 ·exact IF x0 x1 (by omega) (by rw[hl];exact h2)
 exact Iu h0 x1 (by omega) (by rw[hl];exact x2)
def jg.put{m:bn}{L:Nat}{g:Int->Int}(h:jg m L g){a n:Int}(ha:okA L a=true):ay m a n=(stM m a n,0):=by
 obtain⟨h0,h1,h2⟩:=gY.1 ha
 exact Td n h0 h1 (by rw[h.len];exact h2)
def jg.bare{m:bn}{L:Nat}{g:Int->Int}(h:jg m L g):jg ⟨m.b,[]⟩ L g:=⟨h.len,h.cell⟩
def CI{n:Int}(h0:0<=n)(h1:n<=1000000):W64 n=n:=J0 (by unfold ae;omega)
structure mX (v:VVm) (L:Nat) (g:Int->Int):Prop where
 mem:jg v.mem L g
 hL:L<=65536
 hl:1072<=L
 data:v.conf.data=32
 ret:v.conf.ret=32
def Vf:ae 256:=by unfold ae;omega
def mX.store{v:VVm}{L:Nat}{g:Int->Int}(M:mX v L g){a n:Int}(hn:ae n)(ha:okA L a=true):mX (tb v (ay v.mem a n).1) L (rZ g a n):=by
 refine⟨?_,M.hL,M.hl,M.data,M.ret⟩
 show jg (ay v.mem a n).1 L _
 rw[M.mem.put ha]
 exact M.mem.store hn ha
def g0(a:Int):Int:=(am (ae1 []).mem a).1
structure Std (g:Int->Int):Prop where
 prim:∀i:Nat,i<130->g (32+8*(i:Int))=(i:Int)
 c16:g 16=96
 c24:g 24=104
def Std.upd{g:Int->Int}(S:Std g){a n:Int}(h:1072<=a):Std (rZ g a n):=by
 refine⟨fun i hi=>?_,?_,?_⟩
 ·unfold rZ;rw[if_neg (by omega)];exact S.prim i hi
 ·unfold rZ;rw[if_neg (by omega)];exact S.c16
 unfold rZ;rw[if_neg (by omega)];exact S.c24
def mk(v:VVm)(d r:List Int)(f:List jt):VVm:={v with d:=d,r:=r,f:=f}
def mr(v:VVm)(d r:List Int)(f:List jt)(ip fu:Int):bJ:=⟨mk v d r f,ip,0,false,fu⟩
def mw(v:VVm)(d r:List Int)(f:List jt)(ip w fu:Int):bJ:=⟨mk v d r f,ip,w,true,fu⟩
def mz(v:VVm)(d r:List Int)(f:List jt)(ip:Int):VWk:=⟨mk v d r f,ip,0,false,false,0⟩
variable {v : VVm} {L : Nat} {g : Int -> Int} {d r : List Int} {f : List jt} {ip fu xt q x n : Int}
def UW:iu (mz v d (r++[x]) f ip)=(mz v d r f ip,x):=by
 have e:fv (mk v d (r++[x]) f)=(x,mk v d r f,0):=by
  unfold fv
  rw[if_neg (by show ¬(r++[x]).length=0;simp)]
  show((r++[x]).getD ((r++[x]).length-1) 0,{mk v d (r++[x]) f with r:=(r++[x]).take ((r++[x]).length-1)},(0:Int))=_
  simp[mk]
 show(({cG (mz v d (r++[x]) f ip) (fv (mk v d (r++[x]) f)).2.2 with v:=(fv (mk v d (r++[x]) f)).2.1}:VWk),(fv (mk v d (r++[x]) f)).1)=_
 rw[e];rfl
def aC6(M:mX v L g)(h:d.length<32):jp (mz v d r f ip) n=mz v (d++[n]) r f ip:=by
 have e:fQ (mk v d r f) n=(mk v (d++[n]) r f,0):=by
  unfold fQ gP
  rw[if_neg (by show ¬v.conf.data<=(d.length:Int);rw[M.data];omega)]
  rfl
 show({cG (mz v d r f ip) (fQ (mk v d r f) n).2 with v:=(fQ (mk v d r f) n).1}:VWk)=_
 rw[e];rfl
def Sp(M:mX v L g)(h:r.length<32):ey (mz v d r f ip) n=mz v d (r++[n]) f ip:=by
 have e:gK (mk v d r f) n=(mk v d (r++[n]) f,0):=by
  unfold gK
  rw[if_neg (by show ¬v.conf.ret<=(r.length:Int);rw[M.ret];omega)]
  rfl
 show({cG (mz v d r f ip) (gK (mk v d r f) n).2 with v:=(gK (mk v d r f) n).1}:VWk)=_
 rw[e];rfl
def Rr(M:mX v L g)(h:okA L x=true):bu (mz v d r f ip) x=(mz v d r f ip,g x):=by
 obtain⟨h0,h1,h2⟩:=gY.1 h
 show(cG (mz v d r f ip) (am v.mem x).2,(am v.mem x).1)=_
 rw[M.mem.cell x h0 h1 h2];rfl
def VW(M:mX v L g)(h:okA L ip=true):jW (mz v d r f ip)=mz v d r f (ip+8):=by
 obtain⟨h0,h1,h2⟩:=gY.1 h
 have:=M.hL
 show(⟨mk v d r f,W64 (ip+8),0,false,false,0⟩:VWk)=_
 rw[CI (by omega) (by omega)];rfl
def mB(k:VWk)(xt q:Int):VWk :=
 if 300<=q then cG k (-14)else
 if q=256 then {ey k k.ip with ip:=W64 (xt+8)} else
 if q=257 then jp k (W64 (xt+16))else
 if q=258 then jp (bu k (W64 (xt+16))).1 (bu k (W64 (xt+16))).2 else
 if q=259 then(let a:=bu k (W64 (xt+8));{ey (jp a.1 (W64 (xt+16))) (jp a.1 (W64 (xt+16))).ip with ip:=a.2})else
 if q=260 then pZ k xt else
 if 23<=q then {cG k (doS k.v q).2 with v:=(doS k.v q).1} else
 if (tf k (ao.getD q.toNat [])).2 then(tf k (ao.getD q.toNat [])).1 else GF (tf k (ao.getD q.toNat [])).1 (ao.getD q.toNat [])
def Di{k:VWk}(h:av k.v xt=(q,0)):rV k xt=mB k xt q:=by
 unfold rV mB
 rw[h]
 rfl
def X5(M:mX v L g)(hx:okA L xt=true)(hq:g xt=q)(ok:gi q):av (mk v d r f) xt=(q,0):=by
 obtain⟨h0,h1,h2⟩:=gY.1 hx
 show(if (am v.mem xt).2=0 then(if gi (am v.mem xt).1 then((am v.mem xt).1,0)else(0,-9))else(0,(am v.mem xt).2))=_
 rw[M.mem.cell xt h0 h1 h2]
 show(if gi (g xt)then(g xt,(0:Int))else(0,-9))=_
 rw[hq,if_pos ok]
def KL(ahead:bJ)(fu:Int)(k:VWk):bJ×Bool×Int :=
 if k.bad=0 then(⟨k.v,k.ip,k.w,k.dof,fu⟩,k.over,0)else((ct ahead k.bad).1,false,(ct ahead k.bad).2)
def SZ(r:bJ)(q:VWk×Int):bJ×Bool×Int:=KL ⟨r.vm,q.1.ip,0,false,W64 (r.fuel-1)⟩ (W64 (r.fuel-1)) (if q.1.bad=0 then rV q.1 q.2 else q.1)
def zK(r:bJ):VWk×Int :=
 let k0:VWk:=⟨r.vm,r.ip,0,false,false,0⟩
 if r.dof then(k0,r.w)else(let a:=bu k0 r.ip;(if a.1.bad=0 then jW a.1 else a.1,a.2))
def Gv{r:bJ}(h:¬r.fuel<1):bT r=SZ r (zK r):=by unfold bT;rw[if_neg h];rfl
def YC{s:bJ}(M:mX v L g)(hs:s.fuel=fu)(hv:s.vm=mk v d r f)(hf:1<=fu/\fu<=300000)(e:zK s=(mz v d r f ip,xt))(h2:okA L xt=true)(hq:g xt=q)(ok:gi q):
  bT s=KL (mr v d r f ip (fu-1)) (fu-1) (mB (mz v d r f ip) xt q):=by
 rw[Gv (by omega),e]
 unfold SZ
 dsimp only
 rw[if_pos (show(mz v d r f ip).bad=0 from rfl),Di (X5 M h2 hq ok:av (mz v d r f ip).v xt=(q,0)),hs,hv,RW hf.1 hf.2]
 rfl
def YR(M:mX v L g)(hf:1<=fu/\fu<=300000)(hi:okA L ip=true)(hx:g ip=xt)(h2:okA L xt=true)(hq:g xt=q)(ok:gi q):
  bT (mr v d r f ip fu)=KL (mr v d r f (ip+8) (fu-1)) (fu-1) (mB (mz v d r f (ip+8)) xt q):=by
 refine YC M rfl rfl hf ?_ h2 hq ok
 show((if (bu (mz v d r f ip) ip).1.bad=0 then jW (bu (mz v d r f ip) ip).1 else(bu (mz v d r f ip) ip).1),(bu (mz v d r f ip) ip).2)=_
 rw[Rr M hi,hx]
 dsimp only
 rw[if_pos (show(mz v d r f ip).bad=0 from rfl),VW M hi]
def az4(M:mX v L g)(hf:1<=fu/\fu<=300000)(h2:okA L xt=true)(hq:g xt=q)(ok:gi q):
  bT (mw v d r f ip xt fu)=KL (mr v d r f ip (fu-1)) (fu-1) (mB (mz v d r f ip) xt q) :=
 YC (s:=mw v d r f ip xt fu) M rfl rfl hf rfl h2 hq ok
def Go1(s t:bJ):Prop:=bT s=(t,false,0)
inductive GoN:Nat->bJ->bJ->Prop
 | nil (s:bJ):GoN 0 s s
 | cons {n:Nat} {s t u:bJ}:Go1 s t->GoN n t u->GoN (n+1) s u
def GoN.trans{a b:Nat}{s t u:bJ}(h:GoN a s t)(k:GoN b t u):GoN (b+a) s u:=by
 induction h with
 | nil s=>exact k
 | cons h1 _ ih=>exact .cons h1 (ih k)
def GoN.one{s t:bJ}(h:Go1 s t):GoN 1 s t:=.cons h (.nil _)
def GoN.run{n:Nat}{s t:bJ}(h:GoN n s t):∀k,yu (k+n) s=yu k t:=by
 induction h with
 | nil s=>intro k;rfl
 | cons h1 _ ih =>
  intro k
  unfold Go1 at h1
  rw[<-Nat.add_assoc,MQ (by rw[h1];simp),h1]
  exact ih k
section
variable {d' r' : List Int} {f' : List jt} {v' : VVm} {ip' w : Int}
def ay9(M:mX v L g)(hf:1<=fu/\fu<=300000)(hi:okA L ip=true)(hx:g ip=xt)(h2:okA L xt=true)(hq:g xt=q)(ok:gi q)
  (hk:mB (mz v d r f (ip+8)) xt q=mz v' d' r' f' ip'):Go1 (mr v d r f ip fu) (mr v' d' r' f' ip' (fu-1)):=by
 unfold Go1;rw[YR M hf hi hx h2 hq ok,hk];rfl
def Y8(M:mX v L g)(hf:1<=fu/\fu<=300000)(h2:okA L xt=true)(hq:g xt=q)(ok:gi q)
  (hk:mB (mz v d r f ip) xt q=mz v' d' r' f' ip'):Go1 (mw v d r f ip xt fu) (mr v' d' r' f' ip' (fu-1)):=by
 unfold Go1;rw[az4 M hf h2 hq ok,hk];rfl
end
def ae4:mB (mz v d (r++[x]) f ip) xt 0=mz v d r f x:=by
 have e:mB (mz v d (r++[x]) f ip) xt 0={(iu (mz v d (r++[x]) f ip)).1 with ip:=(iu (mz v d (r++[x]) f ip)).2}:=by kernel_rfl
 rw[e,UW];rfl
def ab8:KL (mr v d r f ip fu) fu (mB (mz v d r f ip) xt 8)=(mr v d r f ip fu,true,0):=by kernel_rfl
def Vs(M:mX v L g)(hx:okA L xt=true)(hr:r.length<32):mB (mz v d r f ip) xt 256=mz v d (r++[ip]) f (xt+8):=by
 have e:mB (mz v d r f ip) xt 256={ey (mz v d r f ip) ip with ip:=W64 (xt+8)}:=by kernel_rfl
 obtain⟨h0,h1,h2⟩:=gY.1 hx
 have:=M.hL
 rw[e,Sp M hr,CI (by omega) (by omega)];rfl
def Ry{u:VVm}{d':List Int}(h1:23<=q)(h2:q<=129)(h:doS (mk v d r f) q=(mk u d' r f,0)):mB (mz v d r f ip) xt q=mz u d' r f ip:=by
 unfold mB
 rw[if_neg (by omega),if_neg (by omega),if_neg (by omega),if_neg (by omega),if_neg (by omega),if_neg (by omega),if_pos h1]
 show({cG (mz v d r f ip) (doS (mk v d r f) q).2 with v:=(doS (mk v d r f) q).1}:VWk)=_
 rw[h];rfl
section
variable {d' r' : List Int} {f' : List jt} {v' : VVm} {ip' w : Int}
def uJ{i:Nat}(hi:i<130):gi (i:Int):=.inl (by omega)
def Hu{i:Nat}(M:mX v L g)(hi:i<130):okA L (32+8*(i:Int))=true:=gY.2 (by have:=M.hl;omega)
def aE7(M:mX v L g)(S:Std g)(i:Nat)(hi:i<130)(hf:1<=fu/\fu<=300000)(ha:okA L ip=true)(hx:g ip=32+8*(i:Int))
  (hk:mB (mz v d r f (ip+8)) (32+8*(i:Int)) (i:Int)=mz v' d' r' f' ip'):Go1 (mr v d r f ip fu) (mr v' d' r' f' ip' (fu-1)) :=
 ay9 M hf ha hx (Hu M hi) (S.prim i hi) (uJ hi) hk
end
def MS(M:mX v L g)(S:Std g)(hf:1<=fu/\fu<=300000):bT (mr v d r f 16 fu)=(mr v d r f 24 (fu-1),true,0):=by
 have h:=M.hl
 rw[YR M hf (gY.2 (by omega)) S.c16 (gY.2 (by omega)) (S.prim 8 (by decide)) (uJ (i:=8) (by decide))]
 exact ab8
def P7(M:mX v L g)(hf:1<=fu/\fu<=300000)(h2:okA L xt=true)(hq:g xt=256)(hr:r.length<32):Go1 (mw v d r f ip xt fu) (mr v d (r++[ip]) f (xt+8) (fu-1)) :=
 Y8 M hf h2 hq (.inr (.inl (by omega))) (Vs M h2 hr)
open Go.RowKit
def Ru:300<=kC:=by decide +kernel
def GC{k:VWk}{xt q:Int}(h:av k.v xt=(q,0))(hq:300<=q):rV k xt=cG k (-14):=by
 rw[Di h];unfold mB;rw[if_pos hq]
def Mw{ah:bJ}{fu:Int}{k:VWk}(h:k.bad≠0)(hf:ah.vm.f=[]):(KL ah fu k).2.2≠0:=by
 unfold KL
 rw[if_neg h]
 unfold ct
 rw[if_pos (by rw[hf];rfl)]
 exact h
def S4{s t:bJ}{o:Bool}(hf:s.vm.f=[])(hu:¬s.fuel<1)(h:bT s=(t,o,0)):¬(cI s).1=true:=by
 intro hc
 rw[Gv hu]at h
 have h2:(SZ s (zK s)).2.2=0:=by rw[h]
 unfold cI BK at hc
 by_cases hd:s.dof=true
 ·rw[if_pos hd]at hc
  have hk:=oT hc
  have e:zK s=(⟨s.vm,s.ip,0,false,false,0⟩,s.w):=by unfold zK;dsimp only;rw[if_pos hd]
  rw[e]at h2
  unfold SZ at h2
  dsimp only at h2
  rw[if_pos rfl,GC (k:=⟨s.vm,s.ip,0,false,false,0⟩) (q:=kC) (Prod.ext hk.2 hk.1) Ru]at h2
  refine Mw ?_ ?_ h2
  ·show(-14:Int)≠0;decide
  exact hf
 rw[if_neg hd]at hc
 by_cases hm:(am s.vm.mem s.ip).2≠0
 ·rw[if_pos hm]at hc;cases hc
 rw[if_neg hm]at hc
 have hk:=oT hc
 have hm0:(am s.vm.mem s.ip).2=0:=Decidable.not_not.1 hm
 have e:zK s=(⟨s.vm,W64 (s.ip+8),0,false,false,0⟩,(am s.vm.mem s.ip).1):=by
  unfold zK
  dsimp only
  rw[if_neg hd]
  have e1:bu ⟨s.vm,s.ip,0,false,false,0⟩ s.ip=(⟨s.vm,s.ip,0,false,false,0⟩,(am s.vm.mem s.ip).1):=by
   show(cG ⟨s.vm,s.ip,0,false,false,0⟩ (am s.vm.mem s.ip).2,(am s.vm.mem s.ip).1)=_
   rw[hm0];rfl
  rw[e1]
  rfl
 rw[e]at h2
 unfold SZ at h2
 dsimp only at h2
 rw[if_pos rfl,GC (k:=⟨s.vm,W64 (s.ip+8),0,false,false,0⟩) (q:=kC) (Prod.ext hk.2 hk.1) Ru]at h2
 refine Mw ?_ ?_ h2
 ·show(-14:Int)≠0;decide
 exact hf
inductive GoE:Nat->bJ->bJ->Prop
 | nil (s:bJ):GoE 0 s s
 | cons {n:Nat} {s t u:bJ}:Go1 s t->s.vm.f=[]->¬s.fuel<1->GoE n t u->GoE (n+1) s u
def GoE.trans{a b:Nat}{s t u:bJ}(h:GoE a s t)(k:GoE b t u):GoE (b+a) s u:=by
 induction h with
 | nil s=>exact k
 | cons h1 h2 h3 _ ih=>exact .cons h1 h2 h3 (ih k)
def YF{l:ai}{r:bJ}:¬(⟨l,r,false,0⟩:EX).stops:=fun z=>z.elim (fun z=>by cases z) (fun z=>z rfl)
def GoE.ex{n:Nat}{s t:bJ}(h:GoE n s t)(l:ai):∀k,oW (k+n) ⟨l,s,false,0⟩=oW k ⟨l,t,false,0⟩:=by
 induction h with
 | nil s=>intro k;rfl
 | cons h1 h2 h3 _ ih =>
  intro k
  unfold Go1 at h1
  rw[<-Nat.add_assoc,To YF,Pf (x:=⟨l,_,false,0⟩) (S4 h2 h3 h1)]
  dsimp only
  rw[h1]
  exact ih k
def UO{s t:bJ}{o:Bool}(l:ai)(h:bT s=(t,true,0))(hf:s.vm.f=[])(hu:¬s.fuel<1)(k:Nat):oW (k+1) ⟨l,s,false,0⟩=⟨l,t,true,0⟩:=by
 rw[To YF,Pf (x:=⟨l,_,false,0⟩) (S4 hf hu h)]
 dsimp only
 rw[h]
 exact FM (.inl rfl) k
def Dj{n:Nat}{s t:bJ}{l:ai}{xt:Int}(h:GoE n (AA l.f.vm xt l.fuel) s)(hl:bT s=(t,true,0))(hf:s.vm.f=[])(hu:¬s.fuel<1)(h0:0<=l.fuel)(hn:(n:Int)<=l.fuel)(he:l.err=0):
  mn l xt={l with f:={l.f with vm:=zC t.vm},fuel:=t.fuel}:=by
 unfold mn
 obtain⟨m,hm⟩:∃m,l.fuel.toNat+2=(m+1)+n:=⟨l.fuel.toNat+1-n,by omega⟩
 have e:exR l xt=⟨l,t,true,0⟩:=by
  unfold exR Ch
  rw[hm,h.ex l,UO (o:=true) l hl hf hu]
 rw[e]
 exact Bd he
def wZ(p:Str)(c:UInt8)(t:Str):(p++c::t).getD p.length 0=c:=by
 rw[List.getD_eq_getElem?_getD,List.getElem?_append_right (Nat.le_refl _),Nat.sub_self];rfl
def AT:∀(b p r:Str),(∀c∈b,c.toNat<=32)->(r=[]\/∃c t,r=c::t/\32<c.toNat)->lF (p++(b++r)) p.length=p.length+b.length
 | [],p,r,_,hr=>by
  rcases hr with rfl|⟨c,t,rfl,h⟩
  ·exact Ez (fun z=>by simp at z)
  refine Ez (fun z=>?_)
  have:=z.2
  rw[List.nil_append,wZ]at this
  omega
 | c::b,p,r,hb,hr=>by
  have h1:p.length<(p++(c::b++r)).length:=by simp
  have h2:(((p++(c::b++r)).getD p.length 0).toNat:Int)<=32:=by
   rw[List.cons_append,wZ]
   have:=hb c (List.mem_cons_self ..)
   omega
  rw[QY h1 h2]
  have ih:=AT b (p++[c]) r (fun x hx=>hb x (List.mem_cons_of_mem _ hx)) hr
  rw[List.length_append,List.length_singleton,List.append_assoc]at ih
  rw[List.cons_append,show c::(b++r)=[c]++(b++r) from rfl,ih,List.length_cons]
  omega
def FY:∀(b p r:Str),(∀c∈b,32<c.toNat)->(r=[]\/∃c t,r=c::t/\c.toNat<=32)->og (p++(b++r)) p.length=p.length+b.length
 | [],p,r,_,hr=>by
  rcases hr with rfl|⟨c,t,rfl,h⟩
  ·exact A3 (fun z=>by simp at z)
  refine A3 (fun z=>?_)
  have:=z.2
  rw[List.nil_append,wZ]at this
  omega
 | c::b,p,r,hb,hr=>by
  have h1:p.length<(p++(c::b++r)).length:=by simp
  have h2:32<(((p++(c::b++r)).getD p.length 0).toNat:Int):=by
   rw[List.cons_append,wZ]
   have:=hb c (List.mem_cons_self ..)
   omega
  rw[TU h1 h2]
  have ih:=FY b (p++[c]) r (fun x hx=>hb x (List.mem_cons_of_mem _ hx)) hr
  rw[List.length_append,List.length_singleton,List.append_assoc]at ih
  rw[List.cons_append,show c::(b++r)=[c]++(b++r) from rfl,ih,List.length_cons]
  omega
def MN(p b w q:Str)(hb:∀c∈b,c.toNat<=32)(hw0:w≠[])(hw:∀c∈w,32<c.toNat)(hq:q=[]\/∃c t,q=c::t/\c.toNat<=32):
  bE (p++(b++(w++q))) p.length=(w,min ((p.length+b.length+w.length:Nat)+1:Int) ((p.length+b.length+w.length+q.length:Nat):Int)):=by
 have h0:dM (p++(b++(w++q))) (p.length:Int)=p.length:=by
  unfold dM
  rw[if_neg (by simp;omega)]
  exact Int.toNat_natCast _
 have h1:lF (p++(b++(w++q))) p.length=p.length+b.length:=by
  refine AT b p (w++q) hb (.inr ?_)
  cases w with
  | nil=>exact absurd rfl hw0
  | cons c t=>exact⟨c,t++q,rfl,hw c (List.mem_cons_self ..)⟩
 have h2:og (p++(b++(w++q))) (p.length+b.length)=p.length+b.length+w.length:=by
  have:=FY w (p++b) q hw hq
  rw[List.length_append,List.append_assoc]at this
  exact this
 unfold bE
 dsimp only
 rw[h0,h1,h2]
 refine Prod.ext ?_ ?_
 ·show((p++(b++(w++q))).take (p.length+b.length+w.length)).drop (p.length+b.length)=w
  rw[show p++(b++(w++q))=(p++b++w)++q by simp,show p.length+b.length+w.length=(p++b++w).length by simp;omega,List.take_left,show p++b++w=(p++b)++w from rfl,show p.length+b.length=(p++b).length by simp,List.drop_left]
 show min (((p.length+b.length+w.length:Nat):Int)+1) ((p++(b++(w++q))).length:Int)=_
 rw[show(p++(b++(w++q))).length=p.length+b.length+w.length+q.length by simp;omega]
def Ro(p b:Str)(hb:∀c∈b,c.toNat<=32):(bE (p++b) p.length).1=[]:=by
 have h0:dM (p++b) (p.length:Int)=p.length:=by
  unfold dM
  rw[if_neg (by simp;omega)]
  exact Int.toNat_natCast _
 have h1:lF (p++b) p.length=p.length+b.length:=by
  have:=AT b p [] hb (.inl rfl)
  rwa [List.append_nil]at this
 have h2:og (p++b) (p.length+b.length)=p.length+b.length:=A3 (fun z=>by have:=z.1;simp at this)
 unfold bE
 dsimp only
 rw[h0,h1,h2]
 apply List.drop_eq_nil_of_le
 simp
end Go.Proofs.YtjcminooghmpeaaGreatDoor
