import Derived.Test.YtjcminooghmpeaaGreatDoorPk10
set_option linter.all false
set_option maxRecDepth 100000
set_option maxHeartbeats 40000000
open Go.Proofs.Tryz
namespace Go.Proofs.YtjcminooghmpeaaGreatDoor
open Go.RowKit Go.Extern.Stop Go.Stop Go.Extern
theorem Jy(t:Addr)(w:World):(ReflectliteValue.unpack (.iface 143 (.pointer (some t)))).run prog w
  = .ok (.agg #[.pointer (some ⟨5,143,none⟩),.pointer (some ⟨w.heap.size,0,none⟩),.int .u64 150]) (w.alloc (.cells #[.pointer (some t)] 143)):=by kernel_rfl
theorem U3 (a : Addr) (w : World) : (ReflectliteValue.methodAny (ReflectliteValue.valueError "reflectlite.Value.Type" 0) (fun t _ _ _ => ReflectliteType.toType t) #[.agg #[.pointer (some ⟨5, 143, none⟩), .pointer (some a), .int .u64 150]]).run prog w
  = .ok (.iface 221 (.agg #[.pointer (some ⟨5,143,none⟩)])) w:=by kernel_rfl
theorem Qa (h : Value) (w : World) : (Go.method 513 221 (.agg #[h]) "Kind").run prog w = .ok (408, h) w := by kernel_rfl
theorem Rr(w:World):((ReflectliteType.abiMethod fun t=>(fun a:Nat=>Value.int IntKind.u8 (a:Int)) <$> Rtype.kind t) #[.pointer (some ⟨5,143,none⟩)]).run prog w=.ok (.int .u8 22) w:=by kernel_rfl
theorem Tx(w:World):((ReflectliteType.abiMethod fun t=>(fun a:Nat=>Value.int IntKind.u8 (a:Int)) <$> Rtype.kind t) #[.pointer (some ⟨5,141,none⟩)]).run prog w=.ok (.int .u8 25) w:=by kernel_rfl
theorem Py(z:Sem Value)(f:TypeId->Addr->Nat->Nat->Sem Value)(v:Value):
  ReflectliteValue.method z f #[v]=(do match <-ReflectliteValue.parts v with|none=>z|some (t,a,fl)=>f t a fl (fl%32)):=rfl
theorem CB(a:Addr)(w:World):(ReflectliteValue.parts (.agg #[.pointer (some ⟨5,143,none⟩),.pointer (some a),.int .u64 150])).run prog w=.ok (some (143,a,150)) w:=by kernel_rfl
theorem PK(a p:Addr)(W:World)(ha:W.cell? a=some (.pointer (some p))):
  (ReflectliteValue.method (ReflectliteValue.valueError "reflectlite.Value.IsNil" 0) ReflectliteValue.isNil #[.agg #[.pointer (some ⟨5, 143, none⟩), .pointer (some a), .int .u64 150]]).run prog W = .ok (.bool false) W := by
 rw[Py]
 simp only[Sem.run_bind,CB,Result.andThen]
 simp[ReflectliteValue.isNil,loadVar,isAgg,underlying,underlying143,ha,Result.andThen]
theorem SU (h : Value) (w : World) : (Go.method 513 221 (.agg #[h]) "Elem").run prog w = .ok (421, .agg #[h]) w := by kernel_rfl
theorem Ti (h : Value) (w : World) : (Go.method 513 221 (.agg #[h]) "Implements").run prog w = .ok (422, .agg #[h]) w := by kernel_rfl
theorem JY (h : Value) (w : World) : (Go.method 513 221 (.agg #[h]) "AssignableTo").run prog w = .ok (419, .agg #[h]) w := by kernel_rfl
theorem U5(w:World):(ReflectliteType.method ReflectliteType.elem #[.agg #[.pointer (some ⟨5,143,none⟩)]]).run prog w=.ok (.iface 221 (.agg #[.pointer (some ⟨5,141,none⟩)])) w:=by kernel_rfl
theorem UY (w : World) : (ReflectliteType.relation "Implements" ReflectliteType.implements_ #[.agg #[.pointer (some ⟨5, 141, none⟩)], .iface 221 (.agg #[.pointer (some ⟨5, 87, none⟩)])]).run prog w = .ok (.bool true) w := by kernel_rfl
theorem Sl(v:Value)(w:World):(ReflectliteType.typeOf #[.iface 141 v]).run prog w=.ok (.iface 221 (.agg #[.pointer (some ⟨5,141,none⟩)])) w:=by kernel_rfl
theorem XE (w : World) : (ReflectliteType.relation "AssignableTo" ReflectliteType.assignableTo #[.agg #[.pointer (some ⟨5, 141, none⟩)], .iface 221 (.agg #[.pointer (some ⟨5, 141, none⟩)])]).run prog w = .ok (.bool true) w := by kernel_rfl
theorem M9(c:Int)(w:World):(ReflectliteValue.unpack (.iface 141 (.agg #[.int .i64 c]))).run prog w
  = .ok (.agg #[.pointer (some ⟨5,141,none⟩),.pointer (some ⟨w.heap.size,0,none⟩),.int .u64 153]) (w.alloc (.cells #[.int .i64 c] 141)):=by kernel_rfl
theorem MI(w:World):(Rtype.elem? 143).run prog w=.ok (some 141) w:=by kernel_rfl
theorem at2(p:Addr)(w:World):(ReflectliteValue.mk 141 p ReflectliteValue.flagAddr).run prog w=.ok (.agg #[.pointer (some ⟨5,141,none⟩),.pointer (some p),.int .u64 409]) w:=by kernel_rfl
theorem RY(a p:Addr)(W:World)(ha:W.cell? a=some (.pointer (some p))):
  (ReflectliteValue.method (ReflectliteValue.valueError "reflectlite.Value.Elem" 0) ReflectliteValue.elem #[.agg #[.pointer (some ⟨5, 143, none⟩), .pointer (some a), .int .u64 150]]).run prog W
   = .ok (.agg #[.pointer (some ⟨5,141,none⟩),.pointer (some p),.int .u64 409]) W:=by
 rw[Py]
 simp only[Sem.run_bind,CB,Result.andThen]
 simp[ReflectliteValue.elem,loadVar,isAgg,underlying,underlying143,ha,Result.andThen,MI,at2]
theorem Mq(a:Addr)(w:World):(ReflectliteValue.parts (.agg #[.pointer (some ⟨5,141,none⟩),.pointer (some a),.int .u64 409])).run prog w=.ok (some (141,a,409)) w:=by kernel_rfl
theorem Oe(a:Addr)(w:World):(ReflectliteValue.parts (.agg #[.pointer (some ⟨5,141,none⟩),.pointer (some a),.int .u64 153])).run prog w=.ok (some (141,a,153)) w:=by kernel_rfl
theorem Mx(w:World):(Rtype.directlyAssignable 141 141).run prog w=.ok true w:=by kernel_rfl
theorem ZW(v x:Value):ReflectliteValue.set #[v,x]=(do
  let (some (dst,a,fl),some (src,b,_)):=(<-ReflectliteValue.parts v,<-ReflectliteValue.parts x)
   | unsupported (.noEntry "extern/(internal/reflectlite.Value).Set.zeroValue")
  if fl / ReflectliteValue.flagAddr % 2 == 0 then unsupported (.noEntry "extern/(internal/reflectlite.Value).Set.unaddressable")
  let val <-loadVar src b
  if <-Rtype.directlyAssignable dst src then storeVar dst a val
  else if <-Rtype.implements dst src then
   if (<-Rtype.kind src)==20 then
    match val with
    | .nilIface => unsupported (.noEntry "extern/reflectlite: a nil value of one interface type handed on as a value of another")
    | _=>storeVar dst a val
   else storeVar dst a (.iface src val)
  else panicString ("reflectlite.Set: value of type " ++ (← Rtype.spelt src) ++ " is not assignable to type " ++ (← Rtype.spelt dst))
  pure (.tuple #[])):=rfl
theorem L2(w:World):(sizeOf 141).run prog w=.ok 1 w:=by kernel_rfl
theorem Zp(ta b:Addr)(c:Int)(old:Value)(W:World)(hb:W.cell? b=some (.int .i64 c))(ht:W.cell? ta=some old)(hf:W.frozen? ta=false):
  (ReflectliteValue.set #[.agg #[.pointer (some ⟨5,141,none⟩),.pointer (some ta),.int .u64 409],.agg #[.pointer (some ⟨5,141,none⟩),.pointer (some b),.int .u64 153]]).run prog W
   = .ok (.tuple #[]) (W.setCell ta (.int .i64 c)):=by
 have hl:(loadVar 141 b).run prog W=.ok (.agg #[.int .i64 c]) W:=by
  have h1:=run_loadCells_list (P:=prog) W b [.int .i64 c] (fun j v hj=>by
   match j,hj with
   | 0,hj=>cases hj;rw[show b.add 0=b from by simp[Addr.add]];exact hb
   | j+1,hj=>simp at hj)
  unfold loadVar
  have h2:(loadCells b 1).run prog W=.ok #[.int .i64 c] W:=by simpa using h1
  simp[isAgg,underlying,underlying141,Result.andThen,L2,h2]
 have hs:(storeVar 141 ta (.agg #[.int .i64 c])).run prog W=.ok () (W.setCell ta (.int .i64 c)):=by
  simp[storeVar,Value.cells,storeCells,Addr.add,L2,Result.andThen]
  rw[run_store prog W ta _ _ (by rfl)]
  simp[ht,hf]
 rw[ZW]
 simp only[Sem.run_bind,Mq,Oe,Result.andThen]
 simp[ReflectliteValue.flagAddr,hl,hs,Result.andThen,Mx]
theorem Vy(c:Int)(t:Addr)(old:Value)(w:World)(hg:w.cell? ⟨0,0,none⟩=some (.iface 221 (.agg #[.pointer (some ⟨5,87,none⟩)])))(ht0:w.cell? t=some old)(hf0:w.frozen? t=false):
  Calls prog 83 #[.iface 141 (.agg #[.int .i64 c]),.iface 143 (.pointer (some t))] w fun ev w'=>ev=.returned (.bool true)/\∃w1,aX w w1/\w'=w1.setCell t (.int .i64 c):=by
 have h6:=@run_callFunc_extern prog 108 _ (fun args=>ReflectliteValue.unpack (args.getD 0 (.tuple #[]))) func108 (by kernel_rfl) (by kernel_rfl) (by kernel_rfl) (by kernel_rfl)
 have h7 := @run_callFunc_extern prog 109 _ (ReflectliteValue.methodAny (ReflectliteValue.valueError "reflectlite.Value.Type" 0) (fun t _ _ _ => ReflectliteType.toType t)) func109 (by kernel_rfl) (by kernel_rfl) (by kernel_rfl) (by kernel_rfl)
 have h8 := @run_callFunc_extern prog 110 _ (ReflectliteValue.method (ReflectliteValue.valueError "reflectlite.Value.IsNil" 0) ReflectliteValue.isNil) func110 (by kernel_rfl) (by kernel_rfl) (by kernel_rfl) (by kernel_rfl)
 have h27:=@run_callFunc_extern prog 408 _ (ReflectliteType.abiMethod fun t=>do pure (.int .u8 (<-Rtype.kind t))) func408 (by kernel_rfl) (by kernel_rfl) (by kernel_rfl) (by kernel_rfl)
 have h37:=@run_callFunc_extern prog 421 _ (ReflectliteType.method ReflectliteType.elem) func421 (by kernel_rfl) (by kernel_rfl) (by kernel_rfl) (by kernel_rfl)
 have h38 := @run_callFunc_extern prog 422 _ (ReflectliteType.relation "Implements" ReflectliteType.implements_) func422 (by kernel_rfl) (by kernel_rfl) (by kernel_rfl) (by kernel_rfl)
 have h10:=@run_callFunc_extern prog 155 _ ReflectliteType.typeOf func155 (by kernel_rfl) (by kernel_rfl) (by kernel_rfl) (by kernel_rfl)
 have h35 := @run_callFunc_extern prog 419 _ (ReflectliteType.relation "AssignableTo" ReflectliteType.assignableTo) func419 (by kernel_rfl) (by kernel_rfl) (by kernel_rfl) (by kernel_rfl)
 have h11 := @run_callFunc_extern prog 156 _ (ReflectliteValue.method (ReflectliteValue.valueError "reflectlite.Value.Elem" 0) ReflectliteValue.elem) func156 (by kernel_rfl) (by kernel_rfl) (by kernel_rfl) (by kernel_rfl)
 have h12:=@run_callFunc_extern prog 157 _ ReflectliteValue.set func157 (by kernel_rfl) (by kernel_rfl) (by kernel_rfl) (by kernel_rfl)
 have tT:=Sl
 have mA:=JY
 have aT:=XE
 have vT:=M9
 have f6:=Jy
 have f7:=U3
 have mK:=Qa
 have mE:=SU
 have mI:=Ti
 have kP:=Rr
 have kT:=Tx
 have eP:=U5
 have iT:=UY
 have hlt:0<w.heap.size:=by
  rcases Nat.lt_or_ge 0 w.heap.size with h|h
  ·exact h
  simp[World.cell?,Array.getElem?_eq_none h]at hg
 have htl:t.block<w.heap.size:=by
  rcases Nat.lt_or_ge t.block w.heap.size with h|h
  ·exact h
  simp[World.cell?,Array.getElem?_eq_none h]at ht0
 let A1:Obj:=.cells #[.pointer (some t)] 143
 let A2:Obj:=.cells #[.pointer (some ⟨5,143,none⟩),.pointer (some ⟨w.heap.size,0,none⟩),.int .u64 150] 184
 let A5:Obj:=.cells #[.int .i64 c] 141
 have n8:=PK ⟨w.heap.size,0,none⟩ t ((w.alloc A1).alloc A2) (by simp[A1])
 have hg2:((w.alloc A1).alloc A2).cell? ⟨0,0,none⟩=some (.iface 221 (.agg #[.pointer (some ⟨5,87,none⟩)])):=by
  rw[World.cell?_alloc_lt _ _ ⟨0,0,none⟩ (by(simp;done)),World.cell?_alloc_lt _ _ ⟨0,0,none⟩ hlt];exact hg
 have el:=RY ⟨w.heap.size,0,none⟩ t (((w.alloc A1).alloc A2).alloc A2) (by rw[World.cell?_alloc_lt _ _ ⟨w.heap.size,0,none⟩ (by(simp;omega)),World.cell?_alloc_lt _ _ ⟨w.heap.size,0,none⟩ (by simp)];simp[A1])
 have st:=Zp t ⟨w.heap.size+1+1+1,0,none⟩ c old ((((w.alloc A1).alloc A2).alloc A2).alloc A5)
  (by rw[World.cell?_alloc_at _ _ _ _ (by simp)];rfl)
  (by rw[World.cell?_alloc_lt _ _ t (by(simp;omega)),World.cell?_alloc_lt _ _ t (by(simp;omega)),World.cell?_alloc_lt _ _ t (by(simp;omega)),World.cell?_alloc_lt _ _ t htl];exact ht0)
  (by rw[World.frozen?_alloc_old _ _ t (by(simp;omega)),World.frozen?_alloc_old _ _ t (by(simp;omega)),World.frozen?_alloc_old _ _ t (by(simp;omega)),World.frozen?_alloc_old _ _ t (Nat.ne_of_lt htl)];exact hf0)
 simp only[A1,A2,A5]at n8 hg2 el st
 clear A1 A2 A5
 go_enter func83,ntmps83
 go_wp2
 refine wp_loop_rounds 1 ?_
 rw[rounds_succ]
 go_wp2
 go_ret
 exact⟨rfl,_,(((aX.alloc _ _).trans (aX.alloc _ _)).trans (aX.alloc _ _)).trans (aX.alloc _ _),rfl⟩
theorem Vl(t:Value)(w:World):Calls prog 83 #[.nilIface,t] w fun ev w'=>ev=.returned (.bool false)/\w'=w:=by
 go_enter func83,ntmps83
 go_wp2
 go_ret
 exact⟨rfl,rfl⟩
theorem ay2(k:Int){x0:PV}(H:List Ob)(i j:Nat)(hi:H[i]?=some (.cells [x0] 141))(hj:H[j]?=some (.glob 0 etV)):
  HC prog 83 [.ifc 141 (.agg [i64 k]),.ifc 143 (.ptr i 0)] H (boo true) (H.set i (.cells [i64 k] 141)):=by
 intro B σ w vs s hv
 obtain⟨b,vs0,fr,hb,hw,hfr,p,q,rfl,hp⟩:=s.holds i _ hi
 simp only[cx]at hb hw
 match p,hp with
 | [],hp=>have:=au.length hp;simp at this
 | _::_::_,hp=>have:=au.length hp;simp at this
 | [old],hp =>
 have hvs:vs=[.iface 141 (.agg #[.int .i64 k]),.iface 143 (.pointer (some ⟨b,0,none⟩))]:=vn hv (fun u hu=>yE hu) (fun u hu=>by
  unfold Rep at hu
  obtain⟨z,rfl,hz⟩:=hu
  unfold Rep at hz
  obtain⟨_,b2,h2,rfl⟩:=hz
  simp only[cx]at h2
  rw[hb]at h2;cases h2;rfl)
 subst hvs
 obtain⟨hg,_⟩:=s.holds j _ hj
 have ht0:w.cell? ⟨b,0,none⟩=some old:=by rw[eH hw];rfl
 have hf0:w.frozen? ⟨b,0,none⟩=false:=by
  rcases hfr with rfl|hz
  ·simp[World.frozen?,hw]
  obtain⟨lo,hi'⟩:=fr
  simp only[World.frozen?,hw,Bool.and_eq_false_iff,decide_eq_false_iff_not]
  simp only[List.length_append,List.length_cons]at hz
  exact .inl (by omega)
 refine Calls.mono (Vy k ⟨b,0,none⟩ old w hg ht0 hf0) ?_
 rintro e w' ⟨rfl,w1,g,rfl⟩
 obtain⟨s1,st1⟩:=fH s g
 have hw1:w1.heap[b]?=some (Obj.cells (old::q).toArray 141 fr):=(g.block b (Array.getElem?_eq_some_iff.1 hw).1).trans hw
 obtain⟨s2,st2⟩:=lr s1 (ys:=[i64 k]) (us:=.int .i64 k::q) hi hb hw1 hfr rfl ⟨[.int .i64 k],q,rfl,aj.2 ⟨ar _ _,aG.2 rfl⟩⟩
 have e1:w1.setCell ⟨b,0,none⟩ (.int .i64 k)=w1.setRow b (Value.int .i64 k::q).toArray:=by
  rw[setCell_eq_setRow w1 b 0 _ _ _ _ hw1];simp
 rw[e1]
 exact⟨.bool true,σ,rfl,ar _ _,s2,st1.trans st2⟩
theorem as0(H:List Ob)(y:PV):HC prog 83 [.val .nilIface,y] H (boo false) H:=by
 intro B σ w vs s hv
 match vs,hv with
 | [],hv=>have:=au.length hv;simp at this
 | [_],hv=>have:=au.length hv;simp at this
 | p::q::r::l,hv=>have:=au.length hv;simp at this
 | [p,q],hv =>
 have hp:p=.nilIface:=A0 (aj.1 hv).1
 subst hp
 refine Calls.mono (Vl q w) ?_
 rintro e w' ⟨rfl,rfl⟩
 exact⟨.bool false,σ,rfl,ar _ _,s,dK.refl _ _ _ _⟩
open Go.RowKit
theorem aa2{P:Program}{f:FuncId}{x y:PV}{l:List PV}{H H':List Ob}{res:PV}(h:Imp x y)(k:HC P f (y::l) H res H'):HC P f (x::l) H res H':=by
 intro B σ w vs s hv
 match vs,hv with
 | [],hv=>have:=au.length hv;simp at this
 | v::vs,hv=>exact k B σ w (v::vs) s (aj.2 ⟨h _ _ (aj.1 hv).1,(aj.1 hv).2⟩)
theorem UG(e:Int):Imp (.val (.iface 141 (.agg #[.int .i64 e]))) (.ifc 141 (.agg [i64 e])):=fun c v h=>by
 rw[A0 h]
 unfold Rep
 refine⟨_,rfl,?_⟩
 unfold Rep
 exact⟨[.int .i64 e],rfl,aj.2 ⟨ar _ _,aG.2 rfl⟩⟩
theorem fP(a:Addr)(e:Int):∀(H:List Ob),(∀o∈gK a,∃k:Nat,H[k]?=some o)->HC prog 44 [Bp e] H (i64 e) H:=by
 by_cases he:e=0
 ·subst he
  refine g7 (fM a) tG (rs:=[.tmp 2]) func44 rfl rfl rfl (by simp) (by simp) (fun B=>?_)
  refine zu1 ?_
  refine zu1 ?_
  refine Ws<|zp1 ?_
  refine Wa 4 rfl (az2) ?_
  refine Wd rfl rfl (pR rfl (by kernel_rfl) rfl) ?_
  refine zc rfl func83 (as0 _ _) ?_
  refine Wn<|Wf rfl (by rfl) ?_
  refine Wj<|zu1 ?_
  refine zR ?_
  rfl
 have h1:=RR he
 refine g7 (fM a) tG (rs:=[.tmp 2]) func44 rfl rfl rfl (by simp) (by simp) (fun B=>?_)
 refine zu1 ?_
 refine zu1 ?_
 refine Ws<|zp1 ?_
 refine Wa 4 rfl (h1) ?_
 refine Wd rfl rfl (pR rfl (by kernel_rfl) rfl) ?_
 refine zc rfl func83 (aa2 (UG e) (ay2 e _ 2 1 rfl rfl)) ?_
 refine Wn<|Wt rfl (by rfl) ?_
 refine zu3 ?_
 refine zR ?_
 rfl
def SmE(e:Int):Prop:=-1000<=e/\e<=0
theorem SmE.fit{e:Int}(h:SmE e):ae e:=by unfold SmE at h;unfold ae;omega
theorem smk{e:Int}(h:(decide (-1000<=e)&&decide (e<=0))=true):SmE e:=by
 rw[Bool.and_eq_true]at h;exact⟨oT h.1,oT h.2⟩
theorem SC(m:bj)(here:Int)(b:List UInt8):SmE (da m here b).2.2:=by unfold da;split;exact(smk rfl:SmE (-8));exact(smk rfl:SmE 0)
theorem Pc(m:bj)(here n:Int):SmE (cv m here n).2.2:=by
 unfold cv;split
 ·exact SC _ _ _
 exact(smk rfl:SmE (-23))
theorem SV(s:Str):SmE (eW s):=by
 unfold eW SmE
 (repeat' split)<;>exact⟨by decide,by decide⟩
theorem ac9(l:List aR)(name:Str)(xt flags limit:Int):SmE (cz l name xt flags limit).2:=by
 unfold cz
 by_cases q1:eW name≠0
 ·rw[if_pos q1];exact SV name
 rw[if_neg q1]
 by_cases q2:(if 1024<limit then 1024 else limit)<=(l.length:Int)
 ·rw[if_pos q2];exact(smk rfl:SmE (-8))
 rw[if_neg q2];exact(smk rfl:SmE 0)
theorem QS{w:FW}{e:Int}(h:SmE w.bad)(he:SmE e):SmE (okF w e).bad:=by unfold okF;split;exact he;exact h
theorem VV{w:FW}(h:SmE w.bad)(n:Int):SmE (cd w n).bad:=by
 unfold cd;split
 ·exact Pc _ _ _
 exact h
theorem FI:∀(l:List Int) (w:FW),SmE w.bad->SmE (l.foldl cd w).bad
 | [],_,h=>h
 | x::l,w,h=>FI l _ (VV h x)
theorem UA{w:FW}(h:SmE w.bad)(name:Str)(flags:Int)(l:List Int):SmE (ea w name flags l).1.bad:=by
 refine FI l _ ?_
 have q:SmE (okF (okF w (aM w.f.vm.mem w.f.vm.here).2.2) (cz w.f.vm.dict name (aM w.f.vm.mem w.f.vm.here).2.1 flags w.f.vm.conf.words).2).bad:=QS (QS h (SC _ _ _)) (ac9 _ _ _ _ _)
 unfold fg
 split
 ·exact q
 exact q
theorem I9(f:af)(name:Str)(last:Bool)(l:List Int):SmE (cI f name last l).2:=by
 unfold cI
 split
 ·exact(smk rfl:SmE (-29))
 unfold gz
 split
 ·have q:SmE (ea (aJ f) name 0 l).1.bad:=UA (by unfold aJ;split;exact(smk rfl:SmE 0);exact(smk rfl:SmE (-29))) _ _ _
  unfold i4;split<;>exact q
 exact(smk rfl:SmE 0)
theorem J5{l:ai}{e:Int}(h:SmE l.err)(he:SmE e):SmE (oOk l e).err:=by unfold oOk;split;exact he;exact h
theorem Ks{l:ai}(h:SmE l.err):SmE (bU l).1.err:=by
 unfold bU;split
 ·exact J5 h (smk rfl:SmE (-16))
 exact h
theorem VK{l:ai}{r:af×Int}(h:SmE l.err)(he:SmE r.2):SmE (kQ l r).err:=by
 unfold kQ;split
 ·exact J5 h he
 exact J5 h he
theorem Nu{l:ai}(h:SmE l.err):SmE (d7 l).err:=by
 unfold d7 jC;split
 ·exact VK (Ks h) (I9 _ _ _ _)
 exact Ks h
theorem au7{N k:Nat}{f:af}(g:bb N f.vm)(hk:N+k<=1000000):FK k f:=by
 have R:=g.right
 have hc:=R.gd
 unfold d9 at hc
 have h1:=R.len
 have h2:=R.jG
 have h3:=R.jK
 have h4:=g.old
 have h5:=R.handl
 have h6:=R.dict
 have h7:f.vm.dict.length<=1024:=by
  unfold ig at h6
  simp only[Bool.and_eq_true,decide_eq_true_eq]at h6
  exact h6.2
 exact⟨by omega,by omega,h2,by omega,by omega,tz h6,by omega⟩
theorem Km{N:Nat}{f:af}(g:bb N f.vm)(name:Str)(last:Bool)(l:List Int):bb (N+1+l.length) (cI f name last l).1.vm:=by
 unfold cI
 split
 ·exact g.up (by omega)
 unfold gz
 split
 ·exact g.up (by omega)
 have q:=D8 (l:=l) (w:=aJ f) g name (flags:=0) (by decide) (by decide)
 unfold i4;split
 ·exact yr q (xf g)
 exact q
theorem N3{N:Nat}{l:ai}(g:bb N l.f.vm):bb (N+3) (d7 l).f.vm:=by
 have e:=(lH l).1
 unfold d7 jC
 split
 ·rcases Jf (bU l).1 (cI (bU l).1.f (bU l).2 true [257,0])with q|q
  ·rw[q,e];exact Km g _ _ [257,0]
  rw[q,e];exact g.up (by omega)
 rw[e];exact g.up (by omega)
def ko(l:ai)(r:bH):ai:=⟨⟨r.vm,l.f.comp⟩,l.s,l.at_,0,0⟩
def J7(v:VVm)(r:bH)(ip:Int):bH:=⟨v,ip,0,false,W64 (r.fuel-1)⟩
def iO(l:ai)(r:bH)(ip:Int):ai×bH×Int :=
 if r.fuel<1 then(l,r,-256)else if (d7 (ko l r)).err=0 then({l with at_:=(d7 (ko l r)).at_},J7 (d7 (ko l r)).f.vm r ip,0)else(l,cp (J7 r.vm r ip) (d7 (ko l r)).err)
theorem Sm{l:ai}{r:bH}{ip:Int}(h:r.fuel<1):iO l r ip=(l,r,-256):=by unfold iO;rw[if_pos h]
theorem aw2{l:ai}{r:bH}{ip:Int}(h:¬r.fuel<1)(q:(d7 (ko l r)).err=0):iO l r ip=({l with at_:=(d7 (ko l r)).at_},J7 (d7 (ko l r)).f.vm r ip,0):=by unfold iO;rw[if_neg h,if_pos q]
theorem ar1{l:ai}{r:bH}{ip:Int}(h:¬r.fuel<1)(q:¬(d7 (ko l r)).err=0):iO l r ip=(l,cp (J7 r.vm r ip) (d7 (ko l r)).err):=by unfold iO;rw[if_neg h,if_neg q]
theorem WI(a:Addr)(l:ai)(r:bH)(ip:Int)(N:Nat)(g:bb N r.vm)(hN:N+3<=1000000)(hs:l.s.length<=1000000):∀(H:List Ob) (i:Nat),H[i]?=some (.cells (aQ l) 89)->(∀o∈gK a,∃k:Nat,H[k]?=some o)->HC prog 86 (.ptr i 0::[w9 r,i64 ip]) H (L3 (iO l r ip).2) (H.set i (.cells (aQ (iO l r ip).1) 89)):=by
 have pC:=Cw (ko l r) hs (au7 (f:=(ko l r).f) g hN)
 have m0:=Sm (l:=l) (r:=r) (ip:=ip)
 have m1:=aw2 (l:=l) (r:=r) (ip:=ip)
 have m2:=ar1 (l:=l) (r:=r) (ip:=ip)
 obtain⟨c,hc⟩:∃c,d7 (ko l r)=c:=⟨_,rfl⟩
 rw[hc]at pC m1 m2
 refine lB (fM a) tG (rs:=[.cell 6 145,.tmp 7]) func86 rfl rfl rfl (by simp) (by simp) (by simp) (by simp) (fun B=>?_)
 refine zu3 ?_
 refine Ws<|zu3 ?_
 refine Wi rfl (fun hi1=>?_) (fun hi1=>?_)
 ·have q0:r.fuel<1:=oT hi1
  refine zu3 ?_
  refine Wq<|aN rfl rfl ?_ ?_
  ·(rw[m0 q0];rfl)
  (rw[m0 q0];rfl)
 have q0:¬r.fuel<1:=oF hi1
 refine Wj<|Ws<|V3.aY [0,1,0,0,0,0,1,0,0,0,0,1,0,0,0,1,0,2,3] [0,1,2,3,4,5,6,7,8,9,10,11,12,13,14,15,16,17,18] mG rfl (by kernel_rfl) ?_
 refine V3.aO ?_
 refine V3.iG ?_
 iterate 4 refine V3.aO ?_
 refine V3.iG ?_
 iterate 4 refine V3.aO ?_
 refine V3.iG ?_
 iterate 3 refine V3.aO ?_
 refine V3.iG ?_
 refine V3.aO ?_
 refine V3.sw tG rfl rfl rfl rfl rfl trivial rfl ?_
 refine V3.ox tG rfl rfl rfl rfl rfl trivial ?_
 refine V3.bo ?_
 refine z8 ?_
 refine zc rfl func114 ((pC) _ _ rfl) ?_
 refine Wn<|Ws<|zp2 ?_
 refine Wd rfl rfl (aV rfl (by kernel_rfl) rfl (by exact dP _)) ?_
 refine Wn<|Wi rfl (fun hi2=>?_) (fun hi2=>?_)
 ·have q1:c.err=0:=oT hi2
  refine zp5 ?_
  refine zs1 ?_
  refine zp5 ?_
  refine zs5 ?_
  refine Wq<|aN rfl rfl ?_ ?_
  ·(rw[m1 q0 q1];rfl)
  (rw[m1 q0 q1];rfl)
 have q1:¬c.err=0:=oF hi2
 refine Wj<|Ws<|V3.aY [0,1,0,0,1,0,0,0,1,2,0,0,0,3,0] [0,1,2,3,4,5,6,7,8,9,10,11,12,13,14] mG rfl (by kernel_rfl) ?_
 refine V3.aO ?_
 refine V3.iG ?_
 iterate 2 refine V3.aO ?_
 refine V3.iG ?_
 iterate 3 refine V3.aO ?_
 refine V3.iG ?_
 refine V3.fW rfl rfl rfl rfl (dC rfl func44 rfl rfl (fP a _ _ (cn 1 2 rfl rfl))) ?_
 refine V3.cQ rfl rfl rfl rfl (fun _=>dC rfl func115 rfl rfl ((Ee (J7 r.vm r ip) c.err N g) _)) ?_
 iterate 2 refine V3.aO ?_
 refine V3.ox tG rfl rfl rfl rfl rfl trivial ?_
 refine V3.aO ?_
 refine V3.bo ?_
 refine Wq<|aN rfl rfl ?_ ?_
 ·(rw[m2 q0 q1];rfl)
 (rw[m2 q0 q1];rfl)
structure EX where
 l:ai
 r:bH
 over:Bool
 e:Int
def exM(x:EX):ai×bH×Int:=iO x.l x.r (cF x.r).2
def oY(x:EX):EX:=if (cF x.r).1=true then⟨(exM x).1,(exM x).2.1,x.over,(exM x).2.2⟩else⟨x.l,(bR x.r).1,(bR x.r).2.1,(bR x.r).2.2⟩
def EX.stops(x:EX):Prop:=x.over=true\/x.e≠0
instance (x:EX):Decidable x.stops:=by unfold EX.stops;infer_instance
def oJ:Nat->EX->EX
 | 0,x=>x
 | n+1,x=>if x.stops then x else oJ n (oY x)
theorem Ff{x:EX}(h:x.stops):∀n,oJ n x=x
 | 0=>rfl
 | n+1=>by rw[oJ,if_pos h]
theorem SD{x:EX}(h:¬x.stops)(n:Nat):oJ (n+1) x=oJ n (oY x):=by rw[oJ,if_neg h]
theorem Wy{x:EX}(h:(cF x.r).1=true):oY x=⟨(exM x).1,(exM x).2.1,x.over,(exM x).2.2⟩:=by unfold oY;rw[if_pos h]
theorem OA{x:EX}(h:¬(cF x.r).1=true):oY x=⟨x.l,(bR x.r).1,(bR x.r).2.1,(bR x.r).2.2⟩:=by unfold oY;rw[if_neg h]
structure ExI (R:EX) (s:Nat×EX):Prop where
 out:oJ s.1 s.2=R
 live:¬s.2.stops->0<=s.2.r.fuel/\s.2.r.fuel+1<s.1
 g:gA (700000-5*s.1) s.2.r
 n:s.1<=100000
 sl:s.2.l.s.length<=1000000
 fu:ae s.2.r.fuel
theorem Pt(l:ai)(r:bH)(ip:Int):(iO l r ip).1.s=l.s/\(iO l r ip).1.f=l.f/\(iO l r ip).1.err=l.err:=by
 unfold iO
 split
 ·exact⟨rfl,rfl,rfl⟩
 split<;>exact⟨rfl,rfl,rfl⟩
theorem CM{l:ai}{r:bH}{ip:Int}{N:Nat}(g:gA N r)(hi:ae ip):gA (N+3) (iO l r ip).2.1:=by
 unfold iO
 split
 ·exact g.up (by omega)
 split
 ·exact⟨N3 (l:=ko l r) g.m,hi,bG⟩
 exact xw (r:=J7 r.vm r ip) ⟨g.m.up (by omega),hi,bG⟩ (Nu (smk rfl:SmE 0)).fit
theorem xI{r:bH}(hi:ae r.ip):ae (cF r).2:=by
 unfold cF Bi
 split
 ·exact hi
 split
 ·exact hi
 exact cX _
theorem ExI.next{R:EX}{s:Nat×EX}(h:ExI R s)(k:¬s.2.stops):ExI R (s.1-1,oY s.2)/\s.1-1<s.1:=by
 obtain⟨f0,f1⟩:=h.live k
 have f2:=h.n
 obtain⟨n,hn⟩:∃n,s.1=n+1:=⟨s.1-1,by omega⟩
 have hr:=h.out
 rw[hn,SD k]at hr
 have hw:W64 (s.2.r.fuel-1)=s.2.r.fuel-1:=gE (by omega) (by omega)
 refine⟨?_,by omega⟩
 by_cases c:(cF s.2.r).1=true
 ·have e:=Wy c
  have fm:¬s.2.r.fuel<1->(exM s.2).2.1.fuel=s.2.r.fuel-1:=fun q=>by
   unfold exM iO
   rw[if_neg q]
   split
   ·exact hw
   show(cp _ _).1.fuel=_;rw[rm];exact hw
  have fs:s.2.r.fuel<1->(exM s.2).2.2 = -256/\(exM s.2).2.1.fuel=s.2.r.fuel:=fun q=>by unfold exM;rw[Sm q];exact⟨rfl,rfl⟩
  refine⟨by rw[show((s.1-1,oY s.2):Nat×EX).1=n by show s.1-1=n;omega];exact hr,fun k2=>?_,?_,by show s.1-1<=_;omega,?_,?_⟩
  ·rw[e]at k2 ⊢
   by_cases q:s.2.r.fuel<1
   ·exact absurd (.inr (by show(exM s.2).2.2≠0;rw[(fs q).1];decide)) k2
   show 0<=(exM s.2).2.1.fuel/\(exM s.2).2.1.fuel+1<((s.1-1:Nat):Int)
   rw[fm q];omega
  ·rw[e];exact(CM h.g (xI h.g.ip)).up (by show 700000-5*s.1+3<=700000-5*(s.1-1);omega)
  ·rw[e];show(exM s.2).1.s.length<=_;unfold exM;rw[(Pt _ _ _).1];exact h.sl
  rw[e];show ae (exM s.2).2.1.fuel
  by_cases q:s.2.r.fuel<1
  ·rw[(fs q).2];exact h.fu
  rw[fm q];unfold ae;omega
 have e:=OA c
 have fm:¬s.2.r.fuel<1->(bR s.2.r).1.fuel=s.2.r.fuel-1:=fun q=>by rw[wJ h.g.m.right.d q];exact hw
 have fs:s.2.r.fuel<1->bR s.2.r=(s.2.r,false,-256):=fun q=>xj q
 refine⟨by rw[show((s.1-1,oY s.2):Nat×EX).1=n by show s.1-1=n;omega];exact hr,fun k2=>?_,?_,by show s.1-1<=_;omega,?_,?_⟩
 ·rw[e]at k2 ⊢
  by_cases q:s.2.r.fuel<1
  ·exact absurd (.inr (by show(bR s.2.r).2.2≠0;rw[fs q];show(-256:Int)≠0;decide)) k2
  show 0<=(bR s.2.r).1.fuel/\(bR s.2.r).1.fuel+1<((s.1-1:Nat):Int)
  rw[fm q];omega
 ·rw[e];exact(uc h.g).up (by show 700000-5*s.1+2<=700000-5*(s.1-1);omega)
 ·rw[e];exact h.sl
 rw[e];show ae (bR s.2.r).1.fuel
 by_cases q:s.2.r.fuel<1
 ·rw[fs q];exact h.fu
 rw[fm q];unfold ae;omega
def BP(l:ai)(xt:Int):EX:=⟨l,zX l.f.vm xt l.fuel,false,0⟩
def vx(x:EX):ai:={x.l with f:={x.l.f with vm:=y6 x.r.vm},fuel:=x.r.fuel}
def exR(l:ai)(xt:Int):EX:=oJ (l.fuel.toNat+2) (BP l xt)
def lZ(l:ai)(xt:Int):ai:=oOk (vx (exR l xt)) (exR l xt).e
theorem qz(a:Addr)(l:ai)(xt:Int)(N:Nat)(g:bb N l.f.vm)(hx:ae xt)(h0:0<=l.fuel)(h1:l.fuel<=90000)(hN:N<=190000)(hs:l.s.length<=1000000):∀(H:List Ob) (i:Nat),H[i]?=some (.cells (aQ l) 89)->(∀o∈gK a,∃k:Nat,H[k]?=some o)->HC prog 45 (.ptr i 0::[i64 xt]) H (.tup []) (H.set i (.cells (aQ (lZ l xt)) 89)):=by
 unfold lZ
 obtain⟨R,hR⟩:∃R,exR l xt=R:=⟨_,rfl⟩
 rw[hR]
 have i0:ExI R (l.fuel.toNat+2,BP l xt):=⟨hR,fun _=>⟨h0,by show l.fuel+1<((l.fuel.toNat+2:Nat):Int);omega⟩,(AM g hx).up (by show N<=700000-5*(l.fuel.toNat+2);omega),by show l.fuel.toNat+2<=100000;omega,hs,by show ae l.fuel;unfold ae;omega⟩
 clear hR
 refine lB (fM a) tG (rs:=[]) func45 rfl rfl rfl (by simp) (by simp) (by simp) (by simp) (fun B=>?_)
 refine Ws<|V3.aY [0,0,0,0,1,0,0,0,0,1,0,2,3] [0,1,2,3,4,5,6,7,8,9,10,11,12] mG rfl (by kernel_rfl) ?_
 iterate 4 refine V3.aO ?_
 refine V3.iG ?_
 iterate 4 refine V3.aO ?_
 refine V3.iG ?_
 refine V3.cQ rfl rfl rfl rfl (fun _=>dC rfl func84 rfl rfl ((Gm l.f.vm xt l.fuel) _)) ?_
 refine V3.sw tG rfl rfl rfl rfl rfl trivial rfl ?_
 refine V3.ox tG rfl rfl rfl rfl rfl trivial ?_
 refine V3.bo ?_
 refine zu2 ?_
 refine Ws<|Wl ?_
 show W _ _ _ _ _ _ _
 refine fX (fun(s:(Nat×EX))=>[(0,.ptr 0 0),(4,.ptr 3 0),(5,boo s.2.over),(6,i64 s.2.e)]) (fun(s:(Nat×EX))=>[.cells (aQ s.2.l) 89,.glob 1 (haltV a),.glob 0 etV,.cells (sZ s.2.r) 145]) (fun(s:(Nat×EX))=>[]) (fun(s:(Nat×EX))=>ExI R s) (fun(s:(Nat×EX))=>s.1) ((l.fuel.toNat+2,BP l xt)) (by exact i0) [] ?_ ?_
 ·exact fc
 intro s hs
 refine Ws<|zp3 ?_
 refine Wb 25 rfl (fun hg1=>?_) (fun hg1=>?_)
 ·have q1:s.2.over=false:=by simpa using hg1
  refine zs3 ?_
  refine Wi rfl (fun hi1=>?_) (fun hi1=>?_)
  ·have q2:s.2.e=0:=by simpa using hi1
   have lv:¬s.2.stops:=fun z=>z.elim (fun z=>by rw[q1]at z;cases z) (fun z=>z q2)
   have nx:=hs.next lv
   refine Wj<|Wl<|Ws<|zp1 ?_
   refine zc rfl func85 ((Bg s.2.r (by have:=hs.g.m.right.len;have:=hs.g.m.right.gd;unfold d9 at this;omega) hs.g.ip hs.g.w) _) ?_
   refine zs5 ?_
   refine zu1 ?_
   refine Wi rfl (fun hi2=>?_) (fun hi2=>?_)
   ·have q3:(cF s.2.r).1=true:=hi2
    have ee:=Wy q3
    rw[ee]at nx
    let xx:EX:=⟨(exM s.2).1,(exM s.2).2.1,s.2.over,(exM s.2).2.2⟩
    refine zp3 ?_
    refine zc rfl func86 (WI a s.2.l s.2.r (cF s.2.r).2 _ hs.g.m (by omega) hs.sl _ 0 rfl (cn 1 2 rfl rfl)) ?_
    refine zs5 ?_
    refine bf ?_
    exact⟨(s.1-1,xx),[],(by exact nx.1),(by exact nx.2),fc⟩
   have q3:¬(cF s.2.r).1=true:=by rw[hi2];decide
   have ee:=OA q3
   rw[ee]at nx
   let xx:EX:=⟨s.2.l,(bR s.2.r).1,(bR s.2.r).2.1,(bR s.2.r).2.2⟩
   refine Wj<|zp1 ?_
   refine zc rfl func87 (FR a s.2.r _ hs.g (by omega) hs.fu _ (cn 1 2 rfl rfl)) ?_
   refine zy5 ?_
   refine zs3 ?_
   refine aa rfl ?_
   refine zy5 ?_
   refine zs1 ?_
   exact⟨(s.1-1,xx),[],(by exact nx.1),(by exact nx.2),fc⟩
  have q2:¬s.2.e=0:=by simpa using hi1
  have st:s.2=R:=(Ff (.inr q2) s.1).symm.trans hs.out
  refine bf ?_
  refine zp5 ?_
  refine zs1 ?_
  refine Ws<|V3.aY [0,0,0,10,0,10,0,0,0,5,0,0,5] [0,1,2,3,4,5,6,7,8,9,10,11,12] mG rfl (by kernel_rfl) ?_
  iterate 3 refine V3.aO ?_
  refine V3.zU 3 ?_
  refine V3.aO ?_
  refine V3.zU 3 ?_
  iterate 3 refine V3.aO ?_
  refine V3.bT 0 tG rfl rfl rfl rfl rfl trivial rfl ?_
  iterate 2 refine V3.aO ?_
  refine V3.bT 0 tG rfl rfl rfl rfl rfl trivial rfl ?_
  refine V3.bo ?_
  refine LB 0 rfl rfl (ys:=aQ (vx s.2)) rfl rfl ?_
  refine aa rfl ?_
  refine zy2 ?_
  refine zc rfl func41 ((oO (vx s.2) s.2.e) _ _ rfl) ?_
  refine Wn<|aU rfl rfl ?_ ?_
  ·rfl
  rw[<-st];rfl
 have q1:s.2.over=true:=by simpa using hg1
 have st:s.2=R:=(Ff (.inl q1) s.1).symm.trans hs.out
 iterate 2 refine z6 ?_
 refine zs1 ?_
 refine Wf rfl rfl ?_
 refine bf ?_
 refine zp5 ?_
 refine zs1 ?_
 refine Ws<|V3.aY [0,0,0,10,0,10,0,0,0,5,0,0,5] [0,1,2,3,4,5,6,7,8,9,10,11,12] mG rfl (by kernel_rfl) ?_
 iterate 3 refine V3.aO ?_
 refine V3.zU 3 ?_
 refine V3.aO ?_
 refine V3.zU 3 ?_
 iterate 3 refine V3.aO ?_
 refine V3.bT 0 tG rfl rfl rfl rfl rfl trivial rfl ?_
 iterate 2 refine V3.aO ?_
 refine V3.bT 0 tG rfl rfl rfl rfl rfl trivial rfl ?_
 refine V3.bo ?_
 refine LB 0 rfl rfl (ys:=aQ (vx s.2)) rfl rfl ?_
 refine aa rfl ?_
 refine zy2 ?_
 refine zc rfl func41 ((oO (vx s.2) s.2.e) _ _ rfl) ?_
 refine Wn<|aU rfl rfl ?_ ?_
 ·rfl
 rw[<-st];rfl
structure KD (v w:VVm):Prop where
 conf:w.conf=v.conf
 hand:w.hand=v.hand
 dict:v.dict.length<=w.dict.length
 xts:DX v.dict->DX w.dict
theorem KV.kd{v w:VVm}(h:KV v w):KD v w:=⟨h.conf,h.hand,by rw[h.dict];exact Nat.le_refl _,by rw[h.dict];exact id⟩
theorem KD.tr{a b c:VVm}(h:KD a b)(g:KD b c):KD a c:=⟨g.conf.trans h.conf,g.hand.trans h.hand,Nat.le_trans h.dict g.dict,fun q=>g.xts (h.xts q)⟩
theorem Kn{N:Nat}(f:af)(name:Str)(last:Bool)(l:List Int)(g:bb N f.vm):KD f.vm (cI f name last l).1.vm:=by
 have w:=Qj (aJ f) name 0 l
 unfold cI
 split
 ·exact(KV.rf _).kd
 unfold gz
 split
 ·exact(KV.rf _).kd
 unfold i4
 split<;>exact⟨w.1,w.2.1,w.2.2.2,fun q=>Dz (w:=aJ f) g q name 0 l⟩
theorem NI{N:Nat}(l:ai)(g:bb N l.f.vm):KD l.f.vm (d7 l).f.vm:=by
 have e:=(lH l).1
 unfold d7 jC
 split
 ·rcases Jf (bU l).1 (cI (bU l).1.f (bU l).2 true [257,0])with q|q
  ·rw[q,<-e];exact Kn _ _ _ _ (by rw[e];exact g)
  rw[q,e];exact(KV.rf _).kd
 rw[e];exact(KV.rf _).kd
theorem Ue{N:Nat}(l:ai)(r:bH)(ip:Int)(g:bb N r.vm):KD r.vm (iO l r ip).2.1.vm:=by
 unfold iO
 split
 ·exact(KV.rf _).kd
 split
 ·exact NI (ko l r) g
 exact(zr (J7 r.vm r ip) _).kd
theorem VG{l:ai}{r:bH}{ip:Int}(h0:0<=l.at_)(h1:l.at_<=l.s.length):l.at_<=(iO l r ip).1.at_/\(iO l r ip).1.at_<=l.s.length:=by
 unfold iO
 split
 ·exact⟨Int.le_refl _,h1⟩
 split
 ·show l.at_<=(d7 (ko l r)).at_/\(d7 (ko l r)).at_<=_
  have q:l.at_<=(bU (ko l r)).1.at_/\(bU (ko l r)).1.at_<=l.s.length:=by
   unfold bU;split
   ·rw[(y2 (ko l r) (-16)).2.1];exact⟨Int.le_refl _,h1⟩
   rename_i z
   have w:=Es l.s h0 h1 z
   exact⟨by show l.at_<=(bC l.s l.at_).2;omega,w.2.1⟩
  unfold d7 jC
  split
  ·rw[(yB _ _).2.1];exact q
  exact q
 exact⟨Int.le_refl _,h1⟩
structure ExG (M:Nat) (l0:ai) (v0:VVm) (x:EX):Prop where
 g:gA (M-3*x.r.fuel.toNat) x.r
 m:3*x.r.fuel.toNat<=M
 k:KD v0 x.r.vm
 s:x.l.s=l0.s
 f:x.l.f=l0.f
 a:l0.at_<=x.l.at_
 b:x.l.at_<=l0.s.length
 u0:0<=x.r.fuel
 u1:x.r.fuel<=l0.fuel
theorem W9{M:Nat}{l0:ai}{v0:VVm}{x:EX}(h:ExG M l0 v0 x)(h0:0<=l0.at_)(h9:l0.fuel<=90000):ExG M l0 v0 (oY x):=by
 have u0:=h.u0
 have u1:=h.u1
 have m:=h.m
 by_cases hf:x.r.fuel<1
 ·by_cases c:(cF x.r).1=true
  ·rw[Wy c]
   have e:exM x=(x.l,x.r,-256):=Sm hf
   rw[e]
   exact⟨h.g,h.m,h.k,h.s,h.f,h.a,h.b,h.u0,h.u1⟩
  rw[OA c]
  have e:bR x.r=(x.r,false,-256):=xj hf
  rw[e]
  exact⟨h.g,h.m,h.k,h.s,h.f,h.a,h.b,h.u0,h.u1⟩
 have hw:W64 (x.r.fuel-1)=x.r.fuel-1:=gE (by omega) (by omega)
 have hm:M-3*x.r.fuel.toNat+3<=M-3*(x.r.fuel-1).toNat:=by omega
 by_cases c:(cF x.r).1=true
 ·rw[Wy c]
  have fu:(exM x).2.1.fuel=x.r.fuel-1:=by
   unfold exM iO
   rw[if_neg hf]
   split
   ·exact hw
   show(cp _ _).1.fuel=_;rw[rm];exact hw
  have sf:=Pt x.l x.r (cF x.r).2
  have at_:=VG (l:=x.l) (r:=x.r) (ip:=(cF x.r).2) (by have:=h.a;omega) (by rw[h.s];exact h.b)
  have a:=h.a
  have es:=h.s
  refine⟨?_,?_,h.k.tr (Ue x.l x.r _ h.g.m),sf.1.trans es,sf.2.1.trans h.f,by show l0.at_<=(iO x.l x.r (cF x.r).2).1.at_;omega,by show(iO x.l x.r (cF x.r).2).1.at_<=_;rw[<-es];exact at_.2,?_,?_⟩
  ·show gA (M-3*(exM x).2.1.fuel.toNat) (exM x).2.1
   rw[fu];exact(CM h.g (xI h.g.ip)).up hm
  ·show 3*(exM x).2.1.fuel.toNat<=M
   rw[fu];omega
  ·show 0<=(exM x).2.1.fuel
   rw[fu];omega
  show(exM x).2.1.fuel<=_
  rw[fu];omega
 rw[OA c]
 have fu:(bR x.r).1.fuel=x.r.fuel-1:=by rw[wJ h.g.m.right.d hf];exact hw
 refine⟨?_,?_,h.k.tr (UC h.g).kd,h.s,h.f,h.a,h.b,?_,?_⟩
 ·show gA (M-3*(bR x.r).1.fuel.toNat) (bR x.r).1
  rw[fu];exact(uc h.g).up (by omega)
 ·show 3*(bR x.r).1.fuel.toNat<=M
  rw[fu];omega
 ·show 0<=(bR x.r).1.fuel
  rw[fu];omega
 show(bR x.r).1.fuel<=_
 rw[fu];omega
theorem K7{M:Nat}{l0:ai}{v0:VVm}(h0:0<=l0.at_)(h9:l0.fuel<=90000):∀(n:Nat) (x:EX),ExG M l0 v0 x->ExG M l0 v0 (oJ n x)
 | 0,x,h=>h
 | n+1,x,h=>by
  rw[oJ]
  split
  ·exact h
  exact K7 h0 h9 n _ (W9 h h0 h9)
structure Nr (l0 l:ai) (N:Nat):Prop where
 f:OkF (N+3*l0.fuel.toNat-3*l.fuel.toNat) l.f
 s:l.s=l0.s
 a:l0.at_<=l.at_
 b:l.at_<=l0.s.length
 u0:0<=l.fuel
 u1:l.fuel<=l0.fuel
theorem Pr{N:Nat}{l:ai}(h:OkF N l.f){xt:Int}(hx:ae xt)(h0:0<=l.at_)(h1:l.at_<=l.s.length)(u0:0<=l.fuel)(u9:l.fuel<=90000):Nr l (lZ l xt) N:=by
 have b:ExG (N+3*l.fuel.toNat) l l.f.vm (BP l xt):=by
  refine⟨?_,?_,⟨rfl,rfl,Nat.le_refl _,id⟩,rfl,rfl,Int.le_refl _,h1,u0,Int.le_refl _⟩
  ·show gA (N+3*l.fuel.toNat-3*l.fuel.toNat) (zX l.f.vm xt l.fuel)
   rw[Nat.add_sub_cancel];exact AM h.g hx
  show 3*l.fuel.toNat<=_;omega
 have r:=K7 h0 u9 (l.fuel.toNat+2) _ b
 unfold lZ exR
 generalize oJ (l.fuel.toNat+2) (BP l xt)=x at r ⊢
 have g:=r.g.m
 have hc:=g.right.gd
 unfold d9 at hc
 have g2:=QR (Qt g (r:=[]) (by show(0:Int)<=_;omega) bE) (f:=[]) rfl (by show(0:Nat)<=64;omega) (fun y hy=>by cases hy)
 have hf:(vx x).f={l.f with vm:=y6 x.r.vm}:=by unfold vx;dsimp only;rw[r.f]
 have o:OkF (N+3*l.fuel.toNat-3*x.r.fuel.toNat) (vx x).f:=by
  rw[hf]
  exact h.vm (v:=y6 x.r.vm) g2 r.k.dict r.k.conf (r.k.xts h.xts)
 have sf:=y2 (vx x) x.e
 refine⟨?_,sf.1.trans r.s,?_,?_,?_,?_⟩
 ·rw[(uV _ _).1,sf.2.2];exact o
 ·rw[sf.2.1];exact r.a
 ·rw[sf.2.1];exact r.b
 ·rw[sf.2.2];exact r.u0
 rw[sf.2.2];exact r.u1
theorem al8{f:Int}(h0:0<=f)(h7:f<=7):(IntKind.i64.wrap ↑(BitVec.ofInt IntKind.i64.bits f &&& BitVec.ofInt IntKind.i64.bits 4).toNat != 0)=decide (f/4%2=1):=by
 rcases qN h0 h7 with rfl|rfl|rfl|rfl|rfl|rfl|rfl|rfl<;>decide
theorem at4{f:Int}(h0:0<=f)(h7:f<=7):(IntKind.i64.wrap ↑(BitVec.ofInt IntKind.i64.bits f &&& BitVec.ofInt IntKind.i64.bits 1).toNat==0)=decide (f%2=0):=by
 rcases qN h0 h7 with rfl|rfl|rfl|rfl|rfl|rfl|rfl|rfl<;>decide
def ml(w:aR)(k:Int):Bool:=decide (w.flags/4%2=1)||vg k
def i9(l:ai)(w:aR):ai×Bool :=
 if (av l.f.vm w.xt).2≠0 then(oOk l (av l.f.vm w.xt).2,false)
 else if (ml w (av l.f.vm w.xt).1&&!ct l.f)=true then(oOk l (-14),false)
 else if (ct l.f&&decide (w.flags%2=0))=true then(wN l w.xt,false)
 else if 300<=(av l.f.vm w.xt).1 then(rH l (cq.getD ((av l.f.vm w.xt).1-300).toNat []),false)
 else(lZ l w.xt,true)
structure aA4 (N:Nat) (l:ai) (w:aR):Prop where
 lk:LK 300 l
 g:bb N l.f.vm
 n:N<=190000
 xt:ae w.xt
 f0:0<=w.flags
 f7:w.flags<=7
 u0:0<=l.fuel
 u1:l.fuel<=90000
 e:l.err=0
theorem AH{l:ai}(h:l.err=0):oOk l 0=l:=by
 rw[ok0 h];cases l;simp only at h;rw[h]
theorem TK(a:Addr)(l:ai)(w:aR)(N:Nat)(h:aA4 N l w):∀(H:List Ob) (i:Nat),H[i]?=some (.cells (aQ l) 89)->(∀o∈gK a,∃k:Nat,H[k]?=some o)->HC prog 38 (.ptr i 0::[xZ w]) H (boo (i9 l w).2) (H.set i (.cells (aQ (i9 l w).1) 89)):=by
 have hm:l.f.vm.mem.b.length<=140737488355328:=by have:=h.lk.f.b;omega
 have pK:=qI l.f.vm w.xt hm h.xt
 have hkO:=@Fh l.f.vm w.xt
 have l4:=al8 h.f0 h.f7
 have l1:=at4 h.f0 h.f7
 have hL:=il
 unfold i9
 obtain⟨k,hk⟩:∃k,av l.f.vm w.xt=k:=⟨_,rfl⟩
 rw[hk]at pK hkO ⊢
 by_cases z:k.2=0
 ·have e0:∀{α:Type} (x y:α),(if k.2≠0 then x else y)=y:=fun x y=>if_neg (fun q=>q z)
  have pO:=oO l k.2
  rw[z,AH h.e]at pO
  have hb:=hkO z
  unfold eX at hb
  have w1:300<=k.1->IntKind.i64.wrap (k.1-300)=k.1-300:=fun q=>gE (by omega) (by omega)
  refine lB (fM a) tG (rs:=[.tmp 4]) func38 rfl rfl rfl (by simp) (by simp) (by simp) (by simp) (fun B=>?_)
  refine zu2 ?_
  refine Ws<|az [0,0,0,0,1,0,1,0,0,0,0,0,0] [0,1,2,3,4,5,6,7,8,9,10,11,12] mG rfl (by kernel_rfl) ?_
  iterate 4 refine z3 ?_
  refine z5 ?_
  refine z3 ?_
  refine z5 ?_
  refine Xc rfl rfl rfl rfl (fun _=>dC rfl func67 rfl rfl ((pK) _)) ?_
  iterate 3 refine z3 ?_
  refine Xa 18 rfl (congrArg (fun z=>PV.val (Value.int .i64 z)) z) ?_
  iterate 2 refine z3 ?_
  refine aP ?_
  refine Ws<|zp2 ?_
  refine zc rfl func41 ((pO) _ _ rfl) ?_
  refine zs1 ?_
  refine Wf rfl (by rw[h.e];rfl) ?_
  refine Wj<|zp4 ?_
  refine zc rfl func23 ((jR l.f hm) _) ?_
  refine zs1 ?_
  refine Ws<|Wl<|zp5 ?_
  refine Wb 37 rfl (fun hg1=>?_) (fun hg1=>?_)
  ·have o:ml w k.1=true:=by unfold ml;rw[l4]at hg1;rw[hg1];rfl
   iterate 2 refine z6 ?_
   refine zy5 ?_
   refine zs1 ?_
   refine Wi rfl (fun hi2=>?_) (fun hi2=>?_)
   ·have c:ct l.f=false:=by simpa using hi2
    have n1:(ml w k.1&&!ct l.f)=true:=by rw[o,c];rfl
    refine aa rfl ?_
    refine z1 ?_
    refine zc rfl func41 ((oO l (-14)) _ _ rfl) ?_
    refine Wn<|zu1 ?_
    refine Wq<|aN rfl rfl ?_ ?_
    ·(rw[e0,if_pos n1];rfl)
    (rw[e0,if_pos n1];rfl)
   have c:ct l.f=true:=by simpa using hi2
   have n1:¬(ml w k.1&&!ct l.f)=true:=by rw[o,c];decide
   refine zp2 ?_
   refine Wb 49 rfl (fun hg2=>?_) (fun hg2=>?_)
   ·have c2:ct l.f=true:=hg2
    refine zy5 ?_
    refine zs1 ?_
    refine Wi rfl (fun hi3=>?_) (fun hi3=>?_)
    ·have b1:decide (w.flags%2=0)=true:=by rw[l1]at hi3;exact hi3
     have n2:(ct l.f&&decide (w.flags%2=0))=true:=by rw[c2,b1];rfl
     refine aa rfl ?_
     refine zy3 ?_
     refine zc rfl func69 ((sF l w.xt h.lk.f.mem h.lk.f.here) _ _ rfl) ?_
     refine Wn<|zu1 ?_
     refine Wq<|aN rfl rfl ?_ ?_
     ·(rw[e0,if_neg n1,if_pos n2];rfl)
     (rw[e0,if_neg n1,if_pos n2];rfl)
    have b1:decide (w.flags%2=0)=false:=by rw[l1]at hi3;exact hi3
    have n2:¬(ct l.f&&decide (w.flags%2=0))=true:=by rw[b1];simp
    refine zu3 ?_
    refine Wi rfl (fun hi4=>?_) (fun hi4=>?_)
    ·have q:300<=k.1:=oT hi4
     refine aa rfl ?_
     refine z1 ?_
     refine zc rfl func71 ((eK) _) ?_
     refine zy2 ?_
     refine Wa 65 rfl (congrArg (fun z=>PV.val (Value.int .i64 z)) (w1 q)) ?_
     refine Wv tG rfl rfl rfl (by omega) (iR gy 1 (fun _=>rfl) [] (by omega)) ?_
     refine z1 ?_
     refine zc rfl func70 ((lE l (cq.getD (k.1-300).toNat []) h.lk) _ _ rfl) ?_
     refine Wn<|zu1 ?_
     refine Wq<|aN rfl rfl ?_ ?_
     ·(rw[e0,if_neg n1,if_neg n2,if_pos q];rfl)
     (rw[e0,if_neg n1,if_neg n2,if_pos q];rfl)
    have q:¬300<=k.1:=oF hi4
    refine zp3 ?_
    refine zc rfl func45 (qz a l w.xt N h.g h.xt h.u0 h.u1 h.n h.lk.s _ 0 rfl (cn 1 2 rfl rfl)) ?_
    refine Wn<|zu1 ?_
    refine Wq<|aN rfl rfl ?_ ?_
    ·(rw[e0,if_neg n1,if_neg n2,if_neg q];rfl)
    (rw[e0,if_neg n1,if_neg n2,if_neg q];rfl)
   have c2:ct l.f=false:=hg2
   have n2:¬(ct l.f&&decide (w.flags%2=0))=true:=by rw[c2];simp
   iterate 4 refine z6 ?_
   refine zs2 ?_
   refine Wf rfl rfl ?_
   refine zu3 ?_
   refine Wi rfl (fun hi4=>?_) (fun hi4=>?_)
   ·have q:300<=k.1:=oT hi4
    refine aa rfl ?_
    refine z1 ?_
    refine zc rfl func71 ((eK) _) ?_
    refine zy2 ?_
    refine Wa 65 rfl (congrArg (fun z=>PV.val (Value.int .i64 z)) (w1 q)) ?_
    refine Wv tG rfl rfl rfl (by omega) (iN gy 1 (fun _=>rfl) [] (by(simp_all;done))) ?_
    refine z1 ?_
    refine zc rfl func70 ((lE l (cq.getD (k.1-300).toNat []) h.lk) _ _ rfl) ?_
    refine Wn<|zu1 ?_
    refine Wq<|aN rfl rfl ?_ ?_
    ·(rw[e0,if_neg n1,if_neg n2,if_pos q];rfl)
    (rw[e0,if_neg n1,if_neg n2,if_pos q];rfl)
   have q:¬300<=k.1:=oF hi4
   refine zp3 ?_
   refine zc rfl func45 (qz a l w.xt N h.g h.xt h.u0 h.u1 h.n h.lk.s _ 0 rfl (cn 1 2 rfl rfl)) ?_
   refine Wn<|zu1 ?_
   refine Wq<|aN rfl rfl ?_ ?_
   ·(rw[e0,if_neg n1,if_neg n2,if_neg q];rfl)
   (rw[e0,if_neg n1,if_neg n2,if_neg q];rfl)
  have o1:decide (w.flags/4%2=1)=false:=by rw[l4]at hg1;exact hg1
  refine z1 ?_
  refine zc rfl func68 ((Fg k.1 (by omega) (by unfold ae;omega)) _) ?_
  refine zy2 ?_
  refine Wb 41 rfl (fun hg3=>?_) (fun hg3=>?_)
  ·have o:ml w k.1=true:=by unfold ml;rw[o1,hg3];rfl
   refine zs4 ?_
   refine Wi rfl (fun hi2=>?_) (fun hi2=>?_)
   ·have c:ct l.f=false:=by simpa using hi2
    have n1:(ml w k.1&&!ct l.f)=true:=by rw[o,c];rfl
    refine aa rfl ?_
    refine z1 ?_
    refine zc rfl func41 ((oO l (-14)) _ _ rfl) ?_
    refine Wn<|zu1 ?_
    refine Wq<|aN rfl rfl ?_ ?_
    ·(rw[e0,if_pos n1];rfl)
    (rw[e0,if_pos n1];rfl)
   have c:ct l.f=true:=by simpa using hi2
   have n1:¬(ml w k.1&&!ct l.f)=true:=by rw[o,c];decide
   refine zp2 ?_
   refine Wb 49 rfl (fun hg2=>?_) (fun hg2=>?_)
   ·have c2:ct l.f=true:=hg2
    refine zy5 ?_
    refine zs1 ?_
    refine Wi rfl (fun hi3=>?_) (fun hi3=>?_)
    ·have b1:decide (w.flags%2=0)=true:=by rw[l1]at hi3;exact hi3
     have n2:(ct l.f&&decide (w.flags%2=0))=true:=by rw[c2,b1];rfl
     refine aa rfl ?_
     refine zy3 ?_
     refine zc rfl func69 ((sF l w.xt h.lk.f.mem h.lk.f.here) _ _ rfl) ?_
     refine Wn<|zu1 ?_
     refine Wq<|aN rfl rfl ?_ ?_
     ·(rw[e0,if_neg n1,if_pos n2];rfl)
     (rw[e0,if_neg n1,if_pos n2];rfl)
    have b1:decide (w.flags%2=0)=false:=by rw[l1]at hi3;exact hi3
    have n2:¬(ct l.f&&decide (w.flags%2=0))=true:=by rw[b1];simp
    refine zu3 ?_
    refine Wi rfl (fun hi4=>?_) (fun hi4=>?_)
    ·have q:300<=k.1:=oT hi4
     refine aa rfl ?_
     refine z1 ?_
     refine zc rfl func71 ((eK) _) ?_
     refine zy2 ?_
     refine Wa 65 rfl (congrArg (fun z=>PV.val (Value.int .i64 z)) (w1 q)) ?_
     refine Wv tG rfl rfl rfl (by omega) (iR gy 1 (fun _=>rfl) [] (by omega)) ?_
     refine z1 ?_
     refine zc rfl func70 ((lE l (cq.getD (k.1-300).toNat []) h.lk) _ _ rfl) ?_
     refine Wn<|zu1 ?_
     refine Wq<|aN rfl rfl ?_ ?_
     ·(rw[e0,if_neg n1,if_neg n2,if_pos q];rfl)
     (rw[e0,if_neg n1,if_neg n2,if_pos q];rfl)
    have q:¬300<=k.1:=oF hi4
    refine zp3 ?_
    refine zc rfl func45 (qz a l w.xt N h.g h.xt h.u0 h.u1 h.n h.lk.s _ 0 rfl (cn 1 2 rfl rfl)) ?_
    refine Wn<|zu1 ?_
    refine Wq<|aN rfl rfl ?_ ?_
    ·(rw[e0,if_neg n1,if_neg n2,if_neg q];rfl)
    (rw[e0,if_neg n1,if_neg n2,if_neg q];rfl)
   have c2:ct l.f=false:=hg2
   have n2:¬(ct l.f&&decide (w.flags%2=0))=true:=by rw[c2];simp
   iterate 4 refine z6 ?_
   refine zs2 ?_
   refine Wf rfl rfl ?_
   refine zu3 ?_
   refine Wi rfl (fun hi4=>?_) (fun hi4=>?_)
   ·have q:300<=k.1:=oT hi4
    refine aa rfl ?_
    refine z1 ?_
    refine zc rfl func71 ((eK) _) ?_
    refine zy2 ?_
    refine Wa 65 rfl (congrArg (fun z=>PV.val (Value.int .i64 z)) (w1 q)) ?_
    refine Wv tG rfl rfl rfl (by omega) (iN gy 1 (fun _=>rfl) [] (by(simp_all;done))) ?_
    refine z1 ?_
    refine zc rfl func70 ((lE l (cq.getD (k.1-300).toNat []) h.lk) _ _ rfl) ?_
    refine Wn<|zu1 ?_
    refine Wq<|aN rfl rfl ?_ ?_
    ·(rw[e0,if_neg n1,if_neg n2,if_pos q];rfl)
    (rw[e0,if_neg n1,if_neg n2,if_pos q];rfl)
   have q:¬300<=k.1:=oF hi4
   refine zp3 ?_
   refine zc rfl func45 (qz a l w.xt N h.g h.xt h.u0 h.u1 h.n h.lk.s _ 0 rfl (cn 1 2 rfl rfl)) ?_
   refine Wn<|zu1 ?_
   refine Wq<|aN rfl rfl ?_ ?_
   ·(rw[e0,if_neg n1,if_neg n2,if_neg q];rfl)
   (rw[e0,if_neg n1,if_neg n2,if_neg q];rfl)
  have o:ml w k.1=false:=by unfold ml;rw[o1,hg3];rfl
  have n1:¬(ml w k.1&&!ct l.f)=true:=by rw[o];simp
  iterate 2 refine z6 ?_
  refine zs2 ?_
  refine Wf rfl rfl ?_
  refine zp2 ?_
  refine Wb 49 rfl (fun hg2=>?_) (fun hg2=>?_)
  ·have c2:ct l.f=true:=hg2
   refine zy5 ?_
   refine zs1 ?_
   refine Wi rfl (fun hi3=>?_) (fun hi3=>?_)
   ·have b1:decide (w.flags%2=0)=true:=by rw[l1]at hi3;exact hi3
    have n2:(ct l.f&&decide (w.flags%2=0))=true:=by rw[c2,b1];rfl
    refine aa rfl ?_
    refine zy3 ?_
    refine zc rfl func69 ((sF l w.xt h.lk.f.mem h.lk.f.here) _ _ rfl) ?_
    refine Wn<|zu1 ?_
    refine Wq<|aN rfl rfl ?_ ?_
    ·(rw[e0,if_neg n1,if_pos n2];rfl)
    (rw[e0,if_neg n1,if_pos n2];rfl)
   have b1:decide (w.flags%2=0)=false:=by rw[l1]at hi3;exact hi3
   have n2:¬(ct l.f&&decide (w.flags%2=0))=true:=by rw[b1];simp
   refine zu3 ?_
   refine Wi rfl (fun hi4=>?_) (fun hi4=>?_)
   ·have q:300<=k.1:=oT hi4
    refine aa rfl ?_
    refine z1 ?_
    refine zc rfl func71 ((eK) _) ?_
    refine zy2 ?_
    refine Wa 65 rfl (congrArg (fun z=>PV.val (Value.int .i64 z)) (w1 q)) ?_
    refine Wv tG rfl rfl rfl (by omega) (iR gy 1 (fun _=>rfl) [] (by omega)) ?_
    refine z1 ?_
    refine zc rfl func70 ((lE l (cq.getD (k.1-300).toNat []) h.lk) _ _ rfl) ?_
    refine Wn<|zu1 ?_
    refine Wq<|aN rfl rfl ?_ ?_
    ·(rw[e0,if_neg n1,if_neg n2,if_pos q];rfl)
    (rw[e0,if_neg n1,if_neg n2,if_pos q];rfl)
   have q:¬300<=k.1:=oF hi4
   refine zp3 ?_
   refine zc rfl func45 (qz a l w.xt N h.g h.xt h.u0 h.u1 h.n h.lk.s _ 0 rfl (cn 1 2 rfl rfl)) ?_
   refine Wn<|zu1 ?_
   refine Wq<|aN rfl rfl ?_ ?_
   ·(rw[e0,if_neg n1,if_neg n2,if_neg q];rfl)
   (rw[e0,if_neg n1,if_neg n2,if_neg q];rfl)
  have c2:ct l.f=false:=hg2
  have n2:¬(ct l.f&&decide (w.flags%2=0))=true:=by rw[c2];simp
  iterate 4 refine z6 ?_
  refine zs2 ?_
  refine Wf rfl rfl ?_
  refine zu3 ?_
  refine Wi rfl (fun hi4=>?_) (fun hi4=>?_)
  ·have q:300<=k.1:=oT hi4
   refine aa rfl ?_
   refine z1 ?_
   refine zc rfl func71 ((eK) _) ?_
   refine zy2 ?_
   refine Wa 65 rfl (congrArg (fun z=>PV.val (Value.int .i64 z)) (w1 q)) ?_
   refine Wv tG rfl rfl rfl (by omega) (iR gy 1 (fun _=>rfl) [] (by omega)) ?_
   refine z1 ?_
   refine zc rfl func70 ((lE l (cq.getD (k.1-300).toNat []) h.lk) _ _ rfl) ?_
   refine Wn<|zu1 ?_
   refine Wq<|aN rfl rfl ?_ ?_
   ·(rw[e0,if_neg n1,if_neg n2,if_pos q];rfl)
   (rw[e0,if_neg n1,if_neg n2,if_pos q];rfl)
  have q:¬300<=k.1:=oF hi4
  refine zp3 ?_
  refine zc rfl func45 (qz a l w.xt N h.g h.xt h.u0 h.u1 h.n h.lk.s _ 0 rfl (cn 1 2 rfl rfl)) ?_
  refine Wn<|zu1 ?_
  refine Wq<|aN rfl rfl ?_ ?_
  ·(rw[e0,if_neg n1,if_neg n2,if_neg q];rfl)
  (rw[e0,if_neg n1,if_neg n2,if_neg q];rfl)
 have e0:∀{α:Type} (x y:α),(if k.2≠0 then x else y)=x:=fun x y=>if_pos z
 have er:(oOk l k.2).err=k.2:=by rw[ok0 h.e]
 have pO:=oO l k.2
 refine lB (fM a) tG (rs:=[.tmp 4]) func38 rfl rfl rfl (by simp) (by simp) (by simp) (by simp) (fun B=>?_)
 refine zu2 ?_
 refine Ws<|az [0,0,0,0,1,0,1,0,0,0,0,0,0] [0,1,2,3,4,5,6,7,8,9,10,11,12] mG rfl (by kernel_rfl) ?_
 iterate 4 refine z3 ?_
 refine z5 ?_
 refine z3 ?_
 refine z5 ?_
 refine Xc rfl rfl rfl rfl (fun _=>dC rfl func67 rfl rfl ((pK) _)) ?_
 iterate 5 refine z3 ?_
 refine aP ?_
 refine Ws<|zp2 ?_
 refine zc rfl func41 ((pO) _ _ rfl) ?_
 refine zs1 ?_
 refine Wt rfl (by rw[er,decide_eq_false z];rfl) ?_
 refine zu1 ?_
 refine Wq<|aN rfl rfl ?_ ?_
 ·rw[e0];rfl
 rw[e0];rfl
theorem Ve(w:Str)(b:Int)(h:w.length<=9223372036854775807):ab prog 40 [str w,i64 b] (ic (i64 (ez w b).1) (boo (ez w b).2)) :=
 dT (args:=[.string ⟨w.toArray⟩,.int .i64 b]) (v:=.tuple #[.int .i64 (ez w b).1,.bool (ez w b).2]) (fun c=>by unfold ic Rep;exact⟨[_,_],rfl,aj.2 ⟨ar _ _,aj.2 ⟨ar _ _,aG.2 rfl⟩⟩⟩)
  fun W=>Calls.mono (M1 ⟨w.toArray⟩ b W (by unfold ByteArray.size;simpa using h)) fun _ _ q=>⟨q.1,aX.of_below q.2⟩
def bc(f:af)(s:Str)(a fuel:Int):ai:=⟨f,s,a,fuel,0⟩
def IL(l:ai)(name:Str):ai :=
 if (ez name (am l.f.vm.mem 0).1).2=false then oOk l (-13)else if ct l.f=true then tQ l (ez name (am l.f.vm.mem 0).1).1 else vC l (ez name (am l.f.vm.mem 0).1).1
def m8(l:ai)(name:Str):ai×Bool:=if (cN l.f.vm.dict name).2.2=true then i9 l (cN l.f.vm.dict name).1 else(IL l name,false)
def kr(f:af)(s:Str)(a fuel:Int):af×Int×Int×Bool×Int :=
 if (bC s a).1=[]then(f,(s.length:Int),max fuel 0,false,0)
 else if (m8 (bc f s (bC s a).2 (max fuel 0)) (bC s a).1).1.err≠0/\(m8 (bc f s (bC s a).2 (max fuel 0)) (bC s a).1).2=false then(f,a,max fuel 0,true,(m8 (bc f s (bC s a).2 (max fuel 0)) (bC s a).1).1.err)
 else((m8 (bc f s (bC s a).2 (max fuel 0)) (bC s a).1).1.f,(m8 (bc f s (bC s a).2 (max fuel 0)) (bC s a).1).1.at_,(m8 (bc f s (bC s a).2 (max fuel 0)) (bC s a).1).1.fuel,true,(m8 (bc f s (bC s a).2 (max fuel 0)) (bC s a).1).1.err)
theorem Rf{f:af}{s:Str}{a fuel:Int}(h:(bC s a).1=[]):kr f s a fuel=(f,(s.length:Int),max fuel 0,false,0):=by unfold kr;rw[if_pos h]
theorem Kd{f:af}{s:Str}{a fuel:Int}{r:ai×Bool}(h:¬(bC s a).1=[])(e:m8 (bc f s (bC s a).2 (max fuel 0)) (bC s a).1=r)(q1:r.1.err≠0)(q2:r.2=false):kr f s a fuel=(f,a,max fuel 0,true,r.1.err):=by
 unfold kr;rw[if_neg h,e,if_pos ⟨q1,q2⟩]
theorem Qk{f:af}{s:Str}{a fuel:Int}{r:ai×Bool}(h:¬(bC s a).1=[])(e:m8 (bc f s (bC s a).2 (max fuel 0)) (bC s a).1=r)(q:¬(r.1.err≠0/\r.2=false)):kr f s a fuel=(r.1.f,r.1.at_,r.1.fuel,true,r.1.err):=by
 unfold kr;rw[if_neg h,e,if_neg q]
theorem ql{p:Prop}[Decidable p](h:(!decide p)=true):¬p:=by simpa using h
theorem oU{p:Prop}[Decidable p](h:(!decide p)=false):p:=by simpa using h
structure TH (N:Nat) (f:af) (s:Str) (a fuel:Int):Prop where
 lk:LK 300 (bc f s 0 0)
 g:bb N f.vm
 n:N<=190000
 u1:fuel<=90000
theorem TH.line{N:Nat}{f:af}{s:Str}{a fuel:Int}(h:TH N f s a fuel)(b u:Int):LK 300 (bc f s b u):=⟨h.lk.f,h.lk.s,h.lk.d,h.lk.data,h.lk.out0,h.lk.out1,h.lk.out,h.lk.cfl,h.lk.cf,h.lk.dict,h.lk.xts⟩
def LP(r:af×Int×Int×Bool×Int):PV:=.tup [bQ r.1,i64 r.2.1,i64 r.2.2.1,boo r.2.2.2.1,i64 r.2.2.2.2]
@[simp] theorem Y6 (r : af × Int × Int × Bool × Int) : aS (LP r) := by unfold LP; simp [aS, ay]
theorem A3(a:Addr)(f:af)(s:Str)(p fuel:Int)(N:Nat)(h:TH N f s p fuel):∀(H:List Ob),(∀o∈gK a,∃k:Nat,H[k]?=some o)->HC prog 21 [bQ f,str s,i64 p,i64 fuel] H (LP (kr f s p fuel)) H:=by
 have hs:s.length<=1000000:=h.lk.s
 have pW:=Gy s p hs
 have wl:=Ht s p
 have b0:=@Rf f s p fuel
 have b1:=@Kd f s p fuel
 have b2:=@Qk f s p fuel
 have hxt:ae (cN f.vm.dict (bC s p).1).1.xt:=AG h.lk.xts (bC s p).1
 have wm:(if fuel<0 then 0 else fuel)=max fuel 0:=by split<;>omega
 have hm:f.vm.mem.b.length<=140737488355328:=by have:f.vm.mem.b.length<=1000000:=h.lk.f.b;omega
 have hD:jX f.vm.dict:=h.lk.f.each
 obtain⟨w,hw⟩:∃w,bC s p=w:=⟨_,rfl⟩
 rw[hw]at pW wl b0 b1 b2 hxt
 have L:=h.line w.2 (max fuel 0)
 have u1:=h.u1
 have fl:=rP (fun x hx=>(hD.2 x hx).2) w.1 _ (Nat.le_refl _)
 have pD:=wZ f.vm.dict w.1 hD (by omega)
 have eF:m8 (bc f s w.2 (max fuel 0)) w.1=if (cN f.vm.dict w.1).2.2=true then i9 (bc f s w.2 (max fuel 0)) (cN f.vm.dict w.1).1 else(IL (bc f s w.2 (max fuel 0)) w.1,false):=rfl
 change 0<=(cN f.vm.dict w.1).1.flags/\(cN f.vm.dict w.1).1.flags<=7 at fl
 obtain⟨d,hd⟩:∃d,cN f.vm.dict w.1=d:=⟨_,rfl⟩
 rw[hd]at hxt fl pD eF
 have pP:=Ve w.1 (am f.vm.mem 0).1 (by omega)
 have eN:IL (bc f s w.2 (max fuel 0)) w.1=if (ez w.1 (am f.vm.mem 0).1).2=false then oOk (bc f s w.2 (max fuel 0)) (-13)else if ct f=true then tQ (bc f s w.2 (max fuel 0)) (ez w.1 (am f.vm.mem 0).1).1 else vC (bc f s w.2 (max fuel 0)) (ez w.1 (am f.vm.mem 0).1).1:=rfl
 obtain⟨z,hz⟩:∃z,ez w.1 (am f.vm.mem 0).1=z:=⟨_,rfl⟩
 rw[hz]at pP eN
 refine g7 (fM a) tG (rs:=[.cell 8 42,.tmp 9,.tmp 10,.tmp 11,.tmp 12]) func21 rfl rfl rfl (by simp) (by simp) (fun B=>?_)
 refine zp5 ?_
 refine zs1 ?_
 refine zp2 ?_
 refine zc rfl func36 ((pW) _) ?_
 refine zs5 ?_
 refine zp2 ?_
 refine Wa 31 rfl (congrArg (fun z=>PV.val (Value.int .i64 z)) wm) ?_
 refine zs1 ?_
 refine Ws<|zp2 ?_
 refine zq 33 ?_
 refine Wn<|Wi rfl (fun hi1=>?_) (fun hi1=>?_)
 ·have n0:w.1=[]:=oT hi1
  refine zp3 ?_
  refine Wa 36 rfl (gl _) ?_
  refine zy5 ?_
  refine zs1 ?_
  refine zR ?_
  (rw[b0 n0];rfl)
 have n0:¬w.1=[]:=oF hi1
 refine Wj<|zp5 ?_
 refine zs2 ?_
 refine zu1 ?_
 refine Ws<|zp4 ?_
 refine zc rfl func37 ((pD) _) ?_
 refine zy5 ?_
 refine zs3 ?_
 refine zu1 ?_
 refine Wi rfl (fun hi2=>?_) (fun hi2=>?_)
 ·have n1:d.2.2=true:=hi2
  rw[if_pos n1]at eF
  refine aa rfl ?_
  refine zy2 ?_
  refine zc rfl func38 (TK a (bc f s w.2 (max fuel 0)) d.1 N ⟨L,h.g,h.n,hxt,fl.1,fl.2,by show 0<=max fuel 0;omega,by show max fuel 0<=90000;omega,rfl⟩ _ 4 rfl (cn 0 1 rfl rfl)) ?_
  refine zs1 ?_
  refine Ws<|zp4 ?_
  refine Wd rfl rfl (i6 rfl (by kernel_rfl) rfl (by exact dP _)) ?_
  refine z1 ?_
  refine Wb 89 rfl (fun hg1=>?_) (fun hg1=>?_)
  ·have q1:=ql hg1
   refine zs3 ?_
   refine Wi rfl (fun hi3=>?_) (fun hi3=>?_)
   ·have q2:(i9 (bc f s w.2 (max fuel 0)) d.1).2=false:=by simpa using hi3
    refine Ws<|V3.aY [8,0,0,0,0,0,12,2,11,0,0,0,0] [0,1,2,3,4,5,6,7,8,9,10,11,12] mG rfl (by kernel_rfl) ?_
    refine V3.zU 2 ?_
    iterate 5 refine V3.aO ?_
    refine V3.zU 4 ?_
    refine V3.fW rfl rfl rfl rfl (dC rfl func44 rfl rfl (fP a _ _ (cn 0 1 rfl rfl))) ?_
    refine V3.bT 3 tG rfl rfl rfl rfl rfl trivial rfl ?_
    iterate 4 refine V3.aO ?_
    refine V3.bo ?_
    refine zR ?_
    (rw[b1 n0 eF q1 q2];rfl)
   have q2:(i9 (bc f s w.2 (max fuel 0)) d.1).2=true:=by simpa using hi3
   refine Wj<|Ws<|V3.aY [0,0,0,12,0,0,0,12,0,0,0,12,0,0,0,12,2,11,0,0,0,0] [0,1,2,3,4,5,6,7,8,9,10,11,12,13,14,15,16,17,18,19,20,21] mG rfl (by kernel_rfl) ?_
   iterate 3 refine V3.aO ?_
   refine V3.zU 4 ?_
   iterate 3 refine V3.aO ?_
   refine V3.zU 4 ?_
   iterate 3 refine V3.aO ?_
   refine V3.zU 4 ?_
   iterate 3 refine V3.aO ?_
   refine V3.zU 4 ?_
   refine V3.fW rfl rfl rfl rfl (dC rfl func44 rfl rfl (fP a _ _ (cn 0 1 rfl rfl))) ?_
   refine V3.bT 3 tG rfl rfl rfl rfl rfl trivial rfl ?_
   iterate 4 refine V3.aO ?_
   refine V3.bo ?_
   refine zR ?_
   (rw[b2 n0 eF (fun y=>by rw[q2]at y;cases y.2)];rfl)
  have q1:=oU hg1
  iterate 2 refine z6 ?_
  refine zs1 ?_
  refine Wf rfl rfl ?_
  refine Wj<|Ws<|V3.aY [0,0,0,12,0,0,0,12,0,0,0,12,0,0,0,12,2,11,0,0,0,0] [0,1,2,3,4,5,6,7,8,9,10,11,12,13,14,15,16,17,18,19,20,21] mG rfl (by kernel_rfl) ?_
  iterate 3 refine V3.aO ?_
  refine V3.zU 4 ?_
  iterate 3 refine V3.aO ?_
  refine V3.zU 4 ?_
  iterate 3 refine V3.aO ?_
  refine V3.zU 4 ?_
  iterate 3 refine V3.aO ?_
  refine V3.zU 4 ?_
  refine V3.fW rfl rfl rfl rfl (dC rfl func44 rfl rfl (fP a _ _ (cn 0 1 rfl rfl))) ?_
  refine V3.bT 3 tG rfl rfl rfl rfl rfl trivial rfl ?_
  iterate 4 refine V3.aO ?_
  refine V3.bo ?_
  refine zR ?_
  (rw[b2 n0 eF (fun y=>y.1 q1)];rfl)
 have n1:¬d.2.2=true:=by rw[hi2];decide
 rw[if_neg n1]at eF
 refine zp3 ?_
 refine zc rfl func39 ((gi f.vm.mem 0 hm bG) _) ?_
 refine zs5 ?_
 refine zp2 ?_
 refine zc rfl func40 ((pP) _) ?_
 refine zs5 ?_
 refine Wl<|zu3 ?_
 refine Wi rfl (fun hi4=>?_) (fun hi4=>?_)
 ·have n2:z.2=false:=by simpa using hi4
  rw[eN,if_pos n2]at eF
  refine aa rfl ?_
  refine z1 ?_
  refine zc rfl func41 ((oO (bc f s w.2 (max fuel 0)) (-13)) _ _ rfl) ?_
  refine Wn<|Ws<|zp4 ?_
  refine Wd rfl rfl (i6 rfl (by kernel_rfl) rfl (by exact dP _)) ?_
  refine z1 ?_
  refine Wb 89 rfl (fun hg1=>?_) (fun hg1=>?_)
  ·have q1:=ql hg1
   refine zs3 ?_
   refine Wt rfl rfl ?_
   refine Ws<|V3.aY [8,0,0,0,0,0,12,2,11,0,0,0,0] [0,1,2,3,4,5,6,7,8,9,10,11,12] mG rfl (by kernel_rfl) ?_
   refine V3.zU 2 ?_
   iterate 5 refine V3.aO ?_
   refine V3.zU 4 ?_
   refine V3.fW rfl rfl rfl rfl (dC rfl func44 rfl rfl (fP a _ _ (cn 0 1 rfl rfl))) ?_
   refine V3.bT 3 tG rfl rfl rfl rfl rfl trivial rfl ?_
   iterate 4 refine V3.aO ?_
   refine V3.bo ?_
   refine zR ?_
   (rw[b1 n0 eF q1 rfl];rfl)
  have q1:=oU hg1
  iterate 2 refine z6 ?_
  refine zs1 ?_
  refine Wf rfl rfl ?_
  refine Wj<|Ws<|V3.aY [0,0,0,12,0,0,0,12,0,0,0,12,0,0,0,12,2,11,0,0,0,0] [0,1,2,3,4,5,6,7,8,9,10,11,12,13,14,15,16,17,18,19,20,21] mG rfl (by kernel_rfl) ?_
  iterate 3 refine V3.aO ?_
  refine V3.zU 4 ?_
  iterate 3 refine V3.aO ?_
  refine V3.zU 4 ?_
  iterate 3 refine V3.aO ?_
  refine V3.zU 4 ?_
  iterate 3 refine V3.aO ?_
  refine V3.zU 4 ?_
  refine V3.fW rfl rfl rfl rfl (dC rfl func44 rfl rfl (fP a _ _ (cn 0 1 rfl rfl))) ?_
  refine V3.bT 3 tG rfl rfl rfl rfl rfl trivial rfl ?_
  iterate 4 refine V3.aO ?_
  refine V3.bo ?_
  refine zR ?_
  (rw[b2 n0 eF (fun y=>y.1 q1)];rfl)
 have n2:¬z.2=false:=by simpa using hi4
 rw[eN,if_neg n2]at eF
 refine zp1 ?_
 refine zc rfl func23 ((jR f hm) _) ?_
 refine zs1 ?_
 refine Wi rfl (fun hi5=>?_) (fun hi5=>?_)
 ·have n3:ct f=true:=hi5
  rw[if_pos n3]at eF
  refine aa rfl ?_
  refine zy2 ?_
  refine zc rfl func42 ((uM (bc f s w.2 (max fuel 0)) z.1 (L.f.ck.down (by omega))) _ _ rfl) ?_
  refine Wn<|Ws<|zp4 ?_
  refine Wd rfl rfl (i6 rfl (by kernel_rfl) rfl (by exact dP _)) ?_
  refine z1 ?_
  refine Wb 89 rfl (fun hg1=>?_) (fun hg1=>?_)
  ·have q1:=ql hg1
   refine zs3 ?_
   refine Wt rfl rfl ?_
   refine Ws<|V3.aY [8,0,0,0,0,0,12,2,11,0,0,0,0] [0,1,2,3,4,5,6,7,8,9,10,11,12] mG rfl (by kernel_rfl) ?_
   refine V3.zU 2 ?_
   iterate 5 refine V3.aO ?_
   refine V3.zU 4 ?_
   refine V3.fW rfl rfl rfl rfl (dC rfl func44 rfl rfl (fP a _ _ (cn 0 1 rfl rfl))) ?_
   refine V3.bT 3 tG rfl rfl rfl rfl rfl trivial rfl ?_
   iterate 4 refine V3.aO ?_
   refine V3.bo ?_
   refine zR ?_
   (rw[b1 n0 eF q1 rfl];rfl)
  have q1:=oU hg1
  iterate 2 refine z6 ?_
  refine zs1 ?_
  refine Wf rfl rfl ?_
  refine Wj<|Ws<|V3.aY [0,0,0,12,0,0,0,12,0,0,0,12,0,0,0,12,2,11,0,0,0,0] [0,1,2,3,4,5,6,7,8,9,10,11,12,13,14,15,16,17,18,19,20,21] mG rfl (by kernel_rfl) ?_
  iterate 3 refine V3.aO ?_
  refine V3.zU 4 ?_
  iterate 3 refine V3.aO ?_
  refine V3.zU 4 ?_
  iterate 3 refine V3.aO ?_
  refine V3.zU 4 ?_
  iterate 3 refine V3.aO ?_
  refine V3.zU 4 ?_
  refine V3.fW rfl rfl rfl rfl (dC rfl func44 rfl rfl (fP a _ _ (cn 0 1 rfl rfl))) ?_
  refine V3.bT 3 tG rfl rfl rfl rfl rfl trivial rfl ?_
  iterate 4 refine V3.aO ?_
  refine V3.bo ?_
  refine zR ?_
  (rw[b2 n0 eF (fun y=>y.1 q1)];rfl)
 have n3:¬ct f=true:=by rw[hi5];decide
 rw[if_neg n3]at eF
 refine aa rfl ?_
 refine zy2 ?_
 refine zc rfl func43 ((DO (bc f s w.2 (max fuel 0)) z.1 L.d L.data) _ _ rfl) ?_
 refine Wn<|Ws<|zp4 ?_
 refine Wd rfl rfl (i6 rfl (by kernel_rfl) rfl (by exact dP _)) ?_
 refine z1 ?_
 refine Wb 89 rfl (fun hg1=>?_) (fun hg1=>?_)
 ·have q1:=ql hg1
  refine zs3 ?_
  refine Wt rfl rfl ?_
  refine Ws<|V3.aY [8,0,0,0,0,0,12,2,11,0,0,0,0] [0,1,2,3,4,5,6,7,8,9,10,11,12] mG rfl (by kernel_rfl) ?_
  refine V3.zU 2 ?_
  iterate 5 refine V3.aO ?_
  refine V3.zU 4 ?_
  refine V3.fW rfl rfl rfl rfl (dC rfl func44 rfl rfl (fP a _ _ (cn 0 1 rfl rfl))) ?_
  refine V3.bT 3 tG rfl rfl rfl rfl rfl trivial rfl ?_
  iterate 4 refine V3.aO ?_
  refine V3.bo ?_
  refine zR ?_
  (rw[b1 n0 eF q1 rfl];rfl)
 have q1:=oU hg1
 iterate 2 refine z6 ?_
 refine zs1 ?_
 refine Wf rfl rfl ?_
 refine Wj<|Ws<|V3.aY [0,0,0,12,0,0,0,12,0,0,0,12,0,0,0,12,2,11,0,0,0,0] [0,1,2,3,4,5,6,7,8,9,10,11,12,13,14,15,16,17,18,19,20,21] mG rfl (by kernel_rfl) ?_
 iterate 3 refine V3.aO ?_
 refine V3.zU 4 ?_
 iterate 3 refine V3.aO ?_
 refine V3.zU 4 ?_
 iterate 3 refine V3.aO ?_
 refine V3.zU 4 ?_
 iterate 3 refine V3.aO ?_
 refine V3.zU 4 ?_
 refine V3.fW rfl rfl rfl rfl (dC rfl func44 rfl rfl (fP a _ _ (cn 0 1 rfl rfl))) ?_
 refine V3.bT 3 tG rfl rfl rfl rfl rfl trivial rfl ?_
 iterate 4 refine V3.aO ?_
 refine V3.bo ?_
 refine zR ?_
 (rw[b2 n0 eF (fun y=>y.1 q1)];rfl)
theorem zW(m:bj):ab prog 27 [jl m] (jl ⟨m.b,[]⟩):=by
 refine zY func27 fun B=>?_
 refine zu2 ?_
 refine zu4 ?_
 refine zR ?_
 rfl
def vi(f:af):af:={f with vm:={f.vm with mem:=⟨f.vm.mem.b,[]⟩}}
def Mn(f0 f:af):af:={jP f with vm:={(jP f).vm with d:=[],pic:=⟨[],false⟩,req:=f0.vm.req,free:=f0.vm.free,next:=f0.vm.next}}
structure LS where
 f:af
 at_:Int
 left:Int
def lnR(x:LS)(tx:Str):af×Int×Int×Bool×Int:=kr x.f tx x.at_ x.left
def kY(f0:af)(tx:Str):Nat->LS->af×Int×Int
 | 0,x=>(x.f,x.left,0)
 | n+1,x=>if (lnR x tx).2.2.2.2≠0 then(vi (Mn f0 (lnR x tx).1),(lnR x tx).2.2.1,(lnR x tx).2.2.2.2)else if (lnR x tx).2.2.2.1=false then(vi (lnR x tx).1,(lnR x tx).2.2.1,0)else kY f0 tx n ⟨(lnR x tx).1,(lnR x tx).2.1,(lnR x tx).2.2.1⟩
def Oo(tx:Str):Nat->LS->Prop
 | 0,_=>False
 | n+1,x=>(∃N,TH N x.f tx x.at_ x.left)/\((lnR x tx).2.2.2.2≠0->FK 1 (lnR x tx).1)/\((lnR x tx).2.2.2.2=0->(lnR x tx).2.2.2.1=true->Oo tx n ⟨(lnR x tx).1,(lnR x tx).2.1,(lnR x tx).2.2.1⟩)
structure LnI (R:af×Int×Int) (f0:af) (tx:Str) (s:Nat×LS):Prop where
 ok:Oo tx s.1 s.2
 out:kY f0 tx s.1 s.2=R
theorem LnI.suc{R:af×Int×Int}{f0:af}{tx:Str}{s:Nat×LS}(h:LnI R f0 tx s):∃n,s.1=n+1:=by
 have:=h.ok
 cases q:s.1 with
 | zero=>rw[q]at this;exact this.elim
 | succ n=>exact⟨n,rfl⟩
theorem LnI.one{R:af×Int×Int}{f0:af}{tx:Str}{s:Nat×LS}(h:LnI R f0 tx s):∃N,TH N s.2.f tx s.2.at_ s.2.left:=by
 obtain⟨n,hn⟩:=h.suc
 have:=h.ok
 rw[hn]at this
 exact this.1
theorem LnI.bad{R:af×Int×Int}{f0:af}{tx:Str}{s:Nat×LS}(h:LnI R f0 tx s)(q:(lnR s.2 tx).2.2.2.2≠0):FK 1 (lnR s.2 tx).1/\R=(vi (Mn f0 (lnR s.2 tx).1),(lnR s.2 tx).2.2.1,(lnR s.2 tx).2.2.2.2):=by
 obtain⟨n,hn⟩:=h.suc
 have h1:=h.ok
 have h2:=h.out
 rw[hn]at h1 h2
 rw[kY,if_pos q]at h2
 exact⟨h1.2.1 q,h2.symm⟩
theorem LnI.fin{R:af×Int×Int}{f0:af}{tx:Str}{s:Nat×LS}(h:LnI R f0 tx s)(q:¬(lnR s.2 tx).2.2.2.2≠0)(q2:(lnR s.2 tx).2.2.2.1=false):R=(vi (lnR s.2 tx).1,(lnR s.2 tx).2.2.1,0):=by
 obtain⟨n,hn⟩:=h.suc
 have h2:=h.out
 rw[hn,kY,if_neg q,if_pos q2]at h2
 exact h2.symm
theorem LnI.next{R:af×Int×Int}{f0:af}{tx:Str}{s:Nat×LS}(h:LnI R f0 tx s)(q:¬(lnR s.2 tx).2.2.2.2≠0)(q2:(lnR s.2 tx).2.2.2.1=true):LnI R f0 tx (s.1-1,⟨(lnR s.2 tx).1,(lnR s.2 tx).2.1,(lnR s.2 tx).2.2.1⟩)/\s.1-1<s.1:=by
 obtain⟨n,hn⟩:=h.suc
 have h1:=h.ok
 have h2:=h.out
 rw[hn]at h1 h2
 rw[kY,if_neg q,if_neg (by rw[q2];decide)]at h2
 have e:s.1-1=n:=by omega
 exact⟨⟨by show Oo tx (s.1-1) _;rw[e];exact h1.2.2 (Decidable.not_not.1 q) q2,by show kY f0 tx (s.1-1) _=R;rw[e];exact h2⟩,by omega⟩
@[simp] theorem al0 : ay zFc := by simp [zFc, ay, aS]
def vd(r:af×Int×Int):PV:=.tup [bQ r.1,i64 r.2.1,i64 r.2.2]
@[simp] theorem YV (r : af × Int × Int) : aS (vd r) := by unfold vd; simp [aS, ay]
theorem Ir(a:Addr)(f:af)(tx:Str)(fuel:Int)(n:Nat)(h:Oo tx n ⟨f,0,max fuel 0⟩):∀(H:List Ob),(∀o∈gK a,∃k:Nat,H[k]?=some o)->HC prog 12 [bQ f,str tx,i64 fuel] H (vd (kY f tx n ⟨f,0,max fuel 0⟩)) H:=by
 have wm:(if fuel<0 then 0 else fuel)=max fuel 0:=by split<;>omega
 obtain⟨R,hR⟩:∃R,kY f tx n ⟨f,0,max fuel 0⟩=R:=⟨_,rfl⟩
 have i0:LnI R f tx (n,⟨f,0,max fuel 0⟩):=⟨h,hR⟩
 rw[hR]
 clear hR
 refine g7 (fM a) tG (rs:=[.cell 6 42,.tmp 7,.tmp 8]) func12 rfl rfl rfl (by simp) (by simp) (fun B=>?_)
 refine zu4 ?_
 refine zp3 ?_
 refine Wa 19 rfl (congrArg (fun z=>PV.val (Value.int .i64 z)) wm) ?_
 refine zs4 ?_
 refine Wl ?_
 show W _ _ _ _ _ _ _
 refine fX (fun(s:(Nat×LS))=>[(1,str tx),(3,.ptr 2 0),(6,.ptr 3 0),(9,.ptr 4 0),(10,i64 s.2.at_),(11,i64 s.2.left)]) (fun(s:(Nat×LS))=>[.glob 1 (haltV a),.glob 0 etV,.cells (jB f) 42,.cells zFc 42,.cells (jB s.2.f) 42]) (fun(s:(Nat×LS))=>[]) (fun(s:(Nat×LS))=>LnI R f tx s) (fun(s:(Nat×LS))=>s.1) ((n,⟨f,0,max fuel 0⟩)) (by exact i0) [] ?_ ?_
 ·exact fc
 intro s hs
 refine Wl<|Ws ?_
 obtain⟨N,hW⟩:=hs.one
 have pW:=A3 a s.2.f tx s.2.at_ s.2.left N hW
 have pb:=hs.bad
 have pe:=hs.fin
 have pn:=hs.next
 rw[show kr s.2.f tx s.2.at_ s.2.left=lnR s.2 tx from rfl]at pW
 obtain⟨r,hr⟩:∃r,lnR s.2 tx=r:=⟨_,rfl⟩
 rw[hr]at pW pb pe pn
 refine aa rfl ?_
 refine zy4 ?_
 refine zc rfl func21 (pW _ (cn 0 1 rfl rfl)) ?_
 refine zy5 ?_
 refine zy5 ?_
 refine zs2 ?_
 refine zp5 ?_
 refine zs1 ?_
 refine Ws<|zu2 ?_
 refine Wi rfl (fun hi1=>?_) (fun hi1=>?_)
 ·have q:r.2.2.2.2≠0:=by simpa using hi1
  have pb:=pb q
  refine zp1 ?_
  refine zc rfl func26 ((MJ r.1 pb.1) _) ?_
  refine zs1 ?_
  refine zp5 ?_
  refine zs2 ?_
  refine V3.aY [0,0,8,0,0,8,0,0,8,0,0,13,0,0,13,0,0,13] [0,1,2,3,4,5,6,7,8,9,10,11,12,13,14,15,16,17] mG rfl (by kernel_rfl) ?_
  iterate 2 refine V3.aO ?_
  refine V3.zU 2 ?_
  iterate 2 refine V3.aO ?_
  refine V3.zU 2 ?_
  iterate 2 refine V3.aO ?_
  refine V3.zU 2 ?_
  iterate 2 refine V3.aO ?_
  refine V3.bT 4 tG rfl rfl rfl rfl rfl trivial rfl ?_
  iterate 2 refine V3.aO ?_
  refine V3.bT 4 tG rfl rfl rfl rfl rfl trivial rfl ?_
  iterate 2 refine V3.aO ?_
  refine V3.bT 4 tG rfl rfl rfl rfl rfl trivial rfl ?_
  refine V3.bo ?_
  refine zp3 ?_
  refine Wb 60 rfl (fun hg1=>?_) (fun hg1=>?_)
  ·have q2:r.2.2.2.1=false:=by simpa using hg1
   iterate 2 refine z6 ?_
   refine zs1 ?_
   refine Wt rfl rfl ?_
   refine zp3 ?_
   refine zc rfl func27 ((zW _) _) ?_
   refine zs3 ?_
   refine zp5 ?_
   refine zs1 ?_
   refine zR ?_
   (rw[pb.2];rfl)
  have q2:r.2.2.2.1=true:=by simpa using hg1
  refine zs3 ?_
  refine Wt rfl (by omega) ?_
  refine zp3 ?_
  refine zc rfl func27 ((zW _) _) ?_
  refine zs3 ?_
  refine zp5 ?_
  refine zs1 ?_
  refine zR ?_
  (rw[pb.2];rfl)
 have q:¬r.2.2.2.2≠0:=by simpa using hi1
 refine Wj<|zp3 ?_
 refine Wb 60 rfl (fun hg1=>?_) (fun hg1=>?_)
 ·have q2:r.2.2.2.1=false:=by simpa using hg1
  iterate 2 refine z6 ?_
  refine zs1 ?_
  refine Wt rfl rfl ?_
  refine zp3 ?_
  refine zc rfl func27 ((zW _) _) ?_
  refine zs3 ?_
  refine zp5 ?_
  refine zs1 ?_
  refine zR ?_
  (rw[pe q q2,show r.2.2.2.2=0 from Decidable.not_not.1 q];rfl)
 have q2:r.2.2.2.1=true:=by simpa using hg1
 refine zs3 ?_
 refine Wf rfl (by omega) ?_
 refine Wj ?_
 exact⟨(s.1-1,⟨r.1,r.2.1,r.2.2.1⟩),[],(by exact(pn q q2).1),(by exact(pn q q2).2),fc⟩
theorem Rq{f:af}(h:(aJ f).bad=0):f.comp.xt=0:=by
 unfold aJ at h
 split at h
 ·assumption
 cases h
theorem OL{N M:Nat}{f:af}(h:OkF N f){v:VVm}(g:bb M v)(hx:DX v.dict)(h0:f.comp.xt=0):OkF M {f with vm:=v} :=
 ⟨g,h.cfl,h.cf,fun q=>absurd h0 q,fun q=>absurd h0 q,h.la,h.fu,hx⟩
theorem Ag{N M:Nat}{f:af}(h:OkF N f)(hM:N<=M){w:FW}(hw:w.bad=0->OkF M w.f):OkF M (gz w f).1:=by
 unfold gz
 split
 ·exact h.up hM
 rename_i q;exact hw (Decidable.not_not.1 q)
theorem VM{N:Nat}{f:af}(h:OkF N f):OkF N (MO f).1:=by
 unfold MO
 split
 ·exact Ag h (Nat.le_refl _) fun q=>absurd (vb q).2 (by decide)
 refine Ag h (Nat.le_refl _) fun q=>?_
 have fl:0<=(qg f).flags/\(qg f).flags<=7:=by
  unfold qg
  by_cases hi:f.vm.dict.length-1<f.vm.dict.length
  ·have q:=((tz h.g.right.dict).get hi);exact q.2
  rw[List.getD_eq_getElem?_getD,List.getElem?_eq_none (by omega)];exact⟨by decide,by decide⟩
 have i7:=ao2 fl.1 fl.2
 have e:(mQ (aJ f) (cE f.vm.dict ((f.vm.dict.length-1:Nat):Int) (ES (qg f).flags))).f={f with vm:={f.vm with dict:=(cE f.vm.dict ((f.vm.dict.length-1:Nat):Int) (ES (qg f).flags)).1}}:=by unfold mQ;rw[mM];rfl
 rw[e]
 have hl:=(AC h.g.right.dict ((f.vm.dict.length-1:Nat):Int) i7.1 i7.2).2
 exact h.vm (Li h.g _ i7.1 i7.2) (by show _<=(cE f.vm.dict _ _).1.length;rw[hl];exact Nat.le_refl _) rfl (LI h.xts _ _)
theorem Qs{N:Nat}{f:af}(h:OkF N f)(name:Str):OkF N (Cv f name).1:=by
 unfold Cv
 refine Ag h (Nat.le_refl _) fun q=>?_
 have q:(Ck f (cN f.vm.dict name)).bad=0:=q
 generalize cN f.vm.dict name=r at q ⊢
 have hB:(aJ f).bad=0/\1368<=r.1.xt/\r.1.xt<=f.vm.here/\Ck f r=aJ f:=by
  unfold Ck at q ⊢
  split at q
  ·exact absurd (vb q).2 (by decide)
  rename_i z
  split at q
  ·exact absurd (vb q).2 (by decide)
  rename_i y
  rw[if_neg z,if_neg y]
  exact⟨q,by omega,by omega,rfl⟩
 have e:(AK (Ck f r) f.vm.dict r).f={f with vm:={f.vm with dict:=(iH f.vm.dict r.2.1).1,here:=r.1.xt,last:=0}}:=by unfold AK;rw[hB.2.2.2];rfl
 rw[e]
 refine OL h ?_ (Te h.xts _) (Rq hB.1)
 have h1:=h.g.right.jK
 exact yr (LT (OS h.g _) hB.2.1 (by show r.1.xt<=f.vm.conf.mem;omega)) bG
theorem S6{N:Nat}{f:af}(h:OkF N f)(name:Str)(n:Int):OkF (N+261) (vH f name n).1:=by
 unfold vH
 split
 ·exact h.up (by omega)
 rename_i q
 refine(oK h name false (mP f n)).up ?_
 unfold mP
 rw[List.length_append]
 split
 ·rename_i z
  rw[List.length_replicate]
  have:¬(n<1\/256<n):=fun y=>q ⟨z,y⟩
  show N+1+(4+n.toNat)<=_
  omega
 show N+1+(4+0)<=_
 omega
section
variable {N : Nat} {l0 l : ai}
theorem Hm(h:Nx N l0 l)(n:Int):Nx (N+1) l0 (DL l n):=yx (h.up (by omega)) (h.f.kv (Dq h.f.g (cM _ _ _)) ⟨rfl,rfl,rfl⟩)
theorem AV(h:Nx N l0 l)(h0:0<=l0.at_):Nx N l0 (fh l).1:=by
 have q:=wE h h0
 unfold fh;split
 ·dsimp only;split
  ·exact vl q _
  exact q
 exact q
theorem P3(l:ai):ae (pq l).2:=by
 unfold pq
 dsimp only
 split
 ·exact bG
 unfold Vc ae
 have:=((bU l).2.getD 0 0).toNat_lt
 omega
theorem Vw(h:Nx N l0 l)(h0:0<=l0.at_):Nx (N+3) l0 (Ge l):=by
 have q:=AV h h0
 unfold Ge;split
 ·unfold O7;split
  ·exact(Dy (vl q _) _).up (by omega)
  exact yp (zC (vl q _) _) _
 exact q.up (by omega)
theorem U2(h:Nx N l0 l)(h0:0<=l0.at_)(name:Str):Nx (N+270) l0 (rH l name):=by
 unfold rH
 cases hs:spF name with
 | none=>exact(IH h name).up (by omega)
 | some g =>
  dsimp only
  unfold spF at hs
  rcases ag hs with rfl|hs
  ·exact(Fm h h0 false 0).up (by omega)
  rcases ag hs with rfl|hs
  ·have p:=Jj h
   unfold oOn;split
   ·exact(Fm p.1 h0 true _).up (by omega)
   exact p.1.up (by omega)
  rcases ag hs with rfl|hs
  ·exact(Vf h).up (by omega)
  rcases ag hs with rfl|hs
  ·exact(NN h h0).up (by omega)
  rcases ag hs with rfl|hs
  ·exact(vV h h0 (j:=4) fun f name o=>oK o name true [257,0,0]).up (by omega)
  rcases ag hs with rfl|hs
  ·exact(S4 h h0).up (by omega)
  rcases ag hs with rfl|hs
  ·exact(B3 h h0 (j:=261) fun f name n o=>S6 o name n).up (by omega)
  rcases ag hs with rfl|hs
  ·exact(yP h (VM h.f)).up (by omega)
  rcases ag hs with rfl|hs
  ·exact(vV h h0 (j:=0) fun f name o=>Qs o name).up (by omega)
  rcases ag hs with rfl|hs
  ·exact(EF (AV h h0) (Cy h.f.xts)).up (by omega)
  rcases ag hs with rfl|hs
  ·exact(zC (AV h h0) _).up (by omega)
  rcases ag hs with rfl|hs
  ·exact(EF (wE h h0) (P3 l)).up (by omega)
  rcases ag hs with rfl|hs
  ·exact(zC (wE h h0) _).up (by omega)
  rcases ag hs with rfl|hs
  ·exact(zC (Jj h).1 _).up (by omega)
  rcases ag hs with rfl|hs
  ·exact(Vw h h0).up (by omega)
  rcases ag hs with rfl|hs
  ·exact(Dy h _).up (by omega)
  rcases ag hs with rfl|hs
  ·exact(yp h _).up (by omega)
  rcases ag hs with rfl|hs
  ·exact(yp h _).up (by omega)
  rcases ag hs with rfl|hs
  ·exact(KA h h0).up (by omega)
  rcases ag hs with rfl|hs
  ·exact(Tz h h0).up (by omega)
  rcases ag hs with rfl|hs
  ·exact(EJ h h0 41).up (by omega)
  rcases ag hs with rfl|hs
  ·exact(UZ h).up (by omega)
  rcases ag hs with rfl|hs
  ·exact(Hm h 0).up (by omega)
  rcases ag hs with rfl|hs
  ·unfold Ae;split
   ·exact(vl h _).up (by omega)
   exact(Hm h (-1)).up (by omega)
  cases hs
end
theorem BT(l:List UInt8)(b:Int):ae (ez l b).1:=by
 have w:∀n:Int,ae (wrap64 n):=fun n=>ii n
 unfold ez pZ
 split
 ·rename_i q
  split at q
  ·split at q
   ·injection q with q
    rename_i a c d z
    unfold ae;omega
   cases q
  cases q
 unfold rM
 split
 ·exact bG
 dsimp only
 split
 ·exact w _
 exact w _
theorem Ba{N:Nat}{l0 l:ai}(h:Nx N l0 l)(u0:0<=l0.fuel):Nr l0 l N :=
 ⟨by rw[h.u,Nat.add_sub_cancel];exact h.f,h.s,h.a,h.b,by rw[h.u];exact u0,by rw[h.u];exact Int.le_refl _⟩
theorem Nr.up{N M:Nat}{l0 l:ai}(h:Nr l0 l N)(hM:N<=M):Nr l0 l M:=⟨h.f.up (by omega),h.s,h.a,h.b,h.u0,h.u1⟩
section
variable {N : Nat} {l : ai}
theorem Tq(h:OkF N l.f)(h0:0<=l.at_)(h1:l.at_<=l.s.length)(u0:0<=l.fuel)(u9:l.fuel<=90000){x:aR}(hx:ae x.xt):Nr l (i9 l x).1 (N+270):=by
 have n:Nx N l l:=⟨h,rfl,Int.le_refl _,h1,rfl⟩
 have i:∀{c:Prop} [Decidable c] {a b:ai×Bool},Nr l a.1 (N+270)->Nr l b.1 (N+270)->Nr l (if c then a else b).1 (N+270):=fun {c} _ {a b} p q=>by
  by_cases hc:c
  ·rw[if_pos hc];exact p
  rw[if_neg hc];exact q
 unfold i9
 exact i (Ba ((vl n _).up (by omega)) u0) (i (Ba ((vl n _).up (by omega)) u0) (i (Ba ((Dy n _).up (by omega)) u0) (i (Ba (U2 n h0 _) u0) ((Pr h hx h0 h1 u0 u9).up (by omega)))))
theorem ae0(h:OkF N l.f)(h0:0<=l.at_)(h1:l.at_<=l.s.length)(u0:0<=l.fuel)(u9:l.fuel<=90000)(name:Str):Nr l (m8 l name).1 (N+270):=by
 unfold m8
 split
 ·exact Tq h h0 h1 u0 u9 (AG h.xts name)
 have n:Nx N l l:=⟨h,rfl,Int.le_refl _,h1,rfl⟩
 unfold IL
 split
 ·exact Ba ((vl n _).up (by omega)) u0
 split
 ·exact Ba ((zC n _).up (by omega)) u0
 exact Ba ((EF n (BT _ _)).up (by omega)) u0
end
structure Wo (N:Nat) (s:Str) (a fuel:Int) (r:af×Int×Int×Bool×Int):Prop where
 f:OkF (N+270+3*fuel.toNat-3*r.2.2.1.toNat) r.1
 u0:0<=r.2.2.1
 u1:r.2.2.1<=fuel
 a:r.2.2.2.2=0->r.2.2.2.1=true->a<r.2.1/\(a+2<=r.2.1\/r.2.1=s.length)
 b:r.2.1<=s.length
theorem okw{N:Nat}{f:af}{s:Str}{a fuel:Int}(h:OkF N f)(h0:0<=a)(h1:a<=s.length)(u0:0<=fuel)(u9:fuel<=90000):Wo N s a fuel (kr f s a fuel):=by
 have mu:max fuel 0=fuel:=by omega
 have o:OkF (N+270+3*fuel.toNat-3*fuel.toNat) f:=h.up (by omega)
 by_cases hw:(bC s a).1=[]
 ·rw[Rf hw,mu]
  exact⟨o,u0,Int.le_refl _,(fun _ q=>by cases q),Int.le_refl _⟩
 have w:=Es s h0 h1 hw
 have r:=ae0 (l:=bc f s (bC s a).2 (max fuel 0)) h (by show 0<=(bC s a).2;omega) w.2.1 (by show 0<=max fuel 0;omega) (by show max fuel 0<=90000;omega) (bC s a).1
 generalize hr:m8 (bc f s (bC s a).2 (max fuel 0)) (bC s a).1=x at r
 by_cases hb:x.1.err≠0/\x.2=false
 ·rw[Kd hw hr hb.1 hb.2,mu]
  exact⟨o,u0,Int.le_refl _,fun q=>absurd q hb.1,h1⟩
 rw[Qk hw hr hb]
 have ra:=r.a
 have ru:=r.u1
 rw[show(bc f s (bC s a).2 (max fuel 0)).at_=(bC s a).2 from rfl]at ra
 rw[show(bc f s (bC s a).2 (max fuel 0)).fuel=max fuel 0 from rfl,mu]at ru
 refine⟨?_,r.u0,ru,fun _ _=>?_,r.b⟩
 ·have:=r.f
  rw[show(bc f s (bC s a).2 (max fuel 0)).fuel=max fuel 0 from rfl,mu]at this
  exact this
 show a<x.1.at_/\(a+2<=x.1.at_\/x.1.at_=s.length)
 have rb:=r.b
 change x.1.at_<=(s.length:Int)at rb
 omega
theorem To{N:Nat}{f:af}{s:Str}(h:OkF N f)(hN:N<=190000)(hs:s.length<=1000000):LK 300 (bc f s 0 0):=by
 have R:=h.g.right
 have hc:=R.gd
 unfold d9 at hc
 have h1:=R.d
 have h2:=R.out
 exact⟨h.fk (by omega),hs,by show f.vm.d.length<=_;omega,by show ae f.vm.conf.data;unfold ae;omega,by show 0<=f.vm.conf.out;omega,by show f.vm.conf.out<=_;omega,by show f.vm.out.length<=_;omega,h.cfl,h.cf,h.dict,h.xts⟩
theorem W5{N:Nat}{v:VVm}(g:bb N v):bb 0 {v with mem:=⟨v.mem.b,[]⟩}:=by
 have R:=g.right
 refine⟨⟨R.gd,?_,R.dict,R.pic,R.len,R.jG,R.jK,R.f,R.hand,R.d,R.r,R.fl,R.dl,R.out,R.req,R.free0,R.free1,R.next0,R.next1,R.handl⟩,Nat.le_refl _,g.fd,g.fr,g.ff,g.ints,g.la⟩
 have m:=R.mem
 unfold lV at m ⊢
 rw[Bool.and_eq_true]at m
 show([].all _&&_)=true
 rw[List.all_nil,Bool.true_and];exact m.2
theorem GR{N:Nat}{f:af}(h:OkF N f):OkF 0 (vi f):=⟨W5 h.g,h.cfl,h.cf,h.dict,h.here,h.la,h.fu,h.xts⟩
theorem WB{N K:Nat}{f0 f:af}(h:OkF N f)(g0:bb K f0.vm):OkF (N+1) (Mn f0 f):=by
 have u:=Pl h
 have R:=u.g.right
 have R0:=g0.right
 have hc:=R.gd
 unfold d9 at hc
 exact⟨⟨⟨R.gd,R.mem,R.dict,⟨(by show(0:Nat)<=130;decide),.inr rfl⟩,R.len,R.jG,R.jK,R.f,R.hand,(by show((0:Nat):Int)<=(jP f).vm.conf.data;omega),R.r,R.fl,R.dl,R.out,R0.req,R0.free0,R0.free1,R0.next0,R0.next1,R.handl⟩,u.g.old,bE,u.g.fr,u.g.ff,u.g.ints,u.g.la⟩,u.cfl,u.cf,u.dict,u.here,u.la,u.fu,u.xts⟩
theorem KK{tx:Str}{K:Nat}{f0:af}(g0:bb K f0.vm)(ht:tx.length<=1000000):∀(n N:Nat) (x:LS),OkF N x.f->0<=x.at_->x.at_<=tx.length->0<=x.left->x.left<=90000 ->
  N+3*x.left.toNat+270*((tx.length+1-x.at_.toNat)/2)+270<=190000->tx.length+1-x.at_.toNat<n ->
  Oo tx n x/\OkF 0 (kY f0 tx n x).1/\0<=(kY f0 tx n x).2.1/\(kY f0 tx n x).2.1<=x.left
 | 0,N,x,_,_,_,_,_,_,hn=>by omega
 | n+1,N,x,h,h0,h1,u0,u9,hN,hn=>by
  have w:Wo N tx x.at_ x.left (lnR x tx):=okw h h0 h1 u0 u9
  have hu1:=w.u1
  have hu0:=w.u0
  have hb:=w.b
  have ha:=w.a
  have hf:=w.f
  have ih:=fun e i=>KK g0 ht n (N+270+3*x.left.toNat-3*(lnR x tx).2.2.1.toNat) ⟨(lnR x tx).1,(lnR x tx).2.1,(lnR x tx).2.2.1⟩ hf (by have:=ha e i;show 0<=(lnR x tx).2.1;omega) hb hu0 (by show(lnR x tx).2.2.1<=90000;omega) (by have:=ha e i;show _+3*(lnR x tx).2.2.1.toNat+270*((tx.length+1-(lnR x tx).2.1.toNat)/2)+270<=_;omega) (by have:=ha e i;show tx.length+1-(lnR x tx).2.1.toNat<n;omega)
  refine⟨⟨⟨N,⟨To h (by omega) ht,h.g,by omega,u9⟩⟩,fun _=>hf.fk (by omega),fun e i=>(ih e i).1⟩,?_⟩
  rw[kY]
  by_cases e:(lnR x tx).2.2.2.2≠0
  ·rw[if_pos e]
   exact⟨GR (WB hf g0),hu0,hu1⟩
  rw[if_neg e]
  by_cases i:(lnR x tx).2.2.2.1=false
  ·rw[if_pos i];exact⟨GR hf,hu0,hu1⟩
  rw[if_neg i]
  have q:=ih (Decidable.not_not.1 e) (by simpa using i)
  exact⟨q.2.1,q.2.2.1,Int.le_trans q.2.2.2 hu1⟩
def mO(f:af)(tx:Str)(fuel:Int):af×Int×Int:=kY f tx (tx.length+2) ⟨f,0,max fuel 0⟩
theorem Hd{N:Nat}{f:af}{tx:Str}{fuel:Int}(h:OkF N f)(ht:tx.length<=1000)(hu:fuel<=5000)(hN:N<=20000):
  Oo tx (tx.length+2) ⟨f,0,max fuel 0⟩/\OkF 0 (mO f tx fuel).1/\0<=(mO f tx fuel).2.1/\(mO f tx fuel).2.1<=max fuel 0 :=
 KK h.g (by omega) (tx.length+2) N ⟨f,0,max fuel 0⟩ h (Int.le_refl _) (Int.natCast_nonneg _) (by show 0<=max fuel 0;omega) (by show max fuel 0<=90000;omega) (by show N+3*(max fuel 0).toNat+270*((tx.length+1-(0:Int).toNat)/2)+270<=_;omega) (by show tx.length+1-(0:Int).toNat<_;omega)
theorem G3(a:Addr){N:Nat}{f:af}{tx:Str}{fuel:Int}(h:OkF N f)(ht:tx.length<=1000)(hu:fuel<=5000)(hN:N<=20000):∀(H:List Ob),(∀o∈gK a,∃k:Nat,H[k]?=some o)->HC prog 12 [bQ f,str tx,i64 fuel] H (vd (mO f tx fuel)) H :=
 Ir a f tx fuel _ (Hd h ht hu hN).1
open Go.RowKit
def Lq(f:af)(xt:Int)(tx:Str)(p fuel:Int):af×Int×Int×Int :=
 ((lZ (bc f tx p (max fuel 0)) xt).f,(lZ (bc f tx p (max fuel 0)) xt).at_,(lZ (bc f tx p (max fuel 0)) xt).fuel,(lZ (bc f tx p (max fuel 0)) xt).err)
def Kt(r:af×Int×Int×Int):PV:=.tup [bQ r.1,i64 r.2.1,i64 r.2.2.1,i64 r.2.2.2]
@[simp] theorem Yx (r : af × Int × Int × Int) : aS (Kt r) := by unfold Kt; simp [aS, ay]
theorem IY(a:Addr)(f:af)(xt:Int)(tx:Str)(p fuel:Int)(N:Nat)(g:bb N f.vm)(hx:ae xt)(h1:fuel<=90000)(hN:N<=190000)(hs:tx.length<=1000000):∀(H:List Ob),(∀o∈gK a,∃k:Nat,H[k]?=some o)->HC prog 22 [bQ f,i64 xt,str tx,i64 p,i64 fuel] H (Kt (Lq f xt tx p fuel)) H:=by
 have wm:(if fuel<0 then 0 else fuel)=max fuel 0:=by split<;>omega
 have pE:=qz a (bc f tx p (max fuel 0)) xt N g hx (by show 0<=max fuel 0;omega) (by show max fuel 0<=90000;omega) hN hs
 unfold Lq
 obtain⟨r,hr⟩:∃r,lZ (bc f tx p (max fuel 0)) xt=r:=⟨_,rfl⟩
 rw[hr]at pE ⊢
 refine g7 (fM a) tG (rs:=[.cell 10 42,.tmp 11,.tmp 12,.tmp 13]) func22 rfl rfl rfl (by simp) (by simp) (fun B=>?_)
 refine zu5 ?_
 refine zp5 ?_
 refine Wa 19 rfl (congrArg (fun z=>PV.val (Value.int .i64 z)) wm) ?_
 refine zs3 ?_
 refine zp2 ?_
 refine zc rfl func45 (pE _ 4 rfl (cn 0 1 rfl rfl)) ?_
 refine Wn<|Ws<|V3.aY [0,0,0,12,0,0,0,12,0,0,0,12,0,0,0,12,2,11,0,0,0] [0,1,2,3,4,5,6,7,8,9,10,11,12,13,14,15,16,17,18,19,20] mG rfl (by kernel_rfl) ?_
 iterate 3 refine V3.aO ?_
 refine V3.zU 4 ?_
 iterate 3 refine V3.aO ?_
 refine V3.zU 4 ?_
 iterate 3 refine V3.aO ?_
 refine V3.zU 4 ?_
 iterate 3 refine V3.aO ?_
 refine V3.zU 4 ?_
 refine V3.fW rfl rfl rfl rfl (dC rfl func44 rfl rfl (fP a _ _ (cn 0 1 rfl rfl))) ?_
 refine V3.bT 3 tG rfl rfl rfl rfl rfl trivial rfl ?_
 iterate 3 refine V3.aO ?_
 refine V3.bo ?_
 refine zR ?_
 rfl
theorem l8{b:List UInt8}{k n:Nat}{p q:Prop}[Decidable p][Decidable q](hn:tM k=n)(h1:(lY.getD k []=[40,104,97,108,116,41])=p)(h2:(lY.getD k []=[40,99,97,117,103,104,116,41])=q):
  GC b k=if q then yh (if p then yh (yh b (32+8*k) n) 16 (32+8*k)else yh b (32+8*k) n) 24 (32+8*k)else(if p then yh (yh b (32+8*k) n) 16 (32+8*k)else yh b (32+8*k) n):=by
 subst h1 h2 hn
 unfold GC
 simp only
 split<;>split<;>simp_all
theorem aD1{k:Nat}(h:k<167):IntKind.i64.wrap (32+IntKind.i64.wrap (8*(k:Int)))=((32+8*k:Nat):Int):=by simp only[bS];unfold wrap64;omega
theorem aA0{k n:Nat}(h:k<167)(hn:n=130)(h3:130<=k):IntKind.i64.wrap (IntKind.i64.wrap (300+(k:Int))-(n:Int))=((170+k:Nat):Int):=by subst hn;simp only[bS];unfold wrap64;omega
theorem ax8{k:Nat}(h:k<167):IntKind.i64.wrap (((32+8*k:Nat):Int)+1)=((32+8*k+1:Nat):Int):=by simp only[bS];unfold wrap64;omega
theorem G4(k:Nat){q:SK}:PV.seq (gq k++[kZ k]).length ((gq k++[kZ k]).flatMap cS) q=.seq (gq (k+1)).length ((gq (k+1)).flatMap cS) q:=by rw[OF]
theorem av4{M:Nat}{b:List UInt8}(h:b.length=M):PV.seq M ((b.flatMap aK).take M) .any=sq aK b:=by rw[Dg,List.take_of_length_le (by omega),<-h];rfl
def al7(c:nL)(b:List UInt8)(l:List aR):VVm:={conf:=c,mem:=⟨b,[]⟩,here:=1368,d:=[],r:=[],f:=[],dict:=l,last:=0,out:=[],pic:=⟨[],false⟩,req:=[],free:=0,next:=0,arg:=0,self:=0,now:=0,hand:=[]}
theorem SR(c:nL):Gs c=al7 c (pz c.mem.toNat 167) (gq 167):=rfl
theorem Ux(c:nL)(hc:d9 c):ab prog 24 [Kz c] (tVm (Gs c,0)):=by
 have hM:2048<=c.mem/\c.mem<=65536:=⟨hc.1,hc.2.1⟩
 obtain⟨M,hMe⟩:∃M:Nat,c.mem=M:=⟨c.mem.toNat,by omega⟩
 have hMt:c.mem.toNat=M:=by omega
 have hN:=lm
 have hS:=il
 have hA:=Qm
 have hD:decide (d9 c)=true:=decide_eq_true hc
 refine zY func24 fun B=>?_
 refine zu3 ?_
 refine zp1 ?_
 refine zc rfl func46 ((Sx c) _) ?_
 refine zs1 ?_
 refine Ws<|zu2 ?_
 refine Wf rfl (by rw[hD];rfl) ?_
 refine Wj<|zp2 ?_
 refine z2 ?_ (q:=(by(simp_all;omega)))
 refine ei 2 rfl (Xg rfl) rfl ?_
 refine Wa 18 rfl (show PV.arr 2 0 c.mem.toNat c.mem.toNat=.arr 2 0 M M by rw[hMt]) ?_
 refine ei 2 rfl (show Ob.cells ((List.replicate c.mem.toNat (0:UInt8)).flatMap aK) 5=.cells ((List.replicate M (0:UInt8)).flatMap aK) 5 by rw[hMt]) rfl ?_
 refine zs1 ?_
 refine zp1 ?_
 refine z2 ?_ (q:=(by omega))
 refine Wd rfl rfl (bL (lO tG rfl) rfl rfl rfl rfl rfl rfl (by rw[Nat.ble_eq,fv];simp;omega)) ?_
 refine ei 2 rfl (congrArg (fun z=>Ob.cells z 5) (dL (x:=10) (n:=0) rfl (by simp;omega))) rfl ?_
 refine z0 ?_
 refine zc rfl func47 ((IC) _) ?_
 refine zc rfl func48 ((Dp) _) ?_
 refine Wd rfl rfl (cb (lO tG rfl) rfl (lO tG rfl) (lO tG rfl) rfl rfl (by exact⟨_,rfl⟩) (by exact⟨rfl,rfl,al _ 1 (fun _=>rfl) _,bD _ (fun _=>rfl) _⟩) (by exact al _ 1 (fun _=>rfl) _) (by(dsimp only;omega)) (by(rw[hN,hS];decide))) ?_
 refine Wa 23 rfl (cw gy) ?_
 refine Wm 23 rfl (qy _ _ _) ?_
 refine zs1 ?_
 refine zp1 ?_
 refine D9 7 0 3 rfl rfl ?_
 refine Wn<|Ws<|zu1 ?_
 refine Wl ?_
 show W _ _ _ _ _ _ _
 refine fX (fun(k:Nat)=>[(1,.ptr 0 0),(2,.ptr 1 0),(5,.arr 2 0 M M),(6,sq gy lY),(7,.seq (gq k).length ((gq k).flatMap cS) (.own 5 3)),(8,i64 k)]) (fun(k:Nat)=>[.cells (H8 c) 25,.cells vmZ 37,.cells ((pz M k).flatMap aK) 5,.dead,.dead]) (fun(k:Nat)=>[.free ((gq k).length*3)]) (fun(k:Nat)=>k<=167) (fun(k:Nat)=>167-k) (0) (by omega) [4] ?_ ?_
 ·exact fc
 intro k hk
 refine Ws<|zu4 ?_
 refine Wi rfl (fun hi2=>?_) (fun hi2=>?_)
 ·have hlt:k<167:=by have:=oT hi2;rw[hA]at this;omega
  have hB:=vz M k
  have hL:=qi k
  have w1:=aD1 hlt
  have w3:=ax8 hlt
  refine Wj<|Ws<|Wl<|zp3 ?_
  refine Wa 32 rfl (congrArg (fun z=>PV.val (Value.int .i64 z)) w1) ?_
  refine zs1 ?_
  refine zu2 ?_
  refine Ws<|zp1 ?_
  refine zc rfl func47 ((BO) _) ?_
  refine zs2 ?_
  refine Wi rfl (fun hi3=>?_) (fun hi3=>?_)
  ·have hk3:130<=k:=by have:=oT hi3;rw[hN]at this;omega
   have w2:=aA0 hlt hN hk3
   have hn:tM k=170+k:=by unfold tM;rw[if_pos hk3]
   refine aa rfl ?_
   refine zy2 ?_
   refine zc rfl func47 ((BO) _) ?_
   refine zy2 ?_
   refine Wa 42 rfl (congrArg (fun z=>PV.val (Value.int .i64 z)) w2) ?_
   refine zs1 ?_
   refine zp5 ?_
   refine Wa 47 rfl (rW _) ?_
   refine z2 ?_ (q:=(by omega))
   refine Wd rfl rfl (bL (lO tG rfl) rfl rfl rfl rfl rfl rfl (by rw[Nat.ble_eq,fv,hB];(try dsimp only);simp;omega)) ?_
   refine ei 2 rfl (congrArg (fun z=>Ob.cells z 5) (dL rfl (by omega))) rfl ?_
   refine Wn<|zp3 ?_
   refine Wa 51 rfl (congrArg (fun z=>PV.val (Value.int .i64 z)) w3) ?_
   refine zy3 ?_
   refine Wa 54 rfl (sN _ (by omega)) ?_
   refine z2 ?_ (q:=(by omega))
   refine Wd rfl rfl (bL (lO tG rfl) rfl rfl rfl rfl rfl rfl (by rw[Nat.ble_eq,fv,List.length_set,hB];(try dsimp only);simp;omega)) ?_
   refine ei 2 rfl (congrArg (fun z=>Ob.cells z 5) (dL rfl (by rw[List.length_set];omega))) rfl ?_
   refine Wn<|Ws<|az [0,0,0,0,0,0,0,0,0,0,0,0,0,0,3,0] [0,1,2,3,4,5,6,7,8,9,10,11,12,13,14,15] mG rfl (by kernel_rfl) ?_
   iterate 3 refine z3 ?_
   refine Xi tG rfl rfl rfl rfl (fun _=>rfl) (by omega) (iN gy 1 (fun _=>rfl) [] (by omega)) ?_
   iterate 4 refine z3 ?_
   refine Xi tG rfl rfl rfl rfl (fun _=>rfl) (by omega) (iN gy 1 (fun _=>rfl) [] (by omega)) ?_
   iterate 2 refine z3 ?_
   refine Xc rfl rfl rfl rfl (fun _=>dC rfl func49 rfl rfl ((B1 _ k) _)) ?_
   iterate 2 refine z3 ?_
   refine Xa 69 rfl ((show PV.seq 1 _ .clip=.seq (List.length [kZ k]) (List.flatMap cS [kZ k]) .clip from rfl)) ?_
   refine me rfl rfl rfl rfl (eV (lO tG rfl) rfl (lO tG rfl) (lO tG rfl) rfl rfl rfl rfl (by simp) (by exact⟨_,rfl⟩) (by exact⟨rfl,rfl,al _ 3 (fun _=>rfl) _,bD _ (fun _=>rfl) _⟩) (by(rw[hL];dsimp only;simp;omega)) (by(simp;omega))) ?_
   refine Xa 70 rfl (cw cS) ?_
   refine z3 ?_
   skip
   refine aP ?_
   refine Ws<|zp2 ?_
   refine Wv tG rfl rfl rfl (by omega) (iN gy 1 (fun _=>rfl) [] (by omega)) ?_
   refine zy2 ?_
   refine zq 75 ?_
   refine Wn<|Wi rfl (fun hi4=>?_) (fun hi4=>?_)
   ·have h1:(lY.getD k []=[40,104,97,108,116,41])=True:=eq_true (oT hi4)
    refine zp4 ?_
    refine Wa 79 rfl (rW _) ?_
    refine z2 ?_ (q:=(by omega))
    refine Wd rfl rfl (bL (lO tG rfl) rfl rfl rfl rfl rfl rfl (by rw[Nat.ble_eq,fv];simp only[List.length_set,hB];(try dsimp only);simp;omega)) ?_
    refine ei 2 rfl (congrArg (fun z=>Ob.cells z 5) (dL rfl (by simp only[List.length_set];omega))) rfl ?_
    refine Wn<|aa rfl ?_
    refine zy4 ?_
    refine Wa 84 rfl (sN _ (by omega)) ?_
    refine z2 ?_ (q:=(by omega))
    refine Wd rfl rfl (bL (lO tG rfl) rfl rfl rfl rfl rfl rfl (by rw[Nat.ble_eq,fv];simp only[List.length_set,hB];(try dsimp only);simp;omega)) ?_
    refine ei 2 rfl (congrArg (fun z=>Ob.cells z 5) (dL rfl (by simp only[List.length_set];omega))) rfl ?_
    refine Wn<|zp2 ?_
    refine Wv tG rfl rfl rfl (by omega) (iN gy 1 (fun _=>rfl) [] (by omega)) ?_
    refine zy2 ?_
    refine zq 90 ?_
    refine Wn<|Wi rfl (fun hi5=>?_) (fun hi5=>?_)
    ·have h2:(lY.getD k []=[40,99,97,117,103,104,116,41])=True:=eq_true (oT hi5)
     refine zp4 ?_
     refine Wa 94 rfl (rW _) ?_
     refine z2 ?_ (q:=(by omega))
     refine Wd rfl rfl (bL (lO tG rfl) rfl rfl rfl rfl rfl rfl (by rw[Nat.ble_eq,fv];simp only[List.length_set,hB];(try dsimp only);simp;omega)) ?_
     refine ei 2 rfl (congrArg (fun z=>Ob.cells z 5) (dL rfl (by simp only[List.length_set];omega))) rfl ?_
     refine Wn<|aa rfl ?_
     refine zy4 ?_
     refine Wa 99 rfl (sN _ (by omega)) ?_
     refine z2 ?_ (q:=(by omega))
     refine Wd rfl rfl (bL (lO tG rfl) rfl rfl rfl rfl rfl rfl (by rw[Nat.ble_eq,fv];simp only[List.length_set,hB];(try dsimp only);simp;omega)) ?_
     refine ei 2 rfl (congrArg (fun z=>Ob.cells z 5) (dL rfl (by simp only[List.length_set];omega))) rfl ?_
     refine Wn<|aa rfl ?_
     refine z1 ?_
     refine ei 2 rfl (congrArg (fun z=>Ob.cells (List.flatMap aK z) 5) (show _=pz M (k+1) from(l8 hn h1 h2).symm)) rfl ?_
     refine zs2 ?_
     exact⟨k+1,[6],(by omega),(by omega),(fc (sub:=by repeat (first|exact fN|refine ew (by first|exact cP rfl|exact cP (G4 k)|exact cP (congrArg i64 (by(rw[bS];unfold wrap64;omega)))) ?_)))⟩
    have h2:(lY.getD k []=[40,99,97,117,103,104,116,41])=False:=eq_false (oF hi5)
    refine Wj<|aa rfl ?_
    refine z1 ?_
    refine ei 2 rfl (congrArg (fun z=>Ob.cells (List.flatMap aK z) 5) (show _=pz M (k+1) from(l8 hn h1 h2).symm)) rfl ?_
    refine zs2 ?_
    exact⟨k+1,[6],(by omega),(by omega),(fc (sub:=by repeat (first|exact fN|refine ew (by first|exact cP rfl|exact cP (G4 k)|exact cP (congrArg i64 (by(rw[bS];unfold wrap64;omega)))) ?_)))⟩
   have h1:(lY.getD k []=[40,104,97,108,116,41])=False:=eq_false (oF hi4)
   refine Wj<|zp2 ?_
   refine Wv tG rfl rfl rfl (by omega) (iN gy 1 (fun _=>rfl) [] (by omega)) ?_
   refine zy2 ?_
   refine zq 90 ?_
   refine Wn<|Wi rfl (fun hi5=>?_) (fun hi5=>?_)
   ·have h2:(lY.getD k []=[40,99,97,117,103,104,116,41])=True:=eq_true (oT hi5)
    refine zp4 ?_
    refine Wa 94 rfl (rW _) ?_
    refine z2 ?_ (q:=(by omega))
    refine Wd rfl rfl (bL (lO tG rfl) rfl rfl rfl rfl rfl rfl (by rw[Nat.ble_eq,fv];simp only[List.length_set,hB];(try dsimp only);simp;omega)) ?_
    refine ei 2 rfl (congrArg (fun z=>Ob.cells z 5) (dL rfl (by simp only[List.length_set];omega))) rfl ?_
    refine Wn<|aa rfl ?_
    refine zy4 ?_
    refine Wa 99 rfl (sN _ (by omega)) ?_
    refine z2 ?_ (q:=(by omega))
    refine Wd rfl rfl (bL (lO tG rfl) rfl rfl rfl rfl rfl rfl (by rw[Nat.ble_eq,fv];simp only[List.length_set,hB];(try dsimp only);simp;omega)) ?_
    refine ei 2 rfl (congrArg (fun z=>Ob.cells z 5) (dL rfl (by simp only[List.length_set];omega))) rfl ?_
    refine Wn<|aa rfl ?_
    refine z1 ?_
    refine ei 2 rfl (congrArg (fun z=>Ob.cells (List.flatMap aK z) 5) (show _=pz M (k+1) from(l8 hn h1 h2).symm)) rfl ?_
    refine zs2 ?_
    exact⟨k+1,[6],(by omega),(by omega),(fc (sub:=by repeat (first|exact fN|refine ew (by first|exact cP rfl|exact cP (G4 k)|exact cP (congrArg i64 (by(rw[bS];unfold wrap64;omega)))) ?_)))⟩
   have h2:(lY.getD k []=[40,99,97,117,103,104,116,41])=False:=eq_false (oF hi5)
   refine Wj<|aa rfl ?_
   refine z1 ?_
   refine ei 2 rfl (congrArg (fun z=>Ob.cells (List.flatMap aK z) 5) (show _=pz M (k+1) from(l8 hn h1 h2).symm)) rfl ?_
   refine zs2 ?_
   exact⟨k+1,[6],(by omega),(by omega),(fc (sub:=by repeat (first|exact fN|refine ew (by first|exact cP rfl|exact cP (G4 k)|exact cP (congrArg i64 (by(rw[bS];unfold wrap64;omega)))) ?_)))⟩
  have hn:tM k=k:=by have:=oF hi3;rw[hN]at this;unfold tM;rw[if_neg (by omega)]
  refine Wj<|zp5 ?_
  refine Wa 47 rfl (rW _) ?_
  refine z2 ?_ (q:=(by omega))
  refine Wd rfl rfl (bL (lO tG rfl) rfl rfl rfl rfl rfl rfl (by rw[Nat.ble_eq,fv,hB];(try dsimp only);simp;omega)) ?_
  refine ei 2 rfl (congrArg (fun z=>Ob.cells z 5) (dL rfl (by omega))) rfl ?_
  refine Wn<|zp3 ?_
  refine Wa 51 rfl (congrArg (fun z=>PV.val (Value.int .i64 z)) w3) ?_
  refine zy3 ?_
  refine Wa 54 rfl (sN _ (by omega)) ?_
  refine z2 ?_ (q:=(by omega))
  refine Wd rfl rfl (bL (lO tG rfl) rfl rfl rfl rfl rfl rfl (by rw[Nat.ble_eq,fv,List.length_set,hB];(try dsimp only);simp;omega)) ?_
  refine ei 2 rfl (congrArg (fun z=>Ob.cells z 5) (dL rfl (by rw[List.length_set];omega))) rfl ?_
  refine Wn<|Ws<|az [0,0,0,0,0,0,0,0,0,0,0,0,0,0,3,0] [0,1,2,3,4,5,6,7,8,9,10,11,12,13,14,15] mG rfl (by kernel_rfl) ?_
  iterate 3 refine z3 ?_
  refine Xi tG rfl rfl rfl rfl (fun _=>rfl) (by omega) (iN gy 1 (fun _=>rfl) [] (by omega)) ?_
  iterate 4 refine z3 ?_
  refine Xi tG rfl rfl rfl rfl (fun _=>rfl) (by omega) (iN gy 1 (fun _=>rfl) [] (by omega)) ?_
  iterate 2 refine z3 ?_
  refine Xc rfl rfl rfl rfl (fun _=>dC rfl func49 rfl rfl ((B1 _ k) _)) ?_
  iterate 2 refine z3 ?_
  refine Xa 69 rfl ((show PV.seq 1 _ .clip=.seq (List.length [kZ k]) (List.flatMap cS [kZ k]) .clip from rfl)) ?_
  refine me rfl rfl rfl rfl (eV (lO tG rfl) rfl (lO tG rfl) (lO tG rfl) rfl rfl rfl rfl (by simp) (by exact⟨_,rfl⟩) (by exact⟨rfl,rfl,al _ 3 (fun _=>rfl) _,bD _ (fun _=>rfl) _⟩) (by(rw[hL];dsimp only;simp;omega)) (by(simp;omega))) ?_
  refine Xa 70 rfl (cw cS) ?_
  refine z3 ?_
  skip
  refine aP ?_
  refine Ws<|zp2 ?_
  refine Wv tG rfl rfl rfl (by omega) (iN gy 1 (fun _=>rfl) [] (by omega)) ?_
  refine zy2 ?_
  refine zq 75 ?_
  refine Wn<|Wi rfl (fun hi4=>?_) (fun hi4=>?_)
  ·have h1:(lY.getD k []=[40,104,97,108,116,41])=True:=eq_true (oT hi4)
   refine zp4 ?_
   refine Wa 79 rfl (rW _) ?_
   refine z2 ?_ (q:=(by omega))
   refine Wd rfl rfl (bL (lO tG rfl) rfl rfl rfl rfl rfl rfl (by rw[Nat.ble_eq,fv];simp only[List.length_set,hB];(try dsimp only);simp;omega)) ?_
   refine ei 2 rfl (congrArg (fun z=>Ob.cells z 5) (dL rfl (by simp only[List.length_set];omega))) rfl ?_
   refine Wn<|aa rfl ?_
   refine zy4 ?_
   refine Wa 84 rfl (sN _ (by omega)) ?_
   refine z2 ?_ (q:=(by omega))
   refine Wd rfl rfl (bL (lO tG rfl) rfl rfl rfl rfl rfl rfl (by rw[Nat.ble_eq,fv];simp only[List.length_set,hB];(try dsimp only);simp;omega)) ?_
   refine ei 2 rfl (congrArg (fun z=>Ob.cells z 5) (dL rfl (by simp only[List.length_set];omega))) rfl ?_
   refine Wn<|zp2 ?_
   refine Wv tG rfl rfl rfl (by omega) (iN gy 1 (fun _=>rfl) [] (by omega)) ?_
   refine zy2 ?_
   refine zq 90 ?_
   refine Wn<|Wi rfl (fun hi5=>?_) (fun hi5=>?_)
   ·have h2:(lY.getD k []=[40,99,97,117,103,104,116,41])=True:=eq_true (oT hi5)
    refine zp4 ?_
    refine Wa 94 rfl (rW _) ?_
    refine z2 ?_ (q:=(by omega))
    refine Wd rfl rfl (bL (lO tG rfl) rfl rfl rfl rfl rfl rfl (by rw[Nat.ble_eq,fv];simp only[List.length_set,hB];(try dsimp only);simp;omega)) ?_
    refine ei 2 rfl (congrArg (fun z=>Ob.cells z 5) (dL rfl (by simp only[List.length_set];omega))) rfl ?_
    refine Wn<|aa rfl ?_
    refine zy4 ?_
    refine Wa 99 rfl (sN _ (by omega)) ?_
    refine z2 ?_ (q:=(by omega))
    refine Wd rfl rfl (bL (lO tG rfl) rfl rfl rfl rfl rfl rfl (by rw[Nat.ble_eq,fv];simp only[List.length_set,hB];(try dsimp only);simp;omega)) ?_
    refine ei 2 rfl (congrArg (fun z=>Ob.cells z 5) (dL rfl (by simp only[List.length_set];omega))) rfl ?_
    refine Wn<|aa rfl ?_
    refine z1 ?_
    refine ei 2 rfl (congrArg (fun z=>Ob.cells (List.flatMap aK z) 5) (show _=pz M (k+1) from(l8 hn h1 h2).symm)) rfl ?_
    refine zs2 ?_
    exact⟨k+1,[6],(by omega),(by omega),(fc (sub:=by repeat (first|exact fN|refine ew (by first|exact cP rfl|exact cP (G4 k)|exact cP (congrArg i64 (by(rw[bS];unfold wrap64;omega)))) ?_)))⟩
   have h2:(lY.getD k []=[40,99,97,117,103,104,116,41])=False:=eq_false (oF hi5)
   refine Wj<|aa rfl ?_
   refine z1 ?_
   refine ei 2 rfl (congrArg (fun z=>Ob.cells (List.flatMap aK z) 5) (show _=pz M (k+1) from(l8 hn h1 h2).symm)) rfl ?_
   refine zs2 ?_
   exact⟨k+1,[6],(by omega),(by omega),(fc (sub:=by repeat (first|exact fN|refine ew (by first|exact cP rfl|exact cP (G4 k)|exact cP (congrArg i64 (by(rw[bS];unfold wrap64;omega)))) ?_)))⟩
  have h1:(lY.getD k []=[40,104,97,108,116,41])=False:=eq_false (oF hi4)
  refine Wj<|zp2 ?_
  refine Wv tG rfl rfl rfl (by omega) (iN gy 1 (fun _=>rfl) [] (by omega)) ?_
  refine zy2 ?_
  refine zq 90 ?_
  refine Wn<|Wi rfl (fun hi5=>?_) (fun hi5=>?_)
  ·have h2:(lY.getD k []=[40,99,97,117,103,104,116,41])=True:=eq_true (oT hi5)
   refine zp4 ?_
   refine Wa 94 rfl (rW _) ?_
   refine z2 ?_ (q:=(by omega))
   refine Wd rfl rfl (bL (lO tG rfl) rfl rfl rfl rfl rfl rfl (by rw[Nat.ble_eq,fv];simp only[List.length_set,hB];(try dsimp only);simp;omega)) ?_
   refine ei 2 rfl (congrArg (fun z=>Ob.cells z 5) (dL rfl (by simp only[List.length_set];omega))) rfl ?_
   refine Wn<|aa rfl ?_
   refine zy4 ?_
   refine Wa 99 rfl (sN _ (by omega)) ?_
   refine z2 ?_ (q:=(by omega))
   refine Wd rfl rfl (bL (lO tG rfl) rfl rfl rfl rfl rfl rfl (by rw[Nat.ble_eq,fv];simp only[List.length_set,hB];(try dsimp only);simp;omega)) ?_
   refine ei 2 rfl (congrArg (fun z=>Ob.cells z 5) (dL rfl (by simp only[List.length_set];omega))) rfl ?_
   refine Wn<|aa rfl ?_
   refine z1 ?_
   refine ei 2 rfl (congrArg (fun z=>Ob.cells (List.flatMap aK z) 5) (show _=pz M (k+1) from(l8 hn h1 h2).symm)) rfl ?_
   refine zs2 ?_
   exact⟨k+1,[6],(by omega),(by omega),(fc (sub:=by repeat (first|exact fN|refine ew (by first|exact cP rfl|exact cP (G4 k)|exact cP (congrArg i64 (by(rw[bS];unfold wrap64;omega)))) ?_)))⟩
  have h2:(lY.getD k []=[40,99,97,117,103,104,116,41])=False:=eq_false (oF hi5)
  refine Wj<|aa rfl ?_
  refine z1 ?_
  refine ei 2 rfl (congrArg (fun z=>Ob.cells (List.flatMap aK z) 5) (show _=pz M (k+1) from(l8 hn h1 h2).symm)) rfl ?_
  refine zs2 ?_
  exact⟨k+1,[6],(by omega),(by omega),(fc (sub:=by repeat (first|exact fN|refine ew (by first|exact cP rfl|exact cP (G4 k)|exact cP (congrArg i64 (by(rw[bS];unfold wrap64;omega)))) ?_)))⟩
 have hge:k=167:=by have:=oF hi2;rw[hA]at this;omega
 have hB:=vz M k
 have eN:tVm (Gs c,0)=tVm (al7 c (pz M k) (gq k),0):=by rw[hge,SR,hMt]
 generalize pz M k=b0 at hB eN ⊢
 generalize gq k=l0 at eN ⊢
 refine bf ?_
 refine zp2 ?_
 refine Wm 102 rfl (oV (Nat.le_refl _)) ?_
 refine pY 102 2 _ M rfl rfl (by rw[fv,hB];exact Nat.le_refl _) ?_
 refine Wa 102 rfl (show _=sq aK b0 from av4 hB) ?_
 refine zs5 ?_
 refine zR ?_
 rw[eN];rfl
def xo:Nat->Nat->List Int
 | 0,_=>[]
 | k+1,u=>((u%256:Nat):Int)::xo k (u/256)
theorem HJ(k:Nat):∀u:Nat,u<256 ^ k->pX (xo k u)=u:=by
 induction k with
 | zero=>intro u h;simp at h;simp[xo,pX,h]
 | succ k ih =>
  intro u h
  rw[Nat.pow_succ]at h
  simp only[xo,pX,ih (u/256) (by omega),Int.toNat_natCast]
  omega
theorem SF(u:Nat):lD u=xo 8 u:=by
 simp only[lD,xo,Nat.div_div_eq_div_mul]
 rfl
theorem FL(u:Nat)(h:u<18446744073709551616):pX (lD u)=u:=by
 rw[SF];exact HJ 8 u (by rw[show(256:Nat) ^ 8=18446744073709551616 from by decide];exact h)
theorem Om{n:Int}(h:ae n):ID (tP n)=n:=by
 have e:(tP n).map (fun b=>(b.toNat:Int))=lD (U n):=by
  unfold tP
  rw[List.map_map]
  have:∀x∈lD (U n),((fun b:UInt8=>(b.toNat:Int)) ∘ fun x:Int=>UInt8.ofNat x.toNat) x=id x:=by
   intro x hx
   have:=SA (U n) x hx
   simp only[Function.comp,id]
   rw[UInt8.toNat_ofNat']
   omega
  rw[List.map_congr_left this,List.map_id]
 unfold ID
 rw[e,FL _ (Bd n)]
 exact S_U n h
def stM(m:bj)(a n:Int):bj:=⟨jy m.b a.toNat (tP n),m.old++[⟨a,(m.b.drop a.toNat).take 8⟩]⟩
theorem Gb{m:bj}{a n:Int}(h0:0<=a)(h1:0<n)(h2:a+n<=m.b.length):bp m a n=true:=by
 unfold bp
 rw[decide_eq_true_eq]
 omega
theorem ry{m:bj}{a:Int}(h0:0<=a)(h1:a%8=0)(h2:a+8<=m.b.length):cU m a=0:=by
 unfold cU
 rw[Gb h0 (by omega) h2,if_pos rfl,if_pos (by rw[Int.tmod_eq_emod_of_nonneg h0];exact h1)]
theorem Hf{m:bj}{a:Int}(n:Int)(h0:0<=a)(h2:a+8<=m.b.length):ce m a (tP n)=(stM m a n,0):=by
 unfold ce
 rw[kx,if_pos (show bp m a ((8:Nat):Int)=true from Gb h0 (by omega) h2),if_neg (by intro h;have:=congrArg List.length h;rw[kx]at this;cases this)]
 rfl
theorem Ss{m:bj}{a:Int}(n:Int)(h0:0<=a)(h1:a%8=0)(h2:a+8<=m.b.length):aF m a n=(stM m a n,0):=by
 unfold aF
 rw[if_pos (ry h0 h1 h2),Hf n h0 h2]
theorem yO{m:bj}{a n:Int}(h0:0<=a)(h2:a+8<=m.b.length):(stM m a n).b.length=m.b.length:=by
 unfold stM
 exact CS (by rw[kx];omega)
theorem UP{l x:List UInt8}{k:Nat}(h:k+x.length<=l.length):((jy l k x).drop k).take x.length=x:=by
 unfold jy
 rw[List.append_assoc,List.drop_left' (by rw[List.length_take];omega),List.take_left' rfl]
theorem JT{l x:List UInt8}{k c n:Nat}(h:c+n<=k)(h2:k<=l.length):((jy l k x).drop c).take n=(l.drop c).take n:=by
 unfold jy
 rw[List.append_assoc,List.drop_append_of_le_length (by rw[List.length_take];omega),List.take_append_of_le_length (by rw[List.length_drop,List.length_take];omega),List.drop_take,List.take_take,Nat.min_eq_left (by omega)]
theorem Iy{m:bj}{a n:Int}(hn:ae n)(h0:0<=a)(h1:a%8=0)(h2:a+8<=m.b.length):am (stM m a n) a=(n,0):=by
 unfold am
 rw[ry h0 h1 (by rw[yO h0 h2];exact h2),if_pos rfl]
 have e:((stM m a n).b.drop a.toNat).take 8=tP n:=UP (x:=tP n) (by rw[kx];omega)
 rw[e,Om hn]
theorem HK{m:bj}{a b n:Int}(h0:0<=b)(h1:b%8=0)(h3:b+8<=a)(h2:a+8<=m.b.length):am (stM m a n) b=am m b:=by
 unfold am
 rw[ry h0 h1 (by rw[yO (by omega) h2];omega),ry h0 h1 (by omega),if_pos rfl,if_pos rfl]
 have e:((stM m a n).b.drop b.toNat).take 8=(m.b.drop b.toNat).take 8:=JT (by omega) (by omega)
 rw[e]
structure iS (m:bj) (L:Nat) (g:Int->Int):Prop where
 len:m.b.length=L
 cell:∀a:Int,0<=a->a%8=0->a+8<=(L:Int)->am m a=(g a,0)
def rI(g:Int->Int)(a n x:Int):Int:=if x=a then n else g x
theorem J6{l x:List UInt8}{k c n:Nat}(h:k+x.length<=c)(h2:k+x.length<=l.length):((jy l k x).drop c).take n=(l.drop c).take n:=by
 unfold jy
 have e:(l.take k++x).length=k+x.length:=by rw[List.length_append,List.length_take];omega
 rw[List.drop_append,List.drop_eq_nil_of_le (by rw[e];exact h),List.nil_append,e,List.drop_drop,show k+x.length+(c-(k+x.length))=c by omega]
theorem Hv{m:bj}{a b n:Int}(h0:0<=a)(h1:b%8=0)(h3:a+8<=b)(h2:b+8<=m.b.length):am (stM m a n) b=am m b:=by
 unfold am
 rw[ry (by omega) h1 (by rw[yO (by omega) (by omega)];omega),ry (by omega) h1 (by omega),if_pos rfl,if_pos rfl]
 have e:((stM m a n).b.drop b.toNat).take 8=(m.b.drop b.toNat).take 8:=J6 (by rw[kx];omega) (by rw[kx];omega)
 rw[e]
def okA(L:Nat)(a:Int):Bool:=decide (0<=a)&&decide (a%8=0)&&decide (a+8<=(L:Int))
theorem gu{L:Nat}{a:Int}:okA L a=true↔0<=a/\a%8=0/\a+8<=(L:Int):=by unfold okA;simp only[Bool.and_eq_true,decide_eq_true_eq,and_assoc]
theorem iS.store{m:bj}{L:Nat}{g:Int->Int}(h:iS m L g){a n:Int}(hn:ae n)(ha:okA L a=true):iS (stM m a n) L (rI g a n):=by
 obtain⟨h0,h1,h2⟩:=gu.1 ha
 have hl:=h.len
 refine⟨(yO h0 (by rw[hl];exact h2)).trans hl,fun x x0 x1 x2=>?_⟩
 unfold rI
 by_cases hx:x=a
 ·subst hx
  rw[if_pos rfl]
  exact Iy hn h0 h1 (by rw[hl];exact h2)
 rw[if_neg hx,<-h.cell x x0 x1 x2]
 by_cases hlt:x<a
 ·exact HK x0 x1 (by omega) (by rw[hl];exact h2)
 exact Hv h0 x1 (by omega) (by rw[hl];exact x2)
theorem iS.put{m:bj}{L:Nat}{g:Int->Int}(h:iS m L g){a n:Int}(ha:okA L a=true):aF m a n=(stM m a n,0):=by
 obtain⟨h0,h1,h2⟩:=gu.1 ha
 exact Ss n h0 h1 (by rw[h.len];exact h2)
theorem iS.bare{m:bj}{L:Nat}{g:Int->Int}(h:iS m L g):iS ⟨m.b,[]⟩ L g:=⟨h.len,h.cell⟩
theorem Cc{n:Int}(h0:0<=n)(h1:n<=1000000):W64 n=n:=Ji (by unfold ae;omega)
structure na (v:VVm) (L:Nat) (g:Int->Int):Prop where
 mem:iS v.mem L g
 hL:L<=65536
 hl:1072<=L
 data:v.conf.data=32
 ret:v.conf.ret=32
theorem Uz:ae 256:=by unfold ae;omega
theorem na.store{v:VVm}{L:Nat}{g:Int->Int}(M:na v L g){a n:Int}(hn:ae n)(ha:okA L a=true):na (sK v (aF v.mem a n).1) L (rI g a n):=by
 refine⟨?_,M.hL,M.hl,M.data,M.ret⟩
 show iS (aF v.mem a n).1 L _
 rw[M.mem.put ha]
 exact M.mem.store hn ha
def g0(a:Int):Int:=(am (Z3 []).mem a).1
structure Std (g:Int->Int):Prop where
 prim:∀i:Nat,i<130->g (32+8*(i:Int))=(i:Int)
 c16:g 16=96
 c24:g 24=104
theorem Std.upd{g:Int->Int}(S:Std g){a n:Int}(h:1072<=a):Std (rI g a n):=by
 refine⟨fun i hi=>?_,?_,?_⟩
 ·unfold rI;rw[if_neg (by omega)];exact S.prim i hi
 ·unfold rI;rw[if_neg (by omega)];exact S.c16
 unfold rI;rw[if_neg (by omega)];exact S.c24
def mk(v:VVm)(d r:List Int)(f:List jc):VVm:={v with d:=d,r:=r,f:=f}
def mr(v:VVm)(d r:List Int)(f:List jc)(ip fu:Int):bH:=⟨mk v d r f,ip,0,false,fu⟩
def mw(v:VVm)(d r:List Int)(f:List jc)(ip w fu:Int):bH:=⟨mk v d r f,ip,w,true,fu⟩
def mz(v:VVm)(d r:List Int)(f:List jc)(ip:Int):VWk:=⟨mk v d r f,ip,0,false,false,0⟩
variable {v : VVm} {L : Nat} {g : Int -> Int} {d r : List Int} {f : List jc} {ip fu xt q x n : Int}
theorem Ui:g9 (mz v d (r++[x]) f ip)=(mz v d r f ip,x):=by
 have e:eU (mk v d (r++[x]) f)=(x,mk v d r f,0):=by
  unfold eU
  rw[if_neg (by show ¬(r++[x]).length=0;simp)]
  show((r++[x]).getD ((r++[x]).length-1) 0,{mk v d (r++[x]) f with r:=(r++[x]).take ((r++[x]).length-1)},(0:Int))=_
  simp[mk]
 show(({cH (mz v d (r++[x]) f ip) (eU (mk v d (r++[x]) f)).2.2 with v:=(eU (mk v d (r++[x]) f)).2.1}:VWk),(eU (mk v d (r++[x]) f)).1)=_
 rw[e];rfl
theorem RE(M:na v L g)(h:r.length<32):dY (mz v d r f ip) n=mz v d (r++[n]) f ip:=by
 have e:gm (mk v d r f) n=(mk v d (r++[n]) f,0):=by
  unfold gm
  rw[if_neg (by show ¬v.conf.ret<=(r.length:Int);rw[M.ret];omega)]
  rfl
 show({cH (mz v d r f ip) (gm (mk v d r f) n).2 with v:=(gm (mk v d r f) n).1}:VWk)=_
 rw[e];rfl
theorem QJ(M:na v L g)(h:okA L x=true):bq (mz v d r f ip) x=(mz v d r f ip,g x):=by
 obtain⟨h0,h1,h2⟩:=gu.1 h
 show(cH (mz v d r f ip) (am v.mem x).2,(am v.mem x).1)=_
 rw[M.mem.cell x h0 h1 h2];rfl
theorem Vg(M:na v L g)(h:okA L ip=true):jH (mz v d r f ip)=mz v d r f (ip+8):=by
 obtain⟨h0,h1,h2⟩:=gu.1 h
 have:=M.hL
 show(⟨mk v d r f,W64 (ip+8),0,false,false,0⟩:VWk)=_
 rw[Cc (by omega) (by omega)];rfl
def mc(k:VWk)(xt q:Int):VWk :=
 if 300<=q then cH k (-14)else
 if q=256 then {dY k k.ip with ip:=W64 (xt+8)} else
 if q=257 then jw k (W64 (xt+16))else
 if q=258 then jw (bq k (W64 (xt+16))).1 (bq k (W64 (xt+16))).2 else
 if q=259 then(let a:=bq k (W64 (xt+8));{dY (jw a.1 (W64 (xt+16))) (jw a.1 (W64 (xt+16))).ip with ip:=a.2})else
 if q=260 then pw k xt else
 if 23<=q then {cH k (doS k.v q).2 with v:=(doS k.v q).1} else
 if (sM k (ao.getD q.toNat [])).2 then(sM k (ao.getD q.toNat [])).1 else F9 (sM k (ao.getD q.toNat [])).1 (ao.getD q.toNat [])
theorem CJ{k:VWk}(h:av k.v xt=(q,0)):rF k xt=mc k xt q:=by
 unfold rF mc
 rw[h]
 rfl
theorem Xj(M:na v L g)(hx:okA L xt=true)(hq:g xt=q)(ok:eX q):av (mk v d r f) xt=(q,0):=by
 obtain⟨h0,h1,h2⟩:=gu.1 hx
 show(if (am v.mem xt).2=0 then(if eX (am v.mem xt).1 then((am v.mem xt).1,0)else(0,-9))else(0,(am v.mem xt).2))=_
 rw[M.mem.cell xt h0 h1 h2]
 show(if eX (g xt)then(g xt,(0:Int))else(0,-9))=_
 rw[hq,if_pos ok]
def JZ(ahead:bH)(fu:Int)(k:VWk):bH×Bool×Int :=
 if k.bad=0 then(⟨k.v,k.ip,k.w,k.dof,fu⟩,k.over,0)else((cp ahead k.bad).1,false,(cp ahead k.bad).2)
def Se(r:bH)(q:VWk×Int):bH×Bool×Int:=JZ ⟨r.vm,q.1.ip,0,false,W64 (r.fuel-1)⟩ (W64 (r.fuel-1)) (if q.1.bad=0 then rF q.1 q.2 else q.1)
def zb(r:bH):VWk×Int :=
 let k0:VWk:=⟨r.vm,r.ip,0,false,false,0⟩
 if r.dof then(k0,r.w)else(let a:=bq k0 r.ip;(if a.1.bad=0 then jH a.1 else a.1,a.2))
theorem FS{r:bH}(h:¬r.fuel<1):bR r=Se r (zb r):=by unfold bR;rw[if_neg h];rfl
theorem XU{s:bH}(M:na v L g)(hs:s.fuel=fu)(hv:s.vm=mk v d r f)(hf:1<=fu/\fu<=300000)(e:zb s=(mz v d r f ip,xt))(h2:okA L xt=true)(hq:g xt=q)(ok:eX q):
  bR s=JZ (mr v d r f ip (fu-1)) (fu-1) (mc (mz v d r f ip) xt q):=by
 rw[FS (by omega),e]
 unfold Se
 dsimp only
 rw[if_pos (show(mz v d r f ip).bad=0 from rfl),CJ (Xj M h2 hq ok:av (mz v d r f ip).v xt=(q,0)),hs,hv,Ri hf.1 hf.2]
 rfl
theorem X8(M:na v L g)(hf:1<=fu/\fu<=300000)(hi:okA L ip=true)(hx:g ip=xt)(h2:okA L xt=true)(hq:g xt=q)(ok:eX q):
  bR (mr v d r f ip fu)=JZ (mr v d r f (ip+8) (fu-1)) (fu-1) (mc (mz v d r f (ip+8)) xt q):=by
 refine XU M rfl rfl hf ?_ h2 hq ok
 show((if (bq (mz v d r f ip) ip).1.bad=0 then jH (bq (mz v d r f ip) ip).1 else(bq (mz v d r f ip) ip).1),(bq (mz v d r f ip) ip).2)=_
 rw[QJ M hi,hx]
 dsimp only
 rw[if_pos (show(mz v d r f ip).bad=0 from rfl),Vg M hi]
theorem au5(M:na v L g)(hf:1<=fu/\fu<=300000)(h2:okA L xt=true)(hq:g xt=q)(ok:eX q):
  bR (mw v d r f ip xt fu)=JZ (mr v d r f ip (fu-1)) (fu-1) (mc (mz v d r f ip) xt q) :=
 XU (s:=mw v d r f ip xt fu) M rfl rfl hf rfl h2 hq ok
def Go1(s t:bH):Prop:=bR s=(t,false,0)
inductive GoN:Nat->bH->bH->Prop
 | nil (s:bH):GoN 0 s s
 | cons {n:Nat} {s t u:bH}:Go1 s t->GoN n t u->GoN (n+1) s u
theorem GoN.trans{a b:Nat}{s t u:bH}(h:GoN a s t)(k:GoN b t u):GoN (b+a) s u:=by
 induction h with
 | nil s=>exact k
 | cons h1 _ ih=>exact .cons h1 (ih k)
theorem GoN.one{s t:bH}(h:Go1 s t):GoN 1 s t:=.cons h (.nil _)
theorem GoN.run{n:Nat}{s t:bH}(h:GoN n s t):∀k,xS (k+n) s=xS k t:=by
 induction h with
 | nil s=>intro k;rfl
 | cons h1 _ ih =>
  intro k
  unfold Go1 at h1
  rw[<-Nat.add_assoc,Md (by rw[h1];simp),h1]
  exact ih k
section
variable {d' r' : List Int} {f' : List jc} {v' : VVm} {ip' w : Int}
theorem au0(M:na v L g)(hf:1<=fu/\fu<=300000)(hi:okA L ip=true)(hx:g ip=xt)(h2:okA L xt=true)(hq:g xt=q)(ok:eX q)
  (hk:mc (mz v d r f (ip+8)) xt q=mz v' d' r' f' ip'):Go1 (mr v d r f ip fu) (mr v' d' r' f' ip' (fu-1)):=by
 unfold Go1;rw[X8 M hf hi hx h2 hq ok,hk];rfl
theorem Ym(M:na v L g)(hf:1<=fu/\fu<=300000)(h2:okA L xt=true)(hq:g xt=q)(ok:eX q)
  (hk:mc (mz v d r f ip) xt q=mz v' d' r' f' ip'):Go1 (mw v d r f ip xt fu) (mr v' d' r' f' ip' (fu-1)):=by
 unfold Go1;rw[au5 M hf h2 hq ok,hk];rfl
end
theorem Z6:mc (mz v d (r++[x]) f ip) xt 0=mz v d r f x:=by
 have e:mc (mz v d (r++[x]) f ip) xt 0={(g9 (mz v d (r++[x]) f ip)).1 with ip:=(g9 (mz v d (r++[x]) f ip)).2}:=by kernel_rfl
 rw[e,Ui];rfl
theorem ZG:JZ (mr v d r f ip fu) fu (mc (mz v d r f ip) xt 8)=(mr v d r f ip fu,true,0):=by kernel_rfl
theorem UM(M:na v L g)(hx:okA L xt=true)(hr:r.length<32):mc (mz v d r f ip) xt 256=mz v d (r++[ip]) f (xt+8):=by
 have e:mc (mz v d r f ip) xt 256={dY (mz v d r f ip) ip with ip:=W64 (xt+8)}:=by kernel_rfl
 obtain⟨h0,h1,h2⟩:=gu.1 hx
 have:=M.hL
 rw[e,RE M hr,Cc (by omega) (by omega)];rfl
theorem QQ{u:VVm}{d':List Int}(h1:23<=q)(h2:q<=129)(h:doS (mk v d r f) q=(mk u d' r f,0)):mc (mz v d r f ip) xt q=mz u d' r f ip:=by
 unfold mc
 rw[if_neg (by omega),if_neg (by omega),if_neg (by omega),if_neg (by omega),if_neg (by omega),if_neg (by omega),if_pos h1]
 show({cH (mz v d r f ip) (doS (mk v d r f) q).2 with v:=(doS (mk v d r f) q).1}:VWk)=_
 rw[h];rfl
section
variable {d' r' : List Int} {f' : List jc} {v' : VVm} {ip' w : Int}
theorem uf{i:Nat}(hi:i<130):eX (i:Int):=.inl (by omega)
theorem GS{i:Nat}(M:na v L g)(hi:i<130):okA L (32+8*(i:Int))=true:=gu.2 (by have:=M.hl;omega)
theorem az5(M:na v L g)(S:Std g)(i:Nat)(hi:i<130)(hf:1<=fu/\fu<=300000)(ha:okA L ip=true)(hx:g ip=32+8*(i:Int))
  (hk:mc (mz v d r f (ip+8)) (32+8*(i:Int)) (i:Int)=mz v' d' r' f' ip'):Go1 (mr v d r f ip fu) (mr v' d' r' f' ip' (fu-1)) :=
 au0 M hf ha hx (GS M hi) (S.prim i hi) (uf hi) hk
end
theorem Me(M:na v L g)(S:Std g)(hf:1<=fu/\fu<=300000):bR (mr v d r f 16 fu)=(mr v d r f 24 (fu-1),true,0):=by
 have h:=M.hl
 rw[X8 M hf (gu.2 (by omega)) S.c16 (gu.2 (by omega)) (S.prim 8 (by decide)) (uf (i:=8) (by decide))]
 exact ZG
theorem Pn(M:na v L g)(hf:1<=fu/\fu<=300000)(h2:okA L xt=true)(hq:g xt=256)(hr:r.length<32):Go1 (mw v d r f ip xt fu) (mr v d (r++[ip]) f (xt+8) (fu-1)) :=
 Ym M hf h2 hq (.inr (.inl (by omega))) (UM M h2 hr)
open Go.RowKit
theorem QM:300<=kC:=by decide +kernel
theorem F6{k:VWk}{xt q:Int}(h:av k.v xt=(q,0))(hq:300<=q):rF k xt=cH k (-14):=by
 rw[CJ h];unfold mc;rw[if_pos hq]
theorem LR{ah:bH}{fu:Int}{k:VWk}(h:k.bad≠0)(hf:ah.vm.f=[]):(JZ ah fu k).2.2≠0:=by
 unfold JZ
 rw[if_neg h]
 unfold cp
 rw[if_pos (by rw[hf];rfl)]
 exact h
theorem Si{s t:bH}{o:Bool}(hf:s.vm.f=[])(hu:¬s.fuel<1)(h:bR s=(t,o,0)):¬(cF s).1=true:=by
 intro hc
 rw[FS hu]at h
 have h2:(Se s (zb s)).2.2=0:=by rw[h]
 unfold cF Bi at hc
 by_cases hd:s.dof=true
 ·rw[if_pos hd]at hc
  have hk:=oT hc
  have e:zb s=(⟨s.vm,s.ip,0,false,false,0⟩,s.w):=by unfold zb;dsimp only;rw[if_pos hd]
  rw[e]at h2
  unfold Se at h2
  dsimp only at h2
  rw[if_pos rfl,F6 (k:=⟨s.vm,s.ip,0,false,false,0⟩) (q:=kC) (Prod.ext hk.2 hk.1) QM]at h2
  refine LR ?_ ?_ h2
  ·show(-14:Int)≠0;decide
  exact hf
 rw[if_neg hd]at hc
 by_cases hm:(am s.vm.mem s.ip).2≠0
 ·rw[if_pos hm]at hc;cases hc
 rw[if_neg hm]at hc
 have hk:=oT hc
 have hm0:(am s.vm.mem s.ip).2=0:=Decidable.not_not.1 hm
 have e:zb s=(⟨s.vm,W64 (s.ip+8),0,false,false,0⟩,(am s.vm.mem s.ip).1):=by
  unfold zb
  dsimp only
  rw[if_neg hd]
  have e1:bq ⟨s.vm,s.ip,0,false,false,0⟩ s.ip=(⟨s.vm,s.ip,0,false,false,0⟩,(am s.vm.mem s.ip).1):=by
   show(cH ⟨s.vm,s.ip,0,false,false,0⟩ (am s.vm.mem s.ip).2,(am s.vm.mem s.ip).1)=_
   rw[hm0];rfl
  rw[e1]
  rfl
 rw[e]at h2
 unfold Se at h2
 dsimp only at h2
 rw[if_pos rfl,F6 (k:=⟨s.vm,W64 (s.ip+8),0,false,false,0⟩) (q:=kC) (Prod.ext hk.2 hk.1) QM]at h2
 refine LR ?_ ?_ h2
 ·show(-14:Int)≠0;decide
 exact hf
inductive GoE:Nat->bH->bH->Prop
 | nil (s:bH):GoE 0 s s
 | cons {n:Nat} {s t u:bH}:Go1 s t->s.vm.f=[]->¬s.fuel<1->GoE n t u->GoE (n+1) s u
theorem GoE.trans{a b:Nat}{s t u:bH}(h:GoE a s t)(k:GoE b t u):GoE (b+a) s u:=by
 induction h with
 | nil s=>exact k
 | cons h1 h2 h3 _ ih=>exact .cons h1 h2 h3 (ih k)
theorem XX{l:ai}{r:bH}:¬(⟨l,r,false,0⟩:EX).stops:=fun z=>z.elim (fun z=>by cases z) (fun z=>z rfl)
theorem GoE.ex{n:Nat}{s t:bH}(h:GoE n s t)(l:ai):∀k,oJ (k+n) ⟨l,s,false,0⟩=oJ k ⟨l,t,false,0⟩:=by
 induction h with
 | nil s=>intro k;rfl
 | cons h1 h2 h3 _ ih =>
  intro k
  unfold Go1 at h1
  rw[<-Nat.add_assoc,SD XX,OA (x:=⟨l,_,false,0⟩) (Si h2 h3 h1)]
  dsimp only
  rw[h1]
  exact ih k
theorem Ua{s t:bH}{o:Bool}(l:ai)(h:bR s=(t,true,0))(hf:s.vm.f=[])(hu:¬s.fuel<1)(k:Nat):oJ (k+1) ⟨l,s,false,0⟩=⟨l,t,true,0⟩:=by
 rw[SD XX,OA (x:=⟨l,_,false,0⟩) (Si hf hu h)]
 dsimp only
 rw[h]
 exact Ff (.inl rfl) k
theorem CL{n:Nat}{s t:bH}{l:ai}{xt:Int}(h:GoE n (zX l.f.vm xt l.fuel) s)(hl:bR s=(t,true,0))(hf:s.vm.f=[])(hu:¬s.fuel<1)(h0:0<=l.fuel)(hn:(n:Int)<=l.fuel)(he:l.err=0):
  lZ l xt={l with f:={l.f with vm:=y6 t.vm},fuel:=t.fuel}:=by
 unfold lZ
 obtain⟨m,hm⟩:∃m,l.fuel.toNat+2=(m+1)+n:=⟨l.fuel.toNat+1-n,by omega⟩
 have e:exR l xt=⟨l,t,true,0⟩:=by
  unfold exR BP
  rw[hm,h.ex l,Ua (o:=true) l hl hf hu]
 rw[e]
 exact AH he
theorem wC(p:Str)(c:UInt8)(t:Str):(p++c::t).getD p.length 0=c:=by
 rw[List.getD_eq_getElem?_getD,List.getElem?_append_right (Nat.le_refl _),Nat.sub_self];rfl
theorem Aq:∀(b p r:Str),(∀c∈b,c.toNat<=32)->(r=[]\/∃c t,r=c::t/\32<c.toNat)->lf (p++(b++r)) p.length=p.length+b.length
 | [],p,r,_,hr=>by
  rcases hr with rfl|⟨c,t,rfl,h⟩
  ·exact DZ (fun z=>by simp at z)
  refine DZ (fun z=>?_)
  have:=z.2
  rw[List.nil_append,wC]at this
  omega
 | c::b,p,r,hb,hr=>by
  have h1:p.length<(p++(c::b++r)).length:=by simp
  have h2:(((p++(c::b++r)).getD p.length 0).toNat:Int)<=32:=by
   rw[List.cons_append,wC]
   have:=hb c (List.mem_cons_self ..)
   omega
  rw[Ql h1 h2]
  have ih:=Aq b (p++[c]) r (fun x hx=>hb x (List.mem_cons_of_mem _ hx)) hr
  rw[List.length_append,List.length_singleton,List.append_assoc]at ih
  rw[List.cons_append,show c::(b++r)=[c]++(b++r) from rfl,ih,List.length_cons]
  omega
theorem Fq:∀(b p r:Str),(∀c∈b,32<c.toNat)->(r=[]\/∃c t,r=c::t/\c.toNat<=32)->nP (p++(b++r)) p.length=p.length+b.length
 | [],p,r,_,hr=>by
  rcases hr with rfl|⟨c,t,rfl,h⟩
  ·exact Az (fun z=>by simp at z)
  refine Az (fun z=>?_)
  have:=z.2
  rw[List.nil_append,wC]at this
  omega
 | c::b,p,r,hb,hr=>by
  have h1:p.length<(p++(c::b++r)).length:=by simp
  have h2:32<(((p++(c::b++r)).getD p.length 0).toNat:Int):=by
   rw[List.cons_append,wC]
   have:=hb c (List.mem_cons_self ..)
   omega
  rw[Tf h1 h2]
  have ih:=Fq b (p++[c]) r (fun x hx=>hb x (List.mem_cons_of_mem _ hx)) hr
  rw[List.length_append,List.length_singleton,List.append_assoc]at ih
  rw[List.cons_append,show c::(b++r)=[c]++(b++r) from rfl,ih,List.length_cons]
  omega
theorem Ma(p b w q:Str)(hb:∀c∈b,c.toNat<=32)(hw0:w≠[])(hw:∀c∈w,32<c.toNat)(hq:q=[]\/∃c t,q=c::t/\c.toNat<=32):
  bC (p++(b++(w++q))) p.length=(w,min ((p.length+b.length+w.length:Nat)+1:Int) ((p.length+b.length+w.length+q.length:Nat):Int)):=by
 have h0:dF (p++(b++(w++q))) (p.length:Int)=p.length:=by
  unfold dF
  rw[if_neg (by simp;omega)]
  exact Int.toNat_natCast _
 have h1:lf (p++(b++(w++q))) p.length=p.length+b.length:=by
  refine Aq b p (w++q) hb (.inr ?_)
  cases w with
  | nil=>exact absurd rfl hw0
  | cons c t=>exact⟨c,t++q,rfl,hw c (List.mem_cons_self ..)⟩
 have h2:nP (p++(b++(w++q))) (p.length+b.length)=p.length+b.length+w.length:=by
  have:=Fq w (p++b) q hw hq
  rw[List.length_append,List.append_assoc]at this
  exact this
 unfold bC
 dsimp only
 rw[h0,h1,h2]
 refine Prod.ext ?_ ?_
 ·show((p++(b++(w++q))).take (p.length+b.length+w.length)).drop (p.length+b.length)=w
  rw[show p++(b++(w++q))=(p++b++w)++q by simp,show p.length+b.length+w.length=(p++b++w).length by simp;omega,List.take_left,show p++b++w=(p++b)++w from rfl,show p.length+b.length=(p++b).length by simp,List.drop_left]
 show min (((p.length+b.length+w.length:Nat):Int)+1) ((p++(b++(w++q))).length:Int)=_
 rw[show(p++(b++(w++q))).length=p.length+b.length+w.length+q.length by simp;omega]
theorem QG(p b:Str)(hb:∀c∈b,c.toNat<=32):(bC (p++b) p.length).1=[]:=by
 have h0:dF (p++b) (p.length:Int)=p.length:=by
  unfold dF
  rw[if_neg (by simp;omega)]
  exact Int.toNat_natCast _
 have h1:lf (p++b) p.length=p.length+b.length:=by
  have:=Aq b p [] hb (.inl rfl)
  rwa [List.append_nil]at this
 have h2:nP (p++b) (p.length+b.length)=p.length+b.length:=Az (fun z=>by have:=z.1;simp at this)
 unfold bC
 dsimp only
 rw[h0,h1,h2]
 apply List.drop_eq_nil_of_le
 simp
end Go.Proofs.YtjcminooghmpeaaGreatDoor
