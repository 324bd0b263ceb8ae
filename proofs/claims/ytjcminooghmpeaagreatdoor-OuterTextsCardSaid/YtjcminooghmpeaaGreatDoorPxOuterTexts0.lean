import Derived.Test.YtjcminooghmpeaaGreatDoorPk12
set_option linter.all false
set_option maxRecDepth 100000
set_option maxHeartbeats 40000000
open Go.Proofs.Tryz
namespace Go.Proofs.YtjcminooghmpeaaGreatDoor
open Go.RowKit
def aK7(s:ByteArray):PV.val (.string s)=str s.data.toList:=by unfold str;cases s;simp
section
variable {P : Program} {B : Nat -> Nat -> Prop} {n : Nat} {T : Nat -> PV} {H : List Ob} {o : Oper} {l : List Oper} {x y : PV} {H' : List Ob} {p : Prop} {G : List (Nat × TD)} {all : Array Oper}
end
end Go.Proofs.YtjcminooghmpeaaGreatDoor
namespace Go.Proofs.YtjcminooghmpeaaGreatDoor
open Go.ChangeShapes Go.WideShapes Go.ChangeAt Go.RowKit
open Go.ChangeMaps (open_string)
def aF9{w:World}{t:TypeId}{v:Value}(ht:prog.underlying t=some .string)(h:ar4 w t v):∃s:ByteArray,v=.string s/\s.size<=maxLen:=by
 obtain⟨H,enc,d,p,base,hv,hd⟩:=h
 obtain⟨s,hs,_,_,hw⟩:=open_string ht hv hd
 exact⟨s,hs,hw⟩
def aH1{w:World}{t:TypeId}{cs:List Value}(ht:prog.underlying t=some .string)(h:Rd w t cs):∃s:ByteArray,cs=[.string s]/\s.size<=maxLen:=by
 obtain⟨H,enc,fuel,x,hf⟩:=h
 obtain⟨s,hc,_,hw⟩:=DataW.trod_string ht hf
 exact⟨s,hc,hw⟩
open Go.RowKit
def aF1{w:World}{t:TypeId}{cs:List Value}(ht:prog.underlying t=some .string)(h:Rd w t cs):∃s:ByteArray,s.size<=maxLen/\au (c0 w) [.val (.string s)] cs:=by
 obtain⟨n,rfl,hw⟩:=aH1 ht h
 exact⟨n,hw,aj.2 ⟨ar _ _,aG.2 rfl⟩⟩
def aH6(s:ByteArray):s.size=s.data.toList.length:=by show s.data.size=_;simp
def aJ5{w:World}{cs:List Value}(h:Rd w 9 cs):∃s:Str,s.length<=9223372036854775807/\au (c0 w) [str s] cs:=by
 obtain⟨s,h1,h2⟩:=aF1 underlying9 h
 refine⟨s.data.toList,by unfold maxLen at h1;have:s.size=s.data.toList.length:=(aH6 s);omega,?_⟩
 rw[<-aK7];exact h2
variable {v : VVm} {L : Nat} {g : Int -> Int} {d r : List Int} {f : List jc} {ip fu xt q x n : Int}
def aG9(M:na v L g)(h:d.length<32):jw (mz v d r f ip) n=mz v (d++[n]) r f ip:=by
 have e:gJ (mk v d r f) n=(mk v (d++[n]) r f,0):=by
  unfold gJ gD
  rw[if_neg (by show ¬v.conf.data<=(d.length:Int);rw[M.data];omega)]
  rfl
 show({cH (mz v d r f ip) (gJ (mk v d r f) n).2 with v:=(gJ (mk v d r f) n).1}:VWk)=_
 rw[e];rfl
section
variable {d' r' : List Int} {f' : List jc} {v' : VVm} {ip' w : Int}
end
section
variable {d' r' : List Int} {f' : List jc} {v' : VVm} {ip' w : Int}
end
open Go.RowKit
def aI0(xs:List Int)(hl:xs.length=8)(hb:∀x∈xs,0<=x/\x<256):lD (pX xs)=xs:=by
 match xs,hl with
 | [a,b,c,d,e,f,g,h],_ =>
  have h1:=hb a (by simp)
  have h2:=hb b (by simp)
  have h3:=hb c (by simp)
  have h4:=hb d (by simp)
  have h5:=hb e (by simp)
  have h6:=hb f (by simp)
  have h7:=hb g (by simp)
  have h8:=hb h (by simp)
  simp only[lD,pX]
  obtain⟨a,rfl⟩:=Int.eq_ofNat_of_zero_le h1.1
  obtain⟨b,rfl⟩:=Int.eq_ofNat_of_zero_le h2.1
  obtain⟨c,rfl⟩:=Int.eq_ofNat_of_zero_le h3.1
  obtain⟨d,rfl⟩:=Int.eq_ofNat_of_zero_le h4.1
  obtain⟨e,rfl⟩:=Int.eq_ofNat_of_zero_le h5.1
  obtain⟨f,rfl⟩:=Int.eq_ofNat_of_zero_le h6.1
  obtain⟨g,rfl⟩:=Int.eq_ofNat_of_zero_le h7.1
  obtain⟨h,rfl⟩:=Int.eq_ofNat_of_zero_le h8.1
  simp only[Int.toNat_natCast,List.cons.injEq,and_true]
  refine⟨?_,?_,?_,?_,?_,?_,?_,?_⟩<;>omega
def aF6{l:List UInt8}(hl:l.length=8):tP (ID l)=l:=by
 have hb:∀x∈l.map (fun b=>(b.toNat:Int)),0<=x/\x<256:=by
  intro x hx
  obtain⟨b,_,rfl⟩:=List.mem_map.1 hx
  have:=b.toNat_lt
  show 0<=(b.toNat:Int)/\(b.toNat:Int)<256
  omega
 have hl2:(l.map (fun b=>(b.toNat:Int))).length=8:=by rw[List.length_map];exact hl
 have hv:=Vd _ hb
 rw[hl2,show(256:Nat) ^ 8=18446744073709551616 from by decide]at hv
 unfold tP ID
 rw[show U (wrap64 (pX (l.map fun b=>(b.toNat:Int)):Int))=_ from U_S _ hv,aI0 _ hl2 hb,List.map_map]
 have:∀b∈l,((fun x:Int=>UInt8.ofNat x.toNat) ∘ fun b:UInt8=>(b.toNat:Int)) b=id b:=by
  intro b _
  show UInt8.ofNat ((b.toNat:Int)).toNat=b
  rw[Int.toNat_natCast];exact UInt8.ofNat_toNat
 rw[List.map_congr_left this,List.map_id]
def aI4{a b:List UInt8}(ha:a.length=8)(hb:b.length=8)(h:ID a=ID b):a=b:=by
 rw[<-aF6 ha,<-aF6 hb,h]
def aE7(t:Str):Str:=t++List.replicate ((8-t.length%8)%8) 0
def kT(t:Str):Nat:=(t.length+7)/8
def aG4(t:Str):(aE7 t).length=8*kT t:=by unfold aE7 kT;rw[List.length_append,List.length_replicate];omega
def csT(a:Int)(p:Str):Nat->List (Int×Int)
 | 0=>[]
 | k+1=>(a+8*(k:Int),ID ((p.drop (8*k)).take 8))::csT a p k
def aH0{a:Int}{p:Str}{cs:List (Int×Int)}:∀{K k:Nat},k<K->gL (csT a p K++cs) (a+8*(k:Int))=ID ((p.drop (8*k)).take 8)
 | K+1,k,h=>by
  show rI (gL (csT a p K++cs)) (a+8*(K:Int)) _ _=_
  unfold rI
  by_cases q:k=K
  ·subst q;rw[if_pos rfl]
  rw[if_neg (by omega)];exact aH0 (by omega)
def aE3{a x:Int}{p:Str}{cs:List (Int×Int)}:∀{K:Nat},(x<a\/a+8*(K:Int)<=x)->gL (csT a p K++cs) x=gL cs x
 | 0,_=>rfl
 | K+1,h=>by
  show rI (gL (csT a p K++cs)) (a+8*(K:Int)) _ _=_
  unfold rI
  rw[if_neg (by omega)];exact aE3 (by omega)
def aJ6{a:Int}{p:Str}{cs:List (Int×Int)}(h:sz (gL cs))(ha:1368<=a)(K:Nat):sz (gL (csT a p K++cs)):=by
 induction K with
 | zero=>exact h
 | succ K ih=>exact DC ih (by omega)
def aI8{l x:List UInt8}{k c n:Nat}(h:k+x.length<=l.length)(hc:c+n<=x.length):((jy l k x).drop (k+c)).take n=(x.drop c).take n:=by
 unfold jy
 rw[List.append_assoc,List.drop_append,List.drop_eq_nil_of_le (by rw[List.length_take];omega),List.nil_append,List.length_take,show k+c-min k l.length=c by omega,List.drop_append,List.take_append,show n-(x.drop c).length=0 by rw[List.length_drop];omega,List.take_zero,List.append_nil]
def aG6{m:bj}{L K:Nat}{cs:List (Int×Int)}(h:iS m L (gL cs)){a:Int}(a0:0<=a)(a8:a%8=0){p:Str}(hp:p.length=8*K)(hr:a+8*(K:Int)<=L)(o:List sW):iS ⟨jy m.b a.toNat p,o⟩ L (gL (csT a p K++cs)):=by
 have hl:=h.len
 have hlen:(jy m.b a.toNat p).length=L:=by rw[CS (by omega)];exact hl
 refine⟨hlen,fun x x0 x8 x1=>?_⟩
 have e:am ⟨jy m.b a.toNat p,o⟩ x=(ID (((jy m.b a.toNat p).drop x.toNat).take 8),0):=by
  unfold am
  rw[ry x0 x8 (by show x+8<=((jy m.b a.toNat p).length:Int);rw[hlen];exact x1),if_pos rfl]
 have e0:am m x=(ID ((m.b.drop x.toNat).take 8),0):=by
  unfold am
  rw[ry x0 x8 (by rw[hl];exact x1),if_pos rfl]
 have hx:=h.cell x x0 x8 x1
 rw[e0]at hx
 have hx:=congrArg Prod.fst hx
 rw[e]
 refine Prod.ext ?_ rfl
 show ID (((jy m.b a.toNat p).drop x.toNat).take 8)=_
 by_cases q1:x<a
 ·rw[aE3 (.inl q1),JT (by omega) (by omega)];exact hx
 by_cases q2:a+8*(K:Int)<=x
 ·rw[aE3 (.inr q2),J6 (by omega) (by omega)];exact hx
 obtain⟨k,hk⟩:∃k:Nat,x=a+8*(k:Int):=⟨((x-a)/8).toNat,by omega⟩
 rw[hk,aH0 (by omega),show(a+8*(k:Int)).toNat=a.toNat+8*k by omega,aI8 (by omega) (by omega)]
def aF4{m:bj}{L:Nat}{g:Int->Int}(h:iS m L g){a:Int}(a0:0<=a)(a8:a%8=0){p:Str}:∀{K:Nat},p.length=8*K->a+8*(K:Int)<=L->(∀k:Nat,k<K->g (a+8*(k:Int))=ID ((p.drop (8*k)).take 8))->∀k,k<=K->(m.b.drop a.toNat).take (8*k)=p.take (8*k)
 | K,hp,hr,hc,0,_=>by simp
 | K,hp,hr,hc,k+1,hk=>by
  have ih:=aF4 h a0 a8 hp hr hc k (by omega)
  have hl:=h.len
  have x8:(a+8*(k:Int))%8=0:=by omega
  have hx:=h.cell (a+8*(k:Int)) (by omega) x8 (by omega)
  have e0:am m (a+8*(k:Int))=(ID ((m.b.drop (a.toNat+8*k)).take 8),0):=by
   unfold am
   rw[ry (by omega) x8 (by rw[hl];omega),if_pos rfl,show(a+8*(k:Int)).toNat=a.toNat+8*k by omega]
  rw[e0,hc k (by omega)]at hx
  have e1:=aI4 (by rw[List.length_take,List.length_drop];omega) (by rw[List.length_take,List.length_drop];omega) (congrArg Prod.fst hx)
  have s1:∀(l:List UInt8) (n:Nat),l.take (8*(n+1))=l.take (8*n)++(l.drop (8*n)).take 8:=fun l n=>by
   rw[show 8*(n+1)=8*n+8 by omega,List.take_add]
  rw[s1,s1,ih,List.drop_drop,e1]
def aH3{b x y:List UInt8}{k:Nat}(h:k+x.length+y.length<=b.length):jy (jy b k x) (k+x.length) y=jy b k (x++y):=by
 unfold jy
 have e:(b.take k++x).length=k+x.length:=by rw[List.length_append,List.length_take];omega
 rw[List.take_left' e,List.drop_append,e,List.drop_eq_nil_of_le (by rw[e];omega),List.nil_append,List.drop_drop,List.length_append,show k+x.length+(k+x.length+y.length-(k+x.length))=k+(x.length+y.length) by omega]
 simp only[List.append_assoc]
def aH5(l:List UInt8)(k:Nat):jy l k []=l:=by simp[jy]
def aE6{m:bj}{a:Int}{b:List UInt8}(h0:0<=a)(h1:a+b.length<=m.b.length):(ce m a b).1.b=jy m.b a.toNat b/\(ce m a b).2=0:=by
 unfold ce
 have ht:bp m a b.length=true:=by unfold bp;rw[decide_eq_true_eq];omega
 rw[if_pos ht]
 by_cases q:b=[]
 ·rw[if_pos q,q,aH5];exact⟨rfl,rfl⟩
 rw[if_neg q];exact⟨rfl,rfl⟩
def SS.textd(s:SS)(t:Str):SS:={s with cs:=csT s.here (aE7 t) (kT t)++s.cs,here:=s.here+8*(kT t:Int)}
def aI9{f:af}{s:SS}(h:At f s){t:Str}(hr:s.here+8*(kT t:Int)<=4096):
  (da f.vm.mem f.vm.here t).2.2=0/\(aM (da f.vm.mem f.vm.here t).1 (da f.vm.mem f.vm.here t).2.1).2.2=0 /\
  At {f with vm:={f.vm with mem:=(aM (da f.vm.mem f.vm.here t).1 (da f.vm.mem f.vm.here t).2.1).1,here:=(aM (da f.vm.mem f.vm.here t).1 (da f.vm.mem f.vm.here t).2.1).2.1}} (s.textd t):=by
 have h0:=h.h0
 have h8:=h.h8
 have hk:=aG4 t
 have htl:t.length<=8*kT t/\8*kT t<t.length+8:=by unfold kT;omega
 obtain⟨m,rfl,hm⟩:=h.ex
 have hl:=hm.len
 have w1:=aE6 (m:=m) (a:=s.here) (b:=t) (by omega) (by omega)
 have e1:da m s.here t=((ce m s.here t).1,s.here+t.length,0):=by unfold da;rw[if_neg (by omega)]
 obtain⟨m1,hm1⟩:∃x,(ce m s.here t).1=x:=⟨_,rfl⟩
 rw[hm1]at e1 w1
 have hl1:m1.b.length=4096:=by rw[w1.1,CS (by omega)];exact hl
 have z:(((8-(s.here+(t.length:Int)).tmod 8).tmod 8).toNat)=(8-t.length%8)%8:=by
  rw[Int.tmod_eq_emod_of_nonneg (show 0<=s.here+(t.length:Int) by omega),Int.tmod_eq_emod_of_nonneg (by omega)]
  omega
 have w2:=aE6 (m:=m1) (a:=s.here+t.length) (b:=List.replicate ((8-t.length%8)%8) 0) (by omega) (by rw[List.length_replicate];omega)
 have e2:aM m1 (s.here+t.length)=((ce m1 (s.here+t.length) (List.replicate ((8-t.length%8)%8) 0)).1,s.here+8*(kT t:Int),0):=by
  unfold aM
  rw[z]
  unfold da
  rw[if_neg (by rw[List.length_replicate];omega)]
  refine Prod.ext rfl (Prod.ext ?_ rfl)
  show s.here+(t.length:Int)+((List.replicate ((8-t.length%8)%8) (0:UInt8)).length:Int)=_
  rw[List.length_replicate]
  show s.here+(t.length:Int)+(((8-t.length%8)%8:Nat):Int)=s.here+8*(kT t:Int)
  have:t.length+(8-t.length%8)%8=8*kT t:=by unfold kT;omega
  omega
 obtain⟨m2,hm2⟩:∃x,(ce m1 (s.here+t.length) (List.replicate ((8-t.length%8)%8) 0)).1=x:=⟨_,rfl⟩
 rw[hm2]at e2 w2
 show(da m s.here t).2.2=0/\(aM (da m s.here t).1 (da m s.here t).2.1).2.2=0/\At ⟨{vS s m with mem:=(aM (da m s.here t).1 (da m s.here t).2.1).1,here:=(aM (da m s.here t).1 (da m s.here t).2.1).2.1},s.comp⟩ (s.textd t)
 rw[e1]
 dsimp only
 rw[e2]
 have mb:m2.b=jy m.b s.here.toNat (aE7 t):=by
  rw[w2.1,w1.1,show(s.here+(t.length:Int)).toNat=s.here.toNat+t.length by omega,aH3 (by rw[List.length_replicate];omega)];rfl
 have hM:iS m2 4096 (gL (s.textd t).cs):=by
  have:=aG6 hm (a:=s.here) (by omega) h8 hk (by show s.here+8*(kT t:Int)<=((4096:Nat):Int);omega) m2.old
  rw[<-mb]at this;exact this
 refine⟨rfl,rfl,⟨⟨m2,rfl,hM⟩,aJ6 h.std h0 _,by show 1368<=s.here+8*(kT t:Int);omega,hr,by show(s.here+8*(kT t:Int))%8=0;omega,h.ext⟩⟩
def aE5:∀(t q:List UInt8) (c:UInt8),(∀x∈t,x≠c)->Lib.indexByte (t++c::q) c=t.length
 | [],q,c,_=>by show(if c==c then(0:Int)else _)=_;simp
 | b::t,q,c,h=>by
  have ih:=aE5 t q c fun x hx=>h x (List.mem_cons_of_mem _ hx)
  have hb:(b==c)=false:=beq_eq_false_iff_ne.2 (h b (List.mem_cons_self ..))
  rw[List.cons_append,Lib.indexByte,hb,ih]
  simp only[Bool.false_eq_true,if_false,List.length_cons]
  rw[if_neg (by(simp;done))]
  omega
def aF7:∀(t:List UInt8) (c:UInt8),(∀x∈t,x≠c)->Lib.indexByte t c = -1
 | [],c,_=>rfl
 | b::t,c,h=>by
  have ih:=aF7 t c fun x hx=>h x (List.mem_cons_of_mem _ hx)
  have hb:(b==c)=false:=beq_eq_false_iff_ne.2 (h b (List.mem_cons_self ..))
  rw[Lib.indexByte,hb,ih]
  simp
def aG0(p q:Str):dF (p++q) (p.length:Int)=p.length:=by
 unfold dF
 rw[if_neg (by simp;omega)]
 exact Int.toNat_natCast _
def aJ2(p t q:Str){c:UInt8}(h:∀x∈t,x≠c):ld (p++(t++c::q)) (p.length:Int) c=(t,((p++(t++[c])).length:Int),true):=by
 have e:(p++(t++c::q)).drop p.length=t++c::q:=List.drop_left' rfl
 rw[ad6 (by rw[aG0,e,aE5 t q c h];omega),aG0,e,aE5 t q c h,Int.toNat_natCast]
 refine Prod.ext ?_ (Prod.ext ?_ rfl)
 ·show((p++(t++c::q)).take (p.length+t.length)).drop p.length=t
  rw[List.take_append,List.take_of_length_le (by omega),List.drop_left' rfl,show p.length+t.length-p.length=t.length by omega,List.take_left' rfl]
 show(p.length:Int)+(t.length:Int)+1=_
 simp only[List.length_append,List.length_singleton];omega
def aH4(p t:Str){c:UInt8}(h:∀x∈t,x≠c):(ld (p++t) (p.length:Int) c).2.2=false:=by
 have e:(p++t).drop p.length=t:=List.drop_left' rfl
 rw[af0 (by rw[aG0,e,aF7 t c h];decide)]
def aJ0(x b w:Str):∀ws:List Tk,wG ((x++b,w)::ws)=x++wG ((b,w)::ws)
 | []=>List.append_assoc ..
 | _::_=>by show x++b++(w++_)=x++(b++(w++_));rw[List.append_assoc]
def aE8{f0:af}{tx p:Str}{u0 u:Int}{k:Nat}{t:Tk}{tt b w1:Str}{c:UInt8}{ws:List Tk}{s s':SS}{y:XI}{name:Str}(h:LA f0 tx u0 k p (t::(tt++c::b,w1)::ws) s u)(ht:okT t)(hT:∀x∈tt,x≠c)
  (hx:xiS s t.2=some y) (ho:(ml y.x y.k&&!s.cmp)=false) (hi:(s.cmp&&decide (y.x.flags%2=0))=false) (h3:300<=y.k) (hnm:cq.getD (y.k-300).toNat []=name)
  (hs:∀f,At f s->∃f',At f' s'/\∀(tx:Str) (a a2 u:Int),ld tx a c=(tt,a2,true)->rH (bc f tx a u) name=bc f' tx a2 u) :
  LA f0 tx u0 (k+1) (nxT p t ((tt++c::b,w1)::ws)++(tt++[c])) ((b,w1)::ws) s' u:=by
 obtain⟨f,a,g⟩:=h.go
 have hu:=h.hu
 obtain⟨hf,ha,hk,hkk⟩:=Lb hx
 obtain⟨f',a',e⟩:=hs f a
 have htx:=h.etx
 have w1':bC tx (p.length:Int)=(t.2,((nxT p t ((tt++c::b,w1)::ws)).length:Int)):=by rw[htx];exact yF p _ ht
 have t2:tx=nxT p t ((tt++c::b,w1)::ws)++(tt++c::wG ((b,w1)::ws)):=by
  rw[htx,JN p t]
  congr 1
  rw[show tt++c::b=(tt++[c])++b by simp,aJ0];simp
 have w2:ld tx ((nxT p t ((tt++c::b,w1)::ws)).length:Int) c=(tt,((nxT p t ((tt++c::b,w1)::ws)++(tt++[c])).length:Int),true):=by
  have q:=aJ2 (nxT p t ((tt++c::b,w1)::ws)) tt (wG ((b,w1)::ws)) hT
  rw[<-t2]at q;exact q
 refine⟨by rw[t2];simp,⟨f',a',g.tr (.one ?_)⟩,hu⟩
 have ek:av f.vm y.x.xt=(y.k,0):=by rw[yD a ha (by rw[<-hk];exact hkk),hk]
 have ec:∀b,ct (bc f tx b u).f=s.cmp:=fun b=>by rw[show ct (bc f tx b u).f=ct f from rfl,ub a]
 have eo:m8 (bc f tx ((nxT p t ((tt++c::b,w1)::ws)).length:Int) (max u 0)) t.2=(bc f' tx ((nxT p t ((tt++c::b,w1)::ws)++(tt++[c])).length:Int) u,false):=by
  rw[show max u 0=u by omega,BQ (x:=y.x) (i:=(cN (gq 167++s.ext) t.2).2.1) (by show cN f.vm.dict t.2=_;rw[vY a];exact hf)]
  rw[KZ (l:=bc f tx _ u) ek h3 (by rw[ec];exact ho) (by rw[ec];exact hi),hnm,e tx _ _ u w2]
 exact W7 w1' ht.2.1 eo rfl
def LA.none_left{f0:af}{tx p:Str}{u0 u:Int}{k:Nat}{s:SS}(h:LA f0 tx u0 k p [([],[])] s u):LA f0 tx u0 k p [] s u:=⟨h.etx,h.go,h.hu⟩
def aE9{f:af}{tx t:Str}{a a2 u:Int}{c:UInt8}(h:ld tx a c=(t,a2,true)):iv (bc f tx a u) c=(bc f tx a2 u,t):=by
 unfold iv
 rw[show(bc f tx a u).s=tx from rfl,show(bc f tx a u).at_=a from rfl,h,if_pos rfl];rfl
def SS.say(s:SS)(t:Str):SS:={s with out:=s.out++t}
def aG1{v:VVm}{t:Str}(ho:v.conf.out=2000)(h:v.out.length+t.length<=2000):iI v t=({v with out:=v.out++t},0):=by
 unfold iI
 rw[if_neg (by rw[ho];omega)]
def aK2{f:af}{s:SS}(h:At f s)(hc:s.cmp=false){t:Str}(hr:s.out.length+t.length<=2000):∃f',At f' (s.say t)/\∀(tx:Str) (a a2 u:Int),ld tx a 34=(t,a2,true)->rH (bc f tx a u) [46,34]=bc f' tx a2 u:=by
 have ec:=ub h
 have hh:=h
 obtain⟨m,rfl,hm⟩:=h.ex
 refine⟨⟨vS (s.say t) m,s.comp⟩,⟨⟨m,rfl,hm⟩,hh.std,hh.h0,hh.h1,hh.h8,hh.ext⟩,fun tx a a2 u e=>?_⟩
 rw[EL (g:=uP) rfl]
 unfold uP
 rw[if_neg (by rw[show ct (bc ⟨vS s m,s.comp⟩ tx a u).f=ct ⟨vS s m,s.comp⟩ from rfl,ec,hc];decide),aE9 e]
 dsimp only
 rw[do0 rfl,aG1 (v:=(bc ⟨vS s m,s.comp⟩ tx a2 u).f.vm) rfl hr,wh rfl];rfl
def aG5{f:af}{s:SS}(h:At f s){t:Str}:∃f',At f' s/\∀(tx:Str) (a a2 u:Int),ld tx a 41=(t,a2,true)->rH (bc f tx a u) [40]=bc f' tx a2 u:=by
 refine⟨f,h,fun tx a a2 u e=>?_⟩
 rw[EL (g:=GU) rfl]
 unfold GU
 rw[aE9 e]
def aK3:rC [40,115,116,114,41]=120:=by decide +kernel
def aJ1:rC [84,89,80,69]=904:=by decide +kernel
def SS.strd(s:SS)(t:Str):SS:=((s.lay 120).lay (t.length:Int)).textd t
def aI6{f:af}{s:SS}(h:At f s){t:Str}(hr:s.here+16+8*(kT t:Int)<=4096):∃v,Kl f.vm t=(v,0)/\At ⟨v,f.comp⟩ (s.strd t):=by
 have h0:=h.h0
 have a1:=lJ h (n:=120) (by unfold ae;omega) (by omega)
 have a2:=lJ a1.2 (n:=(t.length:Int)) (by unfold ae;unfold kT at hr;omega) (by show s.here+8+8<=_;omega)
 have a3:=aI9 a2.2 (t:=t) (by show s.here+8+8+8*(kT t:Int)<=4096;omega)
 obtain⟨e1,e2,a4⟩:=a3
 refine⟨_,?_,a4⟩
 have c1:cJ (kN f.vm) [40,115,116,114,41]=⟨bO f.vm 120,[],0⟩:=by
  unfold cJ
  rw[aK3,X2 rfl,show(kN f.vm).v=f.vm from rfl,a1.1];rfl
 have c2:Nj f.vm t=⟨bO (bO f.vm 120) t.length,[],0⟩:=by
  unfold Nj
  rw[c1,X2 rfl]
  show(⟨(qX (bO f.vm 120) (t.length:Int)).1,[],(qX (bO f.vm 120) (t.length:Int)).2⟩:CW)=_
  rw[a2.1]
 unfold Kl wu
 rw[c2,if_pos (show(⟨bO (bO f.vm 120) t.length,[],0⟩:CW).bad=0 from rfl)]
 unfold C5
 dsimp only at e1 e2 ⊢
 rw[if_pos e1,e1]
 rfl
def aG7{f:af}{s:SS}(h:At f s){t:Str}(hr:s.here+16+8*(kT t:Int)<=4096):∃f',At f' (s.strd t)/\∀(tx:Str) (a a2 u:Int),ld tx a 34=(t,a2,true)->vR (bc f tx a u)=bc f' tx a2 u:=by
 obtain⟨v,e,a'⟩:=aI6 h hr
 refine⟨_,a',fun tx a a2 u e2=>?_⟩
 unfold vR
 rw[aE9 e2]
 dsimp only
 rw[do0 rfl,show(bc f tx a2 u).f=f from rfl,e,wh rfl];rfl
def aH7{f:af}{s:SS}(h:At f s){t:Str}(hr:s.here+16+8*(kT t:Int)<=4096):∃f',At f' (s.strd t)/\∀(tx:Str) (a a2 u:Int),ld tx a 34=(t,a2,true)->rH (bc f tx a u) [83,34]=bc f' tx a2 u:=by
 obtain⟨f',a',e⟩:=aG7 h hr
 exact⟨f',a',fun tx a a2 u q=>by rw[EL (g:=vR) rfl,e tx a a2 u q]⟩
def aH8{f:af}{s:SS}(h:At f s)(hc:s.cmp=true){t:Str}(hr:s.here+24+8*(kT t:Int)<=4096):∃f',At f' ((s.strd t).lay 904)/\∀(tx:Str) (a a2 u:Int),ld tx a 34=(t,a2,true)->rH (bc f tx a u) [46,34]=bc f' tx a2 u:=by
 have ec:=ub h
 obtain⟨f',a',e⟩:=aG7 h (t:=t) (by omega)
 have l:=lJ a' (n:=904) (by unfold ae;omega) (by show s.here+8+8+8*(kT t:Int)+8<=4096;omega)
 refine⟨_,l.2,fun tx a a2 u q=>?_⟩
 rw[EL (g:=uP) rfl]
 unfold uP
 rw[if_pos (by rw[show ct (bc f tx a u).f=ct f from rfl,ec,hc]),e tx a a2 u q]
 unfold xK wN
 rw[aJ1,do0 rfl,show(bc f' tx a2 u).f.vm=f'.vm from rfl,l.1,wh rfl];rfl
def aI5{v:VVm}{a n:Int}{r:List Int}{t:Str}(ht:dN v.mem a n=(t,0))(hd:v.conf.data=32)(ho:v.conf.out=2000)(h:v.out.length+t.length<=2000):doS (mk v [a,n] r []) 109=(mk {v with out:=v.out++t} [] r [],0):=by
 have e:doS (mk v [a,n] r []) 109=(if (dy (mk v [a,n] r []) (dN v.mem a n)).2.2≠0 then(mk v [a,n] r [],(dy (mk v [a,n] r []) (dN v.mem a n)).2.2)else if v.conf.data<((0+(dy (mk v [a,n] r []) (dN v.mem a n)).2.1.length:Nat):Int)then(mk v [a,n] r [],-3)else({(dy (mk v [a,n] r []) (dN v.mem a n)).1 with d:=[]++(dy (mk v [a,n] r []) (dN v.mem a n)).2.1},0)):=by kernel_rfl
 have p:dy (mk v [a,n] r []) (t,0)=(mk {v with out:=v.out++t} [a,n] r [],[],0):=by
  unfold dy
  rw[if_pos rfl,aG1 (v:=mk v [a,n] r []) ho h];rfl
 rw[e,ht,p,if_neg (fun z=>z rfl),if_neg (by show ¬v.conf.data<((0:Nat):Int);omega)];rfl
def aK1{ip n:Int}{K:Nat}(h0:0<=ip)(h8:ip%8=0)(hn:0<=n)(hK:n<=8*(K:Int)/\8*(K:Int)<n+8)(hb:ip<=5000/\n<=5000):(v7 [65,76,73,71,78,69,68] (W64 (W64 (ip+8)+n))).1=ip+8+8*(K:Int):=by
 rw[Cc (n:=ip+8) (by omega) (by omega),Cc (n:=ip+8+n) (by omega) (by omega),kz (o:=.algn) (by decide +kernel)]
 show(if (ip+8+n)%8=0 then ip+8+n else wrap64 (ip+8+n-(ip+8+n)%8+8))=_
 split
 ·omega
 unfold wrap64;omega
def aK9{v:VVm}{L K:Nat}{g:Int->Int}{d r:List Int}{f:List jc}{ip xt n:Int}(M:na v L g)(h:okA L ip=true)(hn:g ip=n)(n0:0<=n)(hK:n<=8*(K:Int)/\8*(K:Int)<n+8)(hr:ip+8+8*(K:Int)<=L)(hL:L<=4096)(hd:d.length+1<32):
  mc (mz v d r f ip) xt 11=mz v (d++[ip+8]++[n]) r f (ip+8+8*(K:Int)):=by
 obtain⟨h0,h1,h2⟩:=gu.1 h
 have e:mc (mz v d r f ip) xt 11=V6 (mz v d r f ip):=by kernel_rfl
 rw[e]
 unfold V6
 rw[show(mz v d r f ip).ip=ip from rfl,QJ M h,hn]
 dsimp only
 have ht:bp (mz v d r f ip).v.mem (W64 (ip+8)) n=true:=by
  rw[Cc (n:=ip+8) (by omega) (by omega)]
  have hl:(mz v d r f ip).v.mem.b.length=L:=M.mem.len
  unfold bp;rw[decide_eq_true_eq,hl];omega
 rw[if_pos ht,aK1 h0 h1 n0 hK (by omega),Cc (n:=ip+8) (by omega) (by omega),aG9 M (by omega),aG9 M (by rw[List.length_append,List.length_singleton];omega)]
 rfl
section
variable {s : SS} {r : List Int} {ip n : Int} {K : Nat}
def aH9(ha:okA 4096 ip=true)(hx:gL s.cs ip=120)(hb:okA 4096 (ip+8)=true)(hn:gL s.cs (ip+8)=n)(n0:0<=n)(hK:n<=8*(K:Int)/\8*(K:Int)<n+8)(hr:ip+16+8*(K:Int)<=4096)(hd:s.d.length+1<32):XS 1 s r ip (s.st (s.d++[ip+16]++[n])) r (ip+16+8*(K:Int)) :=
 an1 11 (by decide) ha hx (fun m hm=>by
  have:=aK9 (At.mach hm) hb hn n0 hK (by show ip+8+8+8*(K:Int)<=((4096:Nat):Int);omega) (by decide) hd (r:=r) (f:=[]) (xt:=32+8*((11:Nat):Int))
  rw[show ip+8+8=ip+16 by omega]at this;exact this) rfl
def aG8{t:Str}{a:Int}(ha:okA 4096 ip=true)(hx:gL s.cs ip=904)(hd:s.d=[a,(t.length:Int)])(a0:0<=a)(a8:a%8=0)(hr:a+8*(kT t:Int)<=4096)(hc:∀k:Nat,k<kT t->gL s.cs (a+8*(k:Int))=ID (((aE7 t).drop (8*k)).take 8))(ho:s.out.length+t.length<=2000):
  XS 1 s r ip ({s with d:=[],out:=s.out++t}) r (ip+8) :=
 an1 109 (by decide) ha hx (fun m hm=>by
  have hl:=hm.len
  have hp:=aG4 t
  have q:=aF4 hm a0 a8 hp (by show a+8*(kT t:Int)<=((4096:Nat):Int);omega) hc (kT t) (Nat.le_refl _)
  have htl:t.length<=8*kT t:=by unfold kT;omega
  have ht:dN m a (t.length:Int)=(t,0):=by
   unfold dN
   rw[if_pos (by unfold bp;rw[decide_eq_true_eq];omega),Int.toNat_natCast]
   refine Prod.ext ?_ rfl
   have e:=congrArg (List.take t.length) q
   rw[List.take_take,List.take_take,Nat.min_eq_left htl]at e
   show(m.b.drop a.toNat).take t.length=t
   rw[e]
   unfold aE7
   exact List.take_left' rfl
  rw[hd]
  exact QQ (by omega) (by omega) (aI5 (v:=vS s m) ht rfl rfl ho)) rfl
end
open Go.RowKit
def aI7{f0:af}{tx p:Str}{u0 u:Int}{k:Nat}{t:Tk}{ws:List Tk}{s:SS}{y:XI}(h:LA f0 tx u0 k p (t::ws) s u)(ht:okT t)
  (hx:xiS s t.2=some y) (ho:(ml y.x y.k&&!s.cmp)=false) (hi:(s.cmp&&decide (y.x.flags%2=0))=false) (h3:300<=y.k) (hnm:cq.getD (y.k-300).toNat []=[92]):LA f0 tx u0 (k+1) tx [] s u:=by
 obtain⟨f,a,g⟩:=h.go
 have hu:=h.hu
 obtain⟨hf,ha,hk,hkk⟩:=Lb hx
 have w1:bC tx (p.length:Int)=(t.2,((nxT p t ws).length:Int)):=by rw[h.etx];exact yF p _ ht
 refine⟨(List.append_nil _).symm,⟨f,a,g.tr (.one ?_)⟩,hu⟩
 have ek:av f.vm y.x.xt=(y.k,0):=by rw[yD a ha (by rw[<-hk];exact hkk),hk]
 have ec:∀b,ct (bc f tx b u).f=s.cmp:=fun b=>by rw[show ct (bc f tx b u).f=ct f from rfl,ub a]
 have eo:m8 (bc f tx ((nxT p t ws).length:Int) (max u 0)) t.2=(bc f tx (tx.length:Int) u,false):=by
  rw[show max u 0=u by omega,BQ (x:=y.x) (i:=(cN (gq 167++s.ext) t.2).2.1) (by show cN f.vm.dict t.2=_;rw[vY a];exact hf)]
  rw[KZ (l:=bc f tx _ u) ek h3 (by rw[ec];exact ho) (by rw[ec];exact hi),hnm,EL (g:=RX) rfl]
  rfl
 exact W7 w1 ht.2.1 eo rfl
def aG3{f:af}{s:SS}(a:At f s){t:Tk}{y:XI}(ht:okT t)(hx:xiS s t.2=some y)(ho:(ml y.x y.k&&!s.cmp)=false)(hi:(s.cmp&&decide (y.x.flags%2=0))=false)(h3:300<=y.k)(hnm:cq.getD (y.k-300).toNat []=[40])
  {tx:Str} {p b u:Int} (hw:bC tx p=(t.2,b)) (hq:(ld tx b 41).2.2=false) (u0:0<=u):kr f tx p u=(f,p,u,true,-39):=by
 obtain⟨hf,ha,hk,hkk⟩:=Lb hx
 have ek:av f.vm y.x.xt=(y.k,0):=by rw[yD a ha (by rw[<-hk];exact hkk),hk]
 have ec:∀b,ct (bc f tx b u).f=s.cmp:=fun b=>by rw[show ct (bc f tx b u).f=ct f from rfl,ub a]
 have eo:m8 (bc f tx b (max u 0)) t.2=(oOk (bc f tx b u) (-39),false):=by
  rw[show max u 0=u by omega,BQ (x:=y.x) (i:=(cN (gq 167++s.ext) t.2).2.1) (by show cN f.vm.dict t.2=_;rw[vY a];exact hf)]
  rw[KZ (l:=bc f tx _ u) ek h3 (by rw[ec];exact ho) (by rw[ec];exact hi),hnm,EL (g:=GU) rfl]
  unfold GU iv
  rw[if_neg (by rw[show(bc f tx b u).s=tx from rfl,show(bc f tx b u).at_=b from rfl,hq];decide)]
 have q:=Kd (f:=f) (s:=tx) (a:=p) (fuel:=u) (r:=(oOk (bc f tx b u) (-39),false)) (by rw[hw];exact ht.2.1) (by rw[hw];exact eo) (by rw[ok0 rfl];show(-39:Int)≠0;decide) rfl
 rw[q,ok0 rfl,show max u 0=u by omega]
def aI1{w:Str}:∀e∈sO.ext,xk e w=false:=fun e h=>by cases h
section
variable {s : Str} (h60 : s.length <= 60) (hq : ∀ x ∈ s, x ≠ 34) (hb : ∀ x ∈ s, x ≠ 41)
include h60 hq in
theorem aJ4:∃f,At f (sO.say s)/\mO fO ([46,34,32]++s++[34]) 50=(f,50,0):=by
 have e:[46,34,32]++s++[34]=wG [tk [46,34],(s++34::[],[])]:=by simp[wG,tk]
 have h0:LA fO ([46,34,32]++s++[34]) 50 0 [] [tk [46,34],(s++34::[],[])] sO 50:=.init aC8 (by decide) e
 have h1:=aE8 h0 (wt rfl) hq (ax5 (i:=158) (by decide) rfl aC8.std aI1) (by decide +kernel) (by rfl) (by decide +kernel) (by decide +kernel) fun f a=>aK2 a rfl (t:=s) (by show 0+s.length<=2000;omega)
 exact h1.none_left.free (by rw[e];simp[wG,tk])
include h60 hb in
theorem aK6:∃f,At f {sO with d:=[1]}/\mO fO ([40,32]++s++[41,32,49,32,92,32]++s) 50=(f,50,0):=by
 have e:[40,32]++s++[41,32,49,32,92,32]++s=wG [tk [40],(s++41::[32],[49]),tk [92],(s,[])]:=by simp[wG,tk]
 have h0:LA fO ([40,32]++s++[41,32,49,32,92,32]++s) 50 0 [] [tk [40],(s++41::[32],[49]),tk [92],(s,[])] sO 50:=.init aC8 (by decide) e
 have h1:=aE8 h0 (wt rfl) hb (ax5 (i:=159) (by decide) rfl aC8.std aI1) (by decide +kernel) (by rfl) (by decide +kernel) (by decide +kernel) fun f a=>aG5 a (t:=s)
 have o1:okT ([32],[49]):=⟨fun c hc=>by rw[List.mem_singleton.1 hc];decide,by decide,(wt (w:=[49]) rfl).2.2⟩
 have h2:=LA.step h1 o1 (PH (n:=1) (by kernel_rfl) (by kernel_rfl) rfl (by decide)) (by decide)
 have h3:=aI7 h2 (wt rfl) (ax5 (i:=160) (by decide) rfl aC8.std aI1) (by decide +kernel) (by rfl) (by decide +kernel) (by decide +kernel)
 exact h3.free (by rw[e];((simp[wG,tk];done)))
include h60 hb in
theorem aK4:∃f,mO fO ([40,32]++s) 50=(f,50,-39)/\f.vm.d=[]:=by
 have e:[40,32]++s=wG [tk [40],(s,[])]:=by simp[wG,tk]
 have w:=yF [] [(s,[])] (t:=tk [40]) (wt rfl)
 have e2:nxT [] (tk [40]) [(s,[])]=[40,32]:=rfl
 rw[e2]at w
 have b:=aG3 aC8 (t:=tk [40]) (wt rfl) (ax5 (i:=159) (by decide) rfl aC8.std aI1) (by decide +kernel) (by rfl) (by decide +kernel) (by decide +kernel) (tx:=[40,32]++s) (p:=0) (u:=50) (by rw[e];exact w) (aH4 [40,32] s hb) (by decide)
 refine⟨_,S9 (.rf _ _ _) (Nat.zero_le _) b (by decide),rfl⟩
end
def aE2{a n x:Int}{l:List (Int×Int)}(h:x≠a):gL ((a,n)::l) x=gL l x:=by show rI (gL l) a n x=_;unfold rI;rw[if_neg h]
def aG2{a n:Int}{l:List (Int×Int)}:gL ((a,n)::l) a=n:=by show rI (gL l) a n a=_;unfold rI;rw[if_pos rfl]
section
variable (s : Str)
def sB1:SS:=sO.begun [122,113]
def sB2:SS:=sB1.strd s
def sB3:SS:=(sB2 s).lay 904
def sB4:SS:=((sB3 s).strd s).lay 904
def sB5:SS:=(sB4 s).ended
def nB:Int:=8*(kT s:Int)
def cs2:(sB2 s).cs=csT 1392 (aE7 s) (kT s)++[(1384,(s.length:Int)),(1376,120),(8,-1),(1368,256)]:=rfl
def hr2:(sB2 s).here=1392+nB s:=rfl
def cs3:(sB3 s).cs=(1392+nB s,904)::(sB2 s).cs:=rfl
def hr3:(sB3 s).here=1400+nB s:=by show 1392+nB s+8=_;omega
def cs4:(sB4 s).cs=(1416+nB s+nB s,904)::(csT (1416+nB s) (aE7 s) (kT s)++(1408+nB s,(s.length:Int))::(1400+nB s,120)::(sB3 s).cs):=by
 show((sB3 s).here+8+8+nB s,904)::(csT ((sB3 s).here+8+8) (aE7 s) (kT s)++((sB3 s).here+8,(s.length:Int))::((sB3 s).here,120)::(sB3 s).cs)=_
 rw[hr3,show 1400+nB s+8=1408+nB s by omega,show 1408+nB s+8=1416+nB s by omega]
def hr4:(sB4 s).here=1424+nB s+nB s:=by show(sB3 s).here+8+8+nB s+8=_;rw[hr3];omega
def cs5:(sB5 s).cs=(8,0)::(1424+nB s+nB s,32)::(sB4 s).cs:=by
 show(8,0)::((sB4 s).here,32)::(sB4 s).cs=_
 rw[hr4]
def nB0:0<=nB s:=by unfold nB;omega
end
section
variable {s : Str} {x : Int}
def aF3(h:x<1392):gL (sB2 s).cs x=gL [(1384,(s.length:Int)),(1376,120),(8,-1),(1368,256)] x:=by rw[cs2];exact aE3 (.inl h)
def aK8{k:Nat}(h:k<kT s):gL (sB2 s).cs (1392+8*(k:Int))=ID (((aE7 s).drop (8*k)).take 8):=by rw[cs2];exact aH0 h
def aF5(h:x<1392+nB s):gL (sB3 s).cs x=gL (sB2 s).cs x:=by rw[cs3];exact aE2 (by omega)
def aF2(h:x<1400+nB s):gL (sB4 s).cs x=gL (sB3 s).cs x:=by
 have:=nB0 s
 rw[cs4,aE2 (by omega),aE3 (.inl (by omega)),aE2 (by omega),aE2 (by omega)]
def aE4(h:x<1424+nB s+nB s)(h8:x≠8):gL (sB5 s).cs x=gL (sB4 s).cs x:=by rw[cs5,aE2 h8,aE2 (by omega)]
def aK0:gL (sB5 s).cs 1368=256:=by have:=nB0 s;rw[aE4 (by omega) (by omega),aF2 (by omega),aF5 (by omega),aF3 (by omega)];rfl
def aL4:gL (sB5 s).cs 1376=120:=by have:=nB0 s;rw[aE4 (by omega) (by omega),aF2 (by omega),aF5 (by omega),aF3 (by omega)];rfl
def aL6:gL (sB5 s).cs 1384=(s.length:Int):=by have:=nB0 s;rw[aE4 (by omega) (by omega),aF2 (by omega),aF5 (by omega),aF3 (by omega)];rfl
def aL5{k:Nat}(h:k<kT s):gL (sB5 s).cs (1392+8*(k:Int))=ID (((aE7 s).drop (8*k)).take 8):=by
 have:8*(k:Int)+8<=nB s:=by unfold nB;omega
 rw[aE4 (by omega) (by omega),aF2 (by omega),aF5 (by omega),aK8 h]
def aL8:gL (sB5 s).cs (1392+nB s)=904:=by have:=nB0 s;rw[aE4 (by omega) (by omega),aF2 (by omega),cs3,aG2]
def aL9:gL (sB5 s).cs (1400+nB s)=120:=by have:=nB0 s;rw[aE4 (by omega) (by omega),cs4,aE2 (by omega),aE3 (.inl (by omega)),aE2 (by omega),aG2]
def aM0:gL (sB5 s).cs (1408+nB s)=(s.length:Int):=by have:=nB0 s;rw[aE4 (by omega) (by omega),cs4,aE2 (by omega),aE3 (.inl (by omega)),aG2]
def aL3{k:Nat}(h:k<kT s):gL (sB5 s).cs (1416+nB s+8*(k:Int))=ID (((aE7 s).drop (8*k)).take 8):=by
 have:8*(k:Int)+8<=nB s:=by unfold nB;omega
 rw[aE4 (by omega) (by omega),cs4,aE2 (by omega),aH0 h]
def aM1:gL (sB5 s).cs (1416+nB s+nB s)=904:=by have:=nB0 s;rw[aE4 (by omega) (by omega),cs4,aG2]
def aL2:gL (sB5 s).cs (1424+nB s+nB s)=32:=by have:=nB0 s;rw[cs5,aE2 (by omega),aG2]
def aI3(h60:s.length<=60):nB s<=64/\nB s%8=0/\(s.length:Int)<=nB s/\nB s<s.length+8:=by unfold nB kT;omega
end
def okB{a:Int}(h0:0<=a)(h8:a%8=0)(h1:a<=4000):okA 4096 a=true:=gu.2 ⟨h0,h8,by omega⟩
def aL0{s:Str}(h60:s.length<=60):XS 5 (sB5 s) [16] 1376 ((sB5 s).say (s++s)) [] 16:=by
 obtain⟨n1,n8,n2,n3⟩:=aI3 h60
 have n0:=nB0 s
 have r1:XS 1 (sB5 s) [16] 1376 ((sB5 s).st [1392,(s.length:Int)]) [16] (1392+nB s):=aH9 (s:=sB5 s) (K:=kT s) rfl aL4 rfl aL6 (by omega) ⟨n2,n3⟩ (by show 1392+nB s<=4096;omega) (by show(0:Nat)+1<32;decide)
 have r2:XS 1 ((sB5 s).st [1392,(s.length:Int)]) [16] (1392+nB s) ((sB5 s).say s) [16] (1400+nB s):=by
  have:=aG8 (s:=(sB5 s).st [1392,(s.length:Int)]) (r:=[16]) (ip:=1392+nB s) (t:=s) (a:=1392) (okB (by omega) (by omega) (by omega)) aL8 rfl (by decide) (by decide) (by show 1392+nB s<=4096;omega) (fun k h=>aL5 h) (by show 0+s.length<=2000;omega)
  rw[show 1392+nB s+8=1400+nB s by omega]at this;exact this
 have r3:XS 1 ((sB5 s).say s) [16] (1400+nB s) (((sB5 s).say s).st [1416+nB s,(s.length:Int)]) [16] (1416+nB s+nB s):=by
  have:=aH9 (s:=(sB5 s).say s) (r:=[16]) (ip:=1400+nB s) (n:=(s.length:Int)) (K:=kT s) (okB (by omega) (by omega) (by omega)) aL9 (okB (by omega) (by omega) (by omega)) (by rw[show 1400+nB s+8=1408+nB s by omega];exact aM0) (by omega) ⟨n2,n3⟩ (by show 1400+nB s+16+nB s<=4096;omega) (by show(0:Nat)+1<32;decide)
  rw[show 1400+nB s+16=1416+nB s by omega]at this;exact this
 have r4:XS 1 (((sB5 s).say s).st [1416+nB s,(s.length:Int)]) [16] (1416+nB s+nB s) ((sB5 s).say (s++s)) [16] (1424+nB s+nB s):=by
  have:=aG8 (s:=((sB5 s).say s).st [1416+nB s,(s.length:Int)]) (r:=[16]) (ip:=1416+nB s+nB s) (t:=s) (a:=1416+nB s) (okB (by omega) (by omega) (by omega)) aM1 rfl (by omega) (by omega) (by show 1416+nB s+nB s<=4096;omega) (fun k h=>aL3 h) (by show([]++s).length+s.length<=2000;simp;omega)
  rw[show 1416+nB s+nB s+8=1424+nB s+nB s by omega]at this;exact this
 have r5:XS 1 ((sB5 s).say (s++s)) [16] (1424+nB s+nB s) ((sB5 s).say (s++s)) [] 16:=U4 (r:=[]) (okB (by omega) (by omega) (by omega)) aL2
 exact r1.tr (r2.tr (r3.tr (r4.tr r5)))
def aL7(s:Str):(sB2 s).cmp=true:=by
 unfold SS.cmp
 exact decide_eq_true ⟨by show(1368:Int)≠0;decide,by rw[aF3 (by decide)];show(-1:Int)≠0;decide⟩
def aJ7(s:Str):(sB3 s).cmp=true:=by
 have:=nB0 s
 unfold SS.cmp
 exact decide_eq_true ⟨by show(1368:Int)≠0;decide,by rw[aF5 (by omega),aF3 (by decide)];show(-1:Int)≠0;decide⟩
def aM3(s:Str):(sB4 s).cmp=true:=by
 have:=nB0 s
 unfold SS.cmp
 exact decide_eq_true ⟨by show(1368:Int)≠0;decide,by rw[aF2 (by omega),aF5 (by omega),aF3 (by decide)];show(-1:Int)≠0;decide⟩
def aM2(s:Str):(sB5 s).cmp=false:=by
 unfold SS.cmp
 exact decide_eq_false (fun z=>z.1 rfl)
def aF8{w:Str}(h:X5 [122,113] w=false):∀e∈[(⟨[122,113],1368,2⟩:aR)],xk e w=false:=fun e he=>by
 rw[List.mem_singleton.1 he]
 unfold xk
 rw[show X5 (⟨[122,113],1368,2⟩:aR).name w=false from h,Bool.and_false]
def aJ3{w:Str}(h:okT (tk w)):okT ([32],w):=⟨fun c hc=>by rw[List.mem_singleton.1 hc];decide,h.2.1,h.2.2⟩
def LA.std{f0:af}{tx p:Str}{u0 u:Int}{k:Nat}{ws:List Tk}{s:SS}(h:LA f0 tx u0 k p ws s u):sz (gL s.cs):=by obtain⟨f,a,g⟩:=h.go;exact a.std
def aJ8(s:Str)(h60:s.length<=60)(hs:sz (gL (sB4 s).cs)):cW (sB4 s) [59]=some (sB5 s):=by
 obtain⟨n1,n8,n2,n3⟩:=aI3 h60
 have hx:xiS (sB4 s) [59]=some ⟨kZ 131,(tM 131:Int)⟩:=ax5 (i:=131) (by decide) rfl hs (aF8 (by decide +kernel))
 unfold cW
 rw[hx]
 dsimp only
 rw[if_pos ⟨aM3 s,by rw[hr4];omega⟩,if_neg (by decide +kernel),if_pos (by decide +kernel),if_pos (by decide +kernel),if_pos ⟨rfl,rfl,by show(1:Nat)≠0;decide,rfl⟩]
 rfl
def aL1(s:Str):xiS (sB5 s) [122,113]=some ⟨⟨[122,113],1368,0⟩,256⟩:=by
 have e:cN (gq 167++(sB5 s).ext) [122,113]=(⟨[122,113],1368,0⟩,167,true):=by
  show cN (gq 167++[⟨[122,113],1368,0⟩]) [122,113]=_
  kernel_rfl
 unfold xiS
 rw[e,if_pos ⟨rfl,rfl,by show eX (gL (sB5 s).cs 1368);rw[aK0];decide⟩]
 show some (⟨⟨[122,113],1368,0⟩,gL (sB5 s).cs 1368⟩:XI)=_
 rw[aK0]
def aK5{s:Str}(h60:s.length<=60)(hq:∀x∈s,x≠34):∃f,At f ((sB5 s).say (s++s))/\mO fO ([58,32,122,113,32,83,34,32]++s++[34,32,84,89,80,69,32,46,34,32]++s++[34,32,59,32,122,113]) 50=(f,43,0):=by
 obtain⟨n1,n8,n2,n3⟩:=aI3 h60
 have n0:=nB0 s
 have e:[58,32,122,113,32,83,34,32]++s++[34,32,84,89,80,69,32,46,34,32]++s++[34,32,59,32,122,113]=wG [tk [58],tk [122,113],tk [83,34],(s++34::[32],[84,89,80,69]),tk [46,34],(s++34::[32],[59]),tk [122,113]]:=by simp[wG,tk]
 have h0:LA fO ([58,32,122,113,32,83,34,32]++s++[34,32,84,89,80,69,32,46,34,32]++s++[34,32,59,32,122,113]) 50 0 [] [tk [58],tk [122,113],tk [83,34],(s++34::[32],[84,89,80,69]),tk [46,34],(s++34::[32],[59]),tk [122,113]] sO 50:=.init aC8 (by decide) e
 have h1:=Ft h0 (wt rfl) (wt rfl) (ax5 (i:=130) (by decide) rfl aC8.std aI1) ⟨by decide +kernel,by decide +kernel⟩ rfl (by decide) (by decide +kernel) (by decide)
 have h2:=aE8 (s:=sB1) (s':=sB2 s) h1 (wt rfl) hq (ax5 (i:=157) (by decide) rfl h1.std (aF8 (by decide +kernel))) (by decide +kernel) (by decide +kernel) (by decide +kernel) (by decide +kernel) fun f a=>aH7 a (t:=s) (by show 1376+16+nB s<=4096;omega)
 have h3:LA fO _ 50 _ _ _ (sB3 s) (50-0):=LA.step h2 (aJ3 (wt rfl)) (Zt (s:=sB2 s) (ax5 (i:=109) (by decide) rfl h2.std (aF8 (by decide +kernel))) (aL7 s) (by decide +kernel) (by rw[hr2];omega)) (by decide)
 have h4:=aE8 (s:=sB3 s) (s':=sB4 s) h3 (wt rfl) hq (ax5 (i:=158) (by decide) rfl h3.std (aF8 (by decide +kernel))) (by rw[aJ7];simp) (by rw[aJ7];decide +kernel) (by decide +kernel) (by decide +kernel) fun f a=>aH8 a (aJ7 s) (t:=s) (by rw[hr3];show 1400+nB s+24+nB s<=4096;omega)
 have h5:=LA.step h4 (aJ3 (wt rfl)) (ay3 (aJ8 s h60 h4.std)) (by decide)
 have h6:=LA.step h5 (wt rfl) (KS (s':=(sB5 s).say (s++s)) (c:=((5+2:Nat):Int)) (aL1 s) (aM2 s) (by decide +kernel) (by decide) (RZ rfl aK0 ⟨rfl,rfl,rfl⟩ (aL0 h60))) (by decide)
 have h7:=h6.free (by rw[e];((simp[wG,tk];done)))
 obtain⟨f,a,q⟩:=h7
 exact⟨f,a,by rw[q];rfl⟩
open Go.RowKit
open Go.WideShapes
def aH2{w:World}{v:Value}(h:ar4 w 9 v):∃s:Str,s.length<=9223372036854775807/\Rep (c0 w) (str s) v:=by
 obtain⟨s,h1,h2⟩:=aJ5 (am2 h)
 obtain⟨b,rfl,hb⟩:=aF9 underlying9 h
 exact⟨s,h1,(aj.1 h2).1⟩
def aJ9{s:Str}{P:UInt8->Prop}(h:∀j,j<s.length->P (s.getD j 0)):∀x∈s,P x:=by
 intro x hx
 obtain⟨k,hk,rfl⟩:=List.getElem_of_mem hx
 have:=h k hk
 rwa [List.getD_eq_getElem?_getD,List.getElem?_eq_getElem hk]at this
def aI2(a:Addr)(s:Str)(hs:s.length<=9223372036854775807)(f0:af)(sh:PG a 9 [] (boo true))(n0:ab prog 10 [] (bQ f0))
  (hL:s.length<=60->(∀x∈s,x≠34/\x≠41)->∃fA fB fC fD uA uB uC uD,PG a 12 [bQ f0,str ([46,34,32]++s++[34]),i64 50] (vd (fA,uA,0))/\PG a 12 [bQ f0,str ([58,32,122,113,32,83,34,32]++s++[34,32,84,89,80,69,32,46,34,32]++s++[34,32,59,32,122,113]),i64 50] (vd (fB,uB,0)) /\
   PG a 12 [bQ f0,str ([40,32]++s++[41,32,49,32,92,32]++s),i64 50] (vd (fC,uC,0))/\PG a 12 [bQ f0,str ([40,32]++s),i64 50] (vd (fD,uD,-39))/\fA.vm.out=s/\fB.vm.out=s++s/\fC.vm.d=[1]/\fD.vm.d=[]) :
  ∀(H:List Ob),(∀o∈gK a,∃k:Nat,H[k]?=some o)->HC prog 8 [str s] H (boo true) H:=by
 refine g7 (fM a) tG (rs:=[.tmp 2]) func8 rfl rfl rfl (by simp) (by simp) (fun B=>?_)
 refine zu1 ?_
 refine z8 ?_
 refine zc rfl func9 (sh _ (cn 0 1 rfl rfl)) ?_
 refine zs1 ?_
 refine Ws<|zp2 ?_
 refine Wa 20 rfl (gl _) ?_
 refine zs1 ?_
 refine Wi rfl (fun hi1=>?_) (fun hi1=>?_)
 ·refine zu2 ?_
  refine zR ?_
  rfl
 have h60:s.length<=60:=by have:=oF hi1;omega
 refine Wj<|Ws<|zu1 ?_
 refine Wl ?_
 show W _ _ _ _ _ _ _
 refine fX (fun(k:Nat)=>[(0,str s),(3,boo true),(4,i64 k)]) (fun(k:Nat)=>[.glob 1 (haltV a),.glob 0 etV]) (fun(k:Nat)=>[]) (fun(k:Nat)=>k<=s.length/\∀j,j<k->s.getD j 0≠34/\s.getD j 0≠41) (fun(k:Nat)=>s.length-k) (0) (by exact⟨Nat.zero_le _,fun j hj=>absurd hj (Nat.not_lt_zero _)⟩) [] ?_ ?_
 ·exact fc
 intro k hk
 refine Ws<|zp3 ?_
 refine Wa 25 rfl (gl _) ?_
 refine zs1 ?_
 refine Wi rfl (fun hi2=>?_) (fun hi2=>?_)
 ·have hlt:k<s.length:=by have:=oT hi2;omega
  refine Wj<|Ws<|Wl<|zp2 ?_
  refine z2 ?_ (q:=(by simp only[dX];omega))
  refine Wa 31 rfl (s7 _ _) ?_
  refine zy2 ?_
  refine Wb 33 rfl (fun hg1=>?_) (fun hg1=>?_)
  ·refine z6 ?_
   iterate 3 refine z6 ?_
   refine zs1 ?_
   refine Wt rfl rfl ?_
   refine zu2 ?_
   refine zR ?_
   rfl
  have n1:s.getD k 0≠34:=fun z=>by rw[z]at hg1;exact absurd hg1 (by decide)
  refine zy2 ?_
  refine z2 ?_ (q:=(by simp only[dX];omega))
  refine Wa 36 rfl (s7 _ _) ?_
  refine zs2 ?_
  refine Wi rfl (fun hi3=>?_) (fun hi3=>?_)
  ·refine zu2 ?_
   refine zR ?_
   rfl
  have n2:s.getD k 0≠41:=fun z=>by rw[z]at hi3;exact absurd hi3 (by decide)
  refine Wj<|aa rfl ?_
  refine zs3 ?_
  exact⟨k+1,[],(by exact⟨hlt,fun j hj=>by rcases Nat.lt_succ_iff_lt_or_eq.1 hj with h|h;exact hk.2 j h;rw[h];exact⟨n1,n2⟩⟩),(by omega),fc⟩
 have hge:s.length<=k:=by have:=oF hi2;omega
 have hall:∀x∈s,x≠34/\x≠41:=aJ9 (fun j hj=>hk.2 j (by omega))
 obtain⟨fA,fB,fC,fD,uA,uB,uC,uD,pA,pB,pC,pD,oA,oB,dC,dD⟩:=hL h60 hall
 refine bf ?_
 refine z8 ?_
 refine zc rfl func10 ((n0) _) ?_
 refine zs2 ?_
 refine zp2 ?_
 refine z2 ?_ (q:=(by simp only[dX];((simp_all;omega))))
 refine Wa 44 rfl (I3 _ _) ?_
 refine z2 ?_ (q:=(by simp only[dX];((simp_all;omega))))
 refine Wa 45 rfl (I3 _ _) ?_
 refine zc rfl func12 (pA _ (cn 0 1 rfl rfl)) ?_
 refine zy5 ?_
 refine zs3 ?_
 refine zp2 ?_
 refine z2 ?_ (q:=(by simp only[dX];((simp_all;omega))))
 refine Wa 53 rfl (I3 _ _) ?_
 refine z2 ?_ (q:=(by simp only[dX];((simp_all;omega))))
 refine Wa 54 rfl (I3 _ _) ?_
 refine z1 ?_
 refine z2 ?_ (q:=(by simp only[dX];((simp_all;omega))))
 refine Wa 56 rfl (I3 _ _) ?_
 refine z2 ?_ (q:=(by simp only[dX];((simp_all;omega))))
 refine Wa 57 rfl (I3 _ _) ?_
 refine zc rfl func12 (pB _ (cn 0 1 rfl rfl)) ?_
 refine zy5 ?_
 refine zs3 ?_
 refine zp2 ?_
 refine z2 ?_ (q:=(by simp only[dX];((simp_all;omega))))
 refine Wa 65 rfl (I3 _ _) ?_
 refine z2 ?_ (q:=(by simp only[dX];((simp_all;omega))))
 refine Wa 66 rfl (I3 _ _) ?_
 refine z1 ?_
 refine z2 ?_ (q:=(by simp only[dX];((simp_all;omega))))
 refine Wa 68 rfl (I3 _ _) ?_
 refine zc rfl func12 (pC _ (cn 0 1 rfl rfl)) ?_
 refine zy5 ?_
 refine zs3 ?_
 refine zp2 ?_
 refine z2 ?_ (q:=(by simp only[dX];((simp_all;omega))))
 refine Wa 76 rfl (I3 _ _) ?_
 refine zc rfl func12 (pD _ (cn 0 1 rfl rfl)) ?_
 refine zy5 ?_
 refine zs3 ?_
 refine zp2 ?_
 refine gp 82 rfl (by rfl) ?_
 refine zy4 ?_
 refine gp 86 rfl (by rfl) ?_
 refine zy3 ?_
 refine Wd rfl rfl (oe (lO tG rfl) rfl (lO tG rfl) rfl (lO tG rfl) rfl rfl rfl) ?_
 refine zy2 ?_
 refine zq 92 ?_
 refine zy2 ?_
 refine gp 94 rfl (by exact decide_eq_true oA) ?_
 refine zy4 ?_
 refine gp 98 rfl (by rfl) ?_
 refine zy3 ?_
 refine Wd rfl rfl (oe (lO tG rfl) rfl (lO tG rfl) rfl (lO tG rfl) rfl rfl rfl) ?_
 refine zy2 ?_
 refine z2 ?_ (q:=(by simp only[dX];omega))
 refine Wa 105 rfl (I3 _ _) ?_
 refine z1 ?_
 refine zq 106 ?_
 refine zy2 ?_
 refine gp 108 rfl (by exact decide_eq_true oB) ?_
 refine zy4 ?_
 refine gp 112 rfl (by rfl) ?_
 refine zy4 ?_
 refine Wa 116 rfl (bsL ap [_] rfl rfl) ?_
 refine zc rfl func20 ((XY dC (Nat.le_of_ble_eq_true rfl)) _) ?_
 refine zy2 ?_
 refine gp 119 rfl (by rfl) ?_
 refine zy4 ?_
 refine gp 123 rfl (by rfl) ?_
 refine zy5 ?_
 refine zs2 ?_
 refine zR ?_
 (rw[dD];rfl)
def aF0(a:Addr)(s:Str)(hs:s.length<=9223372036854775807):∀(H:List Ob),(∀o∈gK a,∃k:Nat,H[k]?=some o)->HC prog 8 [str s] H (boo true) H:=by
 refine aI2 a s hs fO (ah2 a) Nk fun h60 hall=>?_
 have hq:∀x∈s,x≠34:=fun x hx=>(hall x hx).1
 have hb:∀x∈s,x≠41:=fun x hx=>(hall x hx).2
 obtain⟨fA,aA,eA⟩:=aJ4 h60 hq
 obtain⟨fB,aB,eB⟩:=aK5 h60 hq
 obtain⟨fC,aC,eC⟩:=aK6 h60 hb
 obtain⟨fD,eD,dD⟩:=aK4 h60 hb
 have len:∀{x:Str} {n:Nat},x.length<=n->n<=1000->x.length<=1000:=fun h1 h2=>Nat.le_trans h1 h2
 obtain⟨pA,_⟩:=EH a okO (by simp only[List.length_append,List.length_cons,List.length_nil];omega) (by decide) eA
 obtain⟨pB,_⟩:=EH a okO (by simp only[List.length_append,List.length_cons,List.length_nil];omega) (by decide) eB
 obtain⟨pC,_⟩:=EH a okO (by simp only[List.length_append,List.length_cons,List.length_nil];omega) (by decide) eC
 obtain⟨pD,_⟩:=EH a okO (by simp only[List.length_append,List.length_cons,List.length_nil];omega) (by decide) eD
 exact⟨fA,fB,fC,fD,_,_,_,_,pA,pB,pC,pD,(Iv aA).1,(Iv aB).1,(Iv aC).2.1,dD⟩
def walk_OuterTexts(a:Addr)(v0:Value)(w:World)(h0:w.cell? ⟨1,0,none⟩=some (haltV a))(h1:w.cell? ⟨0,0,none⟩=some etV)(r0:ar4 w 9 v0):
  Calls prog 8 #[v0] w fun e w'=>e=.returned (.bool true)/\Below w.heap.size w w':=by
 obtain⟨s,hs,p0⟩:=aH2 r0
 exact ae7 (args:=[str s]) (by simp[ay,aS]) (aF0 a s hs) h0 h1 (aj.2 ⟨p0,aG.2 rfl⟩)
end Go.Proofs.YtjcminooghmpeaaGreatDoor
